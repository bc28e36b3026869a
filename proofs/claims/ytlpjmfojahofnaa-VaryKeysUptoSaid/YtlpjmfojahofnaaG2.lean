/- Functions of the program: mirrors, and that a call returns what the mirror says. Printed by gen.py. -/
import Derived.Test.YtlpjmfojahofnaaG1
set_option linter.unusedVariables false
set_option linter.unusedSimpArgs false
open Go Go.SL Go.Proofs
set_option maxRecDepth 1000000
noncomputable def ref16_normal_L0 : List UInt8 → Nat → Str → Option (Str)
  | [], _, y0_0 => some y0_0
  | e0 :: xs0, i0, y0_0 =>
    if decide ((e0.toNat : Int) = 9) then
    (if decide (y0_0 = ([] : Str)) then some true else (chk (InI ((y0_0.length : Int) - 1))).bind fun _ =>
    (ix y0_0 ((y0_0.length : Int) - 1)).bind fun x32 =>
    some (decide ((x32.toNat : Int) = 32))).bind fun x34 =>
    if x34 then
    ref16_normal_L0 xs0 (i0 + 1) y0_0
    else
    (chk (y0_0.length + ([(32 : UInt8)] : Str).length ≤ lim)).bind fun _ =>
    ref16_normal_L0 xs0 (i0 + 1) (y0_0 ++ ([(32 : UInt8)] : Str))
    else
    if (decide ((e0.toNat : Int) < 32) || decide ((e0.toNat : Int) = 127)) then
    (chk (y0_0.length + ([(63 : UInt8)] : Str).length ≤ lim)).bind fun _ =>
    ref16_normal_L0 xs0 (i0 + 1) (y0_0 ++ ([(63 : UInt8)] : Str))
    else
    if decide ((e0.toNat : Int) = 32) then
    (if decide (y0_0 = ([] : Str)) then some true else (chk (InI ((y0_0.length : Int) - 1))).bind fun _ =>
    (ix y0_0 ((y0_0.length : Int) - 1)).bind fun x32 =>
    some (decide ((x32.toNat : Int) = 32))).bind fun x34 =>
    if x34 then
    ref16_normal_L0 xs0 (i0 + 1) y0_0
    else
    (chk (y0_0.length + ([e0] : Str).length ≤ lim)).bind fun _ =>
    ref16_normal_L0 xs0 (i0 + 1) (y0_0 ++ ([e0] : Str))
    else
    (chk (y0_0.length + ([e0] : Str).length ≤ lim)).bind fun _ =>
    ref16_normal_L0 xs0 (i0 + 1) (y0_0 ++ ([e0] : Str))
noncomputable def ref16_normal (n : Nat) (s : Str) : Option (Str) :=
  (chk (s.length ≤ szMax)).bind fun _ =>
  (ref16_normal_L0 s 0 ([] : Str)).bind fun t0 =>
  (ref01_Trim n t0).bind fun x43 =>
  some x43
set_option maxHeartbeats 8000000 in
theorem ref16_normal_ok {n : Nat} {s : Str} {K : Hp} {r : Str}
    (hm : ref16_normal n s = some r)  :
    Fn Try.prog 37 [str s] K [] (fun v K' H' => v = str r ∧ H' = []) := by
  refine Fn.enter Try.func37 Try.call37 rfl fun F => ?_
  unfold ref16_normal at hm
  conv => whnf
  refine RStep.of (len_str rfl ?_)
  obtain ⟨hk0, hm⟩ := chkb hm
  obtain ⟨s0, hl0, hm⟩ := bnd hm
  conv => whnf
  refine code_cut (σ := (Str)) [3, 4, 5, 8, 9, 10, 11, 12, 13, 14, 15, 16, 17, 18, 19, 20, 21, 22, 23, 24, 25, 26, 27, 28, 29, 30, 31, 32, 33, 34, 35, 36, 37, 38, 39, 40, 41] (fun t0 => [(3, str t0)]) (fun t0 => [F]) (fun zz K1 => match zz with | t0 => t0 = s0) ?_ ?_
  · refine block_go rfl ?_
    conv => whnf
    refine loop_rule (σ := Nat × Str) [3, 4, 5, 8, 9, 10, 11, 12, 13, 14, 15, 16, 17, 18, 19, 20, 21, 22, 23, 24, 25, 26, 27, 28, 29, 30, 31, 32, 33, 34, 35, 36, 37, 38, 39, 40, 41] (fun (i0, y0_0) => [(8, .int .i64 (i0 : Int)), (3, str y0_0)]) (fun (i0, y0_0) => [F]) (fun zz K1 => match zz with | (i0, y0_0) => ref16_normal_L0 (s.drop i0) i0 y0_0 = some s0) (fun zz => s.length - zz.1) (0, ([] : Str)) rfl ⟨rfl, rfl, trivial⟩ (ConvH.of (.cons r0 .nil)) hl0 ?_
    clear hl0
    rintro ⟨i0, y0_0⟩ Kb0 lk0 hl0 j0
    conv at hl0 => whnf
    conv => whnf
    refine cond_go rfl ?_
    conv => whnf
    refine cond_s (fun w0 => ?_) (fun w0 => ?_)
    · obtain ⟨e0, hx0, hd0⟩ := ltx w0
      rw [hd0, ref16_normal_L0.eq_2] at hl0
      conv => whnf
      refine block_go rfl ?_
      conv => whnf
      refine idx_str rfl (nn _) hx0 ?_
      conv => whnf
      refine eq_int ?_
      conv => whnf
      refine cond_go rfl ?_
      conv => whnf
      refine cond_s (fun w15 => ?_) (fun w15 => ?_)
      · replace hl0 := ift w15 hl0
        conv => whnf
        refine cond_F ?_
        conv => whnf
        refine cond_F ?_
        conv => whnf
        refine eq_int ?_
        conv => whnf
        refine cond_F ?_
        conv => whnf
        refine cond_go rfl ?_
        conv => whnf
        refine cond_F ?_
        conv => whnf
        refine eq_int ?_
        conv => whnf
        refine cond_T ?_
        conv => whnf
        refine cond_T ?_
        conv => whnf
        refine eq_str ?_
        conv => whnf
        refine cond_T ?_
        obtain ⟨x34, e34, hl0⟩ := bnd hl0
        conv => whnf
        refine cond_s (fun g27_10 => ?_) (fun g27_10 => ?_)
        · replace e34 := ift g27_10 e34
          conv => whnf
          refine cond_t g27_10 ?_
          conv => whnf
          refine cond_t g27_10 ?_
          conv => whnf
          refine cond_t g27_10 ?_
          conv => whnf
          refine cond_t g27_10 ?_
          conv => whnf
          refine cond_t g27_10 ?_
          conv => whnf
          refine cond_T ?_
          conv => whnf
          refine cond_t g27_10 ?_
          conv => whnf
          refine cond_T ?_
          conv => whnf
          refine cond_go rfl ?_
          conv => whnf
          refine cond_T ?_
          replace hl0 := ift (si e34).symm hl0
          conv => whnf
          refine cond_T ?_
          conv => whnf
          refine int_in (cntz hx0 hk0) ?_
          conv => whnf
          refine RoundStep.mk (i0 + 1, y0_0) ⟨rfl, rfl, trivial⟩ (by repeat (first | exact trivial | refine And.intro rfl ?_)) (ConvH.of (.cons r0 .nil)) lk0 (ltm hx0) hl0
        · replace e34 := iff_ g27_10 e34
          conv => whnf
          refine cond_f g27_10 ?_
          conv => whnf
          refine cond_f g27_10 ?_
          conv => whnf
          refine RStep.of (len_str rfl ?_)
          conv => whnf
          refine cond_f g27_10 ?_
          obtain ⟨h31, e34⟩ := chkb e34
          conv => whnf
          refine int_in h31 ?_
          conv => whnf
          refine cond_f g27_10 ?_
          obtain ⟨x32, l32, k32, e34⟩ := ixb e34
          conv => whnf
          refine idx_str rfl l32 k32 ?_
          conv => whnf
          refine cond_f g27_10 ?_
          conv => whnf
          refine eq_int ?_
          conv => whnf
          refine cond_T ?_
          conv => whnf
          refine cond_f g27_10 ?_
          conv => whnf
          refine cond_T ?_
          conv => whnf
          refine cond_go rfl ?_
          conv => whnf
          refine cond_s (fun w35 => ?_) (fun w35 => ?_)
          · replace hl0 := ift ((si e34).symm.trans w35) hl0
            conv => whnf
            refine cond_T ?_
            conv => whnf
            refine int_in (cntz hx0 hk0) ?_
            conv => whnf
            refine RoundStep.mk (i0 + 1, y0_0) ⟨rfl, rfl, trivial⟩ (by repeat (first | exact trivial | refine And.intro rfl ?_)) (ConvH.of (.cons r0 .nil)) lk0 (ltm hx0) hl0
          · replace hl0 := iff_ ((si e34).symm.trans w35) hl0
            conv => whnf
            refine bsO (len := 1) (enc := eU) (l := ([(32 : UInt8)] : Str)) (cl := [.int .u8 32]) elT87 rfl rfl (fun _ _ => rfl) rfl rfl rfl ?_ fun b38 => ?_
            · conv => whnf
              refine cond_T ?_
              conv => whnf
              first | done | rfl
            conv => whnf
            refine RStep.of (cv_ownE rfl r0 rfl rfl rfl ?_)
            obtain ⟨h40, hl0⟩ := chkb hl0
            conv => whnf
            refine cat_str h40 ?_
            conv => whnf
            refine int_in (cntz hx0 hk0) ?_
            conv => whnf
            refine RoundStep.mk (i0 + 1, (y0_0 ++ ([(32 : UInt8)] : Str))) ⟨rfl, rfl, trivial⟩ (by repeat (first | exact trivial | refine And.intro rfl ?_)) (ConvH.of (.cons r1 .nil)) lk0 (ltm hx0) hl0
      · replace hl0 := iff_ w15 hl0
        conv => whnf
        refine cond_s (fun g18_8 => ?_) (fun g18_8 => ?_)
        · conv => whnf
          refine cond_t g18_8 ?_
          conv => whnf
          refine cond_t g18_8 ?_
          conv => whnf
          refine cond_go rfl ?_
          conv => whnf
          refine cond_T ?_
          replace hl0 := ift (or_t g18_8) hl0
          conv => whnf
          refine eq_int ?_
          conv => whnf
          refine cond_F ?_
          conv => whnf
          refine cond_F ?_
          conv => whnf
          refine cond_F ?_
          conv => whnf
          refine cond_F ?_
          conv => whnf
          refine cond_F ?_
          conv => whnf
          refine cond_go rfl ?_
          conv => whnf
          refine cond_F ?_
          conv => whnf
          refine bsO (len := 1) (enc := eU) (l := ([(63 : UInt8)] : Str)) (cl := [.int .u8 63]) elT87 rfl rfl (fun _ _ => rfl) rfl rfl rfl ?_ fun b38 => ?_
          · conv => whnf
            refine cond_T ?_
            conv => whnf
            first | done | rfl
          conv => whnf
          refine RStep.of (cv_ownE rfl r0 rfl rfl rfl ?_)
          obtain ⟨h40, hl0⟩ := chkb hl0
          conv => whnf
          refine cat_str h40 ?_
          conv => whnf
          refine int_in (cntz hx0 hk0) ?_
          conv => whnf
          refine RoundStep.mk (i0 + 1, (y0_0 ++ ([(63 : UInt8)] : Str))) ⟨rfl, rfl, trivial⟩ (by repeat (first | exact trivial | refine And.intro rfl ?_)) (ConvH.of (.cons r1 .nil)) lk0 (ltm hx0) hl0
        · conv => whnf
          refine cond_f g18_8 ?_
          conv => whnf
          refine eq_int ?_
          conv => whnf
          refine cond_f g18_8 ?_
          conv => whnf
          refine cond_go rfl ?_
          conv => whnf
          refine cond_s (fun w21 => ?_) (fun w21 => ?_)
          · replace hl0 := ift (or_u g18_8 w21) hl0
            conv => whnf
            refine eq_int ?_
            conv => whnf
            refine cond_F ?_
            conv => whnf
            refine cond_F ?_
            conv => whnf
            refine cond_F ?_
            conv => whnf
            refine cond_F ?_
            conv => whnf
            refine cond_F ?_
            conv => whnf
            refine cond_go rfl ?_
            conv => whnf
            refine cond_F ?_
            conv => whnf
            refine bsO (len := 1) (enc := eU) (l := ([(63 : UInt8)] : Str)) (cl := [.int .u8 63]) elT87 rfl rfl (fun _ _ => rfl) rfl rfl rfl ?_ fun b38 => ?_
            · conv => whnf
              refine cond_T ?_
              conv => whnf
              first | done | rfl
            conv => whnf
            refine RStep.of (cv_ownE rfl r0 rfl rfl rfl ?_)
            obtain ⟨h40, hl0⟩ := chkb hl0
            conv => whnf
            refine cat_str h40 ?_
            conv => whnf
            refine int_in (cntz hx0 hk0) ?_
            conv => whnf
            refine RoundStep.mk (i0 + 1, (y0_0 ++ ([(63 : UInt8)] : Str))) ⟨rfl, rfl, trivial⟩ (by repeat (first | exact trivial | refine And.intro rfl ?_)) (ConvH.of (.cons r1 .nil)) lk0 (ltm hx0) hl0
          · replace hl0 := iff_ (or_f g18_8 w21) hl0
            conv => whnf
            refine eq_int ?_
            conv => whnf
            refine cond_s (fun g24_10 => ?_) (fun g24_10 => ?_)
            · replace hl0 := ift g24_10 hl0
              conv => whnf
              refine cond_t g24_10 ?_
              conv => whnf
              refine eq_str ?_
              conv => whnf
              refine cond_t g24_10 ?_
              obtain ⟨x34, e34, hl0⟩ := bnd hl0
              conv => whnf
              refine cond_s (fun g27_10 => ?_) (fun g27_10 => ?_)
              · replace e34 := ift g27_10 e34
                conv => whnf
                refine cond_t g27_10 ?_
                conv => whnf
                refine cond_t g27_10 ?_
                conv => whnf
                refine cond_t g27_10 ?_
                conv => whnf
                refine cond_t g27_10 ?_
                conv => whnf
                refine cond_t g27_10 ?_
                conv => whnf
                refine cond_t g24_10 ?_
                conv => whnf
                refine cond_t g27_10 ?_
                conv => whnf
                refine cond_t g24_10 ?_
                conv => whnf
                refine cond_go rfl ?_
                conv => whnf
                refine cond_T ?_
                replace hl0 := ift (si e34).symm hl0
                conv => whnf
                refine cond_T ?_
                conv => whnf
                refine int_in (cntz hx0 hk0) ?_
                conv => whnf
                refine RoundStep.mk (i0 + 1, y0_0) ⟨rfl, rfl, trivial⟩ (by repeat (first | exact trivial | refine And.intro rfl ?_)) (ConvH.of (.cons r0 .nil)) lk0 (ltm hx0) hl0
              · replace e34 := iff_ g27_10 e34
                conv => whnf
                refine cond_f g27_10 ?_
                conv => whnf
                refine cond_f g27_10 ?_
                conv => whnf
                refine RStep.of (len_str rfl ?_)
                conv => whnf
                refine cond_f g27_10 ?_
                obtain ⟨h31, e34⟩ := chkb e34
                conv => whnf
                refine int_in h31 ?_
                conv => whnf
                refine cond_f g27_10 ?_
                obtain ⟨x32, l32, k32, e34⟩ := ixb e34
                conv => whnf
                refine idx_str rfl l32 k32 ?_
                conv => whnf
                refine cond_f g27_10 ?_
                conv => whnf
                refine eq_int ?_
                conv => whnf
                refine cond_t g24_10 ?_
                conv => whnf
                refine cond_f g27_10 ?_
                conv => whnf
                refine cond_t g24_10 ?_
                conv => whnf
                refine cond_go rfl ?_
                conv => whnf
                refine cond_s (fun w35 => ?_) (fun w35 => ?_)
                · replace hl0 := ift ((si e34).symm.trans w35) hl0
                  conv => whnf
                  refine cond_T ?_
                  conv => whnf
                  refine int_in (cntz hx0 hk0) ?_
                  conv => whnf
                  refine RoundStep.mk (i0 + 1, y0_0) ⟨rfl, rfl, trivial⟩ (by repeat (first | exact trivial | refine And.intro rfl ?_)) (ConvH.of (.cons r0 .nil)) lk0 (ltm hx0) hl0
                · replace hl0 := iff_ ((si e34).symm.trans w35) hl0
                  conv => whnf
                  refine bsO (len := 1) (enc := eU) (l := ([e0] : Str)) (cl := [.int .u8 (e0.toNat : Int)]) elT87 rfl rfl (fun _ _ => rfl) rfl rfl rfl ?_ fun b38 => ?_
                  · conv => whnf
                    refine cond_T ?_
                    conv => whnf
                    first | done | rfl
                  conv => whnf
                  refine RStep.of (cv_ownE rfl r0 rfl rfl rfl ?_)
                  obtain ⟨h40, hl0⟩ := chkb hl0
                  conv => whnf
                  refine cat_str h40 ?_
                  conv => whnf
                  refine int_in (cntz hx0 hk0) ?_
                  conv => whnf
                  refine RoundStep.mk (i0 + 1, (y0_0 ++ ([e0] : Str))) ⟨rfl, rfl, trivial⟩ (by repeat (first | exact trivial | refine And.intro rfl ?_)) (ConvH.of (.cons r1 .nil)) lk0 (ltm hx0) hl0
            · replace hl0 := iff_ g24_10 hl0
              conv => whnf
              refine cond_f g24_10 ?_
              conv => whnf
              refine cond_f g24_10 ?_
              conv => whnf
              refine cond_f g24_10 ?_
              conv => whnf
              refine cond_f g24_10 ?_
              conv => whnf
              refine cond_go rfl ?_
              conv => whnf
              refine cond_F ?_
              conv => whnf
              refine bsO (len := 1) (enc := eU) (l := ([e0] : Str)) (cl := [.int .u8 (e0.toNat : Int)]) elT87 rfl rfl (fun _ _ => rfl) rfl rfl rfl ?_ fun b38 => ?_
              · conv => whnf
                refine cond_T ?_
                conv => whnf
                first | done | rfl
              conv => whnf
              refine RStep.of (cv_ownE rfl r0 rfl rfl rfl ?_)
              obtain ⟨h40, hl0⟩ := chkb hl0
              conv => whnf
              refine cat_str h40 ?_
              conv => whnf
              refine int_in (cntz hx0 hk0) ?_
              conv => whnf
              refine RoundStep.mk (i0 + 1, (y0_0 ++ ([e0] : Str))) ⟨rfl, rfl, trivial⟩ (by repeat (first | exact trivial | refine And.intro rfl ?_)) (ConvH.of (.cons r1 .nil)) lk0 (ltm hx0) hl0
    · rw [lty w0, ref16_normal_L0.eq_1] at hl0
      conv => whnf
      refine cond_T ?_
      conv => whnf
      refine MeetStep.mk (y0_0) ⟨rfl, trivial⟩ (by repeat (first | exact trivial | refine And.intro rfl ?_)) (ConvH.of (.cons r0 .nil)) lk0 (si hl0)
  · rintro t0 Kt0 lt0 rfl j0
    obtain ⟨x43, q43, hm⟩ := bnd hm
    conv => whnf
    refine call_fn (ref01_Trim_ok q43) .nil ?_
    rintro _ K43 _ l43 ⟨rfl, rfl⟩
    obtain rfl := si hm
    conv => whnf
    refine EndStep.mk _ (lt0.trans l43) ⟨rfl, rfl⟩ (ConvH.of (.cons r0 .nil))

noncomputable def ref16_Value_L0 (n : Nat) : List Str → Nat → Str → Option (Str)
  | [], _, y0_0 => some y0_0
  | e0 :: xs0, i0, y0_0 =>
    if decide ((i0 : Int) > 0) then
    (chk (y0_0.length + ([44] : Str).length ≤ lim)).bind fun _ =>
    (ref16_normal n e0).bind fun x26 =>
    (chk ((y0_0 ++ ([44] : Str)).length + x26.length ≤ lim)).bind fun _ =>
    ref16_Value_L0 n xs0 (i0 + 1) ((y0_0 ++ ([44] : Str)) ++ x26)
    else
    (ref16_normal n e0).bind fun x26 =>
    (chk (y0_0.length + x26.length ≤ lim)).bind fun _ =>
    ref16_Value_L0 n xs0 (i0 + 1) (y0_0 ++ x26)
noncomputable def ref16_Value (n : Nat) (f : (List S_ref02_Field)) (name : Str) : Option (Str × Bool) :=
  (ref02_All f name).bind fun x12 =>
  (chk (x12.length ≤ szMax)).bind fun _ =>
  (ref16_Value_L0 n x12 0 ([] : Str)).bind fun t0 =>
  some (t0, decide ((x12.length : Int) > 0))
set_option maxHeartbeats 8000000 in
theorem ref16_Value_ok {n : Nat} {f : (List S_ref02_Field)} {name : Str} {ap0_0 : Option Addr} {cp0_0 : Nat} {n0 : Nat} {K : Hp} {r : Str × Bool}
    (hm : ref16_Value n f name = some r) (hp0_0 : RdC S_ref02_Field.enc K ap0_0 cp0_0 2 f) (en0 : n0 = f.length) :
    Fn Try.prog 17 [.slice ap0_0 n0 cp0_0, str name] K [] (fun v K' H' => v = .tuple #[str r.1, .bool r.2] ∧ H' = []) := by
  subst en0
  refine Fn.enter Try.func17 Try.call17 rfl fun F => ?_
  unfold ref16_Value at hm
  obtain ⟨x12, q12, hm⟩ := bnd hm
  conv => whnf
  refine call_fn (ref02_All_ok q12 hp0_0 rfl) .nil ?_
  rintro _ K12 _ l12 ⟨a12_0, c12_0, rfl, h12_0, rfl⟩
  conv => whnf
  refine RStep.of (len_slice rfl ?_)
  obtain ⟨hk0, hm⟩ := chkb hm
  obtain ⟨s0, hl0, hm⟩ := bnd hm
  conv => whnf
  refine code_cut (σ := (Str)) [7, 8, 9, 15, 16, 17, 18, 19, 20, 21, 22, 23, 24, 25, 26, 27, 28] (fun t0 => [(7, str t0)]) (fun t0 => [OwnL eS a12_0 9 1 c12_0 x12, F]) (fun zz K1 => match zz with | t0 => t0 = s0) ?_ ?_
  · refine block_go rfl ?_
    conv => whnf
    refine loop_rule (σ := Nat × Str) [7, 8, 9, 15, 16, 17, 18, 19, 20, 21, 22, 23, 24, 25, 26, 27, 28] (fun (i0, y0_0) => [(15, .int .i64 (i0 : Int)), (7, str y0_0)]) (fun (i0, y0_0) => [OwnL eS a12_0 9 1 c12_0 x12, F]) (fun zz K1 => match zz with | (i0, y0_0) => ref16_Value_L0 n (x12.drop i0) i0 y0_0 = some s0) (fun zz => x12.length - zz.1) (0, ([] : Str)) rfl ⟨rfl, rfl, trivial⟩ (ConvH.of (.cons r0 (.cons r0 .nil))) hl0 ?_
    clear hl0
    rintro ⟨i0, y0_0⟩ Kb0 lk0 hl0 j0
    conv at hl0 => whnf
    conv => whnf
    refine cond_go rfl ?_
    conv => whnf
    refine cond_s (fun w0 => ?_) (fun w0 => ?_)
    · obtain ⟨e0, hx0, hd0⟩ := ltx w0
      rw [hd0, ref16_Value_L0.eq_2] at hl0
      conv => whnf
      refine block_go rfl ?_
      conv => whnf
      refine RStep.ofN (index_addr rfl rfl (hasO h12_0 hx0) (nn _) (lt_ofNE rfl hx0) ?_)
      conv => whnf
      refine RStep.of (ld_own (i := i0) (o := 0) r0 rfl hx0 rfl rfl ?_)
      conv => whnf
      refine cond_go rfl ?_
      conv => whnf
      refine cond_s (fun w21 => ?_) (fun w21 => ?_)
      · replace hl0 := ift w21 hl0
        obtain ⟨h23, hl0⟩ := chkb hl0
        conv => whnf
        refine cat_str h23 ?_
        obtain ⟨x26, q26, hl0⟩ := bnd hl0
        conv => whnf
        refine call_fn (ref16_normal_ok q26) .nil ?_
        rintro _ K26 _ l26 ⟨rfl, rfl⟩
        obtain ⟨h27, hl0⟩ := chkb hl0
        conv => whnf
        refine cat_str h27 ?_
        conv => whnf
        refine int_in (cntz hx0 hk0) ?_
        conv => whnf
        refine RoundStep.mk (i0 + 1, ((y0_0 ++ ([44] : Str)) ++ x26)) ⟨rfl, rfl, trivial⟩ (by repeat (first | exact trivial | refine And.intro rfl ?_)) (ConvH.of (.cons r0 (.cons r0 .nil))) (lk0.trans l26) (ltm hx0) hl0
      · replace hl0 := iff_ w21 hl0
        obtain ⟨x26, q26, hl0⟩ := bnd hl0
        conv => whnf
        refine call_fn (ref16_normal_ok q26) .nil ?_
        rintro _ K26 _ l26 ⟨rfl, rfl⟩
        obtain ⟨h27, hl0⟩ := chkb hl0
        conv => whnf
        refine cat_str h27 ?_
        conv => whnf
        refine int_in (cntz hx0 hk0) ?_
        conv => whnf
        refine RoundStep.mk (i0 + 1, (y0_0 ++ x26)) ⟨rfl, rfl, trivial⟩ (by repeat (first | exact trivial | refine And.intro rfl ?_)) (ConvH.of (.cons r0 (.cons r0 .nil))) (lk0.trans l26) (ltm hx0) hl0
    · rw [lty w0, ref16_Value_L0.eq_1] at hl0
      conv => whnf
      refine cond_T ?_
      conv => whnf
      refine MeetStep.mk (y0_0) ⟨rfl, trivial⟩ (by repeat (first | exact trivial | refine And.intro rfl ?_)) (ConvH.of (.cons r0 (.cons r0 .nil))) lk0 (si hl0)
  · rintro t0 Kt0 lt0 rfl j0
    conv => whnf
    refine RStep.of (len_slice rfl ?_)
    obtain rfl := si hm
    conv => whnf
    refine EndStep.mk _ (l12.trans lt0) ⟨rfl, rfl⟩ (ConvH.of (.cons r1 .nil))

noncomputable def ref01_Control_L0 : List UInt8 → Nat → Option (Fl (Bool) (Unit))
  | [], _ => some (Fl.go ())
  | e0 :: xs0, i0 =>
    (if decide ((e0.toNat : Int) < 32) then some (decide ((e0.toNat : Int) ≠ 9)) else some false).bind fun x18 =>
    (if x18 then some true else some (decide ((e0.toNat : Int) = 127))).bind fun x24 =>
    if x24 then
    some (Fl.ret true)
    else
    ref01_Control_L0 xs0 (i0 + 1)
noncomputable def ref01_Control (s : Str) : Option (Bool) :=
  (chk (s.length ≤ szMax)).bind fun _ =>
  (ref01_Control_L0 s 0).bind fun s0 => s0.el some fun t0 =>
  some false
set_option maxHeartbeats 8000000 in
theorem ref01_Control_ok {s : Str} {K : Hp} {r : Bool}
    (hm : ref01_Control s = some r)  :
    Fn Try.prog 49 [str s] K [] (fun v K' H' => v = .bool r ∧ H' = []) := by
  refine Fn.enter Try.func49 Try.call49 rfl fun F => ?_
  unfold ref01_Control at hm
  conv => whnf
  refine RStep.of (len_str rfl ?_)
  obtain ⟨hk0, hm⟩ := chkb hm
  obtain ⟨s0, hl0, hm⟩ := bnd hm
  conv => whnf
  refine code_cut (σ := (Unit)) [2, 3, 6, 7, 8, 9, 10, 11, 12, 13, 14, 15, 16, 17, 18, 19, 20, 21, 22, 23, 24, 25] (fun t0 => []) (fun t0 => [F]) (fun zz K1 => match zz with | t0 => s0 = Fl.go t0) ?_ ?_
  · refine block_go rfl ?_
    conv => whnf
    refine loop_rule (σ := Nat) [2, 3, 6, 7, 8, 9, 10, 11, 12, 13, 14, 15, 16, 17, 18, 19, 20, 21, 22, 23, 24, 25] (fun i0 => [(6, .int .i64 (i0 : Int))]) (fun i0 => [F]) (fun zz K1 => match zz with | i0 => ref01_Control_L0 (s.drop i0) i0 = some s0) (fun zz => s.length - zz) (0) rfl ⟨rfl, trivial⟩ (ConvH.of (.cons r0 .nil)) hl0 ?_
    clear hl0
    rintro i0 Kb0 lk0 hl0 j0
    conv at hl0 => whnf
    conv => whnf
    refine cond_go rfl ?_
    conv => whnf
    refine cond_s (fun w0 => ?_) (fun w0 => ?_)
    · obtain ⟨e0, hx0, hd0⟩ := ltx w0
      rw [hd0, ref01_Control_L0.eq_2] at hl0
      conv => whnf
      refine block_go rfl ?_
      conv => whnf
      refine idx_str rfl (nn _) hx0 ?_
      obtain ⟨x18, e18, hl0⟩ := bnd hl0
      conv => whnf
      refine cond_s (fun g13_4 => ?_) (fun g13_4 => ?_)
      · replace e18 := ift g13_4 e18
        conv => whnf
        refine cond_t g13_4 ?_
        conv => whnf
        refine cond_t g13_4 ?_
        conv => whnf
        refine idx_str rfl (nn _) hx0 ?_
        conv => whnf
        refine cond_t g13_4 ?_
        conv => whnf
        refine neq_int ?_
        conv => whnf
        refine cond_t g13_4 ?_
        obtain ⟨x24, e24, hl0⟩ := bnd hl0
        conv => whnf
        refine cond_s (fun g19_4 => ?_) (fun g19_4 => ?_)
        · replace e24 := ift ((si e18).symm.trans g19_4) e24
          conv => whnf
          refine cond_t g19_4 ?_
          conv => whnf
          refine cond_t g19_4 ?_
          conv => whnf
          refine cond_t g19_4 ?_
          conv => whnf
          refine cond_t g19_4 ?_
          conv => whnf
          refine cond_go rfl ?_
          conv => whnf
          refine cond_T ?_
          replace hl0 := ift (si e24).symm hl0
          obtain rfl := si hl0
          replace hm := elr hm
          obtain rfl := si hm
          conv => whnf
          refine EndStep.mk _ lk0 ⟨rfl, rfl⟩ (ConvH.of (.cons r0 .nil))
        · replace e24 := iff_ ((si e18).symm.trans g19_4) e24
          conv => whnf
          refine cond_f g19_4 ?_
          conv => whnf
          refine cond_f g19_4 ?_
          conv => whnf
          refine idx_str rfl (nn _) hx0 ?_
          conv => whnf
          refine cond_f g19_4 ?_
          conv => whnf
          refine eq_int ?_
          conv => whnf
          refine cond_f g19_4 ?_
          conv => whnf
          refine cond_go rfl ?_
          conv => whnf
          refine cond_s (fun w24 => ?_) (fun w24 => ?_)
          · replace hl0 := ift ((si e24).symm.trans w24) hl0
            obtain rfl := si hl0
            replace hm := elr hm
            obtain rfl := si hm
            conv => whnf
            refine EndStep.mk _ lk0 ⟨rfl, rfl⟩ (ConvH.of (.cons r0 .nil))
          · replace hl0 := iff_ ((si e24).symm.trans w24) hl0
            conv => whnf
            refine int_in (cntz hx0 hk0) ?_
            conv => whnf
            refine RoundStep.mk (i0 + 1) ⟨rfl, trivial⟩ (by repeat (first | exact trivial | refine And.intro rfl ?_)) (ConvH.of (.cons r0 .nil)) lk0 (ltm hx0) hl0
      · replace e18 := iff_ g13_4 e18
        conv => whnf
        refine cond_f g13_4 ?_
        conv => whnf
        refine cond_f g13_4 ?_
        conv => whnf
        refine cond_f g13_4 ?_
        conv => whnf
        refine cond_f g13_4 ?_
        obtain ⟨x24, e24, hl0⟩ := bnd hl0
        replace e24 := iff_ (si e18).symm e24
        conv => whnf
        refine cond_F ?_
        conv => whnf
        refine cond_F ?_
        conv => whnf
        refine cond_F ?_
        conv => whnf
        refine idx_str rfl (nn _) hx0 ?_
        conv => whnf
        refine cond_F ?_
        conv => whnf
        refine eq_int ?_
        conv => whnf
        refine cond_F ?_
        conv => whnf
        refine cond_go rfl ?_
        conv => whnf
        refine cond_s (fun w24 => ?_) (fun w24 => ?_)
        · replace hl0 := ift ((si e24).symm.trans w24) hl0
          obtain rfl := si hl0
          replace hm := elr hm
          obtain rfl := si hm
          conv => whnf
          refine EndStep.mk _ lk0 ⟨rfl, rfl⟩ (ConvH.of (.cons r0 .nil))
        · replace hl0 := iff_ ((si e24).symm.trans w24) hl0
          conv => whnf
          refine int_in (cntz hx0 hk0) ?_
          conv => whnf
          refine RoundStep.mk (i0 + 1) ⟨rfl, trivial⟩ (by repeat (first | exact trivial | refine And.intro rfl ?_)) (ConvH.of (.cons r0 .nil)) lk0 (ltm hx0) hl0
    · rw [lty w0, ref01_Control_L0.eq_1] at hl0
      conv => whnf
      refine cond_T ?_
      conv => whnf
      refine MeetStep.mk (()) trivial (by repeat (first | exact trivial | refine And.intro rfl ?_)) (ConvH.of (.cons r0 .nil)) lk0 (si hl0).symm
  · rintro t0 Kt0 lt0 rfl j0
    replace hm := elg hm
    obtain rfl := si hm
    conv => whnf
    refine EndStep.mk _ lt0 ⟨rfl, rfl⟩ (ConvH.of (.cons r0 .nil))

noncomputable def ref01_Quote_L0 (s : Str) : List UInt8 → Nat → Str → Option (Str)
  | [], _, y0_0 => some y0_0
  | e0 :: xs0, i0, y0_0 =>
    (if decide ((e0.toNat : Int) = 34) then some true else some (decide ((e0.toNat : Int) = 92))).bind fun x20 =>
    if x20 then
    (chk (y0_0.length + ([(92 : UInt8)] : Str).length ≤ lim)).bind fun _ =>
    (chk (0 ≤ (i0 : Int) ∧ (i0 : Int) ≤ ((i0 : Int) + 1) ∧ ((i0 : Int) + 1) ≤ (s.length : Int))).bind fun _ =>
    (chk ((y0_0 ++ ([(92 : UInt8)] : Str)).length + (subL s (i0 : Int) ((i0 : Int) + 1)).length ≤ lim)).bind fun _ =>
    ref01_Quote_L0 s xs0 (i0 + 1) ((y0_0 ++ ([(92 : UInt8)] : Str)) ++ (subL s (i0 : Int) ((i0 : Int) + 1)))
    else
    (chk (0 ≤ (i0 : Int) ∧ (i0 : Int) ≤ ((i0 : Int) + 1) ∧ ((i0 : Int) + 1) ≤ (s.length : Int))).bind fun _ =>
    (chk (y0_0.length + (subL s (i0 : Int) ((i0 : Int) + 1)).length ≤ lim)).bind fun _ =>
    ref01_Quote_L0 s xs0 (i0 + 1) (y0_0 ++ (subL s (i0 : Int) ((i0 : Int) + 1)))
noncomputable def ref01_Quote (s : Str) : Option (Str × Bool) :=
  (chk (s.length ≤ szMax)).bind fun _ =>
  (ref01_Quote_L0 s s 0 ([34] : Str)).bind fun t0 =>
  (chk (t0.length + ([34] : Str).length ≤ lim)).bind fun _ =>
  (ref01_Control s).bind fun x36 =>
  some ((t0 ++ ([34] : Str)), (!x36))
set_option maxHeartbeats 8000000 in
theorem ref01_Quote_ok {s : Str} {K : Hp} {r : Str × Bool}
    (hm : ref01_Quote s = some r)  :
    Fn Try.prog 33 [str s] K [] (fun v K' H' => v = .tuple #[str r.1, .bool r.2] ∧ H' = []) := by
  refine Fn.enter Try.func33 Try.call33 rfl fun F => ?_
  unfold ref01_Quote at hm
  conv => whnf
  refine RStep.of (len_str rfl ?_)
  obtain ⟨hk0, hm⟩ := chkb hm
  obtain ⟨s0, hl0, hm⟩ := bnd hm
  conv => whnf
  refine code_cut (σ := (Str)) [4, 5, 8, 9, 10, 11, 12, 13, 14, 15, 16, 17, 18, 19, 20, 21, 22, 23, 24, 25, 26, 27, 28, 29, 30, 31, 32] (fun t0 => [(4, str t0)]) (fun t0 => [F]) (fun zz K1 => match zz with | t0 => t0 = s0) ?_ ?_
  · refine block_go rfl ?_
    conv => whnf
    refine loop_rule (σ := Nat × Str) [4, 5, 8, 9, 10, 11, 12, 13, 14, 15, 16, 17, 18, 19, 20, 21, 22, 23, 24, 25, 26, 27, 28, 29, 30, 31, 32] (fun (i0, y0_0) => [(8, .int .i64 (i0 : Int)), (4, str y0_0)]) (fun (i0, y0_0) => [F]) (fun zz K1 => match zz with | (i0, y0_0) => ref01_Quote_L0 s (s.drop i0) i0 y0_0 = some s0) (fun zz => s.length - zz.1) (0, ([34] : Str)) rfl ⟨rfl, rfl, trivial⟩ (ConvH.of (.cons r0 .nil)) hl0 ?_
    clear hl0
    rintro ⟨i0, y0_0⟩ Kb0 lk0 hl0 j0
    conv at hl0 => whnf
    conv => whnf
    refine cond_go rfl ?_
    conv => whnf
    refine cond_s (fun w0 => ?_) (fun w0 => ?_)
    · obtain ⟨e0, hx0, hd0⟩ := ltx w0
      rw [hd0, ref01_Quote_L0.eq_2] at hl0
      conv => whnf
      refine block_go rfl ?_
      conv => whnf
      refine idx_str rfl (nn _) hx0 ?_
      conv => whnf
      refine eq_int ?_
      obtain ⟨x20, e20, hl0⟩ := bnd hl0
      conv => whnf
      refine cond_s (fun g15_5 => ?_) (fun g15_5 => ?_)
      · replace e20 := ift g15_5 e20
        conv => whnf
        refine cond_t g15_5 ?_
        conv => whnf
        refine cond_t g15_5 ?_
        conv => whnf
        refine cond_t g15_5 ?_
        conv => whnf
        refine cond_t g15_5 ?_
        conv => whnf
        refine cond_go rfl ?_
        conv => whnf
        refine cond_T ?_
        replace hl0 := ift (si e20).symm hl0
        conv => whnf
        refine bsO (len := 1) (enc := eU) (l := ([(92 : UInt8)] : Str)) (cl := [.int .u8 92]) elT87 rfl rfl (fun _ _ => rfl) rfl rfl rfl ?_ fun b22 => ?_
        · conv => whnf
          refine cond_T ?_
          conv => whnf
          first | done | rfl
        conv => whnf
        refine RStep.of (cv_ownE rfl r0 rfl rfl rfl ?_)
        obtain ⟨h24, hl0⟩ := chkb hl0
        conv => whnf
        refine cat_str h24 ?_
        conv => whnf
        refine int_in (cntz hx0 hk0) ?_
        obtain ⟨h30, hl0⟩ := chkb hl0
        conv => whnf
        refine RStep.ofN (sl_str (lo := (some (i0 : Int))) (hi := (some ((i0 : Int) + 1))) rfl h30 ?_)
        obtain ⟨h31, hl0⟩ := chkb hl0
        conv => whnf
        refine cat_str h31 ?_
        conv => whnf
        refine int_in (cntz hx0 hk0) ?_
        conv => whnf
        refine RoundStep.mk (i0 + 1, ((y0_0 ++ ([(92 : UInt8)] : Str)) ++ (subL s (i0 : Int) ((i0 : Int) + 1)))) ⟨rfl, rfl, trivial⟩ (by repeat (first | exact trivial | refine And.intro rfl ?_)) (ConvH.of (.cons r1 .nil)) lk0 (ltm hx0) hl0
      · replace e20 := iff_ g15_5 e20
        conv => whnf
        refine cond_f g15_5 ?_
        conv => whnf
        refine cond_f g15_5 ?_
        conv => whnf
        refine idx_str rfl (nn _) hx0 ?_
        conv => whnf
        refine cond_f g15_5 ?_
        conv => whnf
        refine eq_int ?_
        conv => whnf
        refine cond_f g15_5 ?_
        conv => whnf
        refine cond_go rfl ?_
        conv => whnf
        refine cond_s (fun w20 => ?_) (fun w20 => ?_)
        · replace hl0 := ift ((si e20).symm.trans w20) hl0
          conv => whnf
          refine bsO (len := 1) (enc := eU) (l := ([(92 : UInt8)] : Str)) (cl := [.int .u8 92]) elT87 rfl rfl (fun _ _ => rfl) rfl rfl rfl ?_ fun b22 => ?_
          · conv => whnf
            refine cond_T ?_
            conv => whnf
            first | done | rfl
          conv => whnf
          refine RStep.of (cv_ownE rfl r0 rfl rfl rfl ?_)
          obtain ⟨h24, hl0⟩ := chkb hl0
          conv => whnf
          refine cat_str h24 ?_
          conv => whnf
          refine int_in (cntz hx0 hk0) ?_
          obtain ⟨h30, hl0⟩ := chkb hl0
          conv => whnf
          refine RStep.ofN (sl_str (lo := (some (i0 : Int))) (hi := (some ((i0 : Int) + 1))) rfl h30 ?_)
          obtain ⟨h31, hl0⟩ := chkb hl0
          conv => whnf
          refine cat_str h31 ?_
          conv => whnf
          refine int_in (cntz hx0 hk0) ?_
          conv => whnf
          refine RoundStep.mk (i0 + 1, ((y0_0 ++ ([(92 : UInt8)] : Str)) ++ (subL s (i0 : Int) ((i0 : Int) + 1)))) ⟨rfl, rfl, trivial⟩ (by repeat (first | exact trivial | refine And.intro rfl ?_)) (ConvH.of (.cons r1 .nil)) lk0 (ltm hx0) hl0
        · replace hl0 := iff_ ((si e20).symm.trans w20) hl0
          conv => whnf
          refine int_in (cntz hx0 hk0) ?_
          obtain ⟨h30, hl0⟩ := chkb hl0
          conv => whnf
          refine RStep.ofN (sl_str (lo := (some (i0 : Int))) (hi := (some ((i0 : Int) + 1))) rfl h30 ?_)
          obtain ⟨h31, hl0⟩ := chkb hl0
          conv => whnf
          refine cat_str h31 ?_
          conv => whnf
          refine int_in (cntz hx0 hk0) ?_
          conv => whnf
          refine RoundStep.mk (i0 + 1, (y0_0 ++ (subL s (i0 : Int) ((i0 : Int) + 1)))) ⟨rfl, rfl, trivial⟩ (by repeat (first | exact trivial | refine And.intro rfl ?_)) (ConvH.of (.cons r0 .nil)) lk0 (ltm hx0) hl0
    · rw [lty w0, ref01_Quote_L0.eq_1] at hl0
      conv => whnf
      refine cond_T ?_
      conv => whnf
      refine MeetStep.mk (y0_0) ⟨rfl, trivial⟩ (by repeat (first | exact trivial | refine And.intro rfl ?_)) (ConvH.of (.cons r0 .nil)) lk0 (si hl0)
  · rintro t0 Kt0 lt0 rfl j0
    obtain ⟨h34, hm⟩ := chkb hm
    conv => whnf
    refine cat_str h34 ?_
    obtain ⟨x36, q36, hm⟩ := bnd hm
    conv => whnf
    refine call_fn (ref01_Control_ok q36) .nil ?_
    rintro _ K36 _ l36 ⟨rfl, rfl⟩
    conv => whnf
    refine un_not ?_
    obtain rfl := si hm
    conv => whnf
    refine EndStep.mk _ (lt0.trans l36) ⟨rfl, rfl⟩ (ConvH.of (.cons r0 .nil))

noncomputable def ref16_Key_L0 (n : Nat) (f : (List S_ref02_Field)) : List Str → Nat → Str → Option (Str)
  | [], _, y0_0 => some y0_0
  | e0 :: xs0, i0, y0_0 =>
    if decide ((i0 : Int) > 0) then
    (chk (y0_0.length + ([38] : Str).length ≤ lim)).bind fun _ =>
    (chk ((y0_0 ++ ([38] : Str)).length + e0.length ≤ lim)).bind fun _ =>
    (ref16_Value n f e0).bind fun x29 =>
    if x29.2 then
    (ref01_Quote x29.1).bind fun x35 =>
    (chk (([61] : Str).length + x35.1.length ≤ lim)).bind fun _ =>
    (chk (((y0_0 ++ ([38] : Str)) ++ e0).length + (([61] : Str) ++ x35.1).length ≤ lim)).bind fun _ =>
    ref16_Key_L0 n f xs0 (i0 + 1) (((y0_0 ++ ([38] : Str)) ++ e0) ++ (([61] : Str) ++ x35.1))
    else
    ref16_Key_L0 n f xs0 (i0 + 1) ((y0_0 ++ ([38] : Str)) ++ e0)
    else
    (chk (y0_0.length + e0.length ≤ lim)).bind fun _ =>
    (ref16_Value n f e0).bind fun x29 =>
    if x29.2 then
    (ref01_Quote x29.1).bind fun x35 =>
    (chk (([61] : Str).length + x35.1.length ≤ lim)).bind fun _ =>
    (chk ((y0_0 ++ e0).length + (([61] : Str) ++ x35.1).length ≤ lim)).bind fun _ =>
    ref16_Key_L0 n f xs0 (i0 + 1) ((y0_0 ++ e0) ++ (([61] : Str) ++ x35.1))
    else
    ref16_Key_L0 n f xs0 (i0 + 1) (y0_0 ++ e0)
noncomputable def ref16_Key (n : Nat) (names : (List Str)) (f : (List S_ref02_Field)) : Option (Str) :=
  (chk (names.length ≤ szMax)).bind fun _ =>
  (ref16_Key_L0 n f names 0 ([] : Str)).bind fun t0 =>
  some t0
set_option maxHeartbeats 8000000 in
theorem ref16_Key_ok {n : Nat} {names : (List Str)} {f : (List S_ref02_Field)} {ap0_0 : Option Addr} {cp0_0 : Nat} {n0 : Nat} {ap1_0 : Option Addr} {cp1_0 : Nat} {n1 : Nat} {K : Hp} {r : Str}
    (hm : ref16_Key n names f = some r) (hp0_0 : RdC eS K ap0_0 cp0_0 1 names) (en0 : n0 = names.length) (hp1_0 : RdC S_ref02_Field.enc K ap1_0 cp1_0 2 f) (en1 : n1 = f.length) :
    Fn Try.prog 14 [.slice ap0_0 n0 cp0_0, .slice ap1_0 n1 cp1_0] K [] (fun v K' H' => v = str r ∧ H' = []) := by
  subst en0
  subst en1
  refine Fn.enter Try.func14 Try.call14 rfl fun F => ?_
  unfold ref16_Key at hm
  conv => whnf
  refine RStep.of (len_slice rfl ?_)
  obtain ⟨hk0, hm⟩ := chkb hm
  obtain ⟨s0, hl0, hm⟩ := bnd hm
  conv => whnf
  refine code_cut (σ := (Str)) [5, 6, 7, 8, 9, 10, 11, 14, 15, 16, 17, 18, 19, 20, 21, 22, 23, 24, 25, 26, 27, 28, 29, 30, 31, 32, 33, 34, 35, 36, 37, 38, 39, 40, 41, 42] (fun t0 => [(5, str t0)]) (fun t0 => [F]) (fun zz K1 => match zz with | t0 => t0 = s0) ?_ ?_
  · refine block_go rfl ?_
    conv => whnf
    refine loop_rule (σ := Nat × Str) [5, 6, 7, 8, 9, 10, 11, 14, 15, 16, 17, 18, 19, 20, 21, 22, 23, 24, 25, 26, 27, 28, 29, 30, 31, 32, 33, 34, 35, 36, 37, 38, 39, 40, 41, 42] (fun (i0, y0_0) => [(14, .int .i64 (i0 : Int)), (5, str y0_0)]) (fun (i0, y0_0) => [F]) (fun zz K1 => match zz with | (i0, y0_0) => ref16_Key_L0 n f (names.drop i0) i0 y0_0 = some s0) (fun zz => names.length - zz.1) (0, ([] : Str)) rfl ⟨rfl, rfl, trivial⟩ (ConvH.of (.cons r0 .nil)) hl0 ?_
    clear hl0
    rintro ⟨i0, y0_0⟩ Kb0 lk0 hl0 j0
    conv at hl0 => whnf
    conv => whnf
    refine cond_go rfl ?_
    conv => whnf
    refine cond_s (fun w0 => ?_) (fun w0 => ?_)
    · obtain ⟨e0, hx0, hd0⟩ := ltx w0
      rw [hd0, ref16_Key_L0.eq_2] at hl0
      conv => whnf
      refine block_go rfl ?_
      conv => whnf
      refine RStep.ofN (index_addr rfl rfl (hasK (hp0_0.mono lk0).rd hx0) (nn _) (lt_ofN hx0) ?_)
      conv => whnf
      refine RStep.of (load_rd i0 0 _ _ (hp0_0.mono lk0).rd rfl (mp hx0) rfl rfl ?_)
      conv => whnf
      refine cond_go rfl ?_
      conv => whnf
      refine cond_s (fun w20 => ?_) (fun w20 => ?_)
      · replace hl0 := ift w20 hl0
        obtain ⟨h22, hl0⟩ := chkb hl0
        conv => whnf
        refine cat_str h22 ?_
        obtain ⟨h25, hl0⟩ := chkb hl0
        conv => whnf
        refine cat_str h25 ?_
        obtain ⟨x29, q29, hl0⟩ := bnd hl0
        conv => whnf
        refine call_fn (ref16_Value_ok q29 (hp1_0.mono lk0) rfl) .nil ?_
        rintro _ K29 _ l29 ⟨rfl, rfl⟩
        conv => whnf
        refine cond_go rfl ?_
        conv => whnf
        refine cond_s (fun w32 => ?_) (fun w32 => ?_)
        · replace hl0 := ift w32 hl0
          obtain ⟨x35, q35, hl0⟩ := bnd hl0
          conv => whnf
          refine call_fn (ref01_Quote_ok q35) .nil ?_
          rintro _ K35 _ l35 ⟨rfl, rfl⟩
          obtain ⟨h40, hl0⟩ := chkb hl0
          conv => whnf
          refine cat_str h40 ?_
          obtain ⟨h41, hl0⟩ := chkb hl0
          conv => whnf
          refine cat_str h41 ?_
          conv => whnf
          refine int_in (cntz hx0 hk0) ?_
          conv => whnf
          refine RoundStep.mk (i0 + 1, (((y0_0 ++ ([38] : Str)) ++ e0) ++ (([61] : Str) ++ x35.1))) ⟨rfl, rfl, trivial⟩ (by repeat (first | exact trivial | refine And.intro rfl ?_)) (ConvH.of (.cons r0 .nil)) ((lk0.trans l29).trans l35) (ltm hx0) hl0
        · replace hl0 := iff_ w32 hl0
          conv => whnf
          refine int_in (cntz hx0 hk0) ?_
          conv => whnf
          refine RoundStep.mk (i0 + 1, ((y0_0 ++ ([38] : Str)) ++ e0)) ⟨rfl, rfl, trivial⟩ (by repeat (first | exact trivial | refine And.intro rfl ?_)) (ConvH.of (.cons r0 .nil)) (lk0.trans l29) (ltm hx0) hl0
      · replace hl0 := iff_ w20 hl0
        obtain ⟨h25, hl0⟩ := chkb hl0
        conv => whnf
        refine cat_str h25 ?_
        obtain ⟨x29, q29, hl0⟩ := bnd hl0
        conv => whnf
        refine call_fn (ref16_Value_ok q29 (hp1_0.mono lk0) rfl) .nil ?_
        rintro _ K29 _ l29 ⟨rfl, rfl⟩
        conv => whnf
        refine cond_go rfl ?_
        conv => whnf
        refine cond_s (fun w32 => ?_) (fun w32 => ?_)
        · replace hl0 := ift w32 hl0
          obtain ⟨x35, q35, hl0⟩ := bnd hl0
          conv => whnf
          refine call_fn (ref01_Quote_ok q35) .nil ?_
          rintro _ K35 _ l35 ⟨rfl, rfl⟩
          obtain ⟨h40, hl0⟩ := chkb hl0
          conv => whnf
          refine cat_str h40 ?_
          obtain ⟨h41, hl0⟩ := chkb hl0
          conv => whnf
          refine cat_str h41 ?_
          conv => whnf
          refine int_in (cntz hx0 hk0) ?_
          conv => whnf
          refine RoundStep.mk (i0 + 1, ((y0_0 ++ e0) ++ (([61] : Str) ++ x35.1))) ⟨rfl, rfl, trivial⟩ (by repeat (first | exact trivial | refine And.intro rfl ?_)) (ConvH.of (.cons r0 .nil)) ((lk0.trans l29).trans l35) (ltm hx0) hl0
        · replace hl0 := iff_ w32 hl0
          conv => whnf
          refine int_in (cntz hx0 hk0) ?_
          conv => whnf
          refine RoundStep.mk (i0 + 1, (y0_0 ++ e0)) ⟨rfl, rfl, trivial⟩ (by repeat (first | exact trivial | refine And.intro rfl ?_)) (ConvH.of (.cons r0 .nil)) (lk0.trans l29) (ltm hx0) hl0
    · rw [lty w0, ref16_Key_L0.eq_1] at hl0
      conv => whnf
      refine cond_T ?_
      conv => whnf
      refine MeetStep.mk (y0_0) ⟨rfl, trivial⟩ (by repeat (first | exact trivial | refine And.intro rfl ?_)) (ConvH.of (.cons r0 .nil)) lk0 (si hl0)
  · rintro t0 Kt0 lt0 rfl j0
    obtain rfl := si hm
    conv => whnf
    refine EndStep.mk _ lt0 ⟨rfl, rfl⟩ (ConvH.of (.cons r0 .nil))

noncomputable def law16_VaryKeys (n : Nat) (names : (List Str)) (f : (List S_ref02_Field)) : Option (Bool) :=
  (law16_long names).bind fun x6 =>
  (if x6 then some true else (law16_large [f]).bind fun x10 =>
  some x10).bind fun x11 =>
  (if x11 then some true else (law16_awake n).bind fun x13 =>
  some (!x13)).bind fun x15 =>
  if x15 then
  (law16_long names).bind fun x17 =>
  (if x17 then some true else (law16_large [f]).bind fun x21 =>
  some x21).bind fun x22 =>
  some x22
  else
  (law02_Fields f).bind fun x25 =>
  (vary_Key names x25).bind fun x26 =>
  (ref16_Key n names f).bind fun x29 =>
  some (decide (x26 = x29))
set_option maxHeartbeats 8000000 in
theorem law16_VaryKeys_ok {n : Nat} {names : (List Str)} {f : (List S_ref02_Field)} {ap0_0 : Option Addr} {cp0_0 : Nat} {n0 : Nat} {ap1_0 : Option Addr} {cp1_0 : Nat} {n1 : Nat} {K : Hp} {r : Bool}
    (hm : law16_VaryKeys n names f = some r) (hp0_0 : RdC eS K ap0_0 cp0_0 1 names) (en0 : n0 = names.length) (hp1_0 : RdC S_ref02_Field.enc K ap1_0 cp1_0 2 f) (en1 : n1 = f.length) :
    Fn Try.prog 3 [.slice ap0_0 n0 cp0_0, .slice ap1_0 n1 cp1_0] K [] (fun v K' H' => v = .bool r ∧ H' = []) := by
  subst en0
  subst en1
  refine Fn.enter Try.func3 Try.call3 rfl fun F => ?_
  unfold law16_VaryKeys at hm
  obtain ⟨x6, q6, hm⟩ := bnd hm
  conv => whnf
  refine call_fn (law16_long_ok q6 hp0_0 rfl) .nil ?_
  rintro _ K6 _ l6 ⟨rfl, rfl⟩
  obtain ⟨x11, e11, hm⟩ := bnd hm
  conv => whnf
  refine cond_s (fun g7_1 => ?_) (fun g7_1 => ?_)
  · replace e11 := ift g7_1 e11
    conv => whnf
    refine cond_t g7_1 ?_
    conv => whnf
    refine cond_t g7_1 ?_
    conv => whnf
    refine cond_t g7_1 ?_
    obtain ⟨x15, e15, hm⟩ := bnd hm
    replace e15 := ift (si e11).symm e15
    conv => whnf
    refine cond_T ?_
    conv => whnf
    refine cond_T ?_
    conv => whnf
    refine cond_T ?_
    conv => whnf
    refine cond_go rfl ?_
    conv => whnf
    refine cond_T ?_
    replace hm := ift (si e15).symm hm
    obtain ⟨x17, q17, hm⟩ := bnd hm
    conv => whnf
    refine call_fn (law16_long_ok q17 (hp0_0.mono l6) rfl) .nil ?_
    rintro _ K17 _ l17 ⟨rfl, rfl⟩
    obtain ⟨x22, e22, hm⟩ := bnd hm
    conv => whnf
    refine cond_s (fun g18_2 => ?_) (fun g18_2 => ?_)
    · replace e22 := ift g18_2 e22
      conv => whnf
      refine cond_t g18_2 ?_
      conv => whnf
      refine cond_t g18_2 ?_
      conv => whnf
      refine cond_t g18_2 ?_
      obtain rfl := si hm
      conv => whnf
      refine EndStep.mk _ (l6.trans l17) ⟨(by rw [← ((si e22).symm).symm] <;> rfl), rfl⟩ (ConvH.of (.cons r0 .nil))
    · replace e22 := iff_ g18_2 e22
      conv => whnf
      refine cond_f g18_2 ?_
      conv => whnf
      refine bsOR (len := 1) (l := [f]) (css := [[.slice ap1_0 f.length cp1_0]]) (cl := [.slice ap1_0 f.length cp1_0]) sliL_ok elT64 rfl rfl (LR.snoc LR.nil ⟨ap1_0, cp1_0, rfl, (hp1_0.mono (l6.trans l17))⟩) rfl rfl rfl ?_ fun b20 => ?_
      · conv => whnf
        refine cond_T ?_
        conv => whnf
        first | done | rfl
      conv => whnf
      refine cond_f g18_2 ?_
      obtain ⟨x21, q21, e22⟩ := bnd e22
      conv => whnf
      refine call_fn (Fn.lendR sliL_ok (show LR (sliL S_ref02_Field.enc 2) _ [[.slice ap1_0 f.length cp1_0]] [f] from (LR.snoc LR.nil ⟨ap1_0, cp1_0, rfl, (hp1_0.mono (l6.trans l17))⟩)) Try.call10 (fun K21_0 l21_0 f21_0 => (law16_large_ok q21 f21_0 rfl)) (by exact fun _ _ _ _ h => h)) (.cons r0 .nil) ?_
      rintro _ K21 _ l21 ⟨_, rfl, rfl, rfl⟩
      conv => whnf
      refine cond_f g18_2 ?_
      obtain rfl := si hm
      conv => whnf
      refine EndStep.mk _ ((l6.trans l17).trans l21) ⟨(by rw [← (si e22)] <;> rfl), rfl⟩ (ConvH.of (.cons r1 .nil))
  · replace e11 := iff_ g7_1 e11
    conv => whnf
    refine cond_f g7_1 ?_
    conv => whnf
    refine bsOR (len := 1) (l := [f]) (css := [[.slice ap1_0 f.length cp1_0]]) (cl := [.slice ap1_0 f.length cp1_0]) sliL_ok elT64 rfl rfl (LR.snoc LR.nil ⟨ap1_0, cp1_0, rfl, (hp1_0.mono l6)⟩) rfl rfl rfl ?_ fun b9 => ?_
    · conv => whnf
      refine cond_T ?_
      conv => whnf
      first | done | rfl
    conv => whnf
    refine cond_f g7_1 ?_
    obtain ⟨x10, q10, e11⟩ := bnd e11
    conv => whnf
    refine call_fn (Fn.lendR sliL_ok (show LR (sliL S_ref02_Field.enc 2) _ [[.slice ap1_0 f.length cp1_0]] [f] from (LR.snoc LR.nil ⟨ap1_0, cp1_0, rfl, (hp1_0.mono l6)⟩)) Try.call10 (fun K10_0 l10_0 f10_0 => (law16_large_ok q10 f10_0 rfl)) (by exact fun _ _ _ _ h => h)) (.cons r0 .nil) ?_
    rintro _ K10 _ l10 ⟨_, rfl, rfl, rfl⟩
    conv => whnf
    refine cond_f g7_1 ?_
    obtain ⟨x15, e15, hm⟩ := bnd hm
    conv => whnf
    refine cond_s (fun g12_1 => ?_) (fun g12_1 => ?_)
    · replace e15 := ift ((si e11).symm.trans g12_1) e15
      conv => whnf
      refine cond_t g12_1 ?_
      conv => whnf
      refine cond_t g12_1 ?_
      conv => whnf
      refine cond_go rfl ?_
      conv => whnf
      refine cond_T ?_
      replace hm := ift (si e15).symm hm
      obtain ⟨x17, q17, hm⟩ := bnd hm
      conv => whnf
      refine call_fn (law16_long_ok q17 (hp0_0.mono (l6.trans l10)) rfl) .nil ?_
      rintro _ K17 _ l17 ⟨rfl, rfl⟩
      obtain ⟨x22, e22, hm⟩ := bnd hm
      conv => whnf
      refine cond_s (fun g18_2 => ?_) (fun g18_2 => ?_)
      · replace e22 := ift g18_2 e22
        conv => whnf
        refine cond_t g18_2 ?_
        conv => whnf
        refine cond_t g18_2 ?_
        conv => whnf
        refine cond_t g18_2 ?_
        obtain rfl := si hm
        conv => whnf
        refine EndStep.mk _ ((l6.trans l10).trans l17) ⟨(by rw [← ((si e22).symm).symm] <;> rfl), rfl⟩ (ConvH.of (.cons r1 .nil))
      · replace e22 := iff_ g18_2 e22
        conv => whnf
        refine cond_f g18_2 ?_
        conv => whnf
        refine bsOR (len := 1) (l := [f]) (css := [[.slice ap1_0 f.length cp1_0]]) (cl := [.slice ap1_0 f.length cp1_0]) sliL_ok elT64 rfl rfl (LR.snoc LR.nil ⟨ap1_0, cp1_0, rfl, (hp1_0.mono ((l6.trans l10).trans l17))⟩) rfl rfl rfl ?_ fun b20 => ?_
        · conv => whnf
          refine cond_T ?_
          conv => whnf
          first | done | rfl
        conv => whnf
        refine cond_f g18_2 ?_
        obtain ⟨x21, q21, e22⟩ := bnd e22
        conv => whnf
        refine call_fn (Fn.lendR sliL_ok (show LR (sliL S_ref02_Field.enc 2) _ [[.slice ap1_0 f.length cp1_0]] [f] from (LR.snoc LR.nil ⟨ap1_0, cp1_0, rfl, (hp1_0.mono ((l6.trans l10).trans l17))⟩)) Try.call10 (fun K21_0 l21_0 f21_0 => (law16_large_ok q21 f21_0 rfl)) (by exact fun _ _ _ _ h => h)) (.cons r0 .nil) ?_
        rintro _ K21 _ l21 ⟨_, rfl, rfl, rfl⟩
        conv => whnf
        refine cond_f g18_2 ?_
        obtain rfl := si hm
        conv => whnf
        refine EndStep.mk _ (((l6.trans l10).trans l17).trans l21) ⟨(by rw [← (si e22)] <;> rfl), rfl⟩ (ConvH.of (.cons r2 .nil))
    · replace e15 := iff_ ((si e11).symm.trans g12_1) e15
      obtain ⟨x13, q13, e15⟩ := bnd e15
      conv => whnf
      refine call_fn (law16_awake_ok q13) .nil ?_
      rintro _ K13 _ l13 ⟨rfl, rfl⟩
      conv => whnf
      refine cond_f g12_1 ?_
      conv => whnf
      refine un_not ?_
      conv => whnf
      refine cond_f g12_1 ?_
      conv => whnf
      refine cond_go rfl ?_
      conv => whnf
      refine cond_s (fun w15 => ?_) (fun w15 => ?_)
      · replace hm := ift ((si e15).symm.trans (not_t (ni_t w15))) hm
        obtain ⟨x17, q17, hm⟩ := bnd hm
        conv => whnf
        refine call_fn (law16_long_ok q17 (hp0_0.mono ((l6.trans l10).trans l13)) rfl) .nil ?_
        rintro _ K17 _ l17 ⟨rfl, rfl⟩
        obtain ⟨x22, e22, hm⟩ := bnd hm
        conv => whnf
        refine cond_s (fun g18_2 => ?_) (fun g18_2 => ?_)
        · replace e22 := ift g18_2 e22
          conv => whnf
          refine cond_t g18_2 ?_
          conv => whnf
          refine cond_t g18_2 ?_
          conv => whnf
          refine cond_t g18_2 ?_
          obtain rfl := si hm
          conv => whnf
          refine EndStep.mk _ (((l6.trans l10).trans l13).trans l17) ⟨(by rw [← ((si e22).symm).symm] <;> rfl), rfl⟩ (ConvH.of (.cons r1 .nil))
        · replace e22 := iff_ g18_2 e22
          conv => whnf
          refine cond_f g18_2 ?_
          conv => whnf
          refine bsOR (len := 1) (l := [f]) (css := [[.slice ap1_0 f.length cp1_0]]) (cl := [.slice ap1_0 f.length cp1_0]) sliL_ok elT64 rfl rfl (LR.snoc LR.nil ⟨ap1_0, cp1_0, rfl, (hp1_0.mono (((l6.trans l10).trans l13).trans l17))⟩) rfl rfl rfl ?_ fun b20 => ?_
          · conv => whnf
            refine cond_T ?_
            conv => whnf
            first | done | rfl
          conv => whnf
          refine cond_f g18_2 ?_
          obtain ⟨x21, q21, e22⟩ := bnd e22
          conv => whnf
          refine call_fn (Fn.lendR sliL_ok (show LR (sliL S_ref02_Field.enc 2) _ [[.slice ap1_0 f.length cp1_0]] [f] from (LR.snoc LR.nil ⟨ap1_0, cp1_0, rfl, (hp1_0.mono (((l6.trans l10).trans l13).trans l17))⟩)) Try.call10 (fun K21_0 l21_0 f21_0 => (law16_large_ok q21 f21_0 rfl)) (by exact fun _ _ _ _ h => h)) (.cons r0 .nil) ?_
          rintro _ K21 _ l21 ⟨_, rfl, rfl, rfl⟩
          conv => whnf
          refine cond_f g18_2 ?_
          obtain rfl := si hm
          conv => whnf
          refine EndStep.mk _ ((((l6.trans l10).trans l13).trans l17).trans l21) ⟨(by rw [← (si e22)] <;> rfl), rfl⟩ (ConvH.of (.cons r2 .nil))
      · replace hm := iff_ ((si e15).symm.trans (not_f (ni_f w15))) hm
        obtain ⟨x25, q25, hm⟩ := bnd hm
        conv => whnf
        refine call_fn (law02_Fields_ok q25 (hp1_0.mono ((l6.trans l10).trans l13)) rfl) .nil ?_
        rintro _ K25 _ l25 ⟨a25_0, c25_0, rfl, h25_0, rfl⟩
        obtain ⟨x26, q26, hm⟩ := bnd hm
        conv => whnf
        refine call_fn (Fn.lend Try.call12 (fun K26_1 l26_1 f26_1 => (vary_Key_ok q26 (hp0_0.mono ((((l6.trans l10).trans l13).trans l25).trans l26_1)) rfl f26_1 rfl)) (by exact fun _ _ _ _ h => h)) (.cons r0 .nil) ?_
        rintro _ K26 _ l26 ⟨_, rfl, rfl, rfl⟩
        obtain ⟨x29, q29, hm⟩ := bnd hm
        conv => whnf
        refine call_fn (ref16_Key_ok q29 (hp0_0.mono ((((l6.trans l10).trans l13).trans l25).trans l26)) rfl (hp1_0.mono ((((l6.trans l10).trans l13).trans l25).trans l26)) rfl) .nil ?_
        rintro _ K29 _ l29 ⟨rfl, rfl⟩
        conv => whnf
        refine eq_str ?_
        obtain rfl := si hm
        conv => whnf
        refine EndStep.mk _ (((((l6.trans l10).trans l13).trans l25).trans l26).trans l29) ⟨rfl, rfl⟩ (ConvH.of (.cons r2 .nil))
