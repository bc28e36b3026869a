/- Functions of the program: mirrors, and that a call returns what the mirror says. Printed by gen.py. -/
import Derived.Test.YtlpjmfojahofnaaG1
set_option linter.unusedVariables false
set_option linter.unusedSimpArgs false
open Go Go.SL Go.Proofs
set_option maxRecDepth 1000000
noncomputable def ref16_normal_L0 : List UInt8 → Nat → Str → Option (Str)
  | [], _, y0_0 => some y0_0
  | e0 :: xs0, i0, y0_0 =>
    if decide ((e0.toNat : Int) = 9) then
    (if decide (y0_0 = ([] : Str)) then some true else (chk (InI ((y0_0.length : Int) - 1))).bind fun _ =>
    (ix y0_0 ((y0_0.length : Int) - 1)).bind fun x32 =>
    some (decide ((x32.toNat : Int) = 32))).bind fun x34 =>
    if x34 then
    ref16_normal_L0 xs0 (i0 + 1) y0_0
    else
    (chk (y0_0.length + ([(32 : UInt8)] : Str).length ≤ lim)).bind fun _ =>
    ref16_normal_L0 xs0 (i0 + 1) (y0_0 ++ ([(32 : UInt8)] : Str))
    else
    if (decide ((e0.toNat : Int) < 32) || decide ((e0.toNat : Int) = 127)) then
    (chk (y0_0.length + ([(63 : UInt8)] : Str).length ≤ lim)).bind fun _ =>
    ref16_normal_L0 xs0 (i0 + 1) (y0_0 ++ ([(63 : UInt8)] : Str))
    else
    if decide ((e0.toNat : Int) = 32) then
    (if decide (y0_0 = ([] : Str)) then some true else (chk (InI ((y0_0.length : Int) - 1))).bind fun _ =>
    (ix y0_0 ((y0_0.length : Int) - 1)).bind fun x32 =>
    some (decide ((x32.toNat : Int) = 32))).bind fun x34 =>
    if x34 then
    ref16_normal_L0 xs0 (i0 + 1) y0_0
    else
    (chk (y0_0.length + ([e0] : Str).length ≤ lim)).bind fun _ =>
    ref16_normal_L0 xs0 (i0 + 1) (y0_0 ++ ([e0] : Str))
    else
    (chk (y0_0.length + ([e0] : Str).length ≤ lim)).bind fun _ =>
    ref16_normal_L0 xs0 (i0 + 1) (y0_0 ++ ([e0] : Str))
noncomputable def ref16_normal (n : Nat) (s : Str) : Option (Str) :=
  (chk (s.length ≤ szMax)).bind fun _ =>
  (ref16_normal_L0 s 0 ([] : Str)).bind fun t0 =>
  (ref01_Trim n t0).bind fun x43 =>
  some x43
set_option maxHeartbeats 8000000 in
theorem ref16_normal_ok {n : Nat} {s : Str} {K : Hp} {r : Str}
    (hm : ref16_normal n s = some r)  :
    Fn Try.prog 37 [str s] K [] (fun v K' H' => v = str r ∧ H' = []) := by
  refine Fn.enter Try.func37 Try.call37 rfl fun F => ?_
  unfold ref16_normal at hm
  conv => whnf
  refine RStep.of (len_str rfl ?_)
  obtain ⟨hk0, hm⟩ := chkb hm
  obtain ⟨s0, hl0, hm⟩ := bnd hm
  conv => whnf
  refine code_cut (σ := (Str)) [3, 4, 5, 8, 9, 10, 11, 12, 13, 14, 15, 16, 17, 18, 19, 20, 21, 22, 23, 24, 25, 26, 27, 28, 29, 30, 31, 32, 33, 34, 35, 36, 37, 38, 39, 40, 41] (fun t0 => [(3, str t0)]) (fun t0 => [F]) (fun zz K1 => match zz with | t0 => t0 = s0) ?_ ?_
  · refine block_go rfl ?_
    conv => whnf
    refine loop_rule (σ := Nat × Str) [3, 4, 5, 8, 9, 10, 11, 12, 13, 14, 15, 16, 17, 18, 19, 20, 21, 22, 23, 24, 25, 26, 27, 28, 29, 30, 31, 32, 33, 34, 35, 36, 37, 38, 39, 40, 41] (fun (i0, y0_0) => [(8, .int .i64 (i0 : Int)), (3, str y0_0)]) (fun (i0, y0_0) => [F]) (fun zz K1 => match zz with | (i0, y0_0) => ref16_normal_L0 (s.drop i0) i0 y0_0 = some s0) (fun zz => s.length - zz.1) (0, ([] : Str)) rfl ⟨rfl, rfl, trivial⟩ (ConvH.of (.cons r0 .nil)) hl0 ?_
    clear hl0
    rintro ⟨i0, y0_0⟩ Kb0 lk0 hl0 j0
    conv at hl0 => whnf
    conv => whnf
    refine cond_go rfl ?_
    conv => whnf
    refine cond_s (fun w0 => ?_) (fun w0 => ?_)
    · obtain ⟨e0, hx0, hd0⟩ := ltx w0
      rw [hd0, ref16_normal_L0.eq_2] at hl0
      conv => whnf
      refine block_go rfl ?_
      conv => whnf
      refine idx_str rfl (nn _) hx0 ?_
      conv => whnf
      refine eq_int ?_
      conv => whnf
      refine cond_go rfl ?_
      conv => whnf
      refine cond_s (fun w15 => ?_) (fun w15 => ?_)
      · replace hl0 := ift w15 hl0
        conv => whnf
        refine cond_F ?_
        conv => whnf
        refine cond_F ?_
        conv => whnf
        refine eq_int ?_
        conv => whnf
        refine cond_F ?_
        conv => whnf
        refine cond_go rfl ?_
        conv => whnf
        refine cond_F ?_
        conv => whnf
        refine eq_int ?_
        conv => whnf
        refine cond_T ?_
        conv => whnf
        refine cond_T ?_
        conv => whnf
        refine eq_str ?_
        conv => whnf
        refine cond_T ?_
        obtain ⟨x34, e34, hl0⟩ := bnd hl0
        conv => whnf
        refine cond_s (fun g27_10 => ?_) (fun g27_10 => ?_)
        · replace e34 := ift g27_10 e34
          conv => whnf
          refine cond_t g27_10 ?_
          conv => whnf
          refine cond_t g27_10 ?_
          conv => whnf
          refine cond_t g27_10 ?_
          conv => whnf
          refine cond_t g27_10 ?_
          conv => whnf
          refine cond_t g27_10 ?_
          conv => whnf
          refine cond_T ?_
          conv => whnf
          refine cond_t g27_10 ?_
          conv => whnf
          refine cond_T ?_
          conv => whnf
          refine cond_go rfl ?_
          conv => whnf
          refine cond_T ?_
          replace hl0 := ift (si e34).symm hl0
          conv => whnf
          refine cond_T ?_
          conv => whnf
          refine int_in (cntz hx0 hk0) ?_
          conv => whnf
          refine RoundStep.mk (i0 + 1, y0_0) ⟨rfl, rfl, trivial⟩ (by repeat (first | exact trivial | refine And.intro rfl ?_)) (ConvH.of (.cons r0 .nil)) lk0 (ltm hx0) hl0
        · replace e34 := iff_ g27_10 e34
          conv => whnf
          refine cond_f g27_10 ?_
          conv => whnf
          refine cond_f g27_10 ?_
          conv => whnf
          refine RStep.of (len_str rfl ?_)
          conv => whnf
          refine cond_f g27_10 ?_
          obtain ⟨h31, e34⟩ := chkb e34
          conv => whnf
          refine int_in h31 ?_
          conv => whnf
          refine cond_f g27_10 ?_
          obtain ⟨x32, l32, k32, e34⟩ := ixb e34
          conv => whnf
          refine idx_str rfl l32 k32 ?_
          conv => whnf
          refine cond_f g27_10 ?_
          conv => whnf
          refine eq_int ?_
          conv => whnf
          refine cond_T ?_
          conv => whnf
          refine cond_f g27_10 ?_
          conv => whnf
          refine cond_T ?_
          conv => whnf
          refine cond_go rfl ?_
          conv => whnf
          refine cond_s (fun w35 => ?_) (fun w35 => ?_)
          · replace hl0 := ift ((si e34).symm.trans w35) hl0
            conv => whnf
            refine cond_T ?_
            conv => whnf
            refine int_in (cntz hx0 hk0) ?_
            conv => whnf
            refine RoundStep.mk (i0 + 1, y0_0) ⟨rfl, rfl, trivial⟩ (by repeat (first | exact trivial | refine And.intro rfl ?_)) (ConvH.of (.cons r0 .nil)) lk0 (ltm hx0) hl0
          · replace hl0 := iff_ ((si e34).symm.trans w35) hl0
            conv => whnf
            refine bsO (len := 1) (enc := eU) (l := ([(32 : UInt8)] : Str)) (cl := [.int .u8 32]) elT87 rfl rfl (fun _ _ => rfl) rfl rfl rfl ?_ fun b38 => ?_
            · conv => whnf
              refine cond_T ?_
              conv => whnf
              first | done | rfl
            conv => whnf
            refine RStep.of (cv_ownE rfl r0 rfl rfl rfl ?_)
            obtain ⟨h40, hl0⟩ := chkb hl0
            conv => whnf
            refine cat_str h40 ?_
            conv => whnf
            refine int_in (cntz hx0 hk0) ?_
            conv => whnf
            refine RoundStep.mk (i0 + 1, (y0_0 ++ ([(32 : UInt8)] : Str))) ⟨rfl, rfl, trivial⟩ (by repeat (first | exact trivial | refine And.intro rfl ?_)) (ConvH.of (.cons r1 .nil)) lk0 (ltm hx0) hl0
      · replace hl0 := iff_ w15 hl0
        conv => whnf
        refine cond_s (fun g18_8 => ?_) (fun g18_8 => ?_)
        · conv => whnf
          refine cond_t g18_8 ?_
          conv => whnf
          refine cond_t g18_8 ?_
          conv => whnf
          refine cond_go rfl ?_
          conv => whnf
          refine cond_T ?_
          replace hl0 := ift (or_t g18_8) hl0
          conv => whnf
          refine eq_int ?_
          conv => whnf
          refine cond_F ?_
          conv => whnf
          refine cond_F ?_
          conv => whnf
          refine cond_F ?_
          conv => whnf
          refine cond_F ?_
          conv => whnf
          refine cond_F ?_
          conv => whnf
          refine cond_go rfl ?_
          conv => whnf
          refine cond_F ?_
          conv => whnf
          refine bsO (len := 1) (enc := eU) (l := ([(63 : UInt8)] : Str)) (cl := [.int .u8 63]) elT87 rfl rfl (fun _ _ => rfl) rfl rfl rfl ?_ fun b38 => ?_
          · conv => whnf
            refine cond_T ?_
            conv => whnf
            first | done | rfl
          conv => whnf
          refine RStep.of (cv_ownE rfl r0 rfl rfl rfl ?_)
          obtain ⟨h40, hl0⟩ := chkb hl0
          conv => whnf
          refine cat_str h40 ?_
          conv => whnf
          refine int_in (cntz hx0 hk0) ?_
          conv => whnf
          refine RoundStep.mk (i0 + 1, (y0_0 ++ ([(63 : UInt8)] : Str))) ⟨rfl, rfl, trivial⟩ (by repeat (first | exact trivial | refine And.intro rfl ?_)) (ConvH.of (.cons r1 .nil)) lk0 (ltm hx0) hl0
        · conv => whnf
          refine cond_f g18_8 ?_
          conv => whnf
          refine eq_int ?_
          conv => whnf
          refine cond_f g18_8 ?_
          conv => whnf
          refine cond_go rfl ?_
          conv => whnf
          refine cond_s (fun w21 => ?_) (fun w21 => ?_)
          · replace hl0 := ift (or_u g18_8 w21) hl0
            conv => whnf
            refine eq_int ?_
            conv => whnf
            refine cond_F ?_
            conv => whnf
            refine cond_F ?_
            conv => whnf
            refine cond_F ?_
            conv => whnf
            refine cond_F ?_
            conv => whnf
            refine cond_F ?_
            conv => whnf
            refine cond_go rfl ?_
            conv => whnf
            refine cond_F ?_
            conv => whnf
            refine bsO (len := 1) (enc := eU) (l := ([(63 : UInt8)] : Str)) (cl := [.int .u8 63]) elT87 rfl rfl (fun _ _ => rfl) rfl rfl rfl ?_ fun b38 => ?_
            · conv => whnf
              refine cond_T ?_
              conv => whnf
              first | done | rfl
            conv => whnf
            refine RStep.of (cv_ownE rfl r0 rfl rfl rfl ?_)
            obtain ⟨h40, hl0⟩ := chkb hl0
            conv => whnf
            refine cat_str h40 ?_
            conv => whnf
            refine int_in (cntz hx0 hk0) ?_
            conv => whnf
            refine RoundStep.mk (i0 + 1, (y0_0 ++ ([(63 : UInt8)] : Str))) ⟨rfl, rfl, trivial⟩ (by repeat (first | exact trivial | refine And.intro rfl ?_)) (ConvH.of (.cons r1 .nil)) lk0 (ltm hx0) hl0
          · replace hl0 := iff_ (or_f g18_8 w21) hl0
            conv => whnf
            refine eq_int ?_
            conv => whnf
            refine cond_s (fun g24_10 => ?_) (fun g24_10 => ?_)
            · replace hl0 := ift g24_10 hl0
              conv => whnf
              refine cond_t g24_10 ?_
              conv => whnf
              refine eq_str ?_
              conv => whnf
              refine cond_t g24_10 ?_
              obtain ⟨x34, e34, hl0⟩ := bnd hl0
              conv => whnf
              refine cond_s (fun g27_10 => ?_) (fun g27_10 => ?_)
              · replace e34 := ift g27_10 e34
                conv => whnf
                refine cond_t g27_10 ?_
                conv => whnf
                refine cond_t g27_10 ?_
                conv => whnf
                refine cond_t g27_10 ?_
                conv => whnf
                refine cond_t g27_10 ?_
                conv => whnf
                refine cond_t g27_10 ?_
                conv => whnf
                refine cond_t g24_10 ?_
                conv => whnf
                refine cond_t g27_10 ?_
                conv => whnf
                refine cond_t g24_10 ?_
                conv => whnf
                refine cond_go rfl ?_
                conv => whnf
                refine cond_T ?_
                replace hl0 := ift (si e34).symm hl0
                conv => whnf
                refine cond_T ?_
                conv => whnf
                refine int_in (cntz hx0 hk0) ?_
                conv => whnf
                refine RoundStep.mk (i0 + 1, y0_0) ⟨rfl, rfl, trivial⟩ (by repeat (first | exact trivial | refine And.intro rfl ?_)) (ConvH.of (.cons r0 .nil)) lk0 (ltm hx0) hl0
              · replace e34 := iff_ g27_10 e34
                conv => whnf
                refine cond_f g27_10 ?_
                conv => whnf
                refine cond_f g27_10 ?_
                conv => whnf
                refine RStep.of (len_str rfl ?_)
                conv => whnf
                refine cond_f g27_10 ?_
                obtain ⟨h31, e34⟩ := chkb e34
                conv => whnf
                refine int_in h31 ?_
                conv => whnf
                refine cond_f g27_10 ?_
                obtain ⟨x32, l32, k32, e34⟩ := ixb e34
                conv => whnf
                refine idx_str rfl l32 k32 ?_
                conv => whnf
                refine cond_f g27_10 ?_
                conv => whnf
                refine eq_int ?_
                conv => whnf
                refine cond_t g24_10 ?_
                conv => whnf
                refine cond_f g27_10 ?_
                conv => whnf
                refine cond_t g24_10 ?_
                conv => whnf
                refine cond_go rfl ?_
                conv => whnf
                refine cond_s (fun w35 => ?_) (fun w35 => ?_)
                · replace hl0 := ift ((si e34).symm.trans w35) hl0
                  conv => whnf
                  refine cond_T ?_
                  conv => whnf
                  refine int_in (cntz hx0 hk0) ?_
                  conv => whnf
                  refine RoundStep.mk (i0 + 1, y0_0) ⟨rfl, rfl, trivial⟩ (by repeat (first | exact trivial | refine And.intro rfl ?_)) (ConvH.of (.cons r0 .nil)) lk0 (ltm hx0) hl0
                · replace hl0 := iff_ ((si e34).symm.trans w35) hl0
                  conv => whnf
                  refine bsO (len := 1) (enc := eU) (l := ([e0] : Str)) (cl := [.int .u8 (e0.toNat : Int)]) elT87 rfl rfl (fun _ _ => rfl) rfl rfl rfl ?_ fun b38 => ?_
                  · conv => whnf
                    refine cond_T ?_
                    conv => whnf
                    first | done | rfl
                  conv => whnf
                  refine RStep.of (cv_ownE rfl r0 rfl rfl rfl ?_)
                  obtain ⟨h40, hl0⟩ := chkb hl0
                  conv => whnf
                  refine cat_str h40 ?_
                  conv => whnf
                  refine int_in (cntz hx0 hk0) ?_
                  conv => whnf
                  refine RoundStep.mk (i0 + 1, (y0_0 ++ ([e0] : Str))) ⟨rfl, rfl, trivial⟩ (by repeat (first | exact trivial | refine And.intro rfl ?_)) (ConvH.of (.cons r1 .nil)) lk0 (ltm hx0) hl0
            · replace hl0 := iff_ g24_10 hl0
              conv => whnf
              refine cond_f g24_10 ?_
              conv => whnf
              refine cond_f g24_10 ?_
              conv => whnf
              refine cond_f g24_10 ?_
              conv => whnf
              refine cond_f g24_10 ?_
              conv => whnf
              refine cond_go rfl ?_
              conv => whnf
              refine cond_F ?_
              conv => whnf
              refine bsO (len := 1) (enc := eU) (l := ([e0] : Str)) (cl := [.int .u8 (e0.toNat : Int)]) elT87 rfl rfl (fun _ _ => rfl) rfl rfl rfl ?_ fun b38 => ?_
              · conv => whnf
                refine cond_T ?_
                conv => whnf
                first | done | rfl
              conv => whnf
              refine RStep.of (cv_ownE rfl r0 rfl rfl rfl ?_)
              obtain ⟨h40, hl0⟩ := chkb hl0
              conv => whnf
              refine cat_str h40 ?_
              conv => whnf
              refine int_in (cntz hx0 hk0) ?_
              conv => whnf
              refine RoundStep.mk (i0 + 1, (y0_0 ++ ([e0] : Str))) ⟨rfl, rfl, trivial⟩ (by repeat (first | exact trivial | refine And.intro rfl ?_)) (ConvH.of (.cons r1 .nil)) lk0 (ltm hx0) hl0
    · rw [lty w0, ref16_normal_L0.eq_1] at hl0
      conv => whnf
      refine cond_T ?_
      conv => whnf
      refine MeetStep.mk (y0_0) ⟨rfl, trivial⟩ (by repeat (first | exact trivial | refine And.intro rfl ?_)) (ConvH.of (.cons r0 .nil)) lk0 (si hl0)
  · rintro t0 Kt0 lt0 rfl j0
    obtain ⟨x43, q43, hm⟩ := bnd hm
    conv => whnf
    refine call_fn (ref01_Trim_ok q43) .nil ?_
    rintro _ K43 _ l43 ⟨rfl, rfl⟩
    obtain rfl := si hm
    conv => whnf
    refine EndStep.mk _ (lt0.trans l43) ⟨rfl, rfl⟩ (ConvH.of (.cons r0 .nil))

noncomputable def ref16_Value_L0 (n : Nat) : List Str → Nat → Str → Option (Str)
  | [], _, y0_0 => some y0_0
  | e0 :: xs0, i0, y0_0 =>
    if decide ((i0 : Int) > 0) then
    (chk (y0_0.length + ([44] : Str).length ≤ lim)).bind fun _ =>
    (ref16_normal n e0).bind fun x26 =>
    (chk ((y0_0 ++ ([44] : Str)).length + x26.length ≤ lim)).bind fun _ =>
    ref16_Value_L0 n xs0 (i0 + 1) ((y0_0 ++ ([44] : Str)) ++ x26)
    else
    (ref16_normal n e0).bind fun x26 =>
    (chk (y0_0.length + x26.length ≤ lim)).bind fun _ =>
    ref16_Value_L0 n xs0 (i0 + 1) (y0_0 ++ x26)
noncomputable def ref16_Value (n : Nat) (f : (List S_ref02_Field)) (name : Str) : Option (Str × Bool) :=
  (ref02_All f name).bind fun x12 =>
  (chk (x12.length ≤ szMax)).bind fun _ =>
  (ref16_Value_L0 n x12 0 ([] : Str)).bind fun t0 =>
  some (t0, decide ((x12.length : Int) > 0))
set_option maxHeartbeats 8000000 in
theorem ref16_Value_ok {n : Nat} {f : (List S_ref02_Field)} {name : Str} {ap0_0 : Option Addr} {cp0_0 : Nat} {n0 : Nat} {K : Hp} {r : Str × Bool}
    (hm : ref16_Value n f name = some r) (hp0_0 : RdC S_ref02_Field.enc K ap0_0 cp0_0 2 f) (en0 : n0 = f.length) :
    Fn Try.prog 17 [.slice ap0_0 n0 cp0_0, str name] K [] (fun v K' H' => v = .tuple #[str r.1, .bool r.2] ∧ H' = []) := by
  subst en0
  refine Fn.enter Try.func17 Try.call17 rfl fun F => ?_
  unfold ref16_Value at hm
  obtain ⟨x12, q12, hm⟩ := bnd hm
  conv => whnf
  refine call_fn (ref02_All_ok q12 hp0_0 rfl) .nil ?_
  rintro _ K12 _ l12 ⟨a12_0, c12_0, rfl, h12_0, rfl⟩
  conv => whnf
  refine RStep.of (len_slice rfl ?_)
  obtain ⟨hk0, hm⟩ := chkb hm
  obtain ⟨s0, hl0, hm⟩ := bnd hm
  conv => whnf
  refine code_cut (σ := (Str)) [7, 8, 9, 15, 16, 17, 18, 19, 20, 21, 22, 23, 24, 25, 26, 27, 28] (fun t0 => [(7, str t0)]) (fun t0 => [OwnL eS a12_0 9 1 c12_0 x12, F]) (fun zz K1 => match zz with | t0 => t0 = s0) ?_ ?_
  · refine block_go rfl ?_
    conv => whnf
    refine loop_rule (σ := Nat × Str) [7, 8, 9, 15, 16, 17, 18, 19, 20, 21, 22, 23, 24, 25, 26, 27, 28] (fun (i0, y0_0) => [(15, .int .i64 (i0 : Int)), (7, str y0_0)]) (fun (i0, y0_0) => [OwnL eS a12_0 9 1 c12_0 x12, F]) (fun zz K1 => match zz with | (i0, y0_0) => ref16_Value_L0 n (x12.drop i0) i0 y0_0 = some s0) (fun zz => x12.length - zz.1) (0, ([] : Str)) rfl ⟨rfl, rfl, trivial⟩ (ConvH.of (.cons r0 (.cons r0 .nil))) hl0 ?_
    clear hl0
    rintro ⟨i0, y0_0⟩ Kb0 lk0 hl0 j0
    conv at hl0 => whnf
    conv => whnf
    refine cond_go rfl ?_
    conv => whnf
    refine cond_s (fun w0 => ?_) (fun w0 => ?_)
    · obtain ⟨e0, hx0, hd0⟩ := ltx w0
      rw [hd0, ref16_Value_L0.eq_2] at hl0
      conv => whnf
      refine block_go rfl ?_
      conv => whnf
      refine RStep.ofN (index_addr rfl rfl (hasO h12_0 hx0) (nn _) (lt_ofNE rfl hx0) ?_)
      conv => whnf
      refine RStep.of (ld_own (i := i0) (o := 0) r0 rfl hx0 rfl rfl ?_)
      conv => whnf
      refine cond_go rfl ?_
      conv => whnf
      refine cond_s (fun w21 => ?_) (fun w21 => ?_)
      · replace hl0 := ift w21 hl0
        obtain ⟨h23, hl0⟩ := chkb hl0
        conv => whnf
        refine cat_str h23 ?_
        obtain ⟨x26, q26, hl0⟩ := bnd hl0
        conv => whnf
        refine call_fn (ref16_normal_ok q26) .nil ?_
        rintro _ K26 _ l26 ⟨rfl, rfl⟩
        obtain ⟨h27, hl0⟩ := chkb hl0
        conv => whnf
        refine cat_str h27 ?_
        conv => whnf
        refine int_in (cntz hx0 hk0) ?_
        conv => whnf
        refine RoundStep.mk (i0 + 1, ((y0_0 ++ ([44] : Str)) ++ x26)) ⟨rfl, rfl, trivial⟩ (by repeat (first | exact trivial | refine And.intro rfl ?_)) (ConvH.of (.cons r0 (.cons r0 .nil))) (lk0.trans l26) (ltm hx0) hl0
      · replace hl0 := iff_ w21 hl0
        obtain ⟨x26, q26, hl0⟩ := bnd hl0
        conv => whnf
        refine call_fn (ref16_normal_ok q26) .nil ?_
        rintro _ K26 _ l26 ⟨rfl, rfl⟩
        obtain ⟨h27, hl0⟩ := chkb hl0
        conv => whnf
        refine cat_str h27 ?_
        conv => whnf
        refine int_in (cntz hx0 hk0) ?_
        conv => whnf
        refine RoundStep.mk (i0 + 1, (y0_0 ++ x26)) ⟨rfl, rfl, trivial⟩ (by repeat (first | exact trivial | refine And.intro rfl ?_)) (ConvH.of (.cons r0 (.cons r0 .nil))) (lk0.trans l26) (ltm hx0) hl0
    · rw [lty w0, ref16_Value_L0.eq_1] at hl0
      conv => whnf
      refine cond_T ?_
      conv => whnf
      refine MeetStep.mk (y0_0) ⟨rfl, trivial⟩ (by repeat (first | exact trivial | refine And.intro rfl ?_)) (ConvH.of (.cons r0 (.cons r0 .nil))) lk0 (si hl0)
  · rintro t0 Kt0 lt0 rfl j0
    conv => whnf
    refine RStep.of (len_slice rfl ?_)
    obtain rfl := si hm
    conv => whnf
    refine EndStep.mk _ (l12.trans lt0) ⟨rfl, rfl⟩ (ConvH.of (.cons r1 .nil))

noncomputable def law16_VaryFinds_L0 (n : Nat) (f : (List S_ref02_Field)) (g : (List S_ref02_Field)) : List Str → Nat → Bool → Option (Bool)
  | [], _, y0_0 => some y0_0
  | e0 :: xs0, i0, y0_0 =>
    (ref16_Value n f e0).bind fun x51 =>
    (ref16_Value n g e0).bind fun x57 =>
    law16_VaryFinds_L0 n f g xs0 (i0 + 1) ((y0_0 && (x51.2 == x57.2)) && decide (x51.1 = x57.1))
noncomputable def law16_VaryFinds (n : Nat) (names : (List Str)) (f : (List S_ref02_Field)) (g : (List S_ref02_Field)) : Option (Bool) :=
  (law16_long names).bind fun x17 =>
  (if x17 then some true else (law16_large [f, g]).bind fun x22 =>
  some x22).bind fun x23 =>
  (if x23 then some true else (law16_awake n).bind fun x25 =>
  some (!x25)).bind fun x27 =>
  if x27 then
  (law16_long names).bind fun x29 =>
  (if x29 then some true else (law16_large [f, g]).bind fun x34 =>
  some x34).bind fun x35 =>
  some x35
  else
  (vary_New).bind fun x36 =>
  (law02_Fields f).bind fun x40 =>
  (vary_Set_Put n x36 names x40 5).bind fun x41 =>
  (chk (names.length ≤ szMax)).bind fun _ =>
  (law16_VaryFinds_L0 n f g names 0 true).bind fun t0 =>
  (law02_Fields g).bind fun x74 =>
  (vary_Set_Find x41.2 x74).bind fun x75 =>
  if t0 then
  (base_Ints x75 [5]).bind fun x79 =>
  some x79
  else
  some (decide ((x75.length : Int) = 0))
set_option maxHeartbeats 8000000 in
theorem law16_VaryFinds_ok {n : Nat} {names : (List Str)} {f : (List S_ref02_Field)} {g : (List S_ref02_Field)} {ap0_0 : Option Addr} {cp0_0 : Nat} {n0 : Nat} {ap1_0 : Option Addr} {cp1_0 : Nat} {n1 : Nat} {ap2_0 : Option Addr} {cp2_0 : Nat} {n2 : Nat} {K : Hp} {r : Bool}
    (hm : law16_VaryFinds n names f g = some r) (hp0_0 : RdC eS K ap0_0 cp0_0 1 names) (en0 : n0 = names.length) (hp1_0 : RdC S_ref02_Field.enc K ap1_0 cp1_0 2 f) (en1 : n1 = f.length) (hp2_0 : RdC S_ref02_Field.enc K ap2_0 cp2_0 2 g) (en2 : n2 = g.length) :
    Fn Try.prog 4 [.slice ap0_0 n0 cp0_0, .slice ap1_0 n1 cp1_0, .slice ap2_0 n2 cp2_0] K [] (fun v K' H' => v = .bool r ∧ H' = []) := by
  subst en0
  subst en1
  subst en2
  refine Fn.enter Try.func4 Try.call4 rfl fun F => ?_
  unfold law16_VaryFinds at hm
  obtain ⟨x17, q17, hm⟩ := bnd hm
  conv => whnf
  refine call_fn (law16_long_ok q17 hp0_0 rfl) .nil ?_
  rintro _ K17 _ l17 ⟨rfl, rfl⟩
  obtain ⟨x23, e23, hm⟩ := bnd hm
  conv => whnf
  refine cond_s (fun g18_1 => ?_) (fun g18_1 => ?_)
  · replace e23 := ift g18_1 e23
    conv => whnf
    refine cond_t g18_1 ?_
    conv => whnf
    refine cond_t g18_1 ?_
    conv => whnf
    refine cond_t g18_1 ?_
    conv => whnf
    refine cond_t g18_1 ?_
    obtain ⟨x27, e27, hm⟩ := bnd hm
    replace e27 := ift (si e23).symm e27
    conv => whnf
    refine cond_T ?_
    conv => whnf
    refine cond_T ?_
    conv => whnf
    refine cond_T ?_
    conv => whnf
    refine cond_go rfl ?_
    conv => whnf
    refine cond_T ?_
    replace hm := ift (si e27).symm hm
    obtain ⟨x29, q29, hm⟩ := bnd hm
    conv => whnf
    refine call_fn (law16_long_ok q29 (hp0_0.mono l17) rfl) .nil ?_
    rintro _ K29 _ l29 ⟨rfl, rfl⟩
    obtain ⟨x35, e35, hm⟩ := bnd hm
    conv => whnf
    refine cond_s (fun g30_2 => ?_) (fun g30_2 => ?_)
    · replace e35 := ift g30_2 e35
      conv => whnf
      refine cond_t g30_2 ?_
      conv => whnf
      refine cond_t g30_2 ?_
      conv => whnf
      refine cond_t g30_2 ?_
      conv => whnf
      refine cond_t g30_2 ?_
      obtain rfl := si hm
      conv => whnf
      refine EndStep.mk _ (l17.trans l29) ⟨(by rw [← ((si e35).symm).symm] <;> rfl), rfl⟩ (ConvH.of (.cons r0 .nil))
    · replace e35 := iff_ g30_2 e35
      conv => whnf
      refine cond_f g30_2 ?_
      conv => whnf
      refine cond_f g30_2 ?_
      conv => whnf
      refine bsOR (len := 2) (l := [f, g]) (css := [[.slice ap1_0 f.length cp1_0], [.slice ap2_0 g.length cp2_0]]) (cl := [.slice ap1_0 f.length cp1_0, .slice ap2_0 g.length cp2_0]) sliL_ok elT64 rfl rfl (LR.snoc (LR.snoc LR.nil ⟨ap1_0, cp1_0, rfl, (hp1_0.mono (l17.trans l29))⟩) ⟨ap2_0, cp2_0, rfl, (hp2_0.mono (l17.trans l29))⟩) rfl rfl rfl ?_ fun b33 => ?_
      · conv => whnf
        refine cond_T ?_
        conv => whnf
        refine cond_T ?_
        conv => whnf
        first | done | rfl
      conv => whnf
      refine cond_f g30_2 ?_
      obtain ⟨x34, q34, e35⟩ := bnd e35
      conv => whnf
      refine call_fn (Fn.lendR sliL_ok (show LR (sliL S_ref02_Field.enc 2) _ [[.slice ap1_0 f.length cp1_0], [.slice ap2_0 g.length cp2_0]] [f, g] from (LR.snoc (LR.snoc LR.nil ⟨ap1_0, cp1_0, rfl, (hp1_0.mono (l17.trans l29))⟩) ⟨ap2_0, cp2_0, rfl, (hp2_0.mono (l17.trans l29))⟩)) Try.call10 (fun K34_0 l34_0 f34_0 => (law16_large_ok q34 f34_0 rfl)) (by exact fun _ _ _ _ h => h)) (.cons r0 .nil) ?_
      rintro _ K34 _ l34 ⟨_, rfl, rfl, rfl⟩
      conv => whnf
      refine cond_f g30_2 ?_
      obtain rfl := si hm
      conv => whnf
      refine EndStep.mk _ ((l17.trans l29).trans l34) ⟨(by rw [← (si e35)] <;> rfl), rfl⟩ (ConvH.of (.cons r1 .nil))
  · replace e23 := iff_ g18_1 e23
    conv => whnf
    refine cond_f g18_1 ?_
    conv => whnf
    refine cond_f g18_1 ?_
    conv => whnf
    refine bsOR (len := 2) (l := [f, g]) (css := [[.slice ap1_0 f.length cp1_0], [.slice ap2_0 g.length cp2_0]]) (cl := [.slice ap1_0 f.length cp1_0, .slice ap2_0 g.length cp2_0]) sliL_ok elT64 rfl rfl (LR.snoc (LR.snoc LR.nil ⟨ap1_0, cp1_0, rfl, (hp1_0.mono l17)⟩) ⟨ap2_0, cp2_0, rfl, (hp2_0.mono l17)⟩) rfl rfl rfl ?_ fun b21 => ?_
    · conv => whnf
      refine cond_T ?_
      conv => whnf
      refine cond_T ?_
      conv => whnf
      first | done | rfl
    conv => whnf
    refine cond_f g18_1 ?_
    obtain ⟨x22, q22, e23⟩ := bnd e23
    conv => whnf
    refine call_fn (Fn.lendR sliL_ok (show LR (sliL S_ref02_Field.enc 2) _ [[.slice ap1_0 f.length cp1_0], [.slice ap2_0 g.length cp2_0]] [f, g] from (LR.snoc (LR.snoc LR.nil ⟨ap1_0, cp1_0, rfl, (hp1_0.mono l17)⟩) ⟨ap2_0, cp2_0, rfl, (hp2_0.mono l17)⟩)) Try.call10 (fun K22_0 l22_0 f22_0 => (law16_large_ok q22 f22_0 rfl)) (by exact fun _ _ _ _ h => h)) (.cons r0 .nil) ?_
    rintro _ K22 _ l22 ⟨_, rfl, rfl, rfl⟩
    conv => whnf
    refine cond_f g18_1 ?_
    obtain ⟨x27, e27, hm⟩ := bnd hm
    conv => whnf
    refine cond_s (fun g24_1 => ?_) (fun g24_1 => ?_)
    · replace e27 := ift ((si e23).symm.trans g24_1) e27
      conv => whnf
      refine cond_t g24_1 ?_
      conv => whnf
      refine cond_t g24_1 ?_
      conv => whnf
      refine cond_go rfl ?_
      conv => whnf
      refine cond_T ?_
      replace hm := ift (si e27).symm hm
      obtain ⟨x29, q29, hm⟩ := bnd hm
      conv => whnf
      refine call_fn (law16_long_ok q29 (hp0_0.mono (l17.trans l22)) rfl) .nil ?_
      rintro _ K29 _ l29 ⟨rfl, rfl⟩
      obtain ⟨x35, e35, hm⟩ := bnd hm
      conv => whnf
      refine cond_s (fun g30_2 => ?_) (fun g30_2 => ?_)
      · replace e35 := ift g30_2 e35
        conv => whnf
        refine cond_t g30_2 ?_
        conv => whnf
        refine cond_t g30_2 ?_
        conv => whnf
        refine cond_t g30_2 ?_
        conv => whnf
        refine cond_t g30_2 ?_
        obtain rfl := si hm
        conv => whnf
        refine EndStep.mk _ ((l17.trans l22).trans l29) ⟨(by rw [← ((si e35).symm).symm] <;> rfl), rfl⟩ (ConvH.of (.cons r1 .nil))
      · replace e35 := iff_ g30_2 e35
        conv => whnf
        refine cond_f g30_2 ?_
        conv => whnf
        refine cond_f g30_2 ?_
        conv => whnf
        refine bsOR (len := 2) (l := [f, g]) (css := [[.slice ap1_0 f.length cp1_0], [.slice ap2_0 g.length cp2_0]]) (cl := [.slice ap1_0 f.length cp1_0, .slice ap2_0 g.length cp2_0]) sliL_ok elT64 rfl rfl (LR.snoc (LR.snoc LR.nil ⟨ap1_0, cp1_0, rfl, (hp1_0.mono ((l17.trans l22).trans l29))⟩) ⟨ap2_0, cp2_0, rfl, (hp2_0.mono ((l17.trans l22).trans l29))⟩) rfl rfl rfl ?_ fun b33 => ?_
        · conv => whnf
          refine cond_T ?_
          conv => whnf
          refine cond_T ?_
          conv => whnf
          first | done | rfl
        conv => whnf
        refine cond_f g30_2 ?_
        obtain ⟨x34, q34, e35⟩ := bnd e35
        conv => whnf
        refine call_fn (Fn.lendR sliL_ok (show LR (sliL S_ref02_Field.enc 2) _ [[.slice ap1_0 f.length cp1_0], [.slice ap2_0 g.length cp2_0]] [f, g] from (LR.snoc (LR.snoc LR.nil ⟨ap1_0, cp1_0, rfl, (hp1_0.mono ((l17.trans l22).trans l29))⟩) ⟨ap2_0, cp2_0, rfl, (hp2_0.mono ((l17.trans l22).trans l29))⟩)) Try.call10 (fun K34_0 l34_0 f34_0 => (law16_large_ok q34 f34_0 rfl)) (by exact fun _ _ _ _ h => h)) (.cons r0 .nil) ?_
        rintro _ K34 _ l34 ⟨_, rfl, rfl, rfl⟩
        conv => whnf
        refine cond_f g30_2 ?_
        obtain rfl := si hm
        conv => whnf
        refine EndStep.mk _ (((l17.trans l22).trans l29).trans l34) ⟨(by rw [← (si e35)] <;> rfl), rfl⟩ (ConvH.of (.cons r2 .nil))
    · replace e27 := iff_ ((si e23).symm.trans g24_1) e27
      obtain ⟨x25, q25, e27⟩ := bnd e27
      conv => whnf
      refine call_fn (law16_awake_ok q25) .nil ?_
      rintro _ K25 _ l25 ⟨rfl, rfl⟩
      conv => whnf
      refine cond_f g24_1 ?_
      conv => whnf
      refine un_not ?_
      conv => whnf
      refine cond_f g24_1 ?_
      conv => whnf
      refine cond_go rfl ?_
      conv => whnf
      refine cond_s (fun w27 => ?_) (fun w27 => ?_)
      · replace hm := ift ((si e27).symm.trans (not_t (ni_t w27))) hm
        obtain ⟨x29, q29, hm⟩ := bnd hm
        conv => whnf
        refine call_fn (law16_long_ok q29 (hp0_0.mono ((l17.trans l22).trans l25)) rfl) .nil ?_
        rintro _ K29 _ l29 ⟨rfl, rfl⟩
        obtain ⟨x35, e35, hm⟩ := bnd hm
        conv => whnf
        refine cond_s (fun g30_2 => ?_) (fun g30_2 => ?_)
        · replace e35 := ift g30_2 e35
          conv => whnf
          refine cond_t g30_2 ?_
          conv => whnf
          refine cond_t g30_2 ?_
          conv => whnf
          refine cond_t g30_2 ?_
          conv => whnf
          refine cond_t g30_2 ?_
          obtain rfl := si hm
          conv => whnf
          refine EndStep.mk _ (((l17.trans l22).trans l25).trans l29) ⟨(by rw [← ((si e35).symm).symm] <;> rfl), rfl⟩ (ConvH.of (.cons r1 .nil))
        · replace e35 := iff_ g30_2 e35
          conv => whnf
          refine cond_f g30_2 ?_
          conv => whnf
          refine cond_f g30_2 ?_
          conv => whnf
          refine bsOR (len := 2) (l := [f, g]) (css := [[.slice ap1_0 f.length cp1_0], [.slice ap2_0 g.length cp2_0]]) (cl := [.slice ap1_0 f.length cp1_0, .slice ap2_0 g.length cp2_0]) sliL_ok elT64 rfl rfl (LR.snoc (LR.snoc LR.nil ⟨ap1_0, cp1_0, rfl, (hp1_0.mono (((l17.trans l22).trans l25).trans l29))⟩) ⟨ap2_0, cp2_0, rfl, (hp2_0.mono (((l17.trans l22).trans l25).trans l29))⟩) rfl rfl rfl ?_ fun b33 => ?_
          · conv => whnf
            refine cond_T ?_
            conv => whnf
            refine cond_T ?_
            conv => whnf
            first | done | rfl
          conv => whnf
          refine cond_f g30_2 ?_
          obtain ⟨x34, q34, e35⟩ := bnd e35
          conv => whnf
          refine call_fn (Fn.lendR sliL_ok (show LR (sliL S_ref02_Field.enc 2) _ [[.slice ap1_0 f.length cp1_0], [.slice ap2_0 g.length cp2_0]] [f, g] from (LR.snoc (LR.snoc LR.nil ⟨ap1_0, cp1_0, rfl, (hp1_0.mono (((l17.trans l22).trans l25).trans l29))⟩) ⟨ap2_0, cp2_0, rfl, (hp2_0.mono (((l17.trans l22).trans l25).trans l29))⟩)) Try.call10 (fun K34_0 l34_0 f34_0 => (law16_large_ok q34 f34_0 rfl)) (by exact fun _ _ _ _ h => h)) (.cons r0 .nil) ?_
          rintro _ K34 _ l34 ⟨_, rfl, rfl, rfl⟩
          conv => whnf
          refine cond_f g30_2 ?_
          obtain rfl := si hm
          conv => whnf
          refine EndStep.mk _ ((((l17.trans l22).trans l25).trans l29).trans l34) ⟨(by rw [← (si e35)] <;> rfl), rfl⟩ (ConvH.of (.cons r2 .nil))
      · replace hm := iff_ ((si e27).symm.trans (not_f (ni_f w27))) hm
        obtain ⟨x36, q36, hm⟩ := bnd hm
        conv => whnf
        refine call_fn (vary_New_ok q36) .nil ?_
        rintro _ K36 _ l36 ⟨b36_0, a36_1, c36_1, s36_1, rfl, h36_1, r36_1, rfl⟩
        obtain ⟨x40, q40, hm⟩ := bnd hm
        conv => whnf
        refine call_fn (law02_Fields_ok q40 (hp1_0.mono (((l17.trans l22).trans l25).trans l36)) rfl) .nil ?_
        rintro _ K40 _ l40 ⟨a40_0, c40_0, rfl, h40_0, rfl⟩
        obtain ⟨x41, q41, hm⟩ := bnd hm
        conv => whnf
        refine fF Try.call16 r0 fun K41_2 l41_2 f41_2 => ?_
        refine call_fn (vary_Set_Put_ok q41 h36_1 (LR.mono S_vary_variant.R_ok (l40.trans l41_2) r36_1) (hp0_0.mono (((((l17.trans l22).trans l25).trans l36).trans l40).trans l41_2)) rfl f41_2 rfl) (.cons r0 (.cons r0 .nil)) ?_
        rintro _ K41 _ l41 ⟨a41_0, c41_0, a41_1, c41_1, s41_1, rfl, h41_0, h41_1, r41_1, rfl⟩
        conv => whnf
        refine RStep.of (len_slice rfl ?_)
        obtain ⟨hk0, hm⟩ := chkb hm
        obtain ⟨s0, hl0, hm⟩ := bnd hm
        conv => whnf
        refine code_cut (σ := (Bool)) [8, 10, 11, 12, 13, 14, 44, 45, 46, 47, 48, 49, 50, 51, 52, 53, 54, 55, 56, 57, 58, 59, 60, 61, 62, 63, 64, 65, 66, 67, 68, 69, 70, 71] (fun t0 => [(8, .bool t0)]) (fun t0 => [OwnL eN a41_0 3 1 c41_0 x41.1, Cells b36_0 75 [.slice a41_1 x41.2.list.length c41_1], OwnA a41_1 78 3 c41_1 s41_1, OwnA (some ⟨b21, 0, none⟩) 23 1 2 ([[.slice ap1_0 f.length cp1_0], [.slice ap2_0 g.length cp2_0]]), F]) (fun zz K1 => match zz with | t0 => t0 = s0) ?_ ?_
        · refine block_go rfl ?_
          conv => whnf
          refine loop_rule (σ := Nat × Bool) [8, 10, 11, 12, 13, 14, 44, 45, 46, 47, 48, 49, 50, 51, 52, 53, 54, 55, 56, 57, 58, 59, 60, 61, 62, 63, 64, 65, 66, 67, 68, 69, 70, 71] (fun (i0, y0_0) => [(44, .int .i64 (i0 : Int)), (8, .bool y0_0)]) (fun (i0, y0_0) => [OwnL eN a41_0 3 1 c41_0 x41.1, Cells b36_0 75 [.slice a41_1 x41.2.list.length c41_1], OwnA a41_1 78 3 c41_1 s41_1, OwnA (some ⟨b21, 0, none⟩) 23 1 2 ([[.slice ap1_0 f.length cp1_0], [.slice ap2_0 g.length cp2_0]]), F]) (fun zz K1 => match zz with | (i0, y0_0) => law16_VaryFinds_L0 n f g (names.drop i0) i0 y0_0 = some s0) (fun zz => names.length - zz.1) (0, true) rfl ⟨rfl, rfl, trivial⟩ (ConvH.of (.cons r0 (.cons r0 (.cons r0 (.cons r0 (.cons r0 .nil)))))) hl0 ?_
          clear hl0
          rintro ⟨i0, y0_0⟩ Kb0 lk0 hl0 j0
          conv at hl0 => whnf
          conv => whnf
          refine cond_go rfl ?_
          conv => whnf
          refine cond_s (fun w0 => ?_) (fun w0 => ?_)
          · obtain ⟨e0, hx0, hd0⟩ := ltx w0
            rw [hd0, law16_VaryFinds_L0.eq_2] at hl0
            conv => whnf
            refine block_go rfl ?_
            conv => whnf
            refine RStep.ofN (index_addr rfl rfl (hasK (hp0_0.mono (((((((l17.trans l22).trans l25).trans l36).trans l40).trans l41_2).trans l41).trans lk0)).rd hx0) (nn _) (lt_ofN hx0) ?_)
            conv => whnf
            refine RStep.of (load_rd i0 0 _ _ (hp0_0.mono (((((((l17.trans l22).trans l25).trans l36).trans l40).trans l41_2).trans l41).trans lk0)).rd rfl (mp hx0) rfl rfl ?_)
            obtain ⟨x51, q51, hl0⟩ := bnd hl0
            conv => whnf
            refine call_fn (ref16_Value_ok q51 (hp1_0.mono (((((((l17.trans l22).trans l25).trans l36).trans l40).trans l41_2).trans l41).trans lk0)) rfl) .nil ?_
            rintro _ K51 _ l51 ⟨rfl, rfl⟩
            obtain ⟨x57, q57, hl0⟩ := bnd hl0
            conv => whnf
            refine call_fn (ref16_Value_ok q57 (hp2_0.mono ((((((((l17.trans l22).trans l25).trans l36).trans l40).trans l41_2).trans l41).trans lk0).trans l51)) rfl) .nil ?_
            rintro _ K57 _ l57 ⟨rfl, rfl⟩
            conv => whnf
            refine cond_s (fun g61_11 => ?_) (fun g61_11 => ?_)
            · conv => whnf
              refine cond_t g61_11 ?_
              conv => whnf
              refine cond_t g61_11 ?_
              conv => whnf
              refine eq_bool rfl ?_
              conv => whnf
              refine cond_t g61_11 ?_
              conv => whnf
              refine cond_s (fun g66_11 => ?_) (fun g66_11 => ?_)
              · conv => whnf
                refine cond_t g66_11 ?_
                conv => whnf
                refine cond_t g66_11 ?_
                conv => whnf
                refine eq_str ?_
                conv => whnf
                refine cond_t g66_11 ?_
                conv => whnf
                refine int_in (cntz hx0 hk0) ?_
                conv => whnf
                refine RoundStep.mk (i0 + 1, ((y0_0 && (x51.2 == x57.2)) && decide (x51.1 = x57.1))) ⟨rfl, (by rw [← (and_e (b := decide (x51.1 = x57.1)) (and_t g61_11 g66_11))] <;> rfl), trivial⟩ (by repeat (first | exact trivial | refine And.intro rfl ?_)) (ConvH.of (.cons r0 (.cons r0 (.cons r0 (.cons r0 (.cons r0 .nil)))))) ((lk0.trans l51).trans l57) (ltm hx0) hl0
              · conv => whnf
                refine cond_f g66_11 ?_
                conv => whnf
                refine cond_f g66_11 ?_
                conv => whnf
                refine cond_f g66_11 ?_
                conv => whnf
                refine int_in (cntz hx0 hk0) ?_
                conv => whnf
                refine RoundStep.mk (i0 + 1, _) ⟨rfl, (by rw [← ((and_f (and_g g61_11 g66_11))).symm] <;> rfl), trivial⟩ (by repeat (first | exact trivial | refine And.intro rfl ?_)) (ConvH.of (.cons r0 (.cons r0 (.cons r0 (.cons r0 (.cons r0 .nil)))))) ((lk0.trans l51).trans l57) (ltm hx0) hl0
            · conv => whnf
              refine cond_f g61_11 ?_
              conv => whnf
              refine cond_f g61_11 ?_
              conv => whnf
              refine cond_f g61_11 ?_
              conv => whnf
              refine cond_F ?_
              conv => whnf
              refine cond_F ?_
              conv => whnf
              refine cond_F ?_
              conv => whnf
              refine cond_F ?_
              conv => whnf
              refine int_in (cntz hx0 hk0) ?_
              conv => whnf
              refine RoundStep.mk (i0 + 1, _) ⟨rfl, (by rw [← ((and_f (and_f g61_11))).symm] <;> rfl), trivial⟩ (by repeat (first | exact trivial | refine And.intro rfl ?_)) (ConvH.of (.cons r0 (.cons r0 (.cons r0 (.cons r0 (.cons r0 .nil)))))) ((lk0.trans l51).trans l57) (ltm hx0) hl0
          · rw [lty w0, law16_VaryFinds_L0.eq_1] at hl0
            conv => whnf
            refine cond_T ?_
            conv => whnf
            refine MeetStep.mk (y0_0) ⟨rfl, trivial⟩ (by repeat (first | exact trivial | refine And.intro rfl ?_)) (ConvH.of (.cons r0 (.cons r0 (.cons r0 (.cons r0 (.cons r0 .nil)))))) lk0 (si hl0)
        · rintro t0 Kt0 lt0 rfl j0
          obtain ⟨x74, q74, hm⟩ := bnd hm
          conv => whnf
          refine call_fn (law02_Fields_ok q74 (hp2_0.mono (((((((l17.trans l22).trans l25).trans l36).trans l40).trans l41_2).trans l41).trans lt0)) rfl) .nil ?_
          rintro _ K74 _ l74 ⟨a74_0, c74_0, rfl, h74_0, rfl⟩
          obtain ⟨x75, q75, hm⟩ := bnd hm
          conv => whnf
          refine call_fn (Fn.lend Try.call18 (fun K75_1 l75_1 f75_1 => (vary_Set_Find_ok q75 h41_1 (LR.mono S_vary_variant.R_ok ((lt0.trans l74).trans l75_1) r41_1) f75_1 rfl)) (by exact fun _ _ _ _ h => h)) (.cons r0 (.cons r1 (.cons r1 .nil))) ?_
          rintro _ K75 _ l75 ⟨_, rfl, a75_0, c75_0, rfl, h75_0, rfl⟩
          conv => whnf
          refine cond_go rfl ?_
          conv => whnf
          refine cond_s (fun w76 => ?_) (fun w76 => ?_)
          · replace hm := ift w76 hm
            conv => whnf
            refine bsO (len := 1) (enc := eN) (l := [5]) (cl := [.int .i64 5]) elT35 rfl rfl (fun _ _ => rfl) rfl rfl rfl ?_ fun b78 => ?_
            · conv => whnf
              refine cond_T ?_
              conv => whnf
              first | done | rfl
            obtain ⟨x79, q79, hm⟩ := bnd hm
            conv => whnf
            refine call_fn (Fn.lend Try.call19 (fun K79_0 l79_0 f79_0 => (Fn.lend Try.call19 (fun K79_1 l79_1 f79_1 => (base_Ints_ok q79 (f79_0.mono l79_1) rfl f79_1 rfl)) (by exact fun _ _ _ _ h => h))) (by exact fun _ _ _ _ h => h)) (.cons r2 (.cons r0 .nil)) ?_
            rintro _ K79 _ l79 ⟨_, rfl, _, rfl, rfl, rfl⟩
            obtain rfl := si hm
            conv => whnf
            refine EndStep.mk _ ((((((((((l17.trans l22).trans l25).trans l36).trans l40).trans l41_2).trans l41).trans lt0).trans l74).trans l75).trans l79) ⟨rfl, rfl⟩ (ConvH.of (.cons r7 .nil))
          · replace hm := iff_ w76 hm
            conv => whnf
            refine RStep.of (len_slice rfl ?_)
            conv => whnf
            refine eq_int ?_
            obtain rfl := si hm
            conv => whnf
            refine EndStep.mk _ (((((((((l17.trans l22).trans l25).trans l36).trans l40).trans l41_2).trans l41).trans lt0).trans l74).trans l75) ⟨rfl, rfl⟩ (ConvH.of (.cons r6 .nil))
