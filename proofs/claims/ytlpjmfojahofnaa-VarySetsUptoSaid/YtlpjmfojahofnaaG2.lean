/- Functions of the program: mirrors, and that a call returns what the mirror says. Printed by gen.py. -/
import Derived.Test.YtlpjmfojahofnaaG1
set_option linter.unusedVariables false
set_option linter.unusedSimpArgs false
open Go Go.SL Go.Proofs
set_option maxRecDepth 1000000
noncomputable def ref16_normal_L0 : List UInt8 → Nat → Str → Option (Str)
  | [], _, y0_0 => some y0_0
  | e0 :: xs0, i0, y0_0 =>
    if decide ((e0.toNat : Int) = 9) then
    (if decide (y0_0 = ([] : Str)) then some true else (chk (InI ((y0_0.length : Int) - 1))).bind fun _ =>
    (ix y0_0 ((y0_0.length : Int) - 1)).bind fun x32 =>
    some (decide ((x32.toNat : Int) = 32))).bind fun x34 =>
    if x34 then
    ref16_normal_L0 xs0 (i0 + 1) y0_0
    else
    (chk (y0_0.length + ([(32 : UInt8)] : Str).length ≤ lim)).bind fun _ =>
    ref16_normal_L0 xs0 (i0 + 1) (y0_0 ++ ([(32 : UInt8)] : Str))
    else
    if (decide ((e0.toNat : Int) < 32) || decide ((e0.toNat : Int) = 127)) then
    (chk (y0_0.length + ([(63 : UInt8)] : Str).length ≤ lim)).bind fun _ =>
    ref16_normal_L0 xs0 (i0 + 1) (y0_0 ++ ([(63 : UInt8)] : Str))
    else
    if decide ((e0.toNat : Int) = 32) then
    (if decide (y0_0 = ([] : Str)) then some true else (chk (InI ((y0_0.length : Int) - 1))).bind fun _ =>
    (ix y0_0 ((y0_0.length : Int) - 1)).bind fun x32 =>
    some (decide ((x32.toNat : Int) = 32))).bind fun x34 =>
    if x34 then
    ref16_normal_L0 xs0 (i0 + 1) y0_0
    else
    (chk (y0_0.length + ([e0] : Str).length ≤ lim)).bind fun _ =>
    ref16_normal_L0 xs0 (i0 + 1) (y0_0 ++ ([e0] : Str))
    else
    (chk (y0_0.length + ([e0] : Str).length ≤ lim)).bind fun _ =>
    ref16_normal_L0 xs0 (i0 + 1) (y0_0 ++ ([e0] : Str))
noncomputable def ref16_normal (n : Nat) (s : Str) : Option (Str) :=
  (chk (s.length ≤ szMax)).bind fun _ =>
  (ref16_normal_L0 s 0 ([] : Str)).bind fun t0 =>
  (ref01_Trim n t0).bind fun x43 =>
  some x43
set_option maxHeartbeats 8000000 in
theorem ref16_normal_ok {n : Nat} {s : Str} {K : Hp} {r : Str}
    (hm : ref16_normal n s = some r)  :
    Fn Try.prog 37 [str s] K [] (fun v K' H' => v = str r ∧ H' = []) := by
  refine Fn.enter Try.func37 Try.call37 rfl fun F => ?_
  unfold ref16_normal at hm
  conv => whnf
  refine RStep.of (len_str rfl ?_)
  obtain ⟨hk0, hm⟩ := chkb hm
  obtain ⟨s0, hl0, hm⟩ := bnd hm
  conv => whnf
  refine code_cut (σ := (Str)) [3, 4, 5, 8, 9, 10, 11, 12, 13, 14, 15, 16, 17, 18, 19, 20, 21, 22, 23, 24, 25, 26, 27, 28, 29, 30, 31, 32, 33, 34, 35, 36, 37, 38, 39, 40, 41] (fun t0 => [(3, str t0)]) (fun t0 => [F]) (fun zz K1 => match zz with | t0 => t0 = s0) ?_ ?_
  · refine block_go rfl ?_
    conv => whnf
    refine loop_rule (σ := Nat × Str) [3, 4, 5, 8, 9, 10, 11, 12, 13, 14, 15, 16, 17, 18, 19, 20, 21, 22, 23, 24, 25, 26, 27, 28, 29, 30, 31, 32, 33, 34, 35, 36, 37, 38, 39, 40, 41] (fun (i0, y0_0) => [(8, .int .i64 (i0 : Int)), (3, str y0_0)]) (fun (i0, y0_0) => [F]) (fun zz K1 => match zz with | (i0, y0_0) => ref16_normal_L0 (s.drop i0) i0 y0_0 = some s0) (fun zz => s.length - zz.1) (0, ([] : Str)) rfl ⟨rfl, rfl, trivial⟩ (ConvH.of (.cons r0 .nil)) hl0 ?_
    clear hl0
    rintro ⟨i0, y0_0⟩ Kb0 lk0 hl0 j0
    conv at hl0 => whnf
    conv => whnf
    refine cond_go rfl ?_
    conv => whnf
    refine cond_s (fun w0 => ?_) (fun w0 => ?_)
    · obtain ⟨e0, hx0, hd0⟩ := ltx w0
      rw [hd0, ref16_normal_L0.eq_2] at hl0
      conv => whnf
      refine block_go rfl ?_
      conv => whnf
      refine idx_str rfl (nn _) hx0 ?_
      conv => whnf
      refine eq_int ?_
      conv => whnf
      refine cond_go rfl ?_
      conv => whnf
      refine cond_s (fun w15 => ?_) (fun w15 => ?_)
      · replace hl0 := ift w15 hl0
        conv => whnf
        refine cond_F ?_
        conv => whnf
        refine cond_F ?_
        conv => whnf
        refine eq_int ?_
        conv => whnf
        refine cond_F ?_
        conv => whnf
        refine cond_go rfl ?_
        conv => whnf
        refine cond_F ?_
        conv => whnf
        refine eq_int ?_
        conv => whnf
        refine cond_T ?_
        conv => whnf
        refine cond_T ?_
        conv => whnf
        refine eq_str ?_
        conv => whnf
        refine cond_T ?_
        obtain ⟨x34, e34, hl0⟩ := bnd hl0
        conv => whnf
        refine cond_s (fun g27_10 => ?_) (fun g27_10 => ?_)
        · replace e34 := ift g27_10 e34
          conv => whnf
          refine cond_t g27_10 ?_
          conv => whnf
          refine cond_t g27_10 ?_
          conv => whnf
          refine cond_t g27_10 ?_
          conv => whnf
          refine cond_t g27_10 ?_
          conv => whnf
          refine cond_t g27_10 ?_
          conv => whnf
          refine cond_T ?_
          conv => whnf
          refine cond_t g27_10 ?_
          conv => whnf
          refine cond_T ?_
          conv => whnf
          refine cond_go rfl ?_
          conv => whnf
          refine cond_T ?_
          replace hl0 := ift (si e34).symm hl0
          conv => whnf
          refine cond_T ?_
          conv => whnf
          refine int_in (cntz hx0 hk0) ?_
          conv => whnf
          refine RoundStep.mk (i0 + 1, y0_0) ⟨rfl, rfl, trivial⟩ (by repeat (first | exact trivial | refine And.intro rfl ?_)) (ConvH.of (.cons r0 .nil)) lk0 (ltm hx0) hl0
        · replace e34 := iff_ g27_10 e34
          conv => whnf
          refine cond_f g27_10 ?_
          conv => whnf
          refine cond_f g27_10 ?_
          conv => whnf
          refine RStep.of (len_str rfl ?_)
          conv => whnf
          refine cond_f g27_10 ?_
          obtain ⟨h31, e34⟩ := chkb e34
          conv => whnf
          refine int_in h31 ?_
          conv => whnf
          refine cond_f g27_10 ?_
          obtain ⟨x32, l32, k32, e34⟩ := ixb e34
          conv => whnf
          refine idx_str rfl l32 k32 ?_
          conv => whnf
          refine cond_f g27_10 ?_
          conv => whnf
          refine eq_int ?_
          conv => whnf
          refine cond_T ?_
          conv => whnf
          refine cond_f g27_10 ?_
          conv => whnf
          refine cond_T ?_
          conv => whnf
          refine cond_go rfl ?_
          conv => whnf
          refine cond_s (fun w35 => ?_) (fun w35 => ?_)
          · replace hl0 := ift ((si e34).symm.trans w35) hl0
            conv => whnf
            refine cond_T ?_
            conv => whnf
            refine int_in (cntz hx0 hk0) ?_
            conv => whnf
            refine RoundStep.mk (i0 + 1, y0_0) ⟨rfl, rfl, trivial⟩ (by repeat (first | exact trivial | refine And.intro rfl ?_)) (ConvH.of (.cons r0 .nil)) lk0 (ltm hx0) hl0
          · replace hl0 := iff_ ((si e34).symm.trans w35) hl0
            conv => whnf
            refine bsO (len := 1) (enc := eU) (l := ([(32 : UInt8)] : Str)) (cl := [.int .u8 32]) elT87 rfl rfl (fun _ _ => rfl) rfl rfl rfl ?_ fun b38 => ?_
            · conv => whnf
              refine cond_T ?_
              conv => whnf
              first | done | rfl
            conv => whnf
            refine RStep.of (cv_ownE rfl r0 rfl rfl rfl ?_)
            obtain ⟨h40, hl0⟩ := chkb hl0
            conv => whnf
            refine cat_str h40 ?_
            conv => whnf
            refine int_in (cntz hx0 hk0) ?_
            conv => whnf
            refine RoundStep.mk (i0 + 1, (y0_0 ++ ([(32 : UInt8)] : Str))) ⟨rfl, rfl, trivial⟩ (by repeat (first | exact trivial | refine And.intro rfl ?_)) (ConvH.of (.cons r1 .nil)) lk0 (ltm hx0) hl0
      · replace hl0 := iff_ w15 hl0
        conv => whnf
        refine cond_s (fun g18_8 => ?_) (fun g18_8 => ?_)
        · conv => whnf
          refine cond_t g18_8 ?_
          conv => whnf
          refine cond_t g18_8 ?_
          conv => whnf
          refine cond_go rfl ?_
          conv => whnf
          refine cond_T ?_
          replace hl0 := ift (or_t g18_8) hl0
          conv => whnf
          refine eq_int ?_
          conv => whnf
          refine cond_F ?_
          conv => whnf
          refine cond_F ?_
          conv => whnf
          refine cond_F ?_
          conv => whnf
          refine cond_F ?_
          conv => whnf
          refine cond_F ?_
          conv => whnf
          refine cond_go rfl ?_
          conv => whnf
          refine cond_F ?_
          conv => whnf
          refine bsO (len := 1) (enc := eU) (l := ([(63 : UInt8)] : Str)) (cl := [.int .u8 63]) elT87 rfl rfl (fun _ _ => rfl) rfl rfl rfl ?_ fun b38 => ?_
          · conv => whnf
            refine cond_T ?_
            conv => whnf
            first | done | rfl
          conv => whnf
          refine RStep.of (cv_ownE rfl r0 rfl rfl rfl ?_)
          obtain ⟨h40, hl0⟩ := chkb hl0
          conv => whnf
          refine cat_str h40 ?_
          conv => whnf
          refine int_in (cntz hx0 hk0) ?_
          conv => whnf
          refine RoundStep.mk (i0 + 1, (y0_0 ++ ([(63 : UInt8)] : Str))) ⟨rfl, rfl, trivial⟩ (by repeat (first | exact trivial | refine And.intro rfl ?_)) (ConvH.of (.cons r1 .nil)) lk0 (ltm hx0) hl0
        · conv => whnf
          refine cond_f g18_8 ?_
          conv => whnf
          refine eq_int ?_
          conv => whnf
          refine cond_f g18_8 ?_
          conv => whnf
          refine cond_go rfl ?_
          conv => whnf
          refine cond_s (fun w21 => ?_) (fun w21 => ?_)
          · replace hl0 := ift (or_u g18_8 w21) hl0
            conv => whnf
            refine eq_int ?_
            conv => whnf
            refine cond_F ?_
            conv => whnf
            refine cond_F ?_
            conv => whnf
            refine cond_F ?_
            conv => whnf
            refine cond_F ?_
            conv => whnf
            refine cond_F ?_
            conv => whnf
            refine cond_go rfl ?_
            conv => whnf
            refine cond_F ?_
            conv => whnf
            refine bsO (len := 1) (enc := eU) (l := ([(63 : UInt8)] : Str)) (cl := [.int .u8 63]) elT87 rfl rfl (fun _ _ => rfl) rfl rfl rfl ?_ fun b38 => ?_
            · conv => whnf
              refine cond_T ?_
              conv => whnf
              first | done | rfl
            conv => whnf
            refine RStep.of (cv_ownE rfl r0 rfl rfl rfl ?_)
            obtain ⟨h40, hl0⟩ := chkb hl0
            conv => whnf
            refine cat_str h40 ?_
            conv => whnf
            refine int_in (cntz hx0 hk0) ?_
            conv => whnf
            refine RoundStep.mk (i0 + 1, (y0_0 ++ ([(63 : UInt8)] : Str))) ⟨rfl, rfl, trivial⟩ (by repeat (first | exact trivial | refine And.intro rfl ?_)) (ConvH.of (.cons r1 .nil)) lk0 (ltm hx0) hl0
          · replace hl0 := iff_ (or_f g18_8 w21) hl0
            conv => whnf
            refine eq_int ?_
            conv => whnf
            refine cond_s (fun g24_10 => ?_) (fun g24_10 => ?_)
            · replace hl0 := ift g24_10 hl0
              conv => whnf
              refine cond_t g24_10 ?_
              conv => whnf
              refine eq_str ?_
              conv => whnf
              refine cond_t g24_10 ?_
              obtain ⟨x34, e34, hl0⟩ := bnd hl0
              conv => whnf
              refine cond_s (fun g27_10 => ?_) (fun g27_10 => ?_)
              · replace e34 := ift g27_10 e34
                conv => whnf
                refine cond_t g27_10 ?_
                conv => whnf
                refine cond_t g27_10 ?_
                conv => whnf
                refine cond_t g27_10 ?_
                conv => whnf
                refine cond_t g27_10 ?_
                conv => whnf
                refine cond_t g27_10 ?_
                conv => whnf
                refine cond_t g24_10 ?_
                conv => whnf
                refine cond_t g27_10 ?_
                conv => whnf
                refine cond_t g24_10 ?_
                conv => whnf
                refine cond_go rfl ?_
                conv => whnf
                refine cond_T ?_
                replace hl0 := ift (si e34).symm hl0
                conv => whnf
                refine cond_T ?_
                conv => whnf
                refine int_in (cntz hx0 hk0) ?_
                conv => whnf
                refine RoundStep.mk (i0 + 1, y0_0) ⟨rfl, rfl, trivial⟩ (by repeat (first | exact trivial | refine And.intro rfl ?_)) (ConvH.of (.cons r0 .nil)) lk0 (ltm hx0) hl0
              · replace e34 := iff_ g27_10 e34
                conv => whnf
                refine cond_f g27_10 ?_
                conv => whnf
                refine cond_f g27_10 ?_
                conv => whnf
                refine RStep.of (len_str rfl ?_)
                conv => whnf
                refine cond_f g27_10 ?_
                obtain ⟨h31, e34⟩ := chkb e34
                conv => whnf
                refine int_in h31 ?_
                conv => whnf
                refine cond_f g27_10 ?_
                obtain ⟨x32, l32, k32, e34⟩ := ixb e34
                conv => whnf
                refine idx_str rfl l32 k32 ?_
                conv => whnf
                refine cond_f g27_10 ?_
                conv => whnf
                refine eq_int ?_
                conv => whnf
                refine cond_t g24_10 ?_
                conv => whnf
                refine cond_f g27_10 ?_
                conv => whnf
                refine cond_t g24_10 ?_
                conv => whnf
                refine cond_go rfl ?_
                conv => whnf
                refine cond_s (fun w35 => ?_) (fun w35 => ?_)
                · replace hl0 := ift ((si e34).symm.trans w35) hl0
                  conv => whnf
                  refine cond_T ?_
                  conv => whnf
                  refine int_in (cntz hx0 hk0) ?_
                  conv => whnf
                  refine RoundStep.mk (i0 + 1, y0_0) ⟨rfl, rfl, trivial⟩ (by repeat (first | exact trivial | refine And.intro rfl ?_)) (ConvH.of (.cons r0 .nil)) lk0 (ltm hx0) hl0
                · replace hl0 := iff_ ((si e34).symm.trans w35) hl0
                  conv => whnf
                  refine bsO (len := 1) (enc := eU) (l := ([e0] : Str)) (cl := [.int .u8 (e0.toNat : Int)]) elT87 rfl rfl (fun _ _ => rfl) rfl rfl rfl ?_ fun b38 => ?_
                  · conv => whnf
                    refine cond_T ?_
                    conv => whnf
                    first | done | rfl
                  conv => whnf
                  refine RStep.of (cv_ownE rfl r0 rfl rfl rfl ?_)
                  obtain ⟨h40, hl0⟩ := chkb hl0
                  conv => whnf
                  refine cat_str h40 ?_
                  conv => whnf
                  refine int_in (cntz hx0 hk0) ?_
                  conv => whnf
                  refine RoundStep.mk (i0 + 1, (y0_0 ++ ([e0] : Str))) ⟨rfl, rfl, trivial⟩ (by repeat (first | exact trivial | refine And.intro rfl ?_)) (ConvH.of (.cons r1 .nil)) lk0 (ltm hx0) hl0
            · replace hl0 := iff_ g24_10 hl0
              conv => whnf
              refine cond_f g24_10 ?_
              conv => whnf
              refine cond_f g24_10 ?_
              conv => whnf
              refine cond_f g24_10 ?_
              conv => whnf
              refine cond_f g24_10 ?_
              conv => whnf
              refine cond_go rfl ?_
              conv => whnf
              refine cond_F ?_
              conv => whnf
              refine bsO (len := 1) (enc := eU) (l := ([e0] : Str)) (cl := [.int .u8 (e0.toNat : Int)]) elT87 rfl rfl (fun _ _ => rfl) rfl rfl rfl ?_ fun b38 => ?_
              · conv => whnf
                refine cond_T ?_
                conv => whnf
                first | done | rfl
              conv => whnf
              refine RStep.of (cv_ownE rfl r0 rfl rfl rfl ?_)
              obtain ⟨h40, hl0⟩ := chkb hl0
              conv => whnf
              refine cat_str h40 ?_
              conv => whnf
              refine int_in (cntz hx0 hk0) ?_
              conv => whnf
              refine RoundStep.mk (i0 + 1, (y0_0 ++ ([e0] : Str))) ⟨rfl, rfl, trivial⟩ (by repeat (first | exact trivial | refine And.intro rfl ?_)) (ConvH.of (.cons r1 .nil)) lk0 (ltm hx0) hl0
    · rw [lty w0, ref16_normal_L0.eq_1] at hl0
      conv => whnf
      refine cond_T ?_
      conv => whnf
      refine MeetStep.mk (y0_0) ⟨rfl, trivial⟩ (by repeat (first | exact trivial | refine And.intro rfl ?_)) (ConvH.of (.cons r0 .nil)) lk0 (si hl0)
  · rintro t0 Kt0 lt0 rfl j0
    obtain ⟨x43, q43, hm⟩ := bnd hm
    conv => whnf
    refine call_fn (ref01_Trim_ok (s := t0) q43) .nil ?_
    rintro _ K43 _ l43 ⟨rfl, rfl⟩
    obtain rfl := si hm
    conv => whnf
    refine EndStep.mk _ (lt0.trans l43) ⟨rfl, rfl⟩ (ConvH.of (.cons r0 .nil))

noncomputable def ref16_Value_L0 (n : Nat) : List Str → Nat → Str → Option (Str)
  | [], _, y0_0 => some y0_0
  | e0 :: xs0, i0, y0_0 =>
    if decide ((i0 : Int) > 0) then
    (chk (y0_0.length + ([44] : Str).length ≤ lim)).bind fun _ =>
    (ref16_normal n e0).bind fun x26 =>
    (chk ((y0_0 ++ ([44] : Str)).length + x26.length ≤ lim)).bind fun _ =>
    ref16_Value_L0 n xs0 (i0 + 1) ((y0_0 ++ ([44] : Str)) ++ x26)
    else
    (ref16_normal n e0).bind fun x26 =>
    (chk (y0_0.length + x26.length ≤ lim)).bind fun _ =>
    ref16_Value_L0 n xs0 (i0 + 1) (y0_0 ++ x26)
noncomputable def ref16_Value (n : Nat) (f : (List S_ref02_Field)) (name : Str) : Option (Str × Bool) :=
  (ref02_All f name).bind fun x12 =>
  (chk (x12.length ≤ szMax)).bind fun _ =>
  (ref16_Value_L0 n x12 0 ([] : Str)).bind fun t0 =>
  some (t0, decide ((x12.length : Int) > 0))
set_option maxHeartbeats 8000000 in
theorem ref16_Value_ok {n : Nat} {f : (List S_ref02_Field)} {name : Str} {ap0_0 : Option Addr} {cp0_0 : Nat} {n0 : Nat} {K : Hp} {r : Str × Bool}
    (hm : ref16_Value n f name = some r) (hp0_0 : RdC S_ref02_Field.enc K ap0_0 cp0_0 2 f) (en0 : n0 = f.length) :
    Fn Try.prog 17 [.slice ap0_0 n0 cp0_0, str name] K [] (fun v K' H' => v = .tuple #[str r.1, .bool r.2] ∧ H' = []) := by
  subst en0
  refine Fn.enter Try.func17 Try.call17 rfl fun F => ?_
  unfold ref16_Value at hm
  obtain ⟨x12, q12, hm⟩ := bnd hm
  conv => whnf
  refine call_fn (ref02_All_ok (name := name) q12 hp0_0 rfl) .nil ?_
  rintro _ K12 _ l12 ⟨a12_0, c12_0, rfl, h12_0, rfl⟩
  conv => whnf
  refine RStep.of (len_slice rfl ?_)
  obtain ⟨hk0, hm⟩ := chkb hm
  obtain ⟨s0, hl0, hm⟩ := bnd hm
  conv => whnf
  refine code_cut (σ := (Str)) [7, 8, 9, 15, 16, 17, 18, 19, 20, 21, 22, 23, 24, 25, 26, 27, 28] (fun t0 => [(7, str t0)]) (fun t0 => [OwnL eS a12_0 9 1 c12_0 x12, F]) (fun zz K1 => match zz with | t0 => t0 = s0) ?_ ?_
  · refine block_go rfl ?_
    conv => whnf
    refine loop_rule (σ := Nat × Str) [7, 8, 9, 15, 16, 17, 18, 19, 20, 21, 22, 23, 24, 25, 26, 27, 28] (fun (i0, y0_0) => [(15, .int .i64 (i0 : Int)), (7, str y0_0)]) (fun (i0, y0_0) => [OwnL eS a12_0 9 1 c12_0 x12, F]) (fun zz K1 => match zz with | (i0, y0_0) => ref16_Value_L0 n (x12.drop i0) i0 y0_0 = some s0) (fun zz => x12.length - zz.1) (0, ([] : Str)) rfl ⟨rfl, rfl, trivial⟩ (ConvH.of (.cons r0 (.cons r0 .nil))) hl0 ?_
    clear hl0
    rintro ⟨i0, y0_0⟩ Kb0 lk0 hl0 j0
    conv at hl0 => whnf
    conv => whnf
    refine cond_go rfl ?_
    conv => whnf
    refine cond_s (fun w0 => ?_) (fun w0 => ?_)
    · obtain ⟨e0, hx0, hd0⟩ := ltx w0
      rw [hd0, ref16_Value_L0.eq_2] at hl0
      conv => whnf
      refine block_go rfl ?_
      conv => whnf
      refine RStep.ofN (index_addr rfl rfl (hasO h12_0 hx0) (nn _) (lt_ofNE rfl hx0) ?_)
      conv => whnf
      refine RStep.of (ld_own (i := i0) (o := 0) r0 rfl hx0 rfl rfl ?_)
      conv => whnf
      refine cond_go rfl ?_
      conv => whnf
      refine cond_s (fun w21 => ?_) (fun w21 => ?_)
      · replace hl0 := ift w21 hl0
        obtain ⟨h23, hl0⟩ := chkb hl0
        conv => whnf
        refine cat_str h23 ?_
        obtain ⟨x26, q26, hl0⟩ := bnd hl0
        conv => whnf
        refine call_fn (ref16_normal_ok (s := e0) q26) .nil ?_
        rintro _ K26 _ l26 ⟨rfl, rfl⟩
        obtain ⟨h27, hl0⟩ := chkb hl0
        conv => whnf
        refine cat_str h27 ?_
        conv => whnf
        refine int_in (cntz hx0 hk0) ?_
        conv => whnf
        refine RoundStep.mk (i0 + 1, ((y0_0 ++ ([44] : Str)) ++ x26)) ⟨rfl, rfl, trivial⟩ (by repeat (first | exact trivial | refine And.intro rfl ?_)) (ConvH.of (.cons r0 (.cons r0 .nil))) (lk0.trans l26) (ltm hx0) hl0
      · replace hl0 := iff_ w21 hl0
        obtain ⟨x26, q26, hl0⟩ := bnd hl0
        conv => whnf
        refine call_fn (ref16_normal_ok (s := e0) q26) .nil ?_
        rintro _ K26 _ l26 ⟨rfl, rfl⟩
        obtain ⟨h27, hl0⟩ := chkb hl0
        conv => whnf
        refine cat_str h27 ?_
        conv => whnf
        refine int_in (cntz hx0 hk0) ?_
        conv => whnf
        refine RoundStep.mk (i0 + 1, (y0_0 ++ x26)) ⟨rfl, rfl, trivial⟩ (by repeat (first | exact trivial | refine And.intro rfl ?_)) (ConvH.of (.cons r0 (.cons r0 .nil))) (lk0.trans l26) (ltm hx0) hl0
    · rw [lty w0, ref16_Value_L0.eq_1] at hl0
      conv => whnf
      refine cond_T ?_
      conv => whnf
      refine MeetStep.mk (y0_0) ⟨rfl, trivial⟩ (by repeat (first | exact trivial | refine And.intro rfl ?_)) (ConvH.of (.cons r0 (.cons r0 .nil))) lk0 (si hl0)
  · rintro t0 Kt0 lt0 rfl j0
    conv => whnf
    refine RStep.of (len_slice rfl ?_)
    obtain rfl := si hm
    conv => whnf
    refine EndStep.mk _ (l12.trans lt0) ⟨rfl, rfl⟩ (ConvH.of (.cons r1 .nil))

noncomputable def ref01_Control_L0 : List UInt8 → Nat → Option (Fl (Bool) (Unit))
  | [], _ => some (Fl.go ())
  | e0 :: xs0, i0 =>
    (if decide ((e0.toNat : Int) < 32) then some (decide ((e0.toNat : Int) ≠ 9)) else some false).bind fun x18 =>
    (if x18 then some true else some (decide ((e0.toNat : Int) = 127))).bind fun x24 =>
    if x24 then
    some (Fl.ret true)
    else
    ref01_Control_L0 xs0 (i0 + 1)
noncomputable def ref01_Control (s : Str) : Option (Bool) :=
  (chk (s.length ≤ szMax)).bind fun _ =>
  (ref01_Control_L0 s 0).bind fun s0 => s0.el some fun t0 =>
  some false
set_option maxHeartbeats 8000000 in
theorem ref01_Control_ok {s : Str} {K : Hp} {r : Bool}
    (hm : ref01_Control s = some r)  :
    Fn Try.prog 49 [str s] K [] (fun v K' H' => v = .bool r ∧ H' = []) := by
  refine Fn.enter Try.func49 Try.call49 rfl fun F => ?_
  unfold ref01_Control at hm
  conv => whnf
  refine RStep.of (len_str rfl ?_)
  obtain ⟨hk0, hm⟩ := chkb hm
  obtain ⟨s0, hl0, hm⟩ := bnd hm
  conv => whnf
  refine code_cut (σ := (Unit)) [2, 3, 6, 7, 8, 9, 10, 11, 12, 13, 14, 15, 16, 17, 18, 19, 20, 21, 22, 23, 24, 25] (fun t0 => []) (fun t0 => [F]) (fun zz K1 => match zz with | t0 => s0 = Fl.go t0) ?_ ?_
  · refine block_go rfl ?_
    conv => whnf
    refine loop_rule (σ := Nat) [2, 3, 6, 7, 8, 9, 10, 11, 12, 13, 14, 15, 16, 17, 18, 19, 20, 21, 22, 23, 24, 25] (fun i0 => [(6, .int .i64 (i0 : Int))]) (fun i0 => [F]) (fun zz K1 => match zz with | i0 => ref01_Control_L0 (s.drop i0) i0 = some s0) (fun zz => s.length - zz) (0) rfl ⟨rfl, trivial⟩ (ConvH.of (.cons r0 .nil)) hl0 ?_
    clear hl0
    rintro i0 Kb0 lk0 hl0 j0
    conv at hl0 => whnf
    conv => whnf
    refine cond_go rfl ?_
    conv => whnf
    refine cond_s (fun w0 => ?_) (fun w0 => ?_)
    · obtain ⟨e0, hx0, hd0⟩ := ltx w0
      rw [hd0, ref01_Control_L0.eq_2] at hl0
      conv => whnf
      refine block_go rfl ?_
      conv => whnf
      refine idx_str rfl (nn _) hx0 ?_
      obtain ⟨x18, e18, hl0⟩ := bnd hl0
      conv => whnf
      refine cond_s (fun g13_4 => ?_) (fun g13_4 => ?_)
      · replace e18 := ift g13_4 e18
        conv => whnf
        refine cond_t g13_4 ?_
        conv => whnf
        refine cond_t g13_4 ?_
        conv => whnf
        refine idx_str rfl (nn _) hx0 ?_
        conv => whnf
        refine cond_t g13_4 ?_
        conv => whnf
        refine neq_int ?_
        conv => whnf
        refine cond_t g13_4 ?_
        obtain ⟨x24, e24, hl0⟩ := bnd hl0
        conv => whnf
        refine cond_s (fun g19_4 => ?_) (fun g19_4 => ?_)
        · replace e24 := ift ((si e18).symm.trans g19_4) e24
          conv => whnf
          refine cond_t g19_4 ?_
          conv => whnf
          refine cond_t g19_4 ?_
          conv => whnf
          refine cond_t g19_4 ?_
          conv => whnf
          refine cond_t g19_4 ?_
          conv => whnf
          refine cond_go rfl ?_
          conv => whnf
          refine cond_T ?_
          replace hl0 := ift (si e24).symm hl0
          obtain rfl := si hl0
          replace hm := elr hm
          obtain rfl := si hm
          conv => whnf
          refine EndStep.mk _ lk0 ⟨rfl, rfl⟩ (ConvH.of (.cons r0 .nil))
        · replace e24 := iff_ ((si e18).symm.trans g19_4) e24
          conv => whnf
          refine cond_f g19_4 ?_
          conv => whnf
          refine cond_f g19_4 ?_
          conv => whnf
          refine idx_str rfl (nn _) hx0 ?_
          conv => whnf
          refine cond_f g19_4 ?_
          conv => whnf
          refine eq_int ?_
          conv => whnf
          refine cond_f g19_4 ?_
          conv => whnf
          refine cond_go rfl ?_
          conv => whnf
          refine cond_s (fun w24 => ?_) (fun w24 => ?_)
          · replace hl0 := ift ((si e24).symm.trans w24) hl0
            obtain rfl := si hl0
            replace hm := elr hm
            obtain rfl := si hm
            conv => whnf
            refine EndStep.mk _ lk0 ⟨rfl, rfl⟩ (ConvH.of (.cons r0 .nil))
          · replace hl0 := iff_ ((si e24).symm.trans w24) hl0
            conv => whnf
            refine int_in (cntz hx0 hk0) ?_
            conv => whnf
            refine RoundStep.mk (i0 + 1) ⟨rfl, trivial⟩ (by repeat (first | exact trivial | refine And.intro rfl ?_)) (ConvH.of (.cons r0 .nil)) lk0 (ltm hx0) hl0
      · replace e18 := iff_ g13_4 e18
        conv => whnf
        refine cond_f g13_4 ?_
        conv => whnf
        refine cond_f g13_4 ?_
        conv => whnf
        refine cond_f g13_4 ?_
        conv => whnf
        refine cond_f g13_4 ?_
        obtain ⟨x24, e24, hl0⟩ := bnd hl0
        replace e24 := iff_ (si e18).symm e24
        conv => whnf
        refine cond_F ?_
        conv => whnf
        refine cond_F ?_
        conv => whnf
        refine cond_F ?_
        conv => whnf
        refine idx_str rfl (nn _) hx0 ?_
        conv => whnf
        refine cond_F ?_
        conv => whnf
        refine eq_int ?_
        conv => whnf
        refine cond_F ?_
        conv => whnf
        refine cond_go rfl ?_
        conv => whnf
        refine cond_s (fun w24 => ?_) (fun w24 => ?_)
        · replace hl0 := ift ((si e24).symm.trans w24) hl0
          obtain rfl := si hl0
          replace hm := elr hm
          obtain rfl := si hm
          conv => whnf
          refine EndStep.mk _ lk0 ⟨rfl, rfl⟩ (ConvH.of (.cons r0 .nil))
        · replace hl0 := iff_ ((si e24).symm.trans w24) hl0
          conv => whnf
          refine int_in (cntz hx0 hk0) ?_
          conv => whnf
          refine RoundStep.mk (i0 + 1) ⟨rfl, trivial⟩ (by repeat (first | exact trivial | refine And.intro rfl ?_)) (ConvH.of (.cons r0 .nil)) lk0 (ltm hx0) hl0
    · rw [lty w0, ref01_Control_L0.eq_1] at hl0
      conv => whnf
      refine cond_T ?_
      conv => whnf
      refine MeetStep.mk (()) trivial (by repeat (first | exact trivial | refine And.intro rfl ?_)) (ConvH.of (.cons r0 .nil)) lk0 (si hl0).symm
  · rintro t0 Kt0 lt0 rfl j0
    replace hm := elg hm
    obtain rfl := si hm
    conv => whnf
    refine EndStep.mk _ lt0 ⟨rfl, rfl⟩ (ConvH.of (.cons r0 .nil))

noncomputable def ref01_Quote_L0 (s : Str) : List UInt8 → Nat → Str → Option (Str)
  | [], _, y0_0 => some y0_0
  | e0 :: xs0, i0, y0_0 =>
    (if decide ((e0.toNat : Int) = 34) then some true else some (decide ((e0.toNat : Int) = 92))).bind fun x20 =>
    if x20 then
    (chk (y0_0.length + ([(92 : UInt8)] : Str).length ≤ lim)).bind fun _ =>
    (chk (0 ≤ (i0 : Int) ∧ (i0 : Int) ≤ ((i0 : Int) + 1) ∧ ((i0 : Int) + 1) ≤ (s.length : Int))).bind fun _ =>
    (chk ((y0_0 ++ ([(92 : UInt8)] : Str)).length + (subL s (i0 : Int) ((i0 : Int) + 1)).length ≤ lim)).bind fun _ =>
    ref01_Quote_L0 s xs0 (i0 + 1) ((y0_0 ++ ([(92 : UInt8)] : Str)) ++ (subL s (i0 : Int) ((i0 : Int) + 1)))
    else
    (chk (0 ≤ (i0 : Int) ∧ (i0 : Int) ≤ ((i0 : Int) + 1) ∧ ((i0 : Int) + 1) ≤ (s.length : Int))).bind fun _ =>
    (chk (y0_0.length + (subL s (i0 : Int) ((i0 : Int) + 1)).length ≤ lim)).bind fun _ =>
    ref01_Quote_L0 s xs0 (i0 + 1) (y0_0 ++ (subL s (i0 : Int) ((i0 : Int) + 1)))
noncomputable def ref01_Quote (s : Str) : Option (Str × Bool) :=
  (chk (s.length ≤ szMax)).bind fun _ =>
  (ref01_Quote_L0 s s 0 ([34] : Str)).bind fun t0 =>
  (chk (t0.length + ([34] : Str).length ≤ lim)).bind fun _ =>
  (ref01_Control s).bind fun x36 =>
  some ((t0 ++ ([34] : Str)), (!x36))
set_option maxHeartbeats 8000000 in
theorem ref01_Quote_ok {s : Str} {K : Hp} {r : Str × Bool}
    (hm : ref01_Quote s = some r)  :
    Fn Try.prog 33 [str s] K [] (fun v K' H' => v = .tuple #[str r.1, .bool r.2] ∧ H' = []) := by
  refine Fn.enter Try.func33 Try.call33 rfl fun F => ?_
  unfold ref01_Quote at hm
  conv => whnf
  refine RStep.of (len_str rfl ?_)
  obtain ⟨hk0, hm⟩ := chkb hm
  obtain ⟨s0, hl0, hm⟩ := bnd hm
  conv => whnf
  refine code_cut (σ := (Str)) [4, 5, 8, 9, 10, 11, 12, 13, 14, 15, 16, 17, 18, 19, 20, 21, 22, 23, 24, 25, 26, 27, 28, 29, 30, 31, 32] (fun t0 => [(4, str t0)]) (fun t0 => [F]) (fun zz K1 => match zz with | t0 => t0 = s0) ?_ ?_
  · refine block_go rfl ?_
    conv => whnf
    refine loop_rule (σ := Nat × Str) [4, 5, 8, 9, 10, 11, 12, 13, 14, 15, 16, 17, 18, 19, 20, 21, 22, 23, 24, 25, 26, 27, 28, 29, 30, 31, 32] (fun (i0, y0_0) => [(8, .int .i64 (i0 : Int)), (4, str y0_0)]) (fun (i0, y0_0) => [F]) (fun zz K1 => match zz with | (i0, y0_0) => ref01_Quote_L0 s (s.drop i0) i0 y0_0 = some s0) (fun zz => s.length - zz.1) (0, ([34] : Str)) rfl ⟨rfl, rfl, trivial⟩ (ConvH.of (.cons r0 .nil)) hl0 ?_
    clear hl0
    rintro ⟨i0, y0_0⟩ Kb0 lk0 hl0 j0
    conv at hl0 => whnf
    conv => whnf
    refine cond_go rfl ?_
    conv => whnf
    refine cond_s (fun w0 => ?_) (fun w0 => ?_)
    · obtain ⟨e0, hx0, hd0⟩ := ltx w0
      rw [hd0, ref01_Quote_L0.eq_2] at hl0
      conv => whnf
      refine block_go rfl ?_
      conv => whnf
      refine idx_str rfl (nn _) hx0 ?_
      conv => whnf
      refine eq_int ?_
      obtain ⟨x20, e20, hl0⟩ := bnd hl0
      conv => whnf
      refine cond_s (fun g15_5 => ?_) (fun g15_5 => ?_)
      · replace e20 := ift g15_5 e20
        conv => whnf
        refine cond_t g15_5 ?_
        conv => whnf
        refine cond_t g15_5 ?_
        conv => whnf
        refine cond_t g15_5 ?_
        conv => whnf
        refine cond_t g15_5 ?_
        conv => whnf
        refine cond_go rfl ?_
        conv => whnf
        refine cond_T ?_
        replace hl0 := ift (si e20).symm hl0
        conv => whnf
        refine bsO (len := 1) (enc := eU) (l := ([(92 : UInt8)] : Str)) (cl := [.int .u8 92]) elT87 rfl rfl (fun _ _ => rfl) rfl rfl rfl ?_ fun b22 => ?_
        · conv => whnf
          refine cond_T ?_
          conv => whnf
          first | done | rfl
        conv => whnf
        refine RStep.of (cv_ownE rfl r0 rfl rfl rfl ?_)
        obtain ⟨h24, hl0⟩ := chkb hl0
        conv => whnf
        refine cat_str h24 ?_
        conv => whnf
        refine int_in (cntz hx0 hk0) ?_
        obtain ⟨h30, hl0⟩ := chkb hl0
        conv => whnf
        refine RStep.ofN (sl_str (lo := (some (i0 : Int))) (hi := (some ((i0 : Int) + 1))) rfl h30 ?_)
        obtain ⟨h31, hl0⟩ := chkb hl0
        conv => whnf
        refine cat_str h31 ?_
        conv => whnf
        refine int_in (cntz hx0 hk0) ?_
        conv => whnf
        refine RoundStep.mk (i0 + 1, ((y0_0 ++ ([(92 : UInt8)] : Str)) ++ (subL s (i0 : Int) ((i0 : Int) + 1)))) ⟨rfl, rfl, trivial⟩ (by repeat (first | exact trivial | refine And.intro rfl ?_)) (ConvH.of (.cons r1 .nil)) lk0 (ltm hx0) hl0
      · replace e20 := iff_ g15_5 e20
        conv => whnf
        refine cond_f g15_5 ?_
        conv => whnf
        refine cond_f g15_5 ?_
        conv => whnf
        refine idx_str rfl (nn _) hx0 ?_
        conv => whnf
        refine cond_f g15_5 ?_
        conv => whnf
        refine eq_int ?_
        conv => whnf
        refine cond_f g15_5 ?_
        conv => whnf
        refine cond_go rfl ?_
        conv => whnf
        refine cond_s (fun w20 => ?_) (fun w20 => ?_)
        · replace hl0 := ift ((si e20).symm.trans w20) hl0
          conv => whnf
          refine bsO (len := 1) (enc := eU) (l := ([(92 : UInt8)] : Str)) (cl := [.int .u8 92]) elT87 rfl rfl (fun _ _ => rfl) rfl rfl rfl ?_ fun b22 => ?_
          · conv => whnf
            refine cond_T ?_
            conv => whnf
            first | done | rfl
          conv => whnf
          refine RStep.of (cv_ownE rfl r0 rfl rfl rfl ?_)
          obtain ⟨h24, hl0⟩ := chkb hl0
          conv => whnf
          refine cat_str h24 ?_
          conv => whnf
          refine int_in (cntz hx0 hk0) ?_
          obtain ⟨h30, hl0⟩ := chkb hl0
          conv => whnf
          refine RStep.ofN (sl_str (lo := (some (i0 : Int))) (hi := (some ((i0 : Int) + 1))) rfl h30 ?_)
          obtain ⟨h31, hl0⟩ := chkb hl0
          conv => whnf
          refine cat_str h31 ?_
          conv => whnf
          refine int_in (cntz hx0 hk0) ?_
          conv => whnf
          refine RoundStep.mk (i0 + 1, ((y0_0 ++ ([(92 : UInt8)] : Str)) ++ (subL s (i0 : Int) ((i0 : Int) + 1)))) ⟨rfl, rfl, trivial⟩ (by repeat (first | exact trivial | refine And.intro rfl ?_)) (ConvH.of (.cons r1 .nil)) lk0 (ltm hx0) hl0
        · replace hl0 := iff_ ((si e20).symm.trans w20) hl0
          conv => whnf
          refine int_in (cntz hx0 hk0) ?_
          obtain ⟨h30, hl0⟩ := chkb hl0
          conv => whnf
          refine RStep.ofN (sl_str (lo := (some (i0 : Int))) (hi := (some ((i0 : Int) + 1))) rfl h30 ?_)
          obtain ⟨h31, hl0⟩ := chkb hl0
          conv => whnf
          refine cat_str h31 ?_
          conv => whnf
          refine int_in (cntz hx0 hk0) ?_
          conv => whnf
          refine RoundStep.mk (i0 + 1, (y0_0 ++ (subL s (i0 : Int) ((i0 : Int) + 1)))) ⟨rfl, rfl, trivial⟩ (by repeat (first | exact trivial | refine And.intro rfl ?_)) (ConvH.of (.cons r0 .nil)) lk0 (ltm hx0) hl0
    · rw [lty w0, ref01_Quote_L0.eq_1] at hl0
      conv => whnf
      refine cond_T ?_
      conv => whnf
      refine MeetStep.mk (y0_0) ⟨rfl, trivial⟩ (by repeat (first | exact trivial | refine And.intro rfl ?_)) (ConvH.of (.cons r0 .nil)) lk0 (si hl0)
  · rintro t0 Kt0 lt0 rfl j0
    obtain ⟨h34, hm⟩ := chkb hm
    conv => whnf
    refine cat_str h34 ?_
    obtain ⟨x36, q36, hm⟩ := bnd hm
    conv => whnf
    refine call_fn (ref01_Control_ok (s := s) q36) .nil ?_
    rintro _ K36 _ l36 ⟨rfl, rfl⟩
    conv => whnf
    refine un_not ?_
    obtain rfl := si hm
    conv => whnf
    refine EndStep.mk _ (lt0.trans l36) ⟨rfl, rfl⟩ (ConvH.of (.cons r0 .nil))

noncomputable def ref16_Key_L0 (n : Nat) (f : (List S_ref02_Field)) : List Str → Nat → Str → Option (Str)
  | [], _, y0_0 => some y0_0
  | e0 :: xs0, i0, y0_0 =>
    if decide ((i0 : Int) > 0) then
    (chk (y0_0.length + ([38] : Str).length ≤ lim)).bind fun _ =>
    (chk ((y0_0 ++ ([38] : Str)).length + e0.length ≤ lim)).bind fun _ =>
    (ref16_Value n f e0).bind fun x29 =>
    if x29.2 then
    (ref01_Quote x29.1).bind fun x35 =>
    (chk (([61] : Str).length + x35.1.length ≤ lim)).bind fun _ =>
    (chk (((y0_0 ++ ([38] : Str)) ++ e0).length + (([61] : Str) ++ x35.1).length ≤ lim)).bind fun _ =>
    ref16_Key_L0 n f xs0 (i0 + 1) (((y0_0 ++ ([38] : Str)) ++ e0) ++ (([61] : Str) ++ x35.1))
    else
    ref16_Key_L0 n f xs0 (i0 + 1) ((y0_0 ++ ([38] : Str)) ++ e0)
    else
    (chk (y0_0.length + e0.length ≤ lim)).bind fun _ =>
    (ref16_Value n f e0).bind fun x29 =>
    if x29.2 then
    (ref01_Quote x29.1).bind fun x35 =>
    (chk (([61] : Str).length + x35.1.length ≤ lim)).bind fun _ =>
    (chk ((y0_0 ++ e0).length + (([61] : Str) ++ x35.1).length ≤ lim)).bind fun _ =>
    ref16_Key_L0 n f xs0 (i0 + 1) ((y0_0 ++ e0) ++ (([61] : Str) ++ x35.1))
    else
    ref16_Key_L0 n f xs0 (i0 + 1) (y0_0 ++ e0)
noncomputable def ref16_Key (n : Nat) (names : (List Str)) (f : (List S_ref02_Field)) : Option (Str) :=
  (chk (names.length ≤ szMax)).bind fun _ =>
  (ref16_Key_L0 n f names 0 ([] : Str)).bind fun t0 =>
  some t0
set_option maxHeartbeats 8000000 in
theorem ref16_Key_ok {n : Nat} {names : (List Str)} {f : (List S_ref02_Field)} {ap0_0 : Option Addr} {cp0_0 : Nat} {n0 : Nat} {ap1_0 : Option Addr} {cp1_0 : Nat} {n1 : Nat} {K : Hp} {r : Str}
    (hm : ref16_Key n names f = some r) (hp0_0 : RdC eS K ap0_0 cp0_0 1 names) (en0 : n0 = names.length) (hp1_0 : RdC S_ref02_Field.enc K ap1_0 cp1_0 2 f) (en1 : n1 = f.length) :
    Fn Try.prog 14 [.slice ap0_0 n0 cp0_0, .slice ap1_0 n1 cp1_0] K [] (fun v K' H' => v = str r ∧ H' = []) := by
  subst en0
  subst en1
  refine Fn.enter Try.func14 Try.call14 rfl fun F => ?_
  unfold ref16_Key at hm
  conv => whnf
  refine RStep.of (len_slice rfl ?_)
  obtain ⟨hk0, hm⟩ := chkb hm
  obtain ⟨s0, hl0, hm⟩ := bnd hm
  conv => whnf
  refine code_cut (σ := (Str)) [5, 6, 7, 8, 9, 10, 11, 14, 15, 16, 17, 18, 19, 20, 21, 22, 23, 24, 25, 26, 27, 28, 29, 30, 31, 32, 33, 34, 35, 36, 37, 38, 39, 40, 41, 42] (fun t0 => [(5, str t0)]) (fun t0 => [F]) (fun zz K1 => match zz with | t0 => t0 = s0) ?_ ?_
  · refine block_go rfl ?_
    conv => whnf
    refine loop_rule (σ := Nat × Str) [5, 6, 7, 8, 9, 10, 11, 14, 15, 16, 17, 18, 19, 20, 21, 22, 23, 24, 25, 26, 27, 28, 29, 30, 31, 32, 33, 34, 35, 36, 37, 38, 39, 40, 41, 42] (fun (i0, y0_0) => [(14, .int .i64 (i0 : Int)), (5, str y0_0)]) (fun (i0, y0_0) => [F]) (fun zz K1 => match zz with | (i0, y0_0) => ref16_Key_L0 n f (names.drop i0) i0 y0_0 = some s0) (fun zz => names.length - zz.1) (0, ([] : Str)) rfl ⟨rfl, rfl, trivial⟩ (ConvH.of (.cons r0 .nil)) hl0 ?_
    clear hl0
    rintro ⟨i0, y0_0⟩ Kb0 lk0 hl0 j0
    conv at hl0 => whnf
    conv => whnf
    refine cond_go rfl ?_
    conv => whnf
    refine cond_s (fun w0 => ?_) (fun w0 => ?_)
    · obtain ⟨e0, hx0, hd0⟩ := ltx w0
      rw [hd0, ref16_Key_L0.eq_2] at hl0
      conv => whnf
      refine block_go rfl ?_
      conv => whnf
      refine RStep.ofN (index_addr rfl rfl (hasK (hp0_0.mono lk0).rd hx0) (nn _) (lt_ofN hx0) ?_)
      conv => whnf
      refine RStep.of (load_rd i0 0 _ _ (hp0_0.mono lk0).rd rfl (mp hx0) rfl rfl ?_)
      conv => whnf
      refine cond_go rfl ?_
      conv => whnf
      refine cond_s (fun w20 => ?_) (fun w20 => ?_)
      · replace hl0 := ift w20 hl0
        obtain ⟨h22, hl0⟩ := chkb hl0
        conv => whnf
        refine cat_str h22 ?_
        obtain ⟨h25, hl0⟩ := chkb hl0
        conv => whnf
        refine cat_str h25 ?_
        obtain ⟨x29, q29, hl0⟩ := bnd hl0
        conv => whnf
        refine call_fn (ref16_Value_ok (name := e0) q29 (hp1_0.mono lk0) rfl) .nil ?_
        rintro _ K29 _ l29 ⟨rfl, rfl⟩
        conv => whnf
        refine cond_go rfl ?_
        conv => whnf
        refine cond_s (fun w32 => ?_) (fun w32 => ?_)
        · replace hl0 := ift w32 hl0
          obtain ⟨x35, q35, hl0⟩ := bnd hl0
          conv => whnf
          refine call_fn (ref01_Quote_ok (s := x29.1) q35) .nil ?_
          rintro _ K35 _ l35 ⟨rfl, rfl⟩
          obtain ⟨h40, hl0⟩ := chkb hl0
          conv => whnf
          refine cat_str h40 ?_
          obtain ⟨h41, hl0⟩ := chkb hl0
          conv => whnf
          refine cat_str h41 ?_
          conv => whnf
          refine int_in (cntz hx0 hk0) ?_
          conv => whnf
          refine RoundStep.mk (i0 + 1, (((y0_0 ++ ([38] : Str)) ++ e0) ++ (([61] : Str) ++ x35.1))) ⟨rfl, rfl, trivial⟩ (by repeat (first | exact trivial | refine And.intro rfl ?_)) (ConvH.of (.cons r0 .nil)) ((lk0.trans l29).trans l35) (ltm hx0) hl0
        · replace hl0 := iff_ w32 hl0
          conv => whnf
          refine int_in (cntz hx0 hk0) ?_
          conv => whnf
          refine RoundStep.mk (i0 + 1, ((y0_0 ++ ([38] : Str)) ++ e0)) ⟨rfl, rfl, trivial⟩ (by repeat (first | exact trivial | refine And.intro rfl ?_)) (ConvH.of (.cons r0 .nil)) (lk0.trans l29) (ltm hx0) hl0
      · replace hl0 := iff_ w20 hl0
        obtain ⟨h25, hl0⟩ := chkb hl0
        conv => whnf
        refine cat_str h25 ?_
        obtain ⟨x29, q29, hl0⟩ := bnd hl0
        conv => whnf
        refine call_fn (ref16_Value_ok (name := e0) q29 (hp1_0.mono lk0) rfl) .nil ?_
        rintro _ K29 _ l29 ⟨rfl, rfl⟩
        conv => whnf
        refine cond_go rfl ?_
        conv => whnf
        refine cond_s (fun w32 => ?_) (fun w32 => ?_)
        · replace hl0 := ift w32 hl0
          obtain ⟨x35, q35, hl0⟩ := bnd hl0
          conv => whnf
          refine call_fn (ref01_Quote_ok (s := x29.1) q35) .nil ?_
          rintro _ K35 _ l35 ⟨rfl, rfl⟩
          obtain ⟨h40, hl0⟩ := chkb hl0
          conv => whnf
          refine cat_str h40 ?_
          obtain ⟨h41, hl0⟩ := chkb hl0
          conv => whnf
          refine cat_str h41 ?_
          conv => whnf
          refine int_in (cntz hx0 hk0) ?_
          conv => whnf
          refine RoundStep.mk (i0 + 1, ((y0_0 ++ e0) ++ (([61] : Str) ++ x35.1))) ⟨rfl, rfl, trivial⟩ (by repeat (first | exact trivial | refine And.intro rfl ?_)) (ConvH.of (.cons r0 .nil)) ((lk0.trans l29).trans l35) (ltm hx0) hl0
        · replace hl0 := iff_ w32 hl0
          conv => whnf
          refine int_in (cntz hx0 hk0) ?_
          conv => whnf
          refine RoundStep.mk (i0 + 1, (y0_0 ++ e0)) ⟨rfl, rfl, trivial⟩ (by repeat (first | exact trivial | refine And.intro rfl ?_)) (ConvH.of (.cons r0 .nil)) (lk0.trans l29) (ltm hx0) hl0
    · rw [lty w0, ref16_Key_L0.eq_1] at hl0
      conv => whnf
      refine cond_T ?_
      conv => whnf
      refine MeetStep.mk (y0_0) ⟨rfl, trivial⟩ (by repeat (first | exact trivial | refine And.intro rfl ?_)) (ConvH.of (.cons r0 .nil)) lk0 (si hl0)
  · rintro t0 Kt0 lt0 rfl j0
    obtain rfl := si hm
    conv => whnf
    refine EndStep.mk _ lt0 ⟨rfl, rfl⟩ (ConvH.of (.cons r0 .nil))

noncomputable def ref16_Find_L0 (n : Nat) (f : (List S_ref02_Field)) : List S_ref16_Variant → Nat → (List Int) → Option ((List Int))
  | [], _, y0_0 => some y0_0
  | e0 :: xs0, i0, y0_0 =>
    (ref16_Key n e0.Names f).bind fun x17 =>
    if decide (x17 = e0.Key) then
    (chk (y0_0.length + [e0.ID].length ≤ lim)).bind fun _ =>
    ref16_Find_L0 n f xs0 (i0 + 1) (y0_0 ++ [e0.ID])
    else
    ref16_Find_L0 n f xs0 (i0 + 1) y0_0
noncomputable def ref16_Find (n : Nat) (l : (List S_ref16_Variant)) (f : (List S_ref02_Field)) : Option ((List Int)) :=
  (chk (l.length ≤ szMax)).bind fun _ =>
  (ref16_Find_L0 n f l 0 []).bind fun t0 =>
  some t0
set_option maxHeartbeats 8000000 in
theorem ref16_Find_ok {n : Nat} {l : (List S_ref16_Variant)} {f : (List S_ref02_Field)} {ap0_0 : Option Addr} {cp0_0 : Nat} {n0 : Nat} {ap1_0 : Option Addr} {cp1_0 : Nat} {n1 : Nat} {K : Hp} {r : (List Int)}
    (hm : ref16_Find n l f = some r) (hp0_0 : LiC S_ref16_Variant.R K ap0_0 cp0_0 3 l) (en0 : n0 = l.length) (hp1_0 : RdC S_ref02_Field.enc K ap1_0 cp1_0 2 f) (en1 : n1 = f.length) :
    Fn Try.prog 24 [.slice ap0_0 n0 cp0_0, .slice ap1_0 n1 cp1_0] K [] (fun v K' H' => ∃ ar_0 : Option Addr, ∃ cr_0 : Nat, v = .slice ar_0 r.length cr_0 ∧ (0 < r.length → Has ar_0) ∧ H' = [OwnL eN ar_0 3 1 cr_0 r]) := by
  subst en0
  subst en1
  refine Fn.enter Try.func24 Try.call24 rfl fun F => ?_
  unfold ref16_Find at hm
  conv => whnf
  refine RStep.of (len_slice rfl ?_)
  obtain ⟨hk0, hm⟩ := chkb hm
  obtain ⟨s0, hl0, hm⟩ := bnd hm
  conv => whnf
  refine nilC eN 3 1 ?_
  refine code_cut (σ := ((List Int)) × Option Addr × Nat) [5, 7, 10, 11, 12, 13, 14, 15, 16, 17, 18, 19, 20, 21, 22, 23, 24, 25, 26] (fun (t0, t0_a0, t0_c0) => [(5, .slice t0_a0 t0.length t0_c0)]) (fun (t0, t0_a0, t0_c0) => [OwnL eN t0_a0 3 1 t0_c0 t0, F]) (fun zz K1 => match zz with | (t0, t0_a0, t0_c0) => (0 < t0.length → Has t0_a0) ∧ t0 = s0) ?_ ?_
  · refine block_go rfl ?_
    conv => whnf
    refine loop_rule (σ := Nat × (List Int) × Option Addr × Nat) [5, 7, 10, 11, 12, 13, 14, 15, 16, 17, 18, 19, 20, 21, 22, 23, 24, 25, 26] (fun (i0, y0_0, y0_a0, y0_c0) => [(10, .int .i64 (i0 : Int)), (5, .slice y0_a0 y0_0.length y0_c0)]) (fun (i0, y0_0, y0_a0, y0_c0) => [OwnL eN y0_a0 3 1 y0_c0 y0_0, F]) (fun zz K1 => match zz with | (i0, y0_0, y0_a0, y0_c0) => (0 < y0_0.length → Has y0_a0) ∧ ref16_Find_L0 n f (l.drop i0) i0 y0_0 = some s0) (fun zz => l.length - zz.1) (0, [], none, 0) rfl ⟨rfl, rfl, trivial⟩ (ConvH.of (.cons r0 (.cons r0 .nil))) ⟨(fun h => by simp at h), hl0⟩ ?_
    clear hl0
    rintro ⟨i0, y0_0, y0_a0, y0_c0⟩ Kb0 lk0 ⟨y0_h0, hl0⟩ j0
    conv => whnf
    refine cond_go rfl ?_
    conv => whnf
    refine cond_s (fun w0 => ?_) (fun w0 => ?_)
    · obtain ⟨e0, hx0, hd0⟩ := ltx w0
      rw [hd0, ref16_Find_L0.eq_2] at hl0
      conv => whnf
      refine block_go rfl ?_
      conv => whnf
      refine RStep.ofN (index_addr rfl rfl (hasR (LiC.mono S_ref16_Variant.R_ok lk0 hp0_0).rd hx0) (nn _) (lt_ofN hx0) ?_)
      obtain ⟨ss13, cc13, hr13, hc13, hR13⟩ := LiR.get (LiC.mono S_ref16_Variant.R_ok lk0 hp0_0).rd hx0
      obtain ⟨a13_0, c13_0, rfl, h13_0⟩ := hR13
      conv => whnf
      refine RStep.of (load_rd_agg i0 _ hr13 rfl hc13 rfl ?_)
      conv => whnf
      refine alloc_rule rfl ?_
      intro b7
      conv => whnf
      refine store_rule r0 rfl ?_
      conv => whnf
      refine ⟨rfl, rfl, (Nat.le_of_ble_eq_true rfl), ?_⟩
      conv => whnf
      refine draw_go ⟨⟨[], false⟩, _, [(_, _)]⟩ (by kernel_rfl) ⟨Hp.Le.refl _, (ConvH.of (.cons r0 .nil))⟩ ?_
      conv => whnf
      refine field_addr rfl ?_
      conv => whnf
      refine load1_l m0 rfl rfl ?_
      obtain ⟨x17, q17, hl0⟩ := bnd hl0
      conv => whnf
      refine call_fn (ref16_Key_ok q17 h13_0 rfl (hp1_0.mono lk0) rfl) .nil ?_
      rintro _ K17 _ l17 ⟨rfl, rfl⟩
      conv => whnf
      refine ⟨⟨l17, (ConvH.of (.cons r0 .nil))⟩, ?_⟩
      conv => whnf
      refine field_addr rfl ?_
      conv => whnf
      refine load1_l m0 rfl rfl ?_
      conv => whnf
      refine eq_str ?_
      conv => whnf
      refine cond_go rfl ?_
      conv => whnf
      refine cond_s (fun w20 => ?_) (fun w20 => ?_)
      · replace hl0 := ift w20 hl0
        conv => whnf
        refine field_addr rfl ?_
        conv => whnf
        refine RStep.of (load1_s r0 rfl rfl ?_)
        conv => whnf
        refine bsO (len := 1) (enc := eN) (l := [e0.ID]) (cl := [.int .i64 e0.ID]) elT35 rfl rfl (fun _ _ => rfl) rfl rfl rfl ?_ fun b24 => ?_
        · conv => whnf
          refine cond_T ?_
          conv => whnf
          first | done | rfl
        obtain ⟨h25, hl0⟩ := chkb hl0
        conv => whnf
        refine apE rfl r2 elT35 (src_own' rfl r0 rfl (fun _ => rfl) (fun _ => rfl)) h25 ?_
        intro a25 c25 o25
        conv => whnf
        refine int_in (cntz hx0 hk0) ?_
        conv => whnf
        refine RoundStep.mk (i0 + 1, (y0_0 ++ [e0.ID]), a25, c25) ⟨rfl, rfl, trivial⟩ (by repeat (first | exact trivial | refine And.intro rfl ?_)) (ConvH.of (.cons r0 (.cons r2 .nil))) (lk0.trans l17) (ltm hx0) ⟨o25, hl0⟩
      · replace hl0 := iff_ w20 hl0
        conv => whnf
        refine int_in (cntz hx0 hk0) ?_
        conv => whnf
        refine RoundStep.mk (i0 + 1, y0_0, y0_a0, y0_c0) ⟨rfl, rfl, trivial⟩ (by repeat (first | exact trivial | refine And.intro rfl ?_)) (ConvH.of (.cons r1 (.cons r1 .nil))) (lk0.trans l17) (ltm hx0) ⟨y0_h0, hl0⟩
    · rw [lty w0, ref16_Find_L0.eq_1] at hl0
      conv => whnf
      refine cond_T ?_
      conv => whnf
      refine MeetStep.mk (y0_0, y0_a0, y0_c0) ⟨rfl, trivial⟩ (by repeat (first | exact trivial | refine And.intro rfl ?_)) (ConvH.of (.cons r0 (.cons r0 .nil))) lk0 ⟨y0_h0, (si hl0)⟩
  · rintro ⟨t0, t0_a0, t0_c0⟩ Kt0 lt0 ⟨t0_h0, rfl⟩ j0
    obtain rfl := si hm
    conv => whnf
    refine EndStep.mk _ lt0 ⟨t0_a0, t0_c0, rfl, t0_h0, rfl⟩ (ConvH.of (.cons r0 (.cons r0 .nil)))

noncomputable def vary_Set_IDs_L0 : List S_vary_variant → Nat → (List Int) → Option ((List Int))
  | [], _, y0_0 => some y0_0
  | e0 :: xs0, i0, y0_0 =>
    (chk (y0_0.length + [e0.id].length ≤ lim)).bind fun _ =>
    vary_Set_IDs_L0 xs0 (i0 + 1) (y0_0 ++ [e0.id])
noncomputable def vary_Set_IDs (s : S_vary_Set) : Option ((List Int)) :=
  (chk (s.list.length ≤ szMax)).bind fun _ =>
  (vary_Set_IDs_L0 s.list 0 []).bind fun t0 =>
  some t0
set_option maxHeartbeats 8000000 in
theorem vary_Set_IDs_ok {s : S_vary_Set} {b0 : Nat} {ap0_0 : Option Addr} {cp0_0 : Nat} {sp0_0 : List (List Value)} {K : Hp} {r : (List Int)}
    (hm : vary_Set_IDs s = some r) (hp0_0 : (0 < s.list.length → Has ap0_0)) (rp0_0 : LR S_vary_variant.R K sp0_0 s.list) :
    Fn Try.prog 23 [.pointer (some ⟨b0, 0, none⟩)] K [Cells b0 75 [.slice ap0_0 s.list.length cp0_0], OwnA ap0_0 78 3 cp0_0 sp0_0] (fun v K' H' => ∃ ar_0 : Option Addr, ∃ cr_0 : Nat, v = .slice ar_0 r.length cr_0 ∧ (0 < r.length → Has ar_0) ∧ H' = [OwnL eN ar_0 3 1 cr_0 r, Cells b0 75 [.slice ap0_0 s.list.length cp0_0], OwnA ap0_0 78 3 cp0_0 sp0_0]) := by
  refine Fn.enter Try.func23 Try.call23 rfl fun F => ?_
  unfold vary_Set_IDs at hm
  conv => whnf
  refine eq_ptr_nil rfl ?_
  conv => whnf
  refine cond_go rfl ?_
  conv => whnf
  refine cond_F ?_
  conv => whnf
  refine nil_check ?_
  conv => whnf
  refine field_addr rfl ?_
  conv => whnf
  refine RStep.of (load1_s r0 rfl rfl ?_)
  conv => whnf
  refine RStep.of (len_slice rfl ?_)
  obtain ⟨hk0, hm⟩ := chkb hm
  obtain ⟨s0, hl0, hm⟩ := bnd hm
  conv => whnf
  refine nilC eN 3 1 ?_
  refine code_cut (σ := ((List Int)) × Option Addr × Nat) [3, 5, 13, 14, 15, 16, 17, 18, 19, 20, 21, 22] (fun (t0, t0_a0, t0_c0) => [(3, .slice t0_a0 t0.length t0_c0)]) (fun (t0, t0_a0, t0_c0) => [OwnL eN t0_a0 3 1 t0_c0 t0, Cells b0 75 [.slice ap0_0 s.list.length cp0_0], OwnA ap0_0 78 3 cp0_0 sp0_0, F]) (fun zz K1 => match zz with | (t0, t0_a0, t0_c0) => (0 < t0.length → Has t0_a0) ∧ t0 = s0) ?_ ?_
  · refine block_go rfl ?_
    conv => whnf
    refine loop_rule (σ := Nat × (List Int) × Option Addr × Nat) [3, 5, 13, 14, 15, 16, 17, 18, 19, 20, 21, 22] (fun (i0, y0_0, y0_a0, y0_c0) => [(13, .int .i64 (i0 : Int)), (3, .slice y0_a0 y0_0.length y0_c0)]) (fun (i0, y0_0, y0_a0, y0_c0) => [OwnL eN y0_a0 3 1 y0_c0 y0_0, Cells b0 75 [.slice ap0_0 s.list.length cp0_0], OwnA ap0_0 78 3 cp0_0 sp0_0, F]) (fun zz K1 => match zz with | (i0, y0_0, y0_a0, y0_c0) => (0 < y0_0.length → Has y0_a0) ∧ vary_Set_IDs_L0 (s.list.drop i0) i0 y0_0 = some s0) (fun zz => s.list.length - zz.1) (0, [], none, 0) rfl ⟨rfl, rfl, trivial⟩ (ConvH.of (.cons r0 (.cons r0 (.cons r0 (.cons r0 .nil))))) ⟨(fun h => by simp at h), hl0⟩ ?_
    clear hl0
    rintro ⟨i0, y0_0, y0_a0, y0_c0⟩ Kb0 lk0 ⟨y0_h0, hl0⟩ j0
    conv => whnf
    refine cond_go rfl ?_
    conv => whnf
    refine cond_s (fun w0 => ?_) (fun w0 => ?_)
    · obtain ⟨e0, hx0, hd0⟩ := ltx w0
      rw [hd0, vary_Set_IDs_L0.eq_2] at hl0
      conv => whnf
      refine block_go rfl ?_
      conv => whnf
      refine RStep.ofN (index_addr rfl rfl (hasO hp0_0 hx0) (nn _) (lt_ofNE rfl hx0) ?_)
      obtain ⟨cc16, hc16, hR16⟩ := LR.get (LR.mono S_vary_variant.R_ok lk0 rp0_0) hx0
      obtain ⟨a16_0, c16_0, rfl, h16_0⟩ := hR16
      conv => whnf
      refine RStep.of (ldnA (i := i0) r2 rfl hc16 rfl ?_)
      conv => whnf
      refine alloc_rule rfl ?_
      intro b5
      conv => whnf
      refine store_rule r0 rfl ?_
      conv => whnf
      refine ⟨rfl, rfl, (Nat.le_of_ble_eq_true rfl), ?_⟩
      conv => whnf
      refine field_addr rfl ?_
      conv => whnf
      refine RStep.of (load1_s r0 rfl rfl ?_)
      conv => whnf
      refine bsO (len := 1) (enc := eN) (l := [e0.id]) (cl := [.int .i64 e0.id]) elT35 rfl rfl (fun _ _ => rfl) rfl rfl rfl ?_ fun b20 => ?_
      · conv => whnf
        refine cond_T ?_
        conv => whnf
        first | done | rfl
      obtain ⟨h21, hl0⟩ := chkb hl0
      conv => whnf
      refine apE rfl r2 elT35 (src_own' rfl r0 rfl (fun _ => rfl) (fun _ => rfl)) h21 ?_
      intro a21 c21 o21
      conv => whnf
      refine int_in (cntz hx0 hk0) ?_
      conv => whnf
      refine RoundStep.mk (i0 + 1, (y0_0 ++ [e0.id]), a21, c21) ⟨rfl, rfl, trivial⟩ (by repeat (first | exact trivial | refine And.intro rfl ?_)) (ConvH.of (.cons r0 (.cons r2 (.cons r2 (.cons r2 .nil))))) lk0 (ltm hx0) ⟨o21, hl0⟩
    · rw [lty w0, vary_Set_IDs_L0.eq_1] at hl0
      conv => whnf
      refine cond_T ?_
      conv => whnf
      refine MeetStep.mk (y0_0, y0_a0, y0_c0) ⟨rfl, trivial⟩ (by repeat (first | exact trivial | refine And.intro rfl ?_)) (ConvH.of (.cons r0 (.cons r0 (.cons r0 (.cons r0 .nil))))) lk0 ⟨y0_h0, (si hl0)⟩
  · rintro ⟨t0, t0_a0, t0_c0⟩ Kt0 lt0 ⟨t0_h0, rfl⟩ j0
    obtain rfl := si hm
    conv => whnf
    refine EndStep.mk _ lt0 ⟨t0_a0, t0_c0, rfl, t0_h0, rfl⟩ (ConvH.of (.cons r0 (.cons r0 (.cons r0 (.cons r0 .nil)))))

noncomputable def ref16_IDs_L0 : List S_ref16_Variant → Nat → (List Int) → Option ((List Int))
  | [], _, y0_0 => some y0_0
  | e0 :: xs0, i0, y0_0 =>
    (chk (y0_0.length + [e0.ID].length ≤ lim)).bind fun _ =>
    ref16_IDs_L0 xs0 (i0 + 1) (y0_0 ++ [e0.ID])
noncomputable def ref16_IDs (l : (List S_ref16_Variant)) : Option ((List Int)) :=
  (chk (l.length ≤ szMax)).bind fun _ =>
  (ref16_IDs_L0 l 0 []).bind fun t0 =>
  some t0
set_option maxHeartbeats 8000000 in
theorem ref16_IDs_ok {l : (List S_ref16_Variant)} {ap0_0 : Option Addr} {cp0_0 : Nat} {n0 : Nat} {K : Hp} {r : (List Int)}
    (hm : ref16_IDs l = some r) (hp0_0 : LiC S_ref16_Variant.R K ap0_0 cp0_0 3 l) (en0 : n0 = l.length) :
    Fn Try.prog 28 [.slice ap0_0 n0 cp0_0] K [] (fun v K' H' => ∃ ar_0 : Option Addr, ∃ cr_0 : Nat, v = .slice ar_0 r.length cr_0 ∧ (0 < r.length → Has ar_0) ∧ H' = [OwnL eN ar_0 3 1 cr_0 r]) := by
  subst en0
  refine Fn.enter Try.func28 Try.call28 rfl fun F => ?_
  unfold ref16_IDs at hm
  conv => whnf
  refine RStep.of (len_slice rfl ?_)
  obtain ⟨hk0, hm⟩ := chkb hm
  obtain ⟨s0, hl0, hm⟩ := bnd hm
  conv => whnf
  refine nilC eN 3 1 ?_
  refine code_cut (σ := ((List Int)) × Option Addr × Nat) [3, 5, 8, 9, 10, 11, 12, 13, 14, 15, 16, 17] (fun (t0, t0_a0, t0_c0) => [(3, .slice t0_a0 t0.length t0_c0)]) (fun (t0, t0_a0, t0_c0) => [OwnL eN t0_a0 3 1 t0_c0 t0, F]) (fun zz K1 => match zz with | (t0, t0_a0, t0_c0) => (0 < t0.length → Has t0_a0) ∧ t0 = s0) ?_ ?_
  · refine block_go rfl ?_
    conv => whnf
    refine loop_rule (σ := Nat × (List Int) × Option Addr × Nat) [3, 5, 8, 9, 10, 11, 12, 13, 14, 15, 16, 17] (fun (i0, y0_0, y0_a0, y0_c0) => [(8, .int .i64 (i0 : Int)), (3, .slice y0_a0 y0_0.length y0_c0)]) (fun (i0, y0_0, y0_a0, y0_c0) => [OwnL eN y0_a0 3 1 y0_c0 y0_0, F]) (fun zz K1 => match zz with | (i0, y0_0, y0_a0, y0_c0) => (0 < y0_0.length → Has y0_a0) ∧ ref16_IDs_L0 (l.drop i0) i0 y0_0 = some s0) (fun zz => l.length - zz.1) (0, [], none, 0) rfl ⟨rfl, rfl, trivial⟩ (ConvH.of (.cons r0 (.cons r0 .nil))) ⟨(fun h => by simp at h), hl0⟩ ?_
    clear hl0
    rintro ⟨i0, y0_0, y0_a0, y0_c0⟩ Kb0 lk0 ⟨y0_h0, hl0⟩ j0
    conv => whnf
    refine cond_go rfl ?_
    conv => whnf
    refine cond_s (fun w0 => ?_) (fun w0 => ?_)
    · obtain ⟨e0, hx0, hd0⟩ := ltx w0
      rw [hd0, ref16_IDs_L0.eq_2] at hl0
      conv => whnf
      refine block_go rfl ?_
      conv => whnf
      refine RStep.ofN (index_addr rfl rfl (hasR (LiC.mono S_ref16_Variant.R_ok lk0 hp0_0).rd hx0) (nn _) (lt_ofN hx0) ?_)
      obtain ⟨ss11, cc11, hr11, hc11, hR11⟩ := LiR.get (LiC.mono S_ref16_Variant.R_ok lk0 hp0_0).rd hx0
      obtain ⟨a11_0, c11_0, rfl, h11_0⟩ := hR11
      conv => whnf
      refine RStep.of (load_rd_agg i0 _ hr11 rfl hc11 rfl ?_)
      conv => whnf
      refine alloc_rule rfl ?_
      intro b5
      conv => whnf
      refine store_rule r0 rfl ?_
      conv => whnf
      refine ⟨rfl, rfl, (Nat.le_of_ble_eq_true rfl), ?_⟩
      conv => whnf
      refine field_addr rfl ?_
      conv => whnf
      refine RStep.of (load1_s r0 rfl rfl ?_)
      conv => whnf
      refine bsO (len := 1) (enc := eN) (l := [e0.ID]) (cl := [.int .i64 e0.ID]) elT35 rfl rfl (fun _ _ => rfl) rfl rfl rfl ?_ fun b15 => ?_
      · conv => whnf
        refine cond_T ?_
        conv => whnf
        first | done | rfl
      obtain ⟨h16, hl0⟩ := chkb hl0
      conv => whnf
      refine apE rfl r2 elT35 (src_own' rfl r0 rfl (fun _ => rfl) (fun _ => rfl)) h16 ?_
      intro a16 c16 o16
      conv => whnf
      refine int_in (cntz hx0 hk0) ?_
      conv => whnf
      refine RoundStep.mk (i0 + 1, (y0_0 ++ [e0.ID]), a16, c16) ⟨rfl, rfl, trivial⟩ (by repeat (first | exact trivial | refine And.intro rfl ?_)) (ConvH.of (.cons r0 (.cons r2 .nil))) lk0 (ltm hx0) ⟨o16, hl0⟩
    · rw [lty w0, ref16_IDs_L0.eq_1] at hl0
      conv => whnf
      refine cond_T ?_
      conv => whnf
      refine MeetStep.mk (y0_0, y0_a0, y0_c0) ⟨rfl, trivial⟩ (by repeat (first | exact trivial | refine And.intro rfl ?_)) (ConvH.of (.cons r0 (.cons r0 .nil))) lk0 ⟨y0_h0, (si hl0)⟩
  · rintro ⟨t0, t0_a0, t0_c0⟩ Kt0 lt0 ⟨t0_h0, rfl⟩ j0
    obtain rfl := si hm
    conv => whnf
    refine EndStep.mk _ lt0 ⟨t0_a0, t0_c0, rfl, t0_h0, rfl⟩ (ConvH.of (.cons r0 (.cons r0 .nil)))

noncomputable def vary_Set_Remove_1 (x : S_vary_variant) (p1' : Int) : Option (Bool) :=
  some (decide (x.id = p1'))
set_option maxHeartbeats 8000000 in
theorem vary_Set_Remove_1_ok {x : S_vary_variant} {p1' : Int} {ap0_0 : Option Addr} {cp0_0 : Nat} {b1 : Nat} {K : Hp} {r : Bool}
    (hm : vary_Set_Remove_1 x p1' = some r) (hp0_0 : RdC eS K ap0_0 cp0_0 1 x.names) :
    Fn Try.prog 43 [.agg #[.slice ap0_0 x.names.length cp0_0, str x.key, .int .i64 x.id], .pointer (some ⟨b1, 0, none⟩)] K [Cells b1 3 [.int .i64 p1']] (fun v K' H' => v = .bool r ∧ H' = [Cells b1 3 [.int .i64 p1']]) := by
  refine Fn.enter Try.func43 Try.call43 rfl fun F => ?_
  unfold vary_Set_Remove_1 at hm
  conv => whnf
  refine box_rule ?_
  intro b2
  conv => whnf
  refine field_addr rfl ?_
  conv => whnf
  refine RStep.of (load1_s r0 rfl rfl ?_)
  conv => whnf
  refine RStep.of (load1_s r1 rfl rfl ?_)
  conv => whnf
  refine eq_int ?_
  obtain rfl := si hm
  conv => whnf
  refine EndStep.mk _ (Hp.Le.refl _) ⟨rfl, rfl⟩ (ConvH.of (.cons r1 (.cons r1 .nil)))

noncomputable def slices_IndexFunc_quaysidevaryvariant_f43_L0 (f : Int) : List S_vary_variant → Nat → Option (Fl (Int) (Unit))
  | [], _ => some (Fl.go ())
  | e0 :: xs0, i0 =>
    (vary_Set_Remove_1 e0 f).bind fun x16 =>
    if x16 then
    some (Fl.ret (i0 : Int))
    else
    slices_IndexFunc_quaysidevaryvariant_f43_L0 f xs0 (i0 + 1)
noncomputable def slices_IndexFunc_quaysidevaryvariant_f43 (s : (List S_vary_variant)) (f : Int) : Option (Int) :=
  (chk (s.length ≤ szMax)).bind fun _ =>
  (slices_IndexFunc_quaysidevaryvariant_f43_L0 f s 0).bind fun s0 => s0.el some fun t0 =>
  some (-1)
set_option maxHeartbeats 8000000 in
theorem slices_IndexFunc_quaysidevaryvariant_f43_ok {s : (List S_vary_variant)} {f : Int} {ap0_0 : Option Addr} {cp0_0 : Nat} {n0 : Nat} {b1 : Nat} {K : Hp} {r : Int}
    (hm : slices_IndexFunc_quaysidevaryvariant_f43 s f = some r) (hp0_0 : LiC S_vary_variant.R K ap0_0 cp0_0 3 s) (en0 : n0 = s.length) :
    Fn Try.prog 52 [.slice ap0_0 n0 cp0_0, .func (.func 43) #[] #[.pointer (some ⟨b1, 0, none⟩)]] K [Cells b1 3 [.int .i64 f]] (fun v K' H' => v = .int .i64 r ∧ H' = [Cells b1 3 [.int .i64 f]]) := by
  subst en0
  refine Fn.enter Try.func52 Try.call52 rfl fun F => ?_
  unfold slices_IndexFunc_quaysidevaryvariant_f43 at hm
  conv => whnf
  refine RStep.of (len_slice rfl ?_)
  obtain ⟨hk0, hm⟩ := chkb hm
  obtain ⟨s0, hl0, hm⟩ := bnd hm
  conv => whnf
  refine code_cut (σ := (Unit)) [4, 5, 8, 9, 10, 11, 12, 13, 14, 15, 16, 17, 18] (fun t0 => []) (fun t0 => [Cells b1 3 [.int .i64 f], F]) (fun zz K1 => match zz with | t0 => s0 = Fl.go t0) ?_ ?_
  · refine block_go rfl ?_
    conv => whnf
    refine loop_rule (σ := Nat) [4, 5, 8, 9, 10, 11, 12, 13, 14, 15, 16, 17, 18] (fun i0 => [(8, .int .i64 (i0 : Int))]) (fun i0 => [Cells b1 3 [.int .i64 f], F]) (fun zz K1 => match zz with | i0 => slices_IndexFunc_quaysidevaryvariant_f43_L0 f (s.drop i0) i0 = some s0) (fun zz => s.length - zz) (0) rfl ⟨rfl, trivial⟩ (ConvH.of (.cons r0 (.cons r0 .nil))) hl0 ?_
    clear hl0
    rintro i0 Kb0 lk0 hl0 j0
    conv at hl0 => whnf
    conv => whnf
    refine cond_go rfl ?_
    conv => whnf
    refine cond_s (fun w0 => ?_) (fun w0 => ?_)
    · obtain ⟨e0, hx0, hd0⟩ := ltx w0
      rw [hd0, slices_IndexFunc_quaysidevaryvariant_f43_L0.eq_2] at hl0
      conv => whnf
      refine block_go rfl ?_
      conv => whnf
      refine RStep.ofN (index_addr rfl rfl (hasR (LiC.mono S_vary_variant.R_ok lk0 hp0_0).rd hx0) (nn _) (lt_ofN hx0) ?_)
      obtain ⟨ss15, cc15, hr15, hc15, hR15⟩ := LiR.get (LiC.mono S_vary_variant.R_ok lk0 hp0_0).rd hx0
      obtain ⟨a15_0, c15_0, rfl, h15_0⟩ := hR15
      conv => whnf
      refine RStep.of (load_rd_agg i0 _ hr15 rfl hc15 rfl ?_)
      obtain ⟨x16, q16, hl0⟩ := bnd hl0
      conv => whnf
      refine call_fn (vary_Set_Remove_1_ok (x := e0) (p1' := f) q16 h15_0) (.cons r0 .nil) ?_
      rintro _ K16 _ l16 ⟨rfl, rfl⟩
      conv => whnf
      refine cond_go rfl ?_
      conv => whnf
      refine cond_s (fun w16 => ?_) (fun w16 => ?_)
      · replace hl0 := ift w16 hl0
        obtain rfl := si hl0
        replace hm := elr hm
        obtain rfl := si hm
        conv => whnf
        refine EndStep.mk _ (lk0.trans l16) ⟨rfl, rfl⟩ (ConvH.of (.cons r0 (.cons r0 .nil)))
      · replace hl0 := iff_ w16 hl0
        conv => whnf
        refine int_in (cntz hx0 hk0) ?_
        conv => whnf
        refine RoundStep.mk (i0 + 1) ⟨rfl, trivial⟩ (by repeat (first | exact trivial | refine And.intro rfl ?_)) (ConvH.of (.cons r0 (.cons r0 .nil))) (lk0.trans l16) (ltm hx0) hl0
    · rw [lty w0, slices_IndexFunc_quaysidevaryvariant_f43_L0.eq_1] at hl0
      conv => whnf
      refine cond_T ?_
      conv => whnf
      refine MeetStep.mk (()) trivial (by repeat (first | exact trivial | refine And.intro rfl ?_)) (ConvH.of (.cons r0 (.cons r0 .nil))) lk0 (si hl0).symm
  · rintro t0 Kt0 lt0 rfl j0
    replace hm := elg hm
    obtain rfl := si hm
    conv => whnf
    refine EndStep.mk _ lt0 ⟨rfl, rfl⟩ (ConvH.of (.cons r0 (.cons r0 .nil)))

noncomputable def slices_DeleteFunc_quaysidevaryvariant_f43_tk_L0 (s : (List S_vary_variant)) (del : Int) : Nat → Int → Int → (List S_vary_variant) → Option (Int × Int × (List S_vary_variant))
  | 0, _, _, _ => none
  | xs0 + 1, y0_0, y0_1, y0_2 =>
    if decide (y0_1 < (s.length : Int)) then
    (ix y0_2 y0_1).bind fun x24 =>
    (vary_Set_Remove_1 x24 del).bind fun x28 =>
    if (!x28) then
    (ix y0_2 y0_0).bind fun x33 =>
    (chk (InI (y0_0 + 1))).bind fun _ =>
    (chk (InI (y0_1 + 1))).bind fun _ =>
    slices_DeleteFunc_quaysidevaryvariant_f43_tk_L0 s del xs0 (y0_0 + 1) (y0_1 + 1) (y0_2.set ((y0_0).toNat) x24)
    else
    (chk (InI (y0_1 + 1))).bind fun _ =>
    slices_DeleteFunc_quaysidevaryvariant_f43_tk_L0 s del xs0 y0_0 (y0_1 + 1) y0_2
    else
    some (y0_0, y0_1, y0_2)
noncomputable def slices_DeleteFunc_quaysidevaryvariant_f43_tk (n : Nat) (s : (List S_vary_variant)) (del : Int) : Option ((List S_vary_variant)) :=
  (slices_IndexFunc_quaysidevaryvariant_f43 s del).bind fun x10 =>
  if decide (x10 = (-1)) then
  some s
  else
  (chk (InI (x10 + 1))).bind fun _ =>
  (slices_DeleteFunc_quaysidevaryvariant_f43_tk_L0 s del n x10 (x10 + 1) s).bind fun t0 =>
  (chk (0 ≤ t0.1 ∧ t0.1 ≤ (t0.2.2.length : Int) ∧ (t0.2.2.length : Int) ≤ (t0.2.2.length : Int))).bind fun _ =>
  (chk (0 ≤ (0 : Int) ∧ (0 : Int) ≤ t0.1 ∧ t0.1 ≤ ((SL.clr t0.2.2 (Int.toNat t0.1) (⟨[], ([] : Str), 0⟩ : S_vary_variant)).length : Int))).bind fun _ =>
  some (subL (SL.clr t0.2.2 (Int.toNat t0.1) (⟨[], ([] : Str), 0⟩ : S_vary_variant)) (0 : Int) t0.1)
set_option maxHeartbeats 8000000 in
theorem slices_DeleteFunc_quaysidevaryvariant_f43_tk_ok {n : Nat} {s : (List S_vary_variant)} {del : Int} {ap0_0 : Option Addr} {cp0_0 : Nat} {sp0_0 : List (List Value)} {n0 : Nat} {b1 : Nat} {K : Hp} {r : (List S_vary_variant)}
    (hm : slices_DeleteFunc_quaysidevaryvariant_f43_tk n s del = some r) (hp0_0 : (0 < s.length → Has ap0_0)) (rp0_0 : LR S_vary_variant.R K sp0_0 s) (en0 : n0 = s.length) :
    Fn Try.prog 42 [.slice ap0_0 n0 cp0_0, .func (.func 43) #[] #[.pointer (some ⟨b1, 0, none⟩)]] K [OwnA ap0_0 78 3 cp0_0 sp0_0, Cells b1 3 [.int .i64 del]] (fun v K' H' => ∃ ar_0 : Option Addr, ∃ cr_0 : Nat, ∃ sr_0 : List (List Value), v = .slice ar_0 r.length cr_0 ∧ (0 < r.length → Has ar_0) ∧ LR S_vary_variant.R K' sr_0 r ∧ H' = [OwnA ar_0 78 3 cr_0 sr_0, Cells b1 3 [.int .i64 del]]) := by
  subst en0
  refine Fn.enter Try.func42 Try.call42 rfl fun F => ?_
  unfold slices_DeleteFunc_quaysidevaryvariant_f43_tk at hm
  obtain ⟨x10, q10, hm⟩ := bnd hm
  conv => whnf
  refine call_fn (Fn.lendR S_vary_variant.R_ok rp0_0 Try.call52 (fun K10_0 l10_0 f10_0 => (slices_IndexFunc_quaysidevaryvariant_f43_ok (f := del) q10 f10_0 rfl)) (by exact fun _ _ _ _ h => h)) (.cons r0 (.cons r0 .nil)) ?_
  rintro _ K10 _ l10 ⟨_, rfl, rfl, rfl⟩
  conv => whnf
  refine eq_int ?_
  conv => whnf
  refine cond_go rfl ?_
  conv => whnf
  refine cond_s (fun w12 => ?_) (fun w12 => ?_)
  · replace hm := ift w12 hm
    obtain rfl := si hm
    conv => whnf
    refine EndStep.mk _ l10 ⟨ap0_0, cp0_0, sp0_0, rfl, hp0_0, (LR.mono S_vary_variant.R_ok l10 rp0_0), rfl⟩ (ConvH.of (.cons r0 (.cons r0 (.cons r0 .nil))))
  · replace hm := iff_ w12 hm
    obtain ⟨h15, hm⟩ := chkb hm
    conv => whnf
    refine int_in h15 ?_
    obtain ⟨s0, hl0, hm⟩ := bnd hm
    conv => whnf
    refine code_cut (σ := (Int × Int × (List S_vary_variant)) × List (List Value)) [5, 6, 7, 16, 17, 18, 19, 20, 21, 22, 23, 24, 25, 26, 27, 28, 29, 30, 31, 32, 33, 34, 35] (fun (t0, t0_s2) => [(5, .int .i64 t0.1), (6, .int .i64 t0.2.1)]) (fun (t0, t0_s2) => [OwnA ap0_0 78 3 cp0_0 t0_s2, Cells b1 3 [.int .i64 del], F]) (fun zz K1 => match zz with | (t0, t0_s2) => LR S_vary_variant.R K1 t0_s2 t0.2.2 ∧ (0 < t0.2.2.length → Has ap0_0) ∧ s.length = t0.2.2.length ∧ t0 = s0) ?_ ?_
    · refine block_go rfl ?_
      conv => whnf
      refine loop_rule (σ := Nat × Int × Int × (List S_vary_variant) × List (List Value)) [5, 6, 7, 16, 17, 18, 19, 20, 21, 22, 23, 24, 25, 26, 27, 28, 29, 30, 31, 32, 33, 34, 35] (fun (i0, y0_0, y0_1, y0_2, y0_s2) => [(5, .int .i64 y0_0), (6, .int .i64 y0_1)]) (fun (i0, y0_0, y0_1, y0_2, y0_s2) => [OwnA ap0_0 78 3 cp0_0 y0_s2, Cells b1 3 [.int .i64 del], F]) (fun zz K1 => match zz with | (i0, y0_0, y0_1, y0_2, y0_s2) => LR S_vary_variant.R K1 y0_s2 y0_2 ∧ (0 < y0_2.length → Has ap0_0) ∧ s.length = y0_2.length ∧ slices_DeleteFunc_quaysidevaryvariant_f43_tk_L0 s del i0 y0_0 y0_1 y0_2 = some s0) (fun zz => zz.1) (n, x10, (x10 + 1), s, sp0_0) rfl ⟨rfl, rfl, trivial⟩ (ConvH.of (.cons r0 (.cons r0 (.cons r0 .nil)))) ⟨(LR.mono S_vary_variant.R_ok l10 rp0_0), hp0_0, rfl, hl0⟩ ?_
      clear hl0
      rintro ⟨i0, y0_0, y0_1, y0_2, y0_s2⟩ Kb0 lk0 ⟨y0_r2, y0_h2, y0_n2, hl0⟩ j0
      cases i0 with
      | zero => rw [slices_DeleteFunc_quaysidevaryvariant_f43_tk_L0.eq_1] at hl0; cases hl0
      | succ i0 =>
        rw [slices_DeleteFunc_quaysidevaryvariant_f43_tk_L0.eq_2] at hl0
        conv => whnf
        refine RStep.of (len_slice rfl ?_)
        conv => whnf
        refine cond_go rfl ?_
        conv => whnf
        refine cond_s (fun w19 => ?_) (fun w19 => ?_)
        · replace hl0 := ift w19 hl0
          conv => whnf
          refine block_go rfl ?_
          obtain ⟨x24, l24, k24, hl0⟩ := ixb hl0
          conv => whnf
          refine RStep.ofN (index_addr rfl rfl (hasO y0_h2 k24) l24 (lt_ofE y0_n2 l24 k24) ?_)
          obtain ⟨cc25, hc25, hR25⟩ := LR.get y0_r2 k24
          obtain ⟨a25_0, c25_0, rfl, h25_0⟩ := hR25
          conv => whnf
          refine RStep.of (ldnA (i := (y0_1).toNat) r0 rfl hc25 rfl ?_)
          conv => whnf
          refine alloc_rule rfl ?_
          intro b7
          conv => whnf
          refine store_rule r0 rfl ?_
          conv => whnf
          refine ⟨rfl, rfl, (Nat.le_of_ble_eq_true rfl), ?_⟩
          conv => whnf
          refine RStep.of (loadn_s r0 rfl (Nat.le_of_ble_eq_true rfl) ?_)
          obtain ⟨x28, q28, hl0⟩ := bnd hl0
          conv => whnf
          refine call_fn (vary_Set_Remove_1_ok (x := x24) (p1' := del) q28 h25_0) (.cons r2 .nil) ?_
          rintro _ K28 _ l28 ⟨rfl, rfl⟩
          conv => whnf
          refine un_not ?_
          conv => whnf
          refine cond_go rfl ?_
          conv => whnf
          refine cond_s (fun w29 => ?_) (fun w29 => ?_)
          · replace hl0 := ift (not_t (ni_t w29)) hl0
            conv => whnf
            refine RStep.of (loadn_s r1 rfl (Nat.le_of_ble_eq_true rfl) ?_)
            obtain ⟨x33, l33, k33, hl0⟩ := ixb hl0
            conv => whnf
            refine RStep.ofN (index_addr rfl rfl (hasO y0_h2 k33) l33 (lt_ofE y0_n2 l33 k33) ?_)
            obtain ⟨ccw4, hcw4, _⟩ := LR.get (LR.mono S_vary_variant.R_ok l28 y0_r2) k33
            conv => whnf
            refine stA0 [.slice a25_0 x24.names.length c25_0, str x24.key, .int .i64 x24.id] r2 rfl hcw4 rfl (by (conv => whnf); exact ⟨rfl, rfl, rfl, rfl⟩) ?_
            obtain ⟨h35, hl0⟩ := chkb hl0
            conv => whnf
            refine int_in h35 ?_
            obtain ⟨h21, hl0⟩ := chkb hl0
            conv => whnf
            refine int_in h21 ?_
            conv => whnf
            refine RoundStep.mk (i0, (y0_0 + 1), (y0_1 + 1), (y0_2.set ((y0_0).toNat) x24), (y0_s2.set ((y0_0).toNat) [.slice a25_0 x24.names.length c25_0, str x24.key, .int .i64 x24.id])) ⟨rfl, rfl, trivial⟩ (by repeat (first | exact trivial | refine And.intro rfl ?_)) (ConvH.of (.cons r0 (.cons r0 (.cons r1 .nil)))) (lk0.trans l28) (Nat.lt_succ_self _) ⟨(LR.set (LR.mono S_vary_variant.R_ok l28 y0_r2) ⟨a25_0, c25_0, rfl, (h25_0.mono l28)⟩), (by simpa using y0_h2), ((y0_n2).trans List.length_set.symm), hl0⟩
          · replace hl0 := iff_ (not_f (ni_f w29)) hl0
            obtain ⟨h21, hl0⟩ := chkb hl0
            conv => whnf
            refine int_in h21 ?_
            conv => whnf
            refine RoundStep.mk (i0, y0_0, (y0_1 + 1), y0_2, y0_s2) ⟨rfl, rfl, trivial⟩ (by repeat (first | exact trivial | refine And.intro rfl ?_)) (ConvH.of (.cons r2 (.cons r0 (.cons r1 .nil)))) (lk0.trans l28) (Nat.lt_succ_self _) ⟨(LR.mono S_vary_variant.R_ok l28 y0_r2), y0_h2, y0_n2, hl0⟩
        · replace hl0 := iff_ w19 hl0
          conv => whnf
          refine cond_T ?_
          conv => whnf
          refine MeetStep.mk ((y0_0, y0_1, y0_2), y0_s2) ⟨rfl, rfl, trivial⟩ (by repeat (first | exact trivial | refine And.intro rfl ?_)) (ConvH.of (.cons r0 (.cons r0 (.cons r0 .nil)))) lk0 ⟨y0_r2, y0_h2, y0_n2, (si hl0)⟩
    · rintro ⟨t0, t0_s2⟩ Kt0 lt0 ⟨t0_r2, t0_h2, t0_n2, rfl⟩ j0
      obtain ⟨h38, hm⟩ := chkb hm
      conv => whnf
      refine ownPart (l := t0.2.2) (lo := (some t0.1)) (hi := none) t0_n2 r0 t0_r2.len rfl rfl h38 ?_
      conv => whnf
      refine clearA (lo := (Int.toNat t0.1)) (zl := [.slice none 0 0, str ([] : Str), .int .i64 0]) r0 rfl rfl rfl rfl rfl (by decide) (clr_n t0_r2.len h38) (clr_le t0_r2.len h38) ?_
      obtain ⟨h41, hm⟩ := chkb hm
      conv => whnf
      refine ownSl (l := (SL.clr t0.2.2 (Int.toNat t0.1) (⟨[], ([] : Str), 0⟩ : S_vary_variant))) (hi := (some t0.1)) ((t0_n2).trans (clr_len h38).symm) r0 (LR.clr (z := [.slice none 0 0, str ([] : Str), .int .i64 0]) (x := (⟨[], ([] : Str), 0⟩ : S_vary_variant)) t0_r2 (Int.toNat t0.1) ⟨none, 0, rfl, RdC.nil⟩).len rfl rfl h41 ?_
      obtain rfl := si hm
      conv => whnf
      refine tkAE t0.1 r0 ?_
      refine EndStep.mk _ (l10.trans lt0) ⟨ap0_0, cp0_0, (subL (SL.clr t0_s2 (Int.toNat t0.1) [.slice none 0 0, str ([] : Str), .int .i64 0]) 0 t0.1), rfl, (fun h => (fun h => t0_h2 (clr_pos h)) (pos_sub h41 h)), (LR.sub0 t0.1 (LR.clr (z := [.slice none 0 0, str ([] : Str), .int .i64 0]) (x := (⟨[], ([] : Str), 0⟩ : S_vary_variant)) t0_r2 (Int.toNat t0.1) ⟨none, 0, rfl, RdC.nil⟩)), rfl⟩ (ConvH.of (.cons r0 (.cons r0 (.cons r0 .nil))))

noncomputable def vary_Set_Remove (n : Nat) (s : S_vary_Set) (id : Int) : Option (Bool × S_vary_Set) :=
  (slices_DeleteFunc_quaysidevaryvariant_f43_tk n s.list id).bind fun x19 =>
  some (decide ((x19.length : Int) < (s.list.length : Int)), (⟨x19⟩ : S_vary_Set))
set_option maxHeartbeats 8000000 in
theorem vary_Set_Remove_ok {n : Nat} {s : S_vary_Set} {id : Int} {b0 : Nat} {ap0_0 : Option Addr} {cp0_0 : Nat} {sp0_0 : List (List Value)} {K : Hp} {r : Bool × S_vary_Set}
    (hm : vary_Set_Remove n s id = some r) (hp0_0 : (0 < s.list.length → Has ap0_0)) (rp0_0 : LR S_vary_variant.R K sp0_0 s.list) :
    Fn Try.prog 25 [.pointer (some ⟨b0, 0, none⟩), .int .i64 id] K [Cells b0 75 [.slice ap0_0 s.list.length cp0_0], OwnA ap0_0 78 3 cp0_0 sp0_0] (fun v K' H' => ∃ ar_0 : Option Addr, ∃ cr_0 : Nat, ∃ sr_0 : List (List Value), v = .bool r.1 ∧ (0 < r.2.list.length → Has ar_0) ∧ LR S_vary_variant.R K' sr_0 r.2.list ∧ H' = [Cells b0 75 [.slice ar_0 r.2.list.length cr_0], OwnA ar_0 78 3 cr_0 sr_0]) := by
  refine Fn.enter Try.func25 Try.call25 rfl fun F => ?_
  unfold vary_Set_Remove at hm
  conv => whnf
  refine box_rule ?_
  intro b3
  conv => whnf
  refine eq_ptr_nil rfl ?_
  conv => whnf
  refine cond_go rfl ?_
  conv => whnf
  refine cond_F ?_
  conv => whnf
  refine nil_check ?_
  conv => whnf
  refine field_addr rfl ?_
  conv => whnf
  refine RStep.of (load1_s r1 rfl rfl ?_)
  conv => whnf
  refine RStep.of (len_slice rfl ?_)
  conv => whnf
  refine nil_check ?_
  conv => whnf
  refine field_addr rfl ?_
  conv => whnf
  refine RStep.of (load1_s r1 rfl rfl ?_)
  conv => whnf
  refine mkFunc ?_
  obtain ⟨x19, q19, hm⟩ := bnd hm
  conv => whnf
  refine call_fn (slices_DeleteFunc_quaysidevaryvariant_f43_tk_ok (del := id) q19 hp0_0 rp0_0 rfl) (.cons r2 (.cons r0 .nil)) ?_
  rintro _ K19 _ l19 ⟨a19_0, c19_0, s19_0, rfl, h19_0, r19_0, rfl⟩
  conv => whnf
  refine nil_check ?_
  conv => whnf
  refine field_addr rfl ?_
  conv => whnf
  refine store_rule r2 rfl ?_
  conv => whnf
  refine ⟨rfl, rfl, (Nat.le_of_ble_eq_true rfl), ?_⟩
  conv => whnf
  refine nil_check ?_
  conv => whnf
  refine field_addr rfl ?_
  conv => whnf
  refine RStep.of (load1_s r0 rfl rfl ?_)
  conv => whnf
  refine RStep.of (len_slice rfl ?_)
  obtain rfl := si hm
  conv => whnf
  refine EndStep.mk _ l19 ⟨a19_0, c19_0, s19_0, rfl, h19_0, r19_0, rfl⟩ (ConvH.of (.cons r0 (.cons r0 (.cons r1 .nil))))

noncomputable def ref16_Remove_L0 (id : Int) : List S_ref16_Variant → Nat → (List S_ref16_Variant) → Option ((List S_ref16_Variant))
  | [], _, y0_0 => some y0_0
  | e0 :: xs0, i0, y0_0 =>
    if decide (e0.ID ≠ id) then
    (chk (y0_0.length + [e0].length ≤ lim)).bind fun _ =>
    ref16_Remove_L0 id xs0 (i0 + 1) (y0_0 ++ [e0])
    else
    ref16_Remove_L0 id xs0 (i0 + 1) y0_0
noncomputable def ref16_Remove (l : (List S_ref16_Variant)) (id : Int) : Option ((List S_ref16_Variant) × Bool) :=
  (chk (l.length ≤ szMax)).bind fun _ =>
  (ref16_Remove_L0 id l 0 []).bind fun t0 =>
  some (t0, decide ((t0.length : Int) < (l.length : Int)))
set_option maxHeartbeats 8000000 in
theorem ref16_Remove_ok {l : (List S_ref16_Variant)} {id : Int} {ap0_0 : Option Addr} {cp0_0 : Nat} {n0 : Nat} {K : Hp} {r : (List S_ref16_Variant) × Bool}
    (hm : ref16_Remove l id = some r) (hp0_0 : LiC S_ref16_Variant.R K ap0_0 cp0_0 3 l) (en0 : n0 = l.length) :
    Fn Try.prog 26 [.slice ap0_0 n0 cp0_0, .int .i64 id] K [] (fun v K' H' => ∃ ar_0 : Option Addr, ∃ cr_0 : Nat, ∃ sr_0 : List (List Value), v = .tuple #[.slice ar_0 r.1.length cr_0, .bool r.2] ∧ (0 < r.1.length → Has ar_0) ∧ LR S_ref16_Variant.R K' sr_0 r.1 ∧ H' = [OwnA ar_0 84 3 cr_0 sr_0]) := by
  subst en0
  refine Fn.enter Try.func26 Try.call26 rfl fun F => ?_
  unfold ref16_Remove at hm
  conv => whnf
  refine RStep.of (len_slice rfl ?_)
  obtain ⟨hk0, hm⟩ := chkb hm
  obtain ⟨s0, hl0, hm⟩ := bnd hm
  conv => whnf
  refine nilC (fun _ : S_ref16_Variant => []) 84 3 ?_
  refine code_cut (σ := ((List S_ref16_Variant)) × Option Addr × Nat × List (List Value)) [6, 8, 11, 12, 13, 14, 15, 16, 17, 18, 19, 20, 21, 22, 23] (fun (t0, t0_a0, t0_c0, t0_s0) => [(6, .slice t0_a0 t0.length t0_c0)]) (fun (t0, t0_a0, t0_c0, t0_s0) => [OwnA t0_a0 84 3 t0_c0 t0_s0, F]) (fun zz K1 => match zz with | (t0, t0_a0, t0_c0, t0_s0) => LR S_ref16_Variant.R K1 t0_s0 t0 ∧ (0 < t0.length → Has t0_a0) ∧ t0 = s0) ?_ ?_
  · refine block_go rfl ?_
    conv => whnf
    refine loop_rule (σ := Nat × (List S_ref16_Variant) × Option Addr × Nat × List (List Value)) [6, 8, 11, 12, 13, 14, 15, 16, 17, 18, 19, 20, 21, 22, 23] (fun (i0, y0_0, y0_a0, y0_c0, y0_s0) => [(11, .int .i64 (i0 : Int)), (6, .slice y0_a0 y0_0.length y0_c0)]) (fun (i0, y0_0, y0_a0, y0_c0, y0_s0) => [OwnA y0_a0 84 3 y0_c0 y0_s0, F]) (fun zz K1 => match zz with | (i0, y0_0, y0_a0, y0_c0, y0_s0) => LR S_ref16_Variant.R K1 y0_s0 y0_0 ∧ (0 < y0_0.length → Has y0_a0) ∧ ref16_Remove_L0 id (l.drop i0) i0 y0_0 = some s0) (fun zz => l.length - zz.1) (0, [], none, 0, []) rfl ⟨rfl, rfl, trivial⟩ (ConvH.of (.cons r0 (.cons r0 .nil))) ⟨LR.nil, (fun h => by simp at h), hl0⟩ ?_
    clear hl0
    rintro ⟨i0, y0_0, y0_a0, y0_c0, y0_s0⟩ Kb0 lk0 ⟨y0_r0, y0_h0, hl0⟩ j0
    conv => whnf
    refine cond_go rfl ?_
    conv => whnf
    refine cond_s (fun w0 => ?_) (fun w0 => ?_)
    · obtain ⟨e0, hx0, hd0⟩ := ltx w0
      rw [hd0, ref16_Remove_L0.eq_2] at hl0
      conv => whnf
      refine block_go rfl ?_
      conv => whnf
      refine RStep.ofN (index_addr rfl rfl (hasR (LiC.mono S_ref16_Variant.R_ok lk0 hp0_0).rd hx0) (nn _) (lt_ofN hx0) ?_)
      obtain ⟨ss14, cc14, hr14, hc14, hR14⟩ := LiR.get (LiC.mono S_ref16_Variant.R_ok lk0 hp0_0).rd hx0
      obtain ⟨a14_0, c14_0, rfl, h14_0⟩ := hR14
      conv => whnf
      refine RStep.of (load_rd_agg i0 _ hr14 rfl hc14 rfl ?_)
      conv => whnf
      refine alloc_rule rfl ?_
      intro b8
      conv => whnf
      refine store_rule r0 rfl ?_
      conv => whnf
      refine ⟨rfl, rfl, (Nat.le_of_ble_eq_true rfl), ?_⟩
      conv => whnf
      refine field_addr rfl ?_
      conv => whnf
      refine RStep.of (load1_s r0 rfl rfl ?_)
      conv => whnf
      refine neq_int ?_
      conv => whnf
      refine cond_go rfl ?_
      conv => whnf
      refine cond_s (fun w18 => ?_) (fun w18 => ?_)
      · replace hl0 := ift w18 hl0
        conv => whnf
        refine RStep.of (loadn_s r0 rfl (Nat.le_of_ble_eq_true rfl) ?_)
        conv => whnf
        refine bsOR (R := S_ref16_Variant.R) (len := 1) (l := [e0]) (css := [[.slice a14_0 e0.Names.length c14_0, str e0.Key, .int .i64 e0.ID]]) (cl := [.slice a14_0 e0.Names.length c14_0, str e0.Key, .int .i64 e0.ID]) S_ref16_Variant.R_ok elT55 rfl rfl (LR.snoc LR.nil ⟨a14_0, c14_0, rfl, h14_0⟩) rfl rfl rfl ?_ fun b21 => ?_
        · conv => whnf
          refine cond_T ?_
          conv => whnf
          first | done | rfl
        obtain ⟨h22, hl0⟩ := chkb hl0
        conv => whnf
        refine apRl r2 y0_r0 rfl elT55 (src_ownR rfl r0 rfl S_ref16_Variant.R_ok (show LR S_ref16_Variant.R _ [[.slice a14_0 e0.Names.length c14_0, str e0.Key, .int .i64 e0.ID]] [e0] from (LR.snoc LR.nil ⟨a14_0, c14_0, rfl, h14_0⟩))) (show LR S_ref16_Variant.R _ [[.slice a14_0 e0.Names.length c14_0, str e0.Key, .int .i64 e0.ID]] [e0] from (LR.snoc LR.nil ⟨a14_0, c14_0, rfl, h14_0⟩)) h22 ?_
        intro a22 c22 s22 r_22 o22
        conv => whnf
        refine int_in (cntz hx0 hk0) ?_
        conv => whnf
        refine RoundStep.mk (i0 + 1, (y0_0 ++ [e0]), a22, c22, s22) ⟨rfl, rfl, trivial⟩ (by repeat (first | exact trivial | refine And.intro rfl ?_)) (ConvH.of (.cons r0 (.cons r2 .nil))) lk0 (ltm hx0) ⟨r_22, o22, hl0⟩
      · replace hl0 := iff_ w18 hl0
        conv => whnf
        refine int_in (cntz hx0 hk0) ?_
        conv => whnf
        refine RoundStep.mk (i0 + 1, y0_0, y0_a0, y0_c0, y0_s0) ⟨rfl, rfl, trivial⟩ (by repeat (first | exact trivial | refine And.intro rfl ?_)) (ConvH.of (.cons r1 (.cons r1 .nil))) lk0 (ltm hx0) ⟨y0_r0, y0_h0, hl0⟩
    · rw [lty w0, ref16_Remove_L0.eq_1] at hl0
      conv => whnf
      refine cond_T ?_
      conv => whnf
      refine MeetStep.mk (y0_0, y0_a0, y0_c0, y0_s0) ⟨rfl, trivial⟩ (by repeat (first | exact trivial | refine And.intro rfl ?_)) (ConvH.of (.cons r0 (.cons r0 .nil))) lk0 ⟨y0_r0, y0_h0, (si hl0)⟩
  · rintro ⟨t0, t0_a0, t0_c0, t0_s0⟩ Kt0 lt0 ⟨t0_r0, t0_h0, rfl⟩ j0
    conv => whnf
    refine RStep.of (len_slice rfl ?_)
    conv => whnf
    refine RStep.of (len_slice rfl ?_)
    obtain rfl := si hm
    conv => whnf
    refine EndStep.mk _ lt0 ⟨t0_a0, t0_c0, t0_s0, rfl, t0_h0, t0_r0, rfl⟩ (ConvH.of (.cons r0 (.cons r0 .nil)))

noncomputable def base_Texts_L0 (b : (List Str)) : List Str → Nat → Option (Fl (Bool) (Unit))
  | [], _ => some (Fl.go ())
  | e0 :: xs0, i0 =>
    (ix b (i0 : Int)).bind fun x22 =>
    if decide (e0 ≠ x22) then
    some (Fl.ret false)
    else
    base_Texts_L0 b xs0 (i0 + 1)
noncomputable def base_Texts (a : (List Str)) (b : (List Str)) : Option (Bool) :=
  if decide ((a.length : Int) ≠ (b.length : Int)) then
  some false
  else
  (chk (a.length ≤ szMax)).bind fun _ =>
  (base_Texts_L0 b a 0).bind fun s0 => s0.el some fun t0 =>
  some true
set_option maxHeartbeats 8000000 in
theorem base_Texts_ok {a : (List Str)} {b : (List Str)} {ap0_0 : Option Addr} {cp0_0 : Nat} {n0 : Nat} {ap1_0 : Option Addr} {cp1_0 : Nat} {n1 : Nat} {K : Hp} {r : Bool}
    (hm : base_Texts a b = some r) (hp0_0 : RdC eS K ap0_0 cp0_0 1 a) (en0 : n0 = a.length) (hp1_0 : RdC eS K ap1_0 cp1_0 1 b) (en1 : n1 = b.length) :
    Fn Try.prog 44 [.slice ap0_0 n0 cp0_0, .slice ap1_0 n1 cp1_0] K [] (fun v K' H' => v = .bool r ∧ H' = []) := by
  subst en0
  subst en1
  refine Fn.enter Try.func44 Try.call44 rfl fun F => ?_
  unfold base_Texts at hm
  conv => whnf
  refine RStep.of (len_slice rfl ?_)
  conv => whnf
  refine RStep.of (len_slice rfl ?_)
  conv => whnf
  refine neq_int ?_
  conv => whnf
  refine cond_go rfl ?_
  conv => whnf
  refine cond_s (fun w10 => ?_) (fun w10 => ?_)
  · replace hm := ift w10 hm
    obtain rfl := si hm
    conv => whnf
    refine EndStep.mk _ (Hp.Le.refl _) ⟨rfl, rfl⟩ (ConvH.of (.cons r0 .nil))
  · replace hm := iff_ w10 hm
    conv => whnf
    refine RStep.of (len_slice rfl ?_)
    obtain ⟨hk0, hm⟩ := chkb hm
    obtain ⟨s0, hl0, hm⟩ := bnd hm
    conv => whnf
    refine code_cut (σ := (Unit)) [4, 5, 13, 14, 15, 16, 17, 18, 19, 20, 21, 22, 23, 24, 25] (fun t0 => []) (fun t0 => [F]) (fun zz K1 => match zz with | t0 => s0 = Fl.go t0) ?_ ?_
    · refine block_go rfl ?_
      conv => whnf
      refine loop_rule (σ := Nat) [4, 5, 13, 14, 15, 16, 17, 18, 19, 20, 21, 22, 23, 24, 25] (fun i0 => [(13, .int .i64 (i0 : Int))]) (fun i0 => [F]) (fun zz K1 => match zz with | i0 => base_Texts_L0 b (a.drop i0) i0 = some s0) (fun zz => a.length - zz) (0) rfl ⟨rfl, trivial⟩ (ConvH.of (.cons r0 .nil)) hl0 ?_
      clear hl0
      rintro i0 Kb0 lk0 hl0 j0
      conv at hl0 => whnf
      conv => whnf
      refine cond_go rfl ?_
      conv => whnf
      refine cond_s (fun w0 => ?_) (fun w0 => ?_)
      · obtain ⟨e0, hx0, hd0⟩ := ltx w0
        rw [hd0, base_Texts_L0.eq_2] at hl0
        conv => whnf
        refine block_go rfl ?_
        conv => whnf
        refine draw_go ⟨⟨[], false⟩, _, []⟩ (by kernel_rfl) ⟨Hp.Le.refl _, (ConvH.of .nil)⟩ ?_
        conv => whnf
        refine index_addr rfl rfl (hasK (hp0_0.mono lk0).rd hx0) (nn _) (lt_ofN hx0) ?_
        conv => whnf
        refine load_rd_l i0 0 _ _ (hp0_0.mono lk0).rd rfl (mp hx0) rfl rfl ?_
        obtain ⟨x22, l22, k22, hl0⟩ := ixb hl0
        conv => whnf
        refine index_addr rfl rfl (hasK (hp1_0.mono lk0).rd k22) l22 (lt_ofE rfl l22 k22) ?_
        conv => whnf
        refine load_rd_l (((i0 : Int)).toNat) 0 _ _ (hp1_0.mono lk0).rd rfl (mp k22) rfl rfl ?_
        conv => whnf
        refine neq_str ?_
        conv => whnf
        refine cond_go rfl ?_
        conv => whnf
        refine cond_s (fun w24 => ?_) (fun w24 => ?_)
        · replace hl0 := ift w24 hl0
          obtain rfl := si hl0
          replace hm := elr hm
          obtain rfl := si hm
          conv => whnf
          refine EndStep.mk _ lk0 ⟨rfl, rfl⟩ (ConvH.of (.cons r0 .nil))
        · replace hl0 := iff_ w24 hl0
          conv => whnf
          refine int_in (cntz hx0 hk0) ?_
          conv => whnf
          refine RoundStep.mk (i0 + 1) ⟨rfl, trivial⟩ (by repeat (first | exact trivial | refine And.intro rfl ?_)) (ConvH.of (.cons r0 .nil)) lk0 (ltm hx0) hl0
      · rw [lty w0, base_Texts_L0.eq_1] at hl0
        conv => whnf
        refine cond_T ?_
        conv => whnf
        refine MeetStep.mk (()) trivial (by repeat (first | exact trivial | refine And.intro rfl ?_)) (ConvH.of (.cons r0 .nil)) lk0 (si hl0).symm
    · rintro t0 Kt0 lt0 rfl j0
      replace hm := elg hm
      obtain rfl := si hm
      conv => whnf
      refine EndStep.mk _ lt0 ⟨rfl, rfl⟩ (ConvH.of (.cons r0 .nil))

noncomputable def ref16_Put_L0 (id : Int) (names : (List Str)) (key : Str) : List S_ref16_Variant → Nat → (List S_ref16_Variant) → (List Int) → Option ((List S_ref16_Variant) × (List Int))
  | [], _, y0_0, y0_1 => some (y0_0, y0_1)
  | e0 :: xs0, i0, y0_0, y0_1 =>
    if decide (e0.ID = id) then
    ref16_Put_L0 id names key xs0 (i0 + 1) y0_0 y0_1
    else
    (base_Texts e0.Names names).bind fun x33 =>
    if (x33 && decide (e0.Key = key)) then
    (chk (y0_1.length + [e0.ID].length ≤ lim)).bind fun _ =>
    ref16_Put_L0 id names key xs0 (i0 + 1) y0_0 (y0_1 ++ [e0.ID])
    else
    (chk (y0_0.length + [e0].length ≤ lim)).bind fun _ =>
    ref16_Put_L0 id names key xs0 (i0 + 1) (y0_0 ++ [e0]) y0_1
noncomputable def ref16_Put_L2 (t0 : (List S_ref16_Variant) × (List Int)) : Nat → (List Int) → Int → Option ((List Int) × Int)
  | 0, _, _ => none
  | xs2 + 1, y2_0, y2_1 =>
    if decide (y2_1 < (t0.1.length : Int)) then
    (ix t0.1 y2_1).bind fun x59 =>
    (chk (y2_0.length + [x59.ID].length ≤ lim)).bind fun _ =>
    (chk (InI (y2_1 + 1))).bind fun _ =>
    ref16_Put_L2 t0 xs2 (y2_0 ++ [x59.ID]) (y2_1 + 1)
    else
    some (y2_0, y2_1)
noncomputable def ref16_Put (n : Nat) (l : (List S_ref16_Variant)) (names : (List Str)) (key : Str) (id : Int) : Option ((List S_ref16_Variant) × (List Int)) :=
  (chk (l.length ≤ szMax)).bind fun _ =>
  (ref16_Put_L0 id names key l 0 [(⟨names, key, id⟩ : S_ref16_Variant)] []).bind fun t0 =>
  (ref16_Put_L2 t0 n t0.2 16).bind fun t2 =>
  (chk (0 ≤ (0 : Int) ∧ (0 : Int) ≤ (min (t0.1.length : Int) 16) ∧ (min (t0.1.length : Int) 16) ≤ (t0.1.length : Int))).bind fun _ =>
  some ((subL t0.1 (0 : Int) (min (t0.1.length : Int) 16)), t2.1)
set_option maxHeartbeats 8000000 in
theorem ref16_Put_ok {n : Nat} {l : (List S_ref16_Variant)} {names : (List Str)} {key : Str} {id : Int} {ap0_0 : Option Addr} {cp0_0 : Nat} {n0 : Nat} {ap1_0 : Option Addr} {cp1_0 : Nat} {n1 : Nat} {K : Hp} {r : (List S_ref16_Variant) × (List Int)}
    (hm : ref16_Put n l names key id = some r) (hp0_0 : LiC S_ref16_Variant.R K ap0_0 cp0_0 3 l) (en0 : n0 = l.length) (hp1_0 : RdC eS K ap1_0 cp1_0 1 names) (en1 : n1 = names.length) :
    Fn Try.prog 27 [.slice ap0_0 n0 cp0_0, .slice ap1_0 n1 cp1_0, str key, .int .i64 id] K [] (fun v K' H' => ∃ ar_0 : Option Addr, ∃ cr_0 : Nat, ∃ sr_0 : List (List Value), ∃ ar_1 : Option Addr, ∃ cr_1 : Nat, v = .tuple #[.slice ar_0 r.1.length cr_0, .slice ar_1 r.2.length cr_1] ∧ (0 < r.1.length → Has ar_0) ∧ LR S_ref16_Variant.R K' sr_0 r.1 ∧ (0 < r.2.length → Has ar_1) ∧ H' = [OwnA ar_0 84 3 cr_0 sr_0, OwnL eN ar_1 3 1 cr_1 r.2]) := by
  subst en0
  subst en1
  refine Fn.enter Try.func27 Try.call27 rfl fun F => ?_
  unfold ref16_Put at hm
  conv => whnf
  refine build_struct rfl rfl ?_
  conv => whnf
  refine cond_T ?_
  conv => whnf
  refine cond_T ?_
  conv => whnf
  refine cond_T ?_
  conv => whnf
  refine bsOR (R := S_ref16_Variant.R) (len := 1) (l := [(⟨names, key, id⟩ : S_ref16_Variant)]) (css := [[.slice ap1_0 names.length cp1_0, str key, .int .i64 id]]) (cl := [.slice ap1_0 names.length cp1_0, str key, .int .i64 id]) S_ref16_Variant.R_ok elT55 rfl rfl (LR.snoc LR.nil ⟨ap1_0, cp1_0, rfl, hp1_0⟩) rfl rfl rfl ?_ fun b19 => ?_
  · conv => whnf
    refine cond_T ?_
    conv => whnf
    first | done | rfl
  conv => whnf
  refine RStep.of (len_slice rfl ?_)
  obtain ⟨hk0, hm⟩ := chkb hm
  obtain ⟨s0, hl0, hm⟩ := bnd hm
  conv => whnf
  refine nilC eN 3 1 ?_
  refine code_cut (σ := ((List S_ref16_Variant) × (List Int)) × Option Addr × Nat × List (List Value) × Option Addr × Nat) [10, 11, 13, 22, 23, 24, 25, 26, 27, 28, 29, 30, 31, 32, 33, 34, 35, 36, 37, 38, 39, 40, 41, 42, 43, 44, 45, 46, 47, 48, 49] (fun (t0, t0_a0, t0_c0, t0_s0, t0_a1, t0_c1) => [(10, .slice t0_a0 t0.1.length t0_c0), (11, .slice t0_a1 t0.2.length t0_c1)]) (fun (t0, t0_a0, t0_c0, t0_s0, t0_a1, t0_c1) => [OwnA t0_a0 84 3 t0_c0 t0_s0, OwnL eN t0_a1 3 1 t0_c1 t0.2, F]) (fun zz K1 => match zz with | (t0, t0_a0, t0_c0, t0_s0, t0_a1, t0_c1) => LR S_ref16_Variant.R K1 t0_s0 t0.1 ∧ (0 < t0.1.length → Has t0_a0) ∧ (0 < t0.2.length → Has t0_a1) ∧ t0 = s0) ?_ ?_
  · refine block_go rfl ?_
    conv => whnf
    refine loop_rule (σ := Nat × (List S_ref16_Variant) × (List Int) × Option Addr × Nat × List (List Value) × Option Addr × Nat) [10, 11, 13, 22, 23, 24, 25, 26, 27, 28, 29, 30, 31, 32, 33, 34, 35, 36, 37, 38, 39, 40, 41, 42, 43, 44, 45, 46, 47, 48, 49] (fun (i0, y0_0, y0_1, y0_a0, y0_c0, y0_s0, y0_a1, y0_c1) => [(22, .int .i64 (i0 : Int)), (10, .slice y0_a0 y0_0.length y0_c0), (11, .slice y0_a1 y0_1.length y0_c1)]) (fun (i0, y0_0, y0_1, y0_a0, y0_c0, y0_s0, y0_a1, y0_c1) => [OwnA y0_a0 84 3 y0_c0 y0_s0, OwnL eN y0_a1 3 1 y0_c1 y0_1, F]) (fun zz K1 => match zz with | (i0, y0_0, y0_1, y0_a0, y0_c0, y0_s0, y0_a1, y0_c1) => LR S_ref16_Variant.R K1 y0_s0 y0_0 ∧ (0 < y0_0.length → Has y0_a0) ∧ (0 < y0_1.length → Has y0_a1) ∧ ref16_Put_L0 id names key (l.drop i0) i0 y0_0 y0_1 = some s0) (fun zz => l.length - zz.1) (0, [(⟨names, key, id⟩ : S_ref16_Variant)], [], (some ⟨b19, 0, none⟩), 1, [[.slice ap1_0 names.length cp1_0, str key, .int .i64 id]], none, 0) rfl ⟨rfl, rfl, rfl, trivial⟩ (ConvH.of (.cons r1 (.cons r0 (.cons r0 .nil)))) ⟨(show LR S_ref16_Variant.R _ [[.slice ap1_0 names.length cp1_0, str key, .int .i64 id]] [(⟨names, key, id⟩ : S_ref16_Variant)] from (LR.snoc LR.nil ⟨ap1_0, cp1_0, rfl, hp1_0⟩)), (fun _ => ⟨_, _, rfl⟩), (fun h => by simp at h), hl0⟩ ?_
    clear hl0
    rintro ⟨i0, y0_0, y0_1, y0_a0, y0_c0, y0_s0, y0_a1, y0_c1⟩ Kb0 lk0 ⟨y0_r0, y0_h0, y0_h1, hl0⟩ j0
    conv => whnf
    refine cond_go rfl ?_
    conv => whnf
    refine cond_s (fun w0 => ?_) (fun w0 => ?_)
    · obtain ⟨e0, hx0, hd0⟩ := ltx w0
      rw [hd0, ref16_Put_L0.eq_2] at hl0
      conv => whnf
      refine block_go rfl ?_
      conv => whnf
      refine RStep.ofN (index_addr rfl rfl (hasR (LiC.mono S_ref16_Variant.R_ok lk0 hp0_0).rd hx0) (nn _) (lt_ofN hx0) ?_)
      obtain ⟨ss25, cc25, hr25, hc25, hR25⟩ := LiR.get (LiC.mono S_ref16_Variant.R_ok lk0 hp0_0).rd hx0
      obtain ⟨a25_0, c25_0, rfl, h25_0⟩ := hR25
      conv => whnf
      refine RStep.of (load_rd_agg i0 _ hr25 rfl hc25 rfl ?_)
      conv => whnf
      refine alloc_rule rfl ?_
      intro b13
      conv => whnf
      refine store_rule r0 rfl ?_
      conv => whnf
      refine ⟨rfl, rfl, (Nat.le_of_ble_eq_true rfl), ?_⟩
      conv => whnf
      refine field_addr rfl ?_
      conv => whnf
      refine RStep.of (load1_s r0 rfl rfl ?_)
      conv => whnf
      refine eq_int ?_
      conv => whnf
      refine cond_go rfl ?_
      conv => whnf
      refine cond_s (fun w29 => ?_) (fun w29 => ?_)
      · replace hl0 := ift w29 hl0
        conv => whnf
        refine cond_T ?_
        conv => whnf
        refine int_in (cntz hx0 hk0) ?_
        conv => whnf
        refine RoundStep.mk (i0 + 1, y0_0, y0_1, y0_a0, y0_c0, y0_s0, y0_a1, y0_c1) ⟨rfl, rfl, rfl, trivial⟩ (by repeat (first | exact trivial | refine And.intro rfl ?_)) (ConvH.of (.cons r1 (.cons r1 (.cons r1 .nil)))) lk0 (ltm hx0) ⟨y0_r0, y0_h0, y0_h1, hl0⟩
      · replace hl0 := iff_ w29 hl0
        conv => whnf
        refine field_addr rfl ?_
        conv => whnf
        refine RStep.of (load1_s r0 rfl rfl ?_)
        obtain ⟨x33, q33, hl0⟩ := bnd hl0
        conv => whnf
        refine call_fn (base_Texts_ok q33 h25_0 rfl (hp1_0.mono lk0) rfl) .nil ?_
        rintro _ K33 _ l33 ⟨rfl, rfl⟩
        conv => whnf
        refine cond_s (fun g34_7 => ?_) (fun g34_7 => ?_)
        · conv => whnf
          refine field_addr rfl ?_
          conv => whnf
          refine cond_t g34_7 ?_
          conv => whnf
          refine RStep.of (load1_s r0 rfl rfl ?_)
          conv => whnf
          refine cond_t g34_7 ?_
          conv => whnf
          refine cond_t g34_7 ?_
          conv => whnf
          refine eq_str ?_
          conv => whnf
          refine cond_t g34_7 ?_
          conv => whnf
          refine cond_go rfl ?_
          conv => whnf
          refine cond_s (fun w39 => ?_) (fun w39 => ?_)
          · replace hl0 := ift (and_t g34_7 w39) hl0
            conv => whnf
            refine field_addr rfl ?_
            conv => whnf
            refine RStep.of (load1_s r0 rfl rfl ?_)
            conv => whnf
            refine bsO (len := 1) (enc := eN) (l := [e0.ID]) (cl := [.int .i64 e0.ID]) elT35 rfl rfl (fun _ _ => rfl) rfl rfl rfl ?_ fun b43 => ?_
            · conv => whnf
              refine cond_T ?_
              conv => whnf
              first | done | rfl
            obtain ⟨h44, hl0⟩ := chkb hl0
            conv => whnf
            refine apE rfl r3 elT35 (src_own' rfl r0 rfl (fun _ => rfl) (fun _ => rfl)) h44 ?_
            intro a44 c44 o44
            conv => whnf
            refine cond_T ?_
            conv => whnf
            refine int_in (cntz hx0 hk0) ?_
            conv => whnf
            refine RoundStep.mk (i0 + 1, y0_0, (y0_1 ++ [e0.ID]), y0_a0, y0_c0, y0_s0, a44, c44) ⟨rfl, rfl, rfl, trivial⟩ (by repeat (first | exact trivial | refine And.intro rfl ?_)) (ConvH.of (.cons r3 (.cons r0 (.cons r2 .nil)))) (lk0.trans l33) (ltm hx0) ⟨(LR.mono S_ref16_Variant.R_ok l33 y0_r0), y0_h0, o44, hl0⟩
          · replace hl0 := iff_ (and_g g34_7 w39) hl0
            conv => whnf
            refine RStep.of (loadn_s r0 rfl (Nat.le_of_ble_eq_true rfl) ?_)
            conv => whnf
            refine bsOR (R := S_ref16_Variant.R) (len := 1) (l := [e0]) (css := [[.slice a25_0 e0.Names.length c25_0, str e0.Key, .int .i64 e0.ID]]) (cl := [.slice a25_0 e0.Names.length c25_0, str e0.Key, .int .i64 e0.ID]) S_ref16_Variant.R_ok elT55 rfl rfl (LR.snoc LR.nil ⟨a25_0, c25_0, rfl, (h25_0.mono l33)⟩) rfl rfl rfl ?_ fun b47 => ?_
            · conv => whnf
              refine cond_T ?_
              conv => whnf
              first | done | rfl
            obtain ⟨h48, hl0⟩ := chkb hl0
            conv => whnf
            refine apRl r2 (LR.mono S_ref16_Variant.R_ok l33 y0_r0) rfl elT55 (src_ownR rfl r0 rfl S_ref16_Variant.R_ok (show LR S_ref16_Variant.R _ [[.slice a25_0 e0.Names.length c25_0, str e0.Key, .int .i64 e0.ID]] [e0] from (LR.snoc LR.nil ⟨a25_0, c25_0, rfl, (h25_0.mono l33)⟩))) (show LR S_ref16_Variant.R _ [[.slice a25_0 e0.Names.length c25_0, str e0.Key, .int .i64 e0.ID]] [e0] from (LR.snoc LR.nil ⟨a25_0, c25_0, rfl, (h25_0.mono l33)⟩)) h48 ?_
            intro a48 c48 s48 r_48 o48
            conv => whnf
            refine int_in (cntz hx0 hk0) ?_
            conv => whnf
            refine RoundStep.mk (i0 + 1, (y0_0 ++ [e0]), y0_1, a48, c48, s48, y0_a1, y0_c1) ⟨rfl, rfl, rfl, trivial⟩ (by repeat (first | exact trivial | refine And.intro rfl ?_)) (ConvH.of (.cons r0 (.cons r2 (.cons r2 .nil)))) (lk0.trans l33) (ltm hx0) ⟨r_48, o48, y0_h1, hl0⟩
        · conv => whnf
          refine cond_f g34_7 ?_
          conv => whnf
          refine cond_f g34_7 ?_
          conv => whnf
          refine cond_f g34_7 ?_
          conv => whnf
          refine cond_f g34_7 ?_
          conv => whnf
          refine cond_go rfl ?_
          conv => whnf
          refine cond_F ?_
          replace hl0 := iff_ (and_f g34_7) hl0
          conv => whnf
          refine RStep.of (loadn_s r0 rfl (Nat.le_of_ble_eq_true rfl) ?_)
          conv => whnf
          refine bsOR (R := S_ref16_Variant.R) (len := 1) (l := [e0]) (css := [[.slice a25_0 e0.Names.length c25_0, str e0.Key, .int .i64 e0.ID]]) (cl := [.slice a25_0 e0.Names.length c25_0, str e0.Key, .int .i64 e0.ID]) S_ref16_Variant.R_ok elT55 rfl rfl (LR.snoc LR.nil ⟨a25_0, c25_0, rfl, (h25_0.mono l33)⟩) rfl rfl rfl ?_ fun b47 => ?_
          · conv => whnf
            refine cond_T ?_
            conv => whnf
            first | done | rfl
          obtain ⟨h48, hl0⟩ := chkb hl0
          conv => whnf
          refine apRl r2 (LR.mono S_ref16_Variant.R_ok l33 y0_r0) rfl elT55 (src_ownR rfl r0 rfl S_ref16_Variant.R_ok (show LR S_ref16_Variant.R _ [[.slice a25_0 e0.Names.length c25_0, str e0.Key, .int .i64 e0.ID]] [e0] from (LR.snoc LR.nil ⟨a25_0, c25_0, rfl, (h25_0.mono l33)⟩))) (show LR S_ref16_Variant.R _ [[.slice a25_0 e0.Names.length c25_0, str e0.Key, .int .i64 e0.ID]] [e0] from (LR.snoc LR.nil ⟨a25_0, c25_0, rfl, (h25_0.mono l33)⟩)) h48 ?_
          intro a48 c48 s48 r_48 o48
          conv => whnf
          refine int_in (cntz hx0 hk0) ?_
          conv => whnf
          refine RoundStep.mk (i0 + 1, (y0_0 ++ [e0]), y0_1, a48, c48, s48, y0_a1, y0_c1) ⟨rfl, rfl, rfl, trivial⟩ (by repeat (first | exact trivial | refine And.intro rfl ?_)) (ConvH.of (.cons r0 (.cons r2 (.cons r2 .nil)))) (lk0.trans l33) (ltm hx0) ⟨r_48, o48, y0_h1, hl0⟩
    · rw [lty w0, ref16_Put_L0.eq_1] at hl0
      conv => whnf
      refine cond_T ?_
      conv => whnf
      refine MeetStep.mk ((y0_0, y0_1), y0_a0, y0_c0, y0_s0, y0_a1, y0_c1) ⟨rfl, rfl, trivial⟩ (by repeat (first | exact trivial | refine And.intro rfl ?_)) (ConvH.of (.cons r0 (.cons r0 (.cons r0 .nil)))) lk0 ⟨y0_r0, y0_h0, y0_h1, (si hl0)⟩
  · rintro ⟨t0, t0_a0, t0_c0, t0_s0, t0_a1, t0_c1⟩ Kt0 lt0 ⟨t0_r0, t0_h0, t0_h1, rfl⟩ j0
    obtain ⟨s2, hl2, hm⟩ := bnd hm
    conv => whnf
    refine code_cut (σ := ((List Int) × Int) × Option Addr × Nat) [11, 14, 50, 51, 52, 53, 54, 55, 56, 57, 58, 59, 60, 61, 62, 63] (fun (t2, t2_a0, t2_c0) => [(11, .slice t2_a0 t2.1.length t2_c0), (14, .int .i64 t2.2)]) (fun (t2, t2_a0, t2_c0) => [OwnL eN t2_a0 3 1 t2_c0 t2.1, OwnA t0_a0 84 3 t0_c0 t0_s0, F]) (fun zz K1 => match zz with | (t2, t2_a0, t2_c0) => (0 < t2.1.length → Has t2_a0) ∧ t2 = s2) ?_ ?_
    · refine block_go rfl ?_
      conv => whnf
      refine loop_rule (σ := Nat × (List Int) × Int × Option Addr × Nat) [11, 14, 50, 51, 52, 53, 54, 55, 56, 57, 58, 59, 60, 61, 62, 63] (fun (i2, y2_0, y2_1, y2_a0, y2_c0) => [(11, .slice y2_a0 y2_0.length y2_c0), (14, .int .i64 y2_1)]) (fun (i2, y2_0, y2_1, y2_a0, y2_c0) => [OwnL eN y2_a0 3 1 y2_c0 y2_0, OwnA t0_a0 84 3 t0_c0 t0_s0, F]) (fun zz K1 => match zz with | (i2, y2_0, y2_1, y2_a0, y2_c0) => (0 < y2_0.length → Has y2_a0) ∧ ref16_Put_L2 t0 i2 y2_0 y2_1 = some s2) (fun zz => zz.1) (n, t0.2, 16, t0_a1, t0_c1) rfl ⟨rfl, rfl, trivial⟩ (ConvH.of (.cons r1 (.cons r0 (.cons r0 .nil)))) ⟨t0_h1, hl2⟩ ?_
      clear hl2
      rintro ⟨i2, y2_0, y2_1, y2_a0, y2_c0⟩ Kb2 lk2 ⟨y2_h0, hl2⟩ j2
      cases i2 with
      | zero => rw [ref16_Put_L2.eq_1] at hl2; cases hl2
      | succ i2 =>
        rw [ref16_Put_L2.eq_2] at hl2
        conv => whnf
        refine RStep.of (len_slice rfl ?_)
        conv => whnf
        refine cond_go rfl ?_
        conv => whnf
        refine cond_s (fun w53 => ?_) (fun w53 => ?_)
        · replace hl2 := ift w53 hl2
          conv => whnf
          refine block_go rfl ?_
          obtain ⟨x59, l59, k59, hl2⟩ := ixb hl2
          conv => whnf
          refine RStep.ofN (index_addr rfl rfl (hasO t0_h0 k59) l59 (lt_ofE rfl l59 k59) ?_)
          conv => whnf
          refine eptr_field rfl (hasO t0_h0 k59) ?_
          obtain ⟨cc61, hc61, hR61⟩ := LR.get (LR.mono S_ref16_Variant.R_ok lk2 t0_r0) k59
          obtain ⟨a61_0, c61_0, rfl, h61_0⟩ := hR61
          conv => whnf
          refine RStep.of (ldA (i := (y2_1).toNat) (o := 2) r1 rfl hc61 rfl rfl ?_)
          conv => whnf
          refine bsO (len := 1) (enc := eN) (l := [x59.ID]) (cl := [.int .i64 x59.ID]) elT35 rfl rfl (fun _ _ => rfl) rfl rfl rfl ?_ fun b62 => ?_
          · conv => whnf
            refine cond_T ?_
            conv => whnf
            first | done | rfl
          obtain ⟨h63, hl2⟩ := chkb hl2
          conv => whnf
          refine apE rfl r1 elT35 (src_own' rfl r0 rfl (fun _ => rfl) (fun _ => rfl)) h63 ?_
          intro a63 c63 o63
          obtain ⟨h55, hl2⟩ := chkb hl2
          conv => whnf
          refine int_in h55 ?_
          conv => whnf
          refine RoundStep.mk (i2, (y2_0 ++ [x59.ID]), (y2_1 + 1), a63, c63) ⟨rfl, rfl, trivial⟩ (by repeat (first | exact trivial | refine And.intro rfl ?_)) (ConvH.of (.cons r0 (.cons r1 (.cons r1 .nil)))) lk2 (Nat.lt_succ_self _) ⟨o63, hl2⟩
        · replace hl2 := iff_ w53 hl2
          conv => whnf
          refine cond_T ?_
          conv => whnf
          refine MeetStep.mk ((y2_0, y2_1), y2_a0, y2_c0) ⟨rfl, rfl, trivial⟩ (by repeat (first | exact trivial | refine And.intro rfl ?_)) (ConvH.of (.cons r0 (.cons r0 (.cons r0 .nil)))) lk2 ⟨y2_h0, (si hl2)⟩
    · rintro ⟨t2, t2_a0, t2_c0⟩ Kt2 lt2 ⟨t2_h0, rfl⟩ j2
      conv => whnf
      refine RStep.of (len_slice rfl ?_)
      conv => whnf
      refine RStep.of (min_int ?_)
      obtain ⟨h68, hm⟩ := chkb hm
      conv => whnf
      refine ownSl (l := t0.1) (hi := (some (min (t0.1.length : Int) 16))) rfl r1 (LR.mono S_ref16_Variant.R_ok lt2 t0_r0).len rfl rfl h68 ?_
      obtain rfl := si hm
      conv => whnf
      refine tkAE (min (t0.1.length : Int) 16) r1 ?_
      refine EndStep.mk _ (lt0.trans lt2) ⟨t0_a0, t0_c0, (subL t0_s0 0 (min (t0.1.length : Int) 16)), t2_a0, t2_c0, rfl, (fun h => t0_h0 (pos_sub h68 h)), (LR.sub0 (min (t0.1.length : Int) 16) (LR.mono S_ref16_Variant.R_ok lt2 t0_r0)), t2_h0, rfl⟩ (ConvH.of (.cons r0 (.cons r0 (.cons r0 .nil))))

noncomputable def law16_VarySets_L0 (n : Nat) : List S_law16_Step → Nat → (List S_ref16_Variant) → S_vary_Set → Option (Fl (Bool) ((List S_ref16_Variant) × S_vary_Set))
  | [], _, y0_0, y0_1 => some (Fl.go (y0_0, y0_1))
  | e0 :: xs0, i0, y0_0, y0_1 =>
    (law16_long e0.Names).bind fun x31 =>
    (if x31 then some true else (law16_large [e0.FZ]).bind fun x36 =>
    some x36).bind fun x37 =>
    if x37 then
    some (Fl.ret true)
    else
    (law02_Fields e0.FZ).bind fun x40 =>
    if decide (((e0.What % (4 : UInt8)).toNat : Int) = 2) then
    (vary_Set_Find y0_1 x40).bind fun x75 =>
    (ref16_Find n y0_0 e0.FZ).bind fun x79 =>
    (base_Ints x75 x79).bind fun x80 =>
    if (!x80) then
    some (Fl.ret false)
    else
    (vary_Set_IDs y0_1).bind fun x101 =>
    (ref16_IDs y0_0).bind fun x103 =>
    (base_Ints x101 x103).bind fun x104 =>
    if (!x104) then
    some (Fl.ret false)
    else
    law16_VarySets_L0 n xs0 (i0 + 1) y0_0 y0_1
    else
    if decide (((e0.What % (4 : UInt8)).toNat : Int) = 3) then
    (chk (InI e0.ID)).bind fun _ =>
    (vary_Set_Remove n y0_1 e0.ID).bind fun x88 =>
    (chk (InI e0.ID)).bind fun _ =>
    (ref16_Remove y0_0 e0.ID).bind fun x94 =>
    if (!(x88.1 == x94.2)) then
    some (Fl.ret false)
    else
    (vary_Set_IDs x88.2).bind fun x101 =>
    (ref16_IDs x94.1).bind fun x103 =>
    (base_Ints x101 x103).bind fun x104 =>
    if (!x104) then
    some (Fl.ret false)
    else
    law16_VarySets_L0 n xs0 (i0 + 1) x94.1 x88.2
    else
    (chk (InI e0.ID)).bind fun _ =>
    (vary_Set_Put n y0_1 e0.Names x40 e0.ID).bind fun x51 =>
    (ref16_Key n e0.Names e0.FZ).bind fun x60 =>
    (chk (InI e0.ID)).bind fun _ =>
    (ref16_Put n y0_0 e0.Names x60 e0.ID).bind fun x64 =>
    (base_Ints x51.1 x64.2).bind fun x69 =>
    if (!x69) then
    some (Fl.ret false)
    else
    (vary_Set_IDs x51.2).bind fun x101 =>
    (ref16_IDs x64.1).bind fun x103 =>
    (base_Ints x101 x103).bind fun x104 =>
    if (!x104) then
    some (Fl.ret false)
    else
    law16_VarySets_L0 n xs0 (i0 + 1) x64.1 x51.2
noncomputable def law16_VarySets (n : Nat) (script : (List S_law16_Step)) : Option (Bool) :=
  (if decide ((script.length : Int) > 40) then some true else (law16_awake n).bind fun x16 =>
  some (!x16)).bind fun x18 =>
  if x18 then
  some (decide ((script.length : Int) > 40))
  else
  (vary_New).bind fun x22 =>
  (chk (script.length ≤ szMax)).bind fun _ =>
  (law16_VarySets_L0 n script 0 [] x22).bind fun s0 => s0.el some fun t0 =>
  some true
set_option maxHeartbeats 8000000 in
theorem law16_VarySets_ok {n : Nat} {script : (List S_law16_Step)} {ap0_0 : Option Addr} {cp0_0 : Nat} {n0 : Nat} {K : Hp} {r : Bool}
    (hm : law16_VarySets n script = some r) (hp0_0 : LiC S_law16_Step.R K ap0_0 cp0_0 4 script) (en0 : n0 = script.length) :
    Fn Try.prog 7 [.slice ap0_0 n0 cp0_0] K [] (fun v K' H' => v = .bool r ∧ H' = []) := by
  subst en0
  refine Fn.enter Try.func7 Try.call7 rfl fun F => ?_
  unfold law16_VarySets at hm
  conv => whnf
  refine RStep.of (len_slice rfl ?_)
  obtain ⟨x18, e18, hm⟩ := bnd hm
  conv => whnf
  refine cond_s (fun g15_1 => ?_) (fun g15_1 => ?_)
  · replace e18 := ift g15_1 e18
    conv => whnf
    refine cond_t g15_1 ?_
    conv => whnf
    refine cond_t g15_1 ?_
    conv => whnf
    refine cond_go rfl ?_
    conv => whnf
    refine cond_T ?_
    replace hm := ift (si e18).symm hm
    conv => whnf
    refine RStep.of (len_slice rfl ?_)
    obtain rfl := si hm
    conv => whnf
    refine EndStep.mk _ (Hp.Le.refl _) ⟨rfl, rfl⟩ (ConvH.of (.cons r0 .nil))
  · replace e18 := iff_ g15_1 e18
    obtain ⟨x16, q16, e18⟩ := bnd e18
    conv => whnf
    refine call_fn (law16_awake_ok q16) .nil ?_
    rintro _ K16 _ l16 ⟨rfl, rfl⟩
    conv => whnf
    refine cond_f g15_1 ?_
    conv => whnf
    refine un_not ?_
    conv => whnf
    refine cond_f g15_1 ?_
    conv => whnf
    refine cond_go rfl ?_
    conv => whnf
    refine cond_s (fun w18 => ?_) (fun w18 => ?_)
    · replace hm := ift ((si e18).symm.trans (not_t (ni_t w18))) hm
      conv => whnf
      refine RStep.of (len_slice rfl ?_)
      obtain rfl := si hm
      conv => whnf
      refine EndStep.mk _ l16 ⟨rfl, rfl⟩ (ConvH.of (.cons r0 .nil))
    · replace hm := iff_ ((si e18).symm.trans (not_f (ni_f w18))) hm
      obtain ⟨x22, q22, hm⟩ := bnd hm
      conv => whnf
      refine call_fn (vary_New_ok q22) .nil ?_
      rintro _ K22 _ l22 ⟨b22_0, a22_1, c22_1, s22_1, rfl, h22_1, r22_1, rfl⟩
      conv => whnf
      refine RStep.of (len_slice rfl ?_)
      obtain ⟨hk0, hm⟩ := chkb hm
      obtain ⟨s0, hl0, hm⟩ := bnd hm
      conv => whnf
      refine nilC (fun _ : S_ref16_Variant => []) 84 3 ?_
      refine code_cut (σ := ((List S_ref16_Variant) × S_vary_Set) × Option Addr × Nat × List (List Value) × Option Addr × Nat × List (List Value)) [2, 4, 6, 7, 8, 9, 10, 11, 25, 26, 27, 28, 29, 30, 31, 32, 33, 34, 35, 36, 37, 38, 39, 40, 41, 42, 43, 44, 45, 46, 47, 48, 49, 50, 51, 52, 53, 54, 55, 56, 57, 58, 59, 60, 61, 62, 63, 64, 65, 66, 67, 68, 69, 70, 71, 72, 73, 74, 75, 76, 77, 78, 79, 80, 81, 82, 83, 84, 85, 86, 87, 88, 89, 90, 91, 92, 93, 94, 95, 96, 97, 98, 99, 100, 101, 102, 103, 104, 105, 106] (fun (t0, t0_a0, t0_c0, t0_s0, at0_1_0, ct0_1_0, st0_1_0) => [(4, .slice t0_a0 t0.1.length t0_c0)]) (fun (t0, t0_a0, t0_c0, t0_s0, at0_1_0, ct0_1_0, st0_1_0) => [OwnA t0_a0 84 3 t0_c0 t0_s0, Cells b22_0 75 [.slice at0_1_0 t0.2.list.length ct0_1_0], OwnA at0_1_0 78 3 ct0_1_0 st0_1_0, F]) (fun zz K1 => match zz with | (t0, t0_a0, t0_c0, t0_s0, at0_1_0, ct0_1_0, st0_1_0) => LR S_ref16_Variant.R K1 t0_s0 t0.1 ∧ (0 < t0.1.length → Has t0_a0) ∧ (0 < t0.2.list.length → Has at0_1_0) ∧ LR S_vary_variant.R K1 st0_1_0 t0.2.list ∧ s0 = Fl.go t0) ?_ ?_
      · refine block_go rfl ?_
        conv => whnf
        refine loop_rule (σ := Nat × (List S_ref16_Variant) × S_vary_Set × Option Addr × Nat × List (List Value) × Option Addr × Nat × List (List Value)) [2, 4, 6, 7, 8, 9, 10, 11, 25, 26, 27, 28, 29, 30, 31, 32, 33, 34, 35, 36, 37, 38, 39, 40, 41, 42, 43, 44, 45, 46, 47, 48, 49, 50, 51, 52, 53, 54, 55, 56, 57, 58, 59, 60, 61, 62, 63, 64, 65, 66, 67, 68, 69, 70, 71, 72, 73, 74, 75, 76, 77, 78, 79, 80, 81, 82, 83, 84, 85, 86, 87, 88, 89, 90, 91, 92, 93, 94, 95, 96, 97, 98, 99, 100, 101, 102, 103, 104, 105, 106] (fun (i0, y0_0, y0_1, y0_a0, y0_c0, y0_s0, ay0_1_0, cy0_1_0, sy0_1_0) => [(25, .int .i64 (i0 : Int)), (4, .slice y0_a0 y0_0.length y0_c0)]) (fun (i0, y0_0, y0_1, y0_a0, y0_c0, y0_s0, ay0_1_0, cy0_1_0, sy0_1_0) => [OwnA y0_a0 84 3 y0_c0 y0_s0, Cells b22_0 75 [.slice ay0_1_0 y0_1.list.length cy0_1_0], OwnA ay0_1_0 78 3 cy0_1_0 sy0_1_0, F]) (fun zz K1 => match zz with | (i0, y0_0, y0_1, y0_a0, y0_c0, y0_s0, ay0_1_0, cy0_1_0, sy0_1_0) => LR S_ref16_Variant.R K1 y0_s0 y0_0 ∧ (0 < y0_0.length → Has y0_a0) ∧ (0 < y0_1.list.length → Has ay0_1_0) ∧ LR S_vary_variant.R K1 sy0_1_0 y0_1.list ∧ law16_VarySets_L0 n (script.drop i0) i0 y0_0 y0_1 = some s0) (fun zz => script.length - zz.1) (0, [], x22, none, 0, [], a22_1, c22_1, s22_1) rfl ⟨rfl, rfl, trivial⟩ (ConvH.of (.cons r0 (.cons r0 (.cons r0 (.cons r0 .nil))))) ⟨LR.nil, (fun h => by simp at h), h22_1, r22_1, hl0⟩ ?_
        clear hl0
        rintro ⟨i0, y0_0, y0_1, y0_a0, y0_c0, y0_s0, ay0_1_0, cy0_1_0, sy0_1_0⟩ Kb0 lk0 ⟨y0_r0, y0_h0, hy0_1_0, ry0_1_0, hl0⟩ j0
        conv => whnf
        refine cond_go rfl ?_
        conv => whnf
        refine cond_s (fun w0 => ?_) (fun w0 => ?_)
        · obtain ⟨e0, hx0, hd0⟩ := ltx w0
          rw [hd0, law16_VarySets_L0.eq_2] at hl0
          conv => whnf
          refine block_go rfl ?_
          conv => whnf
          refine RStep.ofN (index_addr rfl rfl (hasR (LiC.mono S_law16_Step.R_ok ((l16.trans l22).trans lk0) hp0_0).rd hx0) (nn _) (lt_ofN hx0) ?_)
          obtain ⟨ss28, cc28, hr28, hc28, hR28⟩ := LiR.get (LiC.mono S_law16_Step.R_ok ((l16.trans l22).trans lk0) hp0_0).rd hx0
          obtain ⟨a28_0, c28_0, a28_1, c28_1, rfl, h28_0, h28_1⟩ := hR28
          conv => whnf
          refine RStep.of (load_rd_agg i0 _ hr28 rfl hc28 rfl ?_)
          conv => whnf
          refine alloc_rule rfl ?_
          intro b6
          conv => whnf
          refine store_rule r0 rfl ?_
          conv => whnf
          refine ⟨rfl, rfl, (Nat.le_of_ble_eq_true rfl), ?_⟩
          conv => whnf
          refine field_addr rfl ?_
          conv => whnf
          refine RStep.of (load1_s r0 rfl rfl ?_)
          obtain ⟨x31, q31, hl0⟩ := bnd hl0
          conv => whnf
          refine call_fn (law16_long_ok q31 h28_0 rfl) .nil ?_
          rintro _ K31 _ l31 ⟨rfl, rfl⟩
          obtain ⟨x37, e37, hl0⟩ := bnd hl0
          conv => whnf
          refine cond_s (fun g32_8 => ?_) (fun g32_8 => ?_)
          · replace e37 := ift g32_8 e37
            conv => whnf
            refine cond_t g32_8 ?_
            conv => whnf
            refine cond_t g32_8 ?_
            conv => whnf
            refine cond_t g32_8 ?_
            conv => whnf
            refine cond_t g32_8 ?_
            conv => whnf
            refine cond_go rfl ?_
            conv => whnf
            refine cond_T ?_
            replace hl0 := ift (si e37).symm hl0
            obtain rfl := si hl0
            replace hm := elr hm
            obtain rfl := si hm
            conv => whnf
            refine EndStep.mk _ (((l16.trans l22).trans lk0).trans l31) ⟨rfl, rfl⟩ (ConvH.of (.cons r4 .nil))
          · replace e37 := iff_ g32_8 e37
            conv => whnf
            refine field_addr rfl ?_
            conv => whnf
            refine cond_f g32_8 ?_
            conv => whnf
            refine RStep.of (load1_s r0 rfl rfl ?_)
            conv => whnf
            refine cond_f g32_8 ?_
            conv => whnf
            refine bsOR (R := (sliL S_ref02_Field.enc 2)) (len := 1) (l := [e0.FZ]) (css := [[.slice a28_1 e0.FZ.length c28_1]]) (cl := [.slice a28_1 e0.FZ.length c28_1]) sliL_ok elT64 rfl rfl (LR.snoc LR.nil ⟨a28_1, c28_1, rfl, (h28_1.mono l31)⟩) rfl rfl rfl ?_ fun b35 => ?_
            · conv => whnf
              refine cond_T ?_
              conv => whnf
              first | done | rfl
            conv => whnf
            refine cond_f g32_8 ?_
            obtain ⟨x36, q36, e37⟩ := bnd e37
            conv => whnf
            refine call_fn (Fn.lendR sliL_ok (show LR (sliL S_ref02_Field.enc 2) _ [[.slice a28_1 e0.FZ.length c28_1]] [e0.FZ] from (LR.snoc LR.nil ⟨a28_1, c28_1, rfl, (h28_1.mono l31)⟩)) Try.call10 (fun K36_0 l36_0 f36_0 => (law16_large_ok q36 f36_0 rfl)) (by exact fun _ _ _ _ h => h)) (.cons r0 .nil) ?_
            rintro _ K36 _ l36 ⟨_, rfl, rfl, rfl⟩
            conv => whnf
            refine cond_f g32_8 ?_
            conv => whnf
            refine cond_go rfl ?_
            conv => whnf
            refine cond_s (fun w37 => ?_) (fun w37 => ?_)
            · replace hl0 := ift ((si e37).symm.trans w37) hl0
              obtain rfl := si hl0
              replace hm := elr hm
              obtain rfl := si hm
              conv => whnf
              refine EndStep.mk _ ((((l16.trans l22).trans lk0).trans l31).trans l36) ⟨rfl, rfl⟩ (ConvH.of (.cons r5 .nil))
            · replace hl0 := iff_ ((si e37).symm.trans w37) hl0
              conv => whnf
              refine field_addr rfl ?_
              conv => whnf
              refine RStep.of (load1_s r1 rfl rfl ?_)
              obtain ⟨x40, q40, hl0⟩ := bnd hl0
              conv => whnf
              refine call_fn (law02_Fields_ok q40 (h28_1.mono (l31.trans l36)) rfl) .nil ?_
              rintro _ K40 _ l40 ⟨a40_0, c40_0, rfl, h40_0, rfl⟩
              conv => whnf
              refine field_addr rfl ?_
              conv => whnf
              refine RStep.of (load1_s r2 rfl rfl ?_)
              conv => whnf
              refine u8_rem (x := e0.What) (y := (4 : UInt8)) rfl rfl (by decide) ?_
              conv => whnf
              refine block_go rfl ?_
              conv => whnf
              refine eq_int ?_
              conv => whnf
              refine cond_go rfl ?_
              conv => whnf
              refine cond_s (fun w71 => ?_) (fun w71 => ?_)
              · replace hl0 := ift w71 hl0
                conv => whnf
                refine draw_go ⟨⟨[], false⟩, _, [(_, _)]⟩ (by kernel_rfl) ⟨Hp.Le.refl _, (ConvH.of (.cons r2 .nil))⟩ ?_
                obtain ⟨x75, q75, hl0⟩ := bnd hl0
                conv => whnf
                refine call_fn (Fn.lend Try.call18 (fun K75_1 l75_1 f75_1 => (vary_Set_Find_ok (s := y0_1) q75 hy0_1_0 (LR.mono S_vary_variant.R_ok (((l31.trans l36).trans l40).trans l75_1) ry0_1_0) f75_1 rfl)) (by exact fun _ _ _ _ h => h)) (.cons r0 (.cons r3 (.cons r3 .nil))) ?_
                rintro _ K75 _ l75 ⟨_, rfl, a75_0, c75_0, rfl, h75_0, rfl⟩
                conv => whnf
                refine ⟨⟨l75, (ConvH.of (.cons r5 .nil))⟩, ?_⟩
                conv => whnf
                refine field_addr rfl ?_
                conv => whnf
                refine load1_l m0 rfl rfl ?_
                obtain ⟨x79, q79, hl0⟩ := bnd hl0
                conv => whnf
                refine call_fn (Fn.lendR S_ref16_Variant.R_ok (LR.mono S_ref16_Variant.R_ok (((l31.trans l36).trans l40).trans l75) y0_r0) Try.call24 (fun K79_0 l79_0 f79_0 => (ref16_Find_ok q79 f79_0 rfl (h28_1.mono ((((l31.trans l36).trans l40).trans l75).trans l79_0)) rfl)) (by exact fun _ _ _ _ h => h)) (.cons r6 .nil) ?_
                rintro _ K79 _ l79 ⟨_, rfl, a79_0, c79_0, rfl, h79_0, rfl⟩
                conv => whnf
                refine ⟨⟨(l75.trans l79), (ConvH.of (.cons r7 .nil))⟩, ?_⟩
                obtain ⟨x80, q80, hl0⟩ := bnd hl0
                conv => whnf
                refine call_fn (Fn.lend Try.call19 (fun K80_0 l80_0 f80_0 => (Fn.lend Try.call19 (fun K80_1 l80_1 f80_1 => (base_Ints_ok q80 (f80_0.mono l80_1) rfl f80_1 rfl)) (by exact fun _ _ _ _ h => h))) (by exact fun _ _ _ _ h => h)) (.cons r3 (.cons r1 .nil)) ?_
                rintro _ K80 _ l80 ⟨_, rfl, _, rfl, rfl, rfl⟩
                conv => whnf
                refine ⟨⟨((l75.trans l79).trans l80), (ConvH.of (.cons r7 .nil))⟩, ?_⟩
                conv => whnf
                refine un_not ?_
                conv => whnf
                refine cond_go rfl ?_
                conv => whnf
                refine cond_s (fun w81 => ?_) (fun w81 => ?_)
                · replace hl0 := ift (not_t (ni_t w81)) hl0
                  obtain rfl := si hl0
                  replace hm := elr hm
                  obtain rfl := si hm
                  conv => whnf
                  refine EndStep.mk _ ((((((((l16.trans l22).trans lk0).trans l31).trans l36).trans l40).trans l75).trans l79).trans l80) ⟨rfl, rfl⟩ (ConvH.of (.cons r8 .nil))
                · replace hl0 := iff_ (not_f (ni_f w81)) hl0
                  obtain ⟨x101, q101, hl0⟩ := bnd hl0
                  conv => whnf
                  refine call_fn (vary_Set_IDs_ok (s := y0_1) q101 hy0_1_0 (LR.mono S_vary_variant.R_ok (((((l31.trans l36).trans l40).trans l75).trans l79).trans l80) ry0_1_0)) (.cons r4 (.cons r4 .nil)) ?_
                  rintro _ K101 _ l101 ⟨a101_0, c101_0, rfl, h101_0, rfl⟩
                  obtain ⟨x103, q103, hl0⟩ := bnd hl0
                  conv => whnf
                  refine call_fn (Fn.lendR S_ref16_Variant.R_ok (LR.mono S_ref16_Variant.R_ok ((((((l31.trans l36).trans l40).trans l75).trans l79).trans l80).trans l101) y0_r0) Try.call28 (fun K103_0 l103_0 f103_0 => (ref16_IDs_ok q103 f103_0 rfl)) (by exact fun _ _ _ _ h => h)) (.cons r5 .nil) ?_
                  rintro _ K103 _ l103 ⟨_, rfl, a103_0, c103_0, rfl, h103_0, rfl⟩
                  obtain ⟨x104, q104, hl0⟩ := bnd hl0
                  conv => whnf
                  refine call_fn (Fn.lend Try.call19 (fun K104_0 l104_0 f104_0 => (Fn.lend Try.call19 (fun K104_1 l104_1 f104_1 => (base_Ints_ok q104 (f104_0.mono l104_1) rfl f104_1 rfl)) (by exact fun _ _ _ _ h => h))) (by exact fun _ _ _ _ h => h)) (.cons r2 (.cons r1 .nil)) ?_
                  rintro _ K104 _ l104 ⟨_, rfl, _, rfl, rfl, rfl⟩
                  conv => whnf
                  refine un_not ?_
                  conv => whnf
                  refine cond_go rfl ?_
                  conv => whnf
                  refine cond_s (fun w105 => ?_) (fun w105 => ?_)
                  · replace hl0 := ift (not_t (ni_t w105)) hl0
                    obtain rfl := si hl0
                    replace hm := elr hm
                    obtain rfl := si hm
                    conv => whnf
                    refine EndStep.mk _ (((((((((((l16.trans l22).trans lk0).trans l31).trans l36).trans l40).trans l75).trans l79).trans l80).trans l101).trans l103).trans l104) ⟨rfl, rfl⟩ (ConvH.of (.cons r10 .nil))
                  · replace hl0 := iff_ (not_f (ni_f w105)) hl0
                    conv => whnf
                    refine int_in (cntz hx0 hk0) ?_
                    conv => whnf
                    refine RoundStep.mk (i0 + 1, y0_0, y0_1, y0_a0, y0_c0, y0_s0, ay0_1_0, cy0_1_0, sy0_1_0) ⟨rfl, rfl, trivial⟩ (by repeat (first | exact trivial | refine And.intro rfl ?_)) (ConvH.of (.cons r2 (.cons r2 (.cons r2 (.cons r7 .nil))))) (((((((((lk0.trans l31).trans l36).trans l40).trans l75).trans l79).trans l80).trans l101).trans l103).trans l104) (ltm hx0) ⟨(LR.mono S_ref16_Variant.R_ok ((((((((l31.trans l36).trans l40).trans l75).trans l79).trans l80).trans l101).trans l103).trans l104) y0_r0), y0_h0, hy0_1_0, (LR.mono S_vary_variant.R_ok ((((((((l31.trans l36).trans l40).trans l75).trans l79).trans l80).trans l101).trans l103).trans l104) ry0_1_0), hl0⟩
              · replace hl0 := iff_ w71 hl0
                conv => whnf
                refine eq_int ?_
                conv => whnf
                refine cond_go rfl ?_
                conv => whnf
                refine cond_s (fun w82 => ?_) (fun w82 => ?_)
                · replace hl0 := ift w82 hl0
                  conv => whnf
                  refine field_addr rfl ?_
                  conv => whnf
                  refine RStep.of (load1_s r2 rfl rfl ?_)
                  obtain ⟨h87, hl0⟩ := chkb hl0
                  conv => whnf
                  refine conv_int rfl rfl h87 ?_
                  obtain ⟨x88, q88, hl0⟩ := bnd hl0
                  conv => whnf
                  refine call_fn (vary_Set_Remove_ok (s := y0_1) (id := e0.ID) q88 hy0_1_0 (LR.mono S_vary_variant.R_ok ((l31.trans l36).trans l40) ry0_1_0)) (.cons r4 (.cons r4 .nil)) ?_
                  rintro _ K88 _ l88 ⟨a88_0, c88_0, s88_0, rfl, h88_0, r88_0, rfl⟩
                  conv => whnf
                  refine field_addr rfl ?_
                  conv => whnf
                  refine RStep.of (load1_s r4 rfl rfl ?_)
                  obtain ⟨h93, hl0⟩ := chkb hl0
                  conv => whnf
                  refine conv_int rfl rfl h93 ?_
                  obtain ⟨x94, q94, hl0⟩ := bnd hl0
                  conv => whnf
                  refine fzFR Try.call26 S_ref16_Variant.R_ok r5 (LR.mono S_ref16_Variant.R_ok (((l31.trans l36).trans l40).trans l88) y0_r0) fun K94_0 l94_0 f94_0 => ?_
                  refine call_fn (ref16_Remove_ok (id := e0.ID) q94 f94_0 rfl) .nil ?_
                  rintro _ K94 _ l94 ⟨a94_0, c94_0, s94_0, rfl, h94_0, r94_0, rfl⟩
                  conv => whnf
                  refine neq_bool rfl ?_
                  conv => whnf
                  refine cond_go rfl ?_
                  conv => whnf
                  refine cond_s (fun w99 => ?_) (fun w99 => ?_)
                  · replace hl0 := ift w99 hl0
                    obtain rfl := si hl0
                    replace hm := elr hm
                    obtain rfl := si hm
                    conv => whnf
                    refine EndStep.mk _ ((((((((l16.trans l22).trans lk0).trans l31).trans l36).trans l40).trans l88).trans l94_0).trans l94) ⟨rfl, rfl⟩ (ConvH.of (.cons r6 .nil))
                  · replace hl0 := iff_ w99 hl0
                    obtain ⟨x101, q101, hl0⟩ := bnd hl0
                    conv => whnf
                    refine call_fn (vary_Set_IDs_ok (s := x88.2) q101 h88_0 (LR.mono S_vary_variant.R_ok (l94_0.trans l94) r88_0)) (.cons r1 (.cons r1 .nil)) ?_
                    rintro _ K101 _ l101 ⟨a101_0, c101_0, rfl, h101_0, rfl⟩
                    obtain ⟨x103, q103, hl0⟩ := bnd hl0
                    conv => whnf
                    refine call_fn (Fn.lendR S_ref16_Variant.R_ok (LR.mono S_ref16_Variant.R_ok l101 r94_0) Try.call28 (fun K103_0 l103_0 f103_0 => (ref16_IDs_ok q103 f103_0 rfl)) (by exact fun _ _ _ _ h => h)) (.cons r3 .nil) ?_
                    rintro _ K103 _ l103 ⟨_, rfl, a103_0, c103_0, rfl, h103_0, rfl⟩
                    obtain ⟨x104, q104, hl0⟩ := bnd hl0
                    conv => whnf
                    refine call_fn (Fn.lend Try.call19 (fun K104_0 l104_0 f104_0 => (Fn.lend Try.call19 (fun K104_1 l104_1 f104_1 => (base_Ints_ok q104 (f104_0.mono l104_1) rfl f104_1 rfl)) (by exact fun _ _ _ _ h => h))) (by exact fun _ _ _ _ h => h)) (.cons r2 (.cons r1 .nil)) ?_
                    rintro _ K104 _ l104 ⟨_, rfl, _, rfl, rfl, rfl⟩
                    conv => whnf
                    refine un_not ?_
                    conv => whnf
                    refine cond_go rfl ?_
                    conv => whnf
                    refine cond_s (fun w105 => ?_) (fun w105 => ?_)
                    · replace hl0 := ift (not_t (ni_t w105)) hl0
                      obtain rfl := si hl0
                      replace hm := elr hm
                      obtain rfl := si hm
                      conv => whnf
                      refine EndStep.mk _ (((((((((((l16.trans l22).trans lk0).trans l31).trans l36).trans l40).trans l88).trans l94_0).trans l94).trans l101).trans l103).trans l104) ⟨rfl, rfl⟩ (ConvH.of (.cons r8 .nil))
                    · replace hl0 := iff_ (not_f (ni_f w105)) hl0
                      conv => whnf
                      refine int_in (cntz hx0 hk0) ?_
                      conv => whnf
                      refine RoundStep.mk (i0 + 1, x94.1, x88.2, a94_0, c94_0, s94_0, a88_0, c88_0, s88_0) ⟨rfl, rfl, trivial⟩ (by repeat (first | exact trivial | refine And.intro rfl ?_)) (ConvH.of (.cons r2 (.cons r2 (.cons r2 (.cons r5 .nil))))) (((((((((lk0.trans l31).trans l36).trans l40).trans l88).trans l94_0).trans l94).trans l101).trans l103).trans l104) (ltm hx0) ⟨(LR.mono S_ref16_Variant.R_ok ((l101.trans l103).trans l104) r94_0), h94_0, h88_0, (LR.mono S_vary_variant.R_ok ((((l94_0.trans l94).trans l101).trans l103).trans l104) r88_0), hl0⟩
                · replace hl0 := iff_ w82 hl0
                  conv => whnf
                  refine field_addr rfl ?_
                  conv => whnf
                  refine RStep.of (load1_s r2 rfl rfl ?_)
                  conv => whnf
                  refine field_addr rfl ?_
                  conv => whnf
                  refine RStep.of (load1_s r2 rfl rfl ?_)
                  obtain ⟨h50, hl0⟩ := chkb hl0
                  conv => whnf
                  refine conv_int rfl rfl h50 ?_
                  obtain ⟨x51, q51, hl0⟩ := bnd hl0
                  conv => whnf
                  refine fF Try.call16 r0 fun K51_2 l51_2 f51_2 => ?_
                  refine call_fn (vary_Set_Put_ok (s := y0_1) (id := e0.ID) q51 hy0_1_0 (LR.mono S_vary_variant.R_ok (((l31.trans l36).trans l40).trans l51_2) ry0_1_0) (h28_0.mono (((l31.trans l36).trans l40).trans l51_2)) rfl f51_2 rfl) (.cons r3 (.cons r3 .nil)) ?_
                  rintro _ K51 _ l51 ⟨a51_0, c51_0, a51_1, c51_1, s51_1, rfl, h51_0, h51_1, r51_1, rfl⟩
                  conv => whnf
                  refine draw_go ⟨⟨[], false⟩, _, [(_, _)]⟩ (by kernel_rfl) ⟨Hp.Le.refl _, (ConvH.of (.cons r4 .nil))⟩ ?_
                  conv => whnf
                  refine field_addr rfl ?_
                  conv => whnf
                  refine load1_l m0 rfl rfl ?_
                  conv => whnf
                  refine field_addr rfl ?_
                  conv => whnf
                  refine load1_l m0 rfl rfl ?_
                  conv => whnf
                  refine field_addr rfl ?_
                  conv => whnf
                  refine load1_l m0 rfl rfl ?_
                  obtain ⟨x60, q60, hl0⟩ := bnd hl0
                  conv => whnf
                  refine call_fn (ref16_Key_ok q60 (h28_0.mono ((((l31.trans l36).trans l40).trans l51_2).trans l51)) rfl (h28_1.mono ((((l31.trans l36).trans l40).trans l51_2).trans l51)) rfl) .nil ?_
                  rintro _ K60 _ l60 ⟨rfl, rfl⟩
                  conv => whnf
                  refine ⟨⟨l60, (ConvH.of (.cons r4 .nil))⟩, ?_⟩
                  conv => whnf
                  refine field_addr rfl ?_
                  conv => whnf
                  refine load1_l m0 rfl rfl ?_
                  obtain ⟨h63, hl0⟩ := chkb hl0
                  conv => whnf
                  refine conv_int rfl rfl h63 ?_
                  obtain ⟨x64, q64, hl0⟩ := bnd hl0
                  conv => whnf
                  refine fzFR Try.call27 S_ref16_Variant.R_ok r5 (LR.mono S_ref16_Variant.R_ok (((((l31.trans l36).trans l40).trans l51_2).trans l51).trans l60) y0_r0) fun K64_0 l64_0 f64_0 => ?_
                  refine call_fn (ref16_Put_ok (key := x60) (id := e0.ID) q64 f64_0 rfl (h28_0.mono ((((((l31.trans l36).trans l40).trans l51_2).trans l51).trans l60).trans l64_0)) rfl) .nil ?_
                  rintro _ K64 _ l64 ⟨a64_0, c64_0, s64_0, a64_1, c64_1, rfl, h64_0, r64_0, h64_1, rfl⟩
                  conv => whnf
                  refine ⟨⟨((l60.trans l64_0).trans l64), (ConvH.of (.cons r6 .nil))⟩, ?_⟩
                  obtain ⟨x69, q69, hl0⟩ := bnd hl0
                  conv => whnf
                  refine call_fn (Fn.lend Try.call19 (fun K69_0 l69_0 f69_0 => (Fn.lend Try.call19 (fun K69_1 l69_1 f69_1 => (base_Ints_ok q69 (f69_0.mono l69_1) rfl f69_1 rfl)) (by exact fun _ _ _ _ h => h))) (by exact fun _ _ _ _ h => h)) (.cons r2 (.cons r1 .nil)) ?_
                  rintro _ K69 _ l69 ⟨_, rfl, _, rfl, rfl, rfl⟩
                  conv => whnf
                  refine un_not ?_
                  conv => whnf
                  refine cond_go rfl ?_
                  conv => whnf
                  refine cond_s (fun w70 => ?_) (fun w70 => ?_)
                  · replace hl0 := ift (not_t (ni_t w70)) hl0
                    obtain rfl := si hl0
                    replace hm := elr hm
                    obtain rfl := si hm
                    conv => whnf
                    refine EndStep.mk _ (((((((((((l16.trans l22).trans lk0).trans l31).trans l36).trans l40).trans l51_2).trans l51).trans l60).trans l64_0).trans l64).trans l69) ⟨rfl, rfl⟩ (ConvH.of (.cons r7 .nil))
                  · replace hl0 := iff_ (not_f (ni_f w70)) hl0
                    obtain ⟨x101, q101, hl0⟩ := bnd hl0
                    conv => whnf
                    refine call_fn (vary_Set_IDs_ok (s := x51.2) q101 h51_1 (LR.mono S_vary_variant.R_ok (((l60.trans l64_0).trans l64).trans l69) r51_1)) (.cons r3 (.cons r3 .nil)) ?_
                    rintro _ K101 _ l101 ⟨a101_0, c101_0, rfl, h101_0, rfl⟩
                    obtain ⟨x103, q103, hl0⟩ := bnd hl0
                    conv => whnf
                    refine call_fn (Fn.lendR S_ref16_Variant.R_ok (LR.mono S_ref16_Variant.R_ok (l69.trans l101) r64_0) Try.call28 (fun K103_0 l103_0 f103_0 => (ref16_IDs_ok q103 f103_0 rfl)) (by exact fun _ _ _ _ h => h)) (.cons r5 .nil) ?_
                    rintro _ K103 _ l103 ⟨_, rfl, a103_0, c103_0, rfl, h103_0, rfl⟩
                    obtain ⟨x104, q104, hl0⟩ := bnd hl0
                    conv => whnf
                    refine call_fn (Fn.lend Try.call19 (fun K104_0 l104_0 f104_0 => (Fn.lend Try.call19 (fun K104_1 l104_1 f104_1 => (base_Ints_ok q104 (f104_0.mono l104_1) rfl f104_1 rfl)) (by exact fun _ _ _ _ h => h))) (by exact fun _ _ _ _ h => h)) (.cons r2 (.cons r1 .nil)) ?_
                    rintro _ K104 _ l104 ⟨_, rfl, _, rfl, rfl, rfl⟩
                    conv => whnf
                    refine un_not ?_
                    conv => whnf
                    refine cond_go rfl ?_
                    conv => whnf
                    refine cond_s (fun w105 => ?_) (fun w105 => ?_)
                    · replace hl0 := ift (not_t (ni_t w105)) hl0
                      obtain rfl := si hl0
                      replace hm := elr hm
                      obtain rfl := si hm
                      conv => whnf
                      refine EndStep.mk _ ((((((((((((((l16.trans l22).trans lk0).trans l31).trans l36).trans l40).trans l51_2).trans l51).trans l60).trans l64_0).trans l64).trans l69).trans l101).trans l103).trans l104) ⟨rfl, rfl⟩ (ConvH.of (.cons r9 .nil))
                    · replace hl0 := iff_ (not_f (ni_f w105)) hl0
                      conv => whnf
                      refine int_in (cntz hx0 hk0) ?_
                      conv => whnf
                      refine RoundStep.mk (i0 + 1, x64.1, x51.2, a64_0, c64_0, s64_0, a51_1, c51_1, s51_1) ⟨rfl, rfl, trivial⟩ (by repeat (first | exact trivial | refine And.intro rfl ?_)) (ConvH.of (.cons r2 (.cons r2 (.cons r2 (.cons r6 .nil))))) ((((((((((((lk0.trans l31).trans l36).trans l40).trans l51_2).trans l51).trans l60).trans l64_0).trans l64).trans l69).trans l101).trans l103).trans l104) (ltm hx0) ⟨(LR.mono S_ref16_Variant.R_ok (((l69.trans l101).trans l103).trans l104) r64_0), h64_0, h51_1, (LR.mono S_vary_variant.R_ok ((((((l60.trans l64_0).trans l64).trans l69).trans l101).trans l103).trans l104) r51_1), hl0⟩
        · rw [lty w0, law16_VarySets_L0.eq_1] at hl0
          conv => whnf
          refine cond_T ?_
          conv => whnf
          refine MeetStep.mk ((y0_0, y0_1), y0_a0, y0_c0, y0_s0, ay0_1_0, cy0_1_0, sy0_1_0) ⟨rfl, trivial⟩ (by repeat (first | exact trivial | refine And.intro rfl ?_)) (ConvH.of (.cons r0 (.cons r0 (.cons r0 (.cons r0 .nil))))) lk0 ⟨y0_r0, y0_h0, hy0_1_0, ry0_1_0, (si hl0).symm⟩
      · rintro ⟨t0, t0_a0, t0_c0, t0_s0, at0_1_0, ct0_1_0, st0_1_0⟩ Kt0 lt0 ⟨t0_r0, t0_h0, ht0_1_0, rt0_1_0, rfl⟩ j0
        replace hm := elg hm
        obtain rfl := si hm
        conv => whnf
        refine EndStep.mk _ ((l16.trans l22).trans lt0) ⟨rfl, rfl⟩ (ConvH.of (.cons r3 .nil))
