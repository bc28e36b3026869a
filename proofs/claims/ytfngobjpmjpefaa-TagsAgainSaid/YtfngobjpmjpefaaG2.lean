/- Functions of the program: mirrors, and that a call returns what the mirror says. Printed by gen.py. -/
import Derived.Test.YtfngobjpmjpefaaG1
set_option linter.unusedVariables false
set_option linter.unusedSimpArgs false
open Go Go.SL Go.Proofs
set_option maxRecDepth 1000000
noncomputable def law35_TagsAgain_L0 (s : Str) : Nat → Str → Int → Option (Str × Int)
  | 0, _, _ => none
  | xs0 + 1, y0_0, y0_1 =>
    if decide (y0_1 < (s.length : Int)) then
    (chk (InI (y0_1 + 1))).bind fun _ =>
    (chk (0 ≤ y0_1 ∧ y0_1 ≤ (y0_1 + 1) ∧ (y0_1 + 1) ≤ (s.length : Int))).bind fun _ =>
    (chk (y0_0.length + (subL s y0_1 (y0_1 + 1)).length ≤ lim)).bind fun _ =>
    (ix s y0_1).bind fun x40 =>
    (if decide ((x40.toNat : Int) = 32) then some true else (ix s y0_1).bind fun x45 =>
    some (decide ((x45.toNat : Int) = 9))).bind fun x47 =>
    if x47 then
    (chk ((y0_0 ++ (subL s y0_1 (y0_1 + 1))).length + ([32, 9] : Str).length ≤ lim)).bind fun _ =>
    (chk (InI (y0_1 + 1))).bind fun _ =>
    law35_TagsAgain_L0 s xs0 ((y0_0 ++ (subL s y0_1 (y0_1 + 1))) ++ ([32, 9] : Str)) (y0_1 + 1)
    else
    (chk (InI (y0_1 + 1))).bind fun _ =>
    law35_TagsAgain_L0 s xs0 (y0_0 ++ (subL s y0_1 (y0_1 + 1))) (y0_1 + 1)
    else
    some (y0_0, y0_1)
noncomputable def law35_TagsAgain_L2 (x22 : (List Str) × Err) : Nat → Str → Int → Option (Fl (Bool) (Str × Int))
  | 0, _, _ => none
  | xs2 + 1, y2_0, y2_1 =>
    if decide (y2_1 < (x22.1.length : Int)) then
    (if decide (y2_1 > 0) then (chk (InI (y2_1 - 1))).bind fun _ =>
    (ix x22.1 (y2_1 - 1)).bind fun x97 =>
    (ix x22.1 y2_1).bind fun x101 =>
    some (!Op.bytesLess x97 x101) else some false).bind fun x104 =>
    (if x104 then some true else (ix x22.1 y2_1).bind fun x108 =>
    some (decide ((x108.length : Int) > 32))).bind fun x112 =>
    (if x112 then some true else (ix x22.1 y2_1).bind fun x116 =>
    some (decide (x116 = ([] : Str)))).bind fun x119 =>
    if x119 then
    some (Fl.ret false)
    else
    (ix x22.1 y2_1).bind fun x123 =>
    (chk (x123.length + ([32] : Str).length ≤ lim)).bind fun _ =>
    (chk (y2_0.length + (x123 ++ ([32] : Str)).length ≤ lim)).bind fun _ =>
    (chk (InI (y2_1 + 1))).bind fun _ =>
    law35_TagsAgain_L2 x22 xs2 (y2_0 ++ (x123 ++ ([32] : Str))) (y2_1 + 1)
    else
    some (Fl.go (y2_0, y2_1))
noncomputable def law35_TagsAgain (n : Nat) (s : Str) : Option (Bool) :=
  (law35_awake).bind fun x12 =>
  if ((!x12) || decide ((s.length : Int) > 2000)) then
  (law35_awake).bind fun x19 =>
  some x19
  else
  (tags_Clean n s).bind fun x22 =>
  (law35_TagsAgain_L0 s n ([9, 32] : Str) 0).bind fun t0 =>
  (chk (t0.1.length + ([32] : Str).length ≤ lim)).bind fun _ =>
  (tags_Clean n (t0.1 ++ ([32] : Str))).bind fun x53 =>
  (base_Num x22.2).bind fun x57 =>
  (base_Num x53.2).bind fun x59 =>
  (if decide (x57 ≠ x59) then some true else (base_Texts x22.1 x53.1).bind fun x64 =>
  some (!x64)).bind fun x66 =>
  if (x66 || x22.2.isSome) then
  (if (x22.2.isSome && decide ((x22.1.length : Int) = 0)) then (base_Num x22.2).bind fun x80 =>
  (base_Num x53.2).bind fun x82 =>
  some (decide (x80 = x82)) else some false).bind fun x84 =>
  some x84
  else
  (law35_TagsAgain_L2 x22 n ([] : Str) 0).bind fun s2 => s2.el some fun t2 =>
  (tags_Clean n t2.1).bind fun x129 =>
  (if (x129.2.isNone && decide ((x22.1.length : Int) ≤ 16)) then (base_Texts x129.1 x22.1).bind fun x142 =>
  some x142 else some false).bind fun x143 =>
  some x143
set_option maxHeartbeats 8000000 in
theorem law35_TagsAgain_ok {n : Nat} {s : Str} {K : Hp} {r : Bool}
    (hm : law35_TagsAgain n s = some r)  :
    Fn Try.prog 8 [str s] K [] (fun v K' H' => v = .bool r ∧ H' = []) := by
  refine Fn.enter Try.func8 Try.call8 rfl fun F => ?_
  unfold law35_TagsAgain at hm
  obtain ⟨x12, q12, hm⟩ := bnd hm
  conv => whnf
  refine call_fn (law35_awake_ok q12) .nil ?_
  rintro _ K12 _ l12 ⟨rfl, rfl⟩
  conv => whnf
  refine un_not ?_
  conv => whnf
  refine cond_s (fun g14_1 => ?_) (fun g14_1 => ?_)
  · conv => whnf
    refine cond_t g14_1 ?_
    conv => whnf
    refine cond_t g14_1 ?_
    conv => whnf
    refine cond_t g14_1 ?_
    conv => whnf
    refine cond_go rfl ?_
    conv => whnf
    refine cond_T ?_
    replace hm := ift (or_t (not_t (ni_t g14_1))) hm
    obtain ⟨x19, q19, hm⟩ := bnd hm
    conv => whnf
    refine call_fn (law35_awake_ok q19) .nil ?_
    rintro _ K19 _ l19 ⟨rfl, rfl⟩
    obtain rfl := si hm
    conv => whnf
    refine EndStep.mk _ (l12.trans l19) ⟨rfl, rfl⟩ (ConvH.of (.cons r0 .nil))
  · conv => whnf
    refine cond_f g14_1 ?_
    conv => whnf
    refine RStep.of (len_str rfl ?_)
    conv => whnf
    refine cond_f g14_1 ?_
    conv => whnf
    refine cond_f g14_1 ?_
    conv => whnf
    refine cond_go rfl ?_
    conv => whnf
    refine cond_s (fun w18 => ?_) (fun w18 => ?_)
    · replace hm := ift (or_u (not_f (ni_f g14_1)) w18) hm
      obtain ⟨x19, q19, hm⟩ := bnd hm
      conv => whnf
      refine call_fn (law35_awake_ok q19) .nil ?_
      rintro _ K19 _ l19 ⟨rfl, rfl⟩
      obtain rfl := si hm
      conv => whnf
      refine EndStep.mk _ (l12.trans l19) ⟨rfl, rfl⟩ (ConvH.of (.cons r0 .nil))
    · replace hm := iff_ (or_f (not_f (ni_f g14_1)) w18) hm
      obtain ⟨x22, q22, hm⟩ := bnd hm
      conv => whnf
      refine call_fn (tags_Clean_ok q22) .nil ?_
      rintro _ K22 _ l22 ⟨a22_0, c22_0, rfl, h22_0, rfl⟩
      obtain ⟨s0, hl0, hm⟩ := bnd hm
      conv => whnf
      refine code_cut (σ := (Str × Int)) [5, 6, 25, 26, 27, 28, 29, 30, 31, 32, 33, 34, 35, 36, 37, 38, 39, 40, 41, 42, 43, 44, 45, 46, 47, 48, 49] (fun t0 => [(5, str t0.1), (6, .int .i64 t0.2)]) (fun t0 => [OwnL eS a22_0 9 1 c22_0 x22.1, F]) (fun zz K1 => match zz with | t0 => t0 = s0) ?_ ?_
      · refine block_go rfl ?_
        conv => whnf
        refine loop_rule (σ := Nat × Str × Int) [5, 6, 25, 26, 27, 28, 29, 30, 31, 32, 33, 34, 35, 36, 37, 38, 39, 40, 41, 42, 43, 44, 45, 46, 47, 48, 49] (fun (i0, y0_0, y0_1) => [(5, str y0_0), (6, .int .i64 y0_1)]) (fun (i0, y0_0, y0_1) => [OwnL eS a22_0 9 1 c22_0 x22.1, F]) (fun zz K1 => match zz with | (i0, y0_0, y0_1) => law35_TagsAgain_L0 s i0 y0_0 y0_1 = some s0) (fun zz => zz.1) (n, ([9, 32] : Str), 0) rfl ⟨rfl, rfl, trivial⟩ (ConvH.of (.cons r0 (.cons r0 .nil))) hl0 ?_
        clear hl0
        rintro ⟨i0, y0_0, y0_1⟩ Kb0 lk0 hl0 j0
        conv at hl0 => whnf
        cases i0 with
        | zero => rw [law35_TagsAgain_L0.eq_1] at hl0; cases hl0
        | succ i0 =>
          rw [law35_TagsAgain_L0.eq_2] at hl0
          conv => whnf
          refine RStep.of (len_str rfl ?_)
          conv => whnf
          refine cond_go rfl ?_
          conv => whnf
          refine cond_s (fun w28 => ?_) (fun w28 => ?_)
          · replace hl0 := ift w28 hl0
            conv => whnf
            refine block_go rfl ?_
            obtain ⟨h35, hl0⟩ := chkb hl0
            conv => whnf
            refine int_in h35 ?_
            obtain ⟨h36, hl0⟩ := chkb hl0
            conv => whnf
            refine RStep.ofN (sl_str (lo := (some y0_1)) (hi := (some (y0_1 + 1))) rfl h36 ?_)
            obtain ⟨h37, hl0⟩ := chkb hl0
            conv => whnf
            refine cat_str h37 ?_
            obtain ⟨x40, l40, k40, hl0⟩ := ixb hl0
            conv => whnf
            refine idx_str rfl l40 k40 ?_
            conv => whnf
            refine eq_int ?_
            obtain ⟨x47, e47, hl0⟩ := bnd hl0
            conv => whnf
            refine cond_s (fun g42_9 => ?_) (fun g42_9 => ?_)
            · replace e47 := ift g42_9 e47
              conv => whnf
              refine cond_t g42_9 ?_
              conv => whnf
              refine cond_t g42_9 ?_
              conv => whnf
              refine cond_t g42_9 ?_
              conv => whnf
              refine cond_t g42_9 ?_
              conv => whnf
              refine cond_go rfl ?_
              conv => whnf
              refine cond_T ?_
              replace hl0 := ift (si e47).symm hl0
              obtain ⟨h49, hl0⟩ := chkb hl0
              conv => whnf
              refine cat_str h49 ?_
              obtain ⟨h30, hl0⟩ := chkb hl0
              conv => whnf
              refine int_in h30 ?_
              conv => whnf
              refine RoundStep.mk (i0, ((y0_0 ++ (subL s y0_1 (y0_1 + 1))) ++ ([32, 9] : Str)), (y0_1 + 1)) ⟨rfl, rfl, trivial⟩ (by repeat (first | exact trivial | refine And.intro rfl ?_)) (ConvH.of (.cons r0 (.cons r0 .nil))) lk0 (Nat.lt_succ_self _) hl0
            · replace e47 := iff_ g42_9 e47
              conv => whnf
              refine cond_f g42_9 ?_
              conv => whnf
              refine cond_f g42_9 ?_
              obtain ⟨x45, l45, k45, e47⟩ := ixb e47
              conv => whnf
              refine idx_str rfl l45 k45 ?_
              conv => whnf
              refine cond_f g42_9 ?_
              conv => whnf
              refine eq_int ?_
              conv => whnf
              refine cond_f g42_9 ?_
              conv => whnf
              refine cond_go rfl ?_
              conv => whnf
              refine cond_s (fun w47 => ?_) (fun w47 => ?_)
              · replace hl0 := ift ((si e47).symm.trans w47) hl0
                obtain ⟨h49, hl0⟩ := chkb hl0
                conv => whnf
                refine cat_str h49 ?_
                obtain ⟨h30, hl0⟩ := chkb hl0
                conv => whnf
                refine int_in h30 ?_
                conv => whnf
                refine RoundStep.mk (i0, ((y0_0 ++ (subL s y0_1 (y0_1 + 1))) ++ ([32, 9] : Str)), (y0_1 + 1)) ⟨rfl, rfl, trivial⟩ (by repeat (first | exact trivial | refine And.intro rfl ?_)) (ConvH.of (.cons r0 (.cons r0 .nil))) lk0 (Nat.lt_succ_self _) hl0
              · replace hl0 := iff_ ((si e47).symm.trans w47) hl0
                obtain ⟨h30, hl0⟩ := chkb hl0
                conv => whnf
                refine int_in h30 ?_
                conv => whnf
                refine RoundStep.mk (i0, (y0_0 ++ (subL s y0_1 (y0_1 + 1))), (y0_1 + 1)) ⟨rfl, rfl, trivial⟩ (by repeat (first | exact trivial | refine And.intro rfl ?_)) (ConvH.of (.cons r0 (.cons r0 .nil))) lk0 (Nat.lt_succ_self _) hl0
          · replace hl0 := iff_ w28 hl0
            conv => whnf
            refine cond_T ?_
            conv => whnf
            refine MeetStep.mk ((y0_0, y0_1)) ⟨rfl, rfl, trivial⟩ (by repeat (first | exact trivial | refine And.intro rfl ?_)) (ConvH.of (.cons r0 (.cons r0 .nil))) lk0 (si hl0)
      · rintro t0 Kt0 lt0 rfl j0
        obtain ⟨h52, hm⟩ := chkb hm
        conv => whnf
        refine cat_str h52 ?_
        obtain ⟨x53, q53, hm⟩ := bnd hm
        conv => whnf
        refine call_fn (tags_Clean_ok q53) .nil ?_
        rintro _ K53 _ l53 ⟨a53_0, c53_0, rfl, h53_0, rfl⟩
        obtain ⟨x57, q57, hm⟩ := bnd hm
        conv => whnf
        refine call_fn (base_Num_ok q57) .nil ?_
        rintro _ K57 _ l57 ⟨rfl, rfl⟩
        obtain ⟨x59, q59, hm⟩ := bnd hm
        conv => whnf
        refine call_fn (base_Num_ok q59) .nil ?_
        rintro _ K59 _ l59 ⟨rfl, rfl⟩
        conv => whnf
        refine neq_int ?_
        obtain ⟨x66, e66, hm⟩ := bnd hm
        conv => whnf
        refine cond_s (fun g61_12 => ?_) (fun g61_12 => ?_)
        · replace e66 := ift g61_12 e66
          conv => whnf
          refine cond_t g61_12 ?_
          conv => whnf
          refine cond_t g61_12 ?_
          conv => whnf
          refine cond_t g61_12 ?_
          conv => whnf
          refine cond_t g61_12 ?_
          conv => whnf
          refine cond_T ?_
          conv => whnf
          refine cond_T ?_
          conv => whnf
          refine cond_T ?_
          conv => whnf
          refine cond_go rfl ?_
          conv => whnf
          refine cond_T ?_
          replace hm := ift (or_t (si e66).symm) hm
          conv => whnf
          refine neq_err rfl ?_
          conv => whnf
          refine cond_s (fun g73_13 => ?_) (fun g73_13 => ?_)
          · conv => whnf
            refine cond_t g73_13 ?_
            conv => whnf
            refine RStep.of (len_slice rfl ?_)
            conv => whnf
            refine cond_t g73_13 ?_
            conv => whnf
            refine eq_int ?_
            conv => whnf
            refine cond_t g73_13 ?_
            obtain ⟨x84, e84, hm⟩ := bnd hm
            conv => whnf
            refine cond_s (fun g78_13 => ?_) (fun g78_13 => ?_)
            · replace e84 := ift (and_t g73_13 g78_13) e84
              conv => whnf
              refine cond_t g78_13 ?_
              obtain ⟨x80, q80, e84⟩ := bnd e84
              conv => whnf
              refine call_fn (base_Num_ok q80) .nil ?_
              rintro _ K80 _ l80 ⟨rfl, rfl⟩
              conv => whnf
              refine cond_t g78_13 ?_
              conv => whnf
              refine cond_t g78_13 ?_
              obtain ⟨x82, q82, e84⟩ := bnd e84
              conv => whnf
              refine call_fn (base_Num_ok q82) .nil ?_
              rintro _ K82 _ l82 ⟨rfl, rfl⟩
              conv => whnf
              refine cond_t g78_13 ?_
              conv => whnf
              refine eq_int ?_
              conv => whnf
              refine cond_t g78_13 ?_
              obtain rfl := si hm
              conv => whnf
              refine EndStep.mk _ (((((((l12.trans l22).trans lt0).trans l53).trans l57).trans l59).trans l80).trans l82) ⟨(by rw [← (si e84)] <;> rfl), rfl⟩ (ConvH.of (.cons r2 .nil))
            · replace e84 := iff_ (and_g g73_13 g78_13) e84
              conv => whnf
              refine cond_f g78_13 ?_
              conv => whnf
              refine cond_f g78_13 ?_
              conv => whnf
              refine cond_f g78_13 ?_
              conv => whnf
              refine cond_f g78_13 ?_
              conv => whnf
              refine cond_f g78_13 ?_
              obtain rfl := si hm
              conv => whnf
              refine EndStep.mk _ (((((l12.trans l22).trans lt0).trans l53).trans l57).trans l59) ⟨(by rw [← ((si e84).symm).symm] <;> rfl), rfl⟩ (ConvH.of (.cons r2 .nil))
          · conv => whnf
            refine cond_f g73_13 ?_
            conv => whnf
            refine cond_f g73_13 ?_
            conv => whnf
            refine cond_f g73_13 ?_
            obtain ⟨x84, e84, hm⟩ := bnd hm
            replace e84 := iff_ (and_f g73_13) e84
            conv => whnf
            refine cond_F ?_
            conv => whnf
            refine cond_F ?_
            conv => whnf
            refine cond_F ?_
            conv => whnf
            refine cond_F ?_
            conv => whnf
            refine cond_F ?_
            conv => whnf
            refine cond_F ?_
            obtain rfl := si hm
            conv => whnf
            refine EndStep.mk _ (((((l12.trans l22).trans lt0).trans l53).trans l57).trans l59) ⟨(by rw [← ((si e84).symm).symm] <;> rfl), rfl⟩ (ConvH.of (.cons r2 .nil))
        · replace e66 := iff_ g61_12 e66
          conv => whnf
          refine cond_f g61_12 ?_
          conv => whnf
          refine cond_f g61_12 ?_
          obtain ⟨x64, q64, e66⟩ := bnd e66
          conv => whnf
          refine call_fn (Fn.lend Try.call13 (fun K64_0 l64_0 f64_0 => (Fn.lend Try.call13 (fun K64_1 l64_1 f64_1 => (base_Texts_ok q64 (f64_0.mono l64_1) rfl f64_1 rfl)) (by exact fun _ _ _ _ h => h))) (by exact fun _ _ _ _ h => h)) (.cons r1 (.cons r0 .nil)) ?_
          rintro _ K64 _ l64 ⟨_, rfl, _, rfl, rfl, rfl⟩
          conv => whnf
          refine cond_f g61_12 ?_
          conv => whnf
          refine un_not ?_
          conv => whnf
          refine cond_f g61_12 ?_
          conv => whnf
          refine cond_s (fun g67_12 => ?_) (fun g67_12 => ?_)
          · conv => whnf
            refine cond_t g67_12 ?_
            conv => whnf
            refine cond_t g67_12 ?_
            conv => whnf
            refine cond_go rfl ?_
            conv => whnf
            refine cond_T ?_
            replace hm := ift (or_t ((si e66).symm.trans (not_t (ni_t g67_12)))) hm
            conv => whnf
            refine neq_err rfl ?_
            conv => whnf
            refine cond_s (fun g73_13 => ?_) (fun g73_13 => ?_)
            · conv => whnf
              refine cond_t g73_13 ?_
              conv => whnf
              refine RStep.of (len_slice rfl ?_)
              conv => whnf
              refine cond_t g73_13 ?_
              conv => whnf
              refine eq_int ?_
              conv => whnf
              refine cond_t g73_13 ?_
              obtain ⟨x84, e84, hm⟩ := bnd hm
              conv => whnf
              refine cond_s (fun g78_13 => ?_) (fun g78_13 => ?_)
              · replace e84 := ift (and_t g73_13 g78_13) e84
                conv => whnf
                refine cond_t g78_13 ?_
                obtain ⟨x80, q80, e84⟩ := bnd e84
                conv => whnf
                refine call_fn (base_Num_ok q80) .nil ?_
                rintro _ K80 _ l80 ⟨rfl, rfl⟩
                conv => whnf
                refine cond_t g78_13 ?_
                conv => whnf
                refine cond_t g78_13 ?_
                obtain ⟨x82, q82, e84⟩ := bnd e84
                conv => whnf
                refine call_fn (base_Num_ok q82) .nil ?_
                rintro _ K82 _ l82 ⟨rfl, rfl⟩
                conv => whnf
                refine cond_t g78_13 ?_
                conv => whnf
                refine eq_int ?_
                conv => whnf
                refine cond_t g78_13 ?_
                obtain rfl := si hm
                conv => whnf
                refine EndStep.mk _ ((((((((l12.trans l22).trans lt0).trans l53).trans l57).trans l59).trans l64).trans l80).trans l82) ⟨(by rw [← (si e84)] <;> rfl), rfl⟩ (ConvH.of (.cons r2 .nil))
              · replace e84 := iff_ (and_g g73_13 g78_13) e84
                conv => whnf
                refine cond_f g78_13 ?_
                conv => whnf
                refine cond_f g78_13 ?_
                conv => whnf
                refine cond_f g78_13 ?_
                conv => whnf
                refine cond_f g78_13 ?_
                conv => whnf
                refine cond_f g78_13 ?_
                obtain rfl := si hm
                conv => whnf
                refine EndStep.mk _ ((((((l12.trans l22).trans lt0).trans l53).trans l57).trans l59).trans l64) ⟨(by rw [← ((si e84).symm).symm] <;> rfl), rfl⟩ (ConvH.of (.cons r2 .nil))
            · conv => whnf
              refine cond_f g73_13 ?_
              conv => whnf
              refine cond_f g73_13 ?_
              conv => whnf
              refine cond_f g73_13 ?_
              obtain ⟨x84, e84, hm⟩ := bnd hm
              replace e84 := iff_ (and_f g73_13) e84
              conv => whnf
              refine cond_F ?_
              conv => whnf
              refine cond_F ?_
              conv => whnf
              refine cond_F ?_
              conv => whnf
              refine cond_F ?_
              conv => whnf
              refine cond_F ?_
              conv => whnf
              refine cond_F ?_
              obtain rfl := si hm
              conv => whnf
              refine EndStep.mk _ ((((((l12.trans l22).trans lt0).trans l53).trans l57).trans l59).trans l64) ⟨(by rw [← ((si e84).symm).symm] <;> rfl), rfl⟩ (ConvH.of (.cons r2 .nil))
          · conv => whnf
            refine cond_f g67_12 ?_
            conv => whnf
            refine neq_err rfl ?_
            conv => whnf
            refine cond_f g67_12 ?_
            conv => whnf
            refine cond_go rfl ?_
            conv => whnf
            refine cond_s (fun w70 => ?_) (fun w70 => ?_)
            · replace hm := ift (or_u ((si e66).symm.trans (not_f (ni_f g67_12))) w70) hm
              conv => whnf
              refine neq_err rfl ?_
              conv => whnf
              refine cond_s (fun g73_13 => ?_) (fun g73_13 => ?_)
              · conv => whnf
                refine cond_t g73_13 ?_
                conv => whnf
                refine RStep.of (len_slice rfl ?_)
                conv => whnf
                refine cond_t g73_13 ?_
                conv => whnf
                refine eq_int ?_
                conv => whnf
                refine cond_t g73_13 ?_
                obtain ⟨x84, e84, hm⟩ := bnd hm
                conv => whnf
                refine cond_s (fun g78_13 => ?_) (fun g78_13 => ?_)
                · replace e84 := ift (and_t g73_13 g78_13) e84
                  conv => whnf
                  refine cond_t g78_13 ?_
                  obtain ⟨x80, q80, e84⟩ := bnd e84
                  conv => whnf
                  refine call_fn (base_Num_ok q80) .nil ?_
                  rintro _ K80 _ l80 ⟨rfl, rfl⟩
                  conv => whnf
                  refine cond_t g78_13 ?_
                  conv => whnf
                  refine cond_t g78_13 ?_
                  obtain ⟨x82, q82, e84⟩ := bnd e84
                  conv => whnf
                  refine call_fn (base_Num_ok q82) .nil ?_
                  rintro _ K82 _ l82 ⟨rfl, rfl⟩
                  conv => whnf
                  refine cond_t g78_13 ?_
                  conv => whnf
                  refine eq_int ?_
                  conv => whnf
                  refine cond_t g78_13 ?_
                  obtain rfl := si hm
                  conv => whnf
                  refine EndStep.mk _ ((((((((l12.trans l22).trans lt0).trans l53).trans l57).trans l59).trans l64).trans l80).trans l82) ⟨(by rw [← (si e84)] <;> rfl), rfl⟩ (ConvH.of (.cons r2 .nil))
                · replace e84 := iff_ (and_g g73_13 g78_13) e84
                  conv => whnf
                  refine cond_f g78_13 ?_
                  conv => whnf
                  refine cond_f g78_13 ?_
                  conv => whnf
                  refine cond_f g78_13 ?_
                  conv => whnf
                  refine cond_f g78_13 ?_
                  conv => whnf
                  refine cond_f g78_13 ?_
                  obtain rfl := si hm
                  conv => whnf
                  refine EndStep.mk _ ((((((l12.trans l22).trans lt0).trans l53).trans l57).trans l59).trans l64) ⟨(by rw [← ((si e84).symm).symm] <;> rfl), rfl⟩ (ConvH.of (.cons r2 .nil))
              · conv => whnf
                refine cond_f g73_13 ?_
                conv => whnf
                refine cond_f g73_13 ?_
                conv => whnf
                refine cond_f g73_13 ?_
                obtain ⟨x84, e84, hm⟩ := bnd hm
                replace e84 := iff_ (and_f g73_13) e84
                conv => whnf
                refine cond_F ?_
                conv => whnf
                refine cond_F ?_
                conv => whnf
                refine cond_F ?_
                conv => whnf
                refine cond_F ?_
                conv => whnf
                refine cond_F ?_
                conv => whnf
                refine cond_F ?_
                obtain rfl := si hm
                conv => whnf
                refine EndStep.mk _ ((((((l12.trans l22).trans lt0).trans l53).trans l57).trans l59).trans l64) ⟨(by rw [← ((si e84).symm).symm] <;> rfl), rfl⟩ (ConvH.of (.cons r2 .nil))
            · replace hm := iff_ (or_f ((si e66).symm.trans (not_f (ni_f g67_12))) w70) hm
              obtain ⟨s2, hl2, hm⟩ := bnd hm
              conv => whnf
              refine code_cut (σ := (Str × Int)) [2, 9, 10, 85, 86, 87, 88, 89, 90, 91, 92, 93, 94, 95, 96, 97, 98, 99, 100, 101, 102, 103, 104, 105, 106, 107, 108, 109, 110, 111, 112, 113, 114, 115, 116, 117, 118, 119, 120, 121, 122, 123, 124, 125, 126] (fun t2 => [(9, str t2.1), (10, .int .i64 t2.2)]) (fun t2 => [OwnL eS a22_0 9 1 c22_0 x22.1, OwnL eS a53_0 9 1 c53_0 x53.1, F]) (fun zz K1 => match zz with | t2 => s2 = Fl.go t2) ?_ ?_
              · refine block_go rfl ?_
                conv => whnf
                refine loop_rule (σ := Nat × Str × Int) [2, 9, 10, 85, 86, 87, 88, 89, 90, 91, 92, 93, 94, 95, 96, 97, 98, 99, 100, 101, 102, 103, 104, 105, 106, 107, 108, 109, 110, 111, 112, 113, 114, 115, 116, 117, 118, 119, 120, 121, 122, 123, 124, 125, 126] (fun (i2, y2_0, y2_1) => [(9, str y2_0), (10, .int .i64 y2_1)]) (fun (i2, y2_0, y2_1) => [OwnL eS a22_0 9 1 c22_0 x22.1, OwnL eS a53_0 9 1 c53_0 x53.1, F]) (fun zz K1 => match zz with | (i2, y2_0, y2_1) => law35_TagsAgain_L2 x22 i2 y2_0 y2_1 = some s2) (fun zz => zz.1) (n, ([] : Str), 0) rfl ⟨rfl, rfl, trivial⟩ (ConvH.of (.cons r0 (.cons r0 (.cons r0 .nil)))) hl2 ?_
                clear hl2
                rintro ⟨i2, y2_0, y2_1⟩ Kb2 lk2 hl2 j2
                conv at hl2 => whnf
                cases i2 with
                | zero => rw [law35_TagsAgain_L2.eq_1] at hl2; cases hl2
                | succ i2 =>
                  rw [law35_TagsAgain_L2.eq_2] at hl2
                  conv => whnf
                  refine RStep.of (len_slice rfl ?_)
                  conv => whnf
                  refine cond_go rfl ?_
                  conv => whnf
                  refine cond_s (fun w88 => ?_) (fun w88 => ?_)
                  · replace hl2 := ift w88 hl2
                    conv => whnf
                    refine block_go rfl ?_
                    conv => whnf
                    refine draw_go ⟨⟨[], true⟩, _, []⟩ (by kernel_rfl) ⟨Hp.Le.refl _, (ConvH.of .nil)⟩ ?_
                    obtain ⟨x104, e104, hl2⟩ := bnd hl2
                    conv => whnf
                    refine cond_s (fun g93_18 => ?_) (fun g93_18 => ?_)
                    · replace e104 := ift g93_18 e104
                      conv => whnf
                      refine cond_t g93_18 ?_
                      conv => whnf
                      refine cond_t g93_18 ?_
                      obtain ⟨h96, e104⟩ := chkb e104
                      conv => whnf
                      refine int_in h96 ?_
                      conv => whnf
                      refine cond_t g93_18 ?_
                      obtain ⟨x97, l97, k97, e104⟩ := ixb e104
                      conv => whnf
                      refine index_addr rfl rfl (hasO h22_0 k97) l97 (lt_ofE rfl l97 k97) ?_
                      conv => whnf
                      refine cond_t g93_18 ?_
                      conv => whnf
                      refine ld_own (i := ((y2_1 - 1)).toNat) (o := 0) r0 rfl k97 rfl rfl ?_
                      conv => whnf
                      refine cond_t g93_18 ?_
                      conv => whnf
                      refine cond_t g93_18 ?_
                      conv => whnf
                      refine cond_t g93_18 ?_
                      obtain ⟨x101, l101, k101, e104⟩ := ixb e104
                      conv => whnf
                      refine index_addr rfl rfl (hasO h22_0 k101) l101 (lt_ofE rfl l101 k101) ?_
                      conv => whnf
                      refine cond_t g93_18 ?_
                      conv => whnf
                      refine ld_own (i := (y2_1).toNat) (o := 0) r0 rfl k101 rfl rfl ?_
                      conv => whnf
                      refine cond_t g93_18 ?_
                      conv => whnf
                      refine geq_str ?_
                      conv => whnf
                      refine cond_t g93_18 ?_
                      obtain ⟨x112, e112, hl2⟩ := bnd hl2
                      conv => whnf
                      refine cond_s (fun g105_18 => ?_) (fun g105_18 => ?_)
                      · replace e112 := ift ((si e104).symm.trans g105_18) e112
                        conv => whnf
                        refine cond_t g105_18 ?_
                        conv => whnf
                        refine cond_t g105_18 ?_
                        conv => whnf
                        refine cond_t g105_18 ?_
                        conv => whnf
                        refine cond_t g105_18 ?_
                        conv => whnf
                        refine cond_t g105_18 ?_
                        conv => whnf
                        refine cond_t g105_18 ?_
                        obtain ⟨x119, e119, hl2⟩ := bnd hl2
                        replace e119 := ift (si e112).symm e119
                        conv => whnf
                        refine cond_T ?_
                        conv => whnf
                        refine cond_T ?_
                        conv => whnf
                        refine cond_T ?_
                        conv => whnf
                        refine cond_T ?_
                        conv => whnf
                        refine cond_T ?_
                        conv => whnf
                        refine cond_T ?_
                        conv => whnf
                        refine cond_go rfl ?_
                        conv => whnf
                        refine cond_T ?_
                        replace hl2 := ift (si e119).symm hl2
                        obtain rfl := si hl2
                        replace hm := elr hm
                        obtain rfl := si hm
                        conv => whnf
                        refine EndStep.mk _ (((((((l12.trans l22).trans lt0).trans l53).trans l57).trans l59).trans l64).trans lk2) ⟨rfl, rfl⟩ (ConvH.of (.cons r2 .nil))
                      · replace e112 := iff_ ((si e104).symm.trans g105_18) e112
                        conv => whnf
                        refine cond_f g105_18 ?_
                        conv => whnf
                        refine cond_f g105_18 ?_
                        obtain ⟨x108, l108, k108, e112⟩ := ixb e112
                        conv => whnf
                        refine index_addr rfl rfl (hasO h22_0 k108) l108 (lt_ofE rfl l108 k108) ?_
                        conv => whnf
                        refine cond_f g105_18 ?_
                        conv => whnf
                        refine ld_own (i := (y2_1).toNat) (o := 0) r0 rfl k108 rfl rfl ?_
                        conv => whnf
                        refine cond_f g105_18 ?_
                        conv => whnf
                        refine len_strN rfl ?_
                        conv => whnf
                        refine cond_f g105_18 ?_
                        conv => whnf
                        refine cond_f g105_18 ?_
                        obtain ⟨x119, e119, hl2⟩ := bnd hl2
                        conv => whnf
                        refine cond_s (fun g113_18 => ?_) (fun g113_18 => ?_)
                        · replace e119 := ift ((si e112).symm.trans g113_18) e119
                          conv => whnf
                          refine cond_t g113_18 ?_
                          conv => whnf
                          refine cond_t g113_18 ?_
                          conv => whnf
                          refine cond_t g113_18 ?_
                          conv => whnf
                          refine cond_t g113_18 ?_
                          conv => whnf
                          refine cond_t g113_18 ?_
                          conv => whnf
                          refine cond_go rfl ?_
                          conv => whnf
                          refine cond_T ?_
                          replace hl2 := ift (si e119).symm hl2
                          obtain rfl := si hl2
                          replace hm := elr hm
                          obtain rfl := si hm
                          conv => whnf
                          refine EndStep.mk _ (((((((l12.trans l22).trans lt0).trans l53).trans l57).trans l59).trans l64).trans lk2) ⟨rfl, rfl⟩ (ConvH.of (.cons r2 .nil))
                        · replace e119 := iff_ ((si e112).symm.trans g113_18) e119
                          conv => whnf
                          refine cond_f g113_18 ?_
                          conv => whnf
                          refine cond_f g113_18 ?_
                          obtain ⟨x116, l116, k116, e119⟩ := ixb e119
                          conv => whnf
                          refine index_addr rfl rfl (hasO h22_0 k116) l116 (lt_ofE rfl l116 k116) ?_
                          conv => whnf
                          refine cond_f g113_18 ?_
                          conv => whnf
                          refine ld_own (i := (y2_1).toNat) (o := 0) r0 rfl k116 rfl rfl ?_
                          conv => whnf
                          refine cond_f g113_18 ?_
                          conv => whnf
                          refine eq_str ?_
                          conv => whnf
                          refine cond_f g113_18 ?_
                          conv => whnf
                          refine cond_go rfl ?_
                          conv => whnf
                          refine cond_s (fun w119 => ?_) (fun w119 => ?_)
                          · replace hl2 := ift ((si e119).symm.trans w119) hl2
                            obtain rfl := si hl2
                            replace hm := elr hm
                            obtain rfl := si hm
                            conv => whnf
                            refine EndStep.mk _ (((((((l12.trans l22).trans lt0).trans l53).trans l57).trans l59).trans l64).trans lk2) ⟨rfl, rfl⟩ (ConvH.of (.cons r2 .nil))
                          · replace hl2 := iff_ ((si e119).symm.trans w119) hl2
                            obtain ⟨x123, l123, k123, hl2⟩ := ixb hl2
                            conv => whnf
                            refine RStep.ofN (index_addr rfl rfl (hasO h22_0 k123) l123 (lt_ofE rfl l123 k123) ?_)
                            conv => whnf
                            refine RStep.of (ld_own (i := (y2_1).toNat) (o := 0) r0 rfl k123 rfl rfl ?_)
                            obtain ⟨h125, hl2⟩ := chkb hl2
                            conv => whnf
                            refine cat_str h125 ?_
                            obtain ⟨h126, hl2⟩ := chkb hl2
                            conv => whnf
                            refine cat_str h126 ?_
                            obtain ⟨h90, hl2⟩ := chkb hl2
                            conv => whnf
                            refine int_in h90 ?_
                            conv => whnf
                            refine RoundStep.mk (i2, (y2_0 ++ (x123 ++ ([32] : Str))), (y2_1 + 1)) ⟨rfl, rfl, trivial⟩ (by repeat (first | exact trivial | refine And.intro rfl ?_)) (ConvH.of (.cons r0 (.cons r0 (.cons r0 .nil)))) lk2 (Nat.lt_succ_self _) hl2
                    · replace e104 := iff_ g93_18 e104
                      conv => whnf
                      refine cond_f g93_18 ?_
                      conv => whnf
                      refine cond_f g93_18 ?_
                      conv => whnf
                      refine cond_f g93_18 ?_
                      conv => whnf
                      refine cond_f g93_18 ?_
                      conv => whnf
                      refine cond_f g93_18 ?_
                      conv => whnf
                      refine cond_f g93_18 ?_
                      conv => whnf
                      refine cond_f g93_18 ?_
                      conv => whnf
                      refine cond_f g93_18 ?_
                      conv => whnf
                      refine cond_f g93_18 ?_
                      conv => whnf
                      refine cond_f g93_18 ?_
                      obtain ⟨x112, e112, hl2⟩ := bnd hl2
                      replace e112 := iff_ (si e104).symm e112
                      conv => whnf
                      refine cond_F ?_
                      conv => whnf
                      refine cond_F ?_
                      conv => whnf
                      refine cond_F ?_
                      obtain ⟨x108, l108, k108, e112⟩ := ixb e112
                      conv => whnf
                      refine index_addr rfl rfl (hasO h22_0 k108) l108 (lt_ofE rfl l108 k108) ?_
                      conv => whnf
                      refine cond_F ?_
                      conv => whnf
                      refine ld_own (i := (y2_1).toNat) (o := 0) r0 rfl k108 rfl rfl ?_
                      conv => whnf
                      refine cond_F ?_
                      conv => whnf
                      refine len_strN rfl ?_
                      conv => whnf
                      refine cond_F ?_
                      conv => whnf
                      refine cond_F ?_
                      obtain ⟨x119, e119, hl2⟩ := bnd hl2
                      conv => whnf
                      refine cond_s (fun g113_18 => ?_) (fun g113_18 => ?_)
                      · replace e119 := ift ((si e112).symm.trans g113_18) e119
                        conv => whnf
                        refine cond_t g113_18 ?_
                        conv => whnf
                        refine cond_t g113_18 ?_
                        conv => whnf
                        refine cond_t g113_18 ?_
                        conv => whnf
                        refine cond_t g113_18 ?_
                        conv => whnf
                        refine cond_t g113_18 ?_
                        conv => whnf
                        refine cond_go rfl ?_
                        conv => whnf
                        refine cond_T ?_
                        replace hl2 := ift (si e119).symm hl2
                        obtain rfl := si hl2
                        replace hm := elr hm
                        obtain rfl := si hm
                        conv => whnf
                        refine EndStep.mk _ (((((((l12.trans l22).trans lt0).trans l53).trans l57).trans l59).trans l64).trans lk2) ⟨rfl, rfl⟩ (ConvH.of (.cons r2 .nil))
                      · replace e119 := iff_ ((si e112).symm.trans g113_18) e119
                        conv => whnf
                        refine cond_f g113_18 ?_
                        conv => whnf
                        refine cond_f g113_18 ?_
                        obtain ⟨x116, l116, k116, e119⟩ := ixb e119
                        conv => whnf
                        refine index_addr rfl rfl (hasO h22_0 k116) l116 (lt_ofE rfl l116 k116) ?_
                        conv => whnf
                        refine cond_f g113_18 ?_
                        conv => whnf
                        refine ld_own (i := (y2_1).toNat) (o := 0) r0 rfl k116 rfl rfl ?_
                        conv => whnf
                        refine cond_f g113_18 ?_
                        conv => whnf
                        refine eq_str ?_
                        conv => whnf
                        refine cond_f g113_18 ?_
                        conv => whnf
                        refine cond_go rfl ?_
                        conv => whnf
                        refine cond_s (fun w119 => ?_) (fun w119 => ?_)
                        · replace hl2 := ift ((si e119).symm.trans w119) hl2
                          obtain rfl := si hl2
                          replace hm := elr hm
                          obtain rfl := si hm
                          conv => whnf
                          refine EndStep.mk _ (((((((l12.trans l22).trans lt0).trans l53).trans l57).trans l59).trans l64).trans lk2) ⟨rfl, rfl⟩ (ConvH.of (.cons r2 .nil))
                        · replace hl2 := iff_ ((si e119).symm.trans w119) hl2
                          obtain ⟨x123, l123, k123, hl2⟩ := ixb hl2
                          conv => whnf
                          refine RStep.ofN (index_addr rfl rfl (hasO h22_0 k123) l123 (lt_ofE rfl l123 k123) ?_)
                          conv => whnf
                          refine RStep.of (ld_own (i := (y2_1).toNat) (o := 0) r0 rfl k123 rfl rfl ?_)
                          obtain ⟨h125, hl2⟩ := chkb hl2
                          conv => whnf
                          refine cat_str h125 ?_
                          obtain ⟨h126, hl2⟩ := chkb hl2
                          conv => whnf
                          refine cat_str h126 ?_
                          obtain ⟨h90, hl2⟩ := chkb hl2
                          conv => whnf
                          refine int_in h90 ?_
                          conv => whnf
                          refine RoundStep.mk (i2, (y2_0 ++ (x123 ++ ([32] : Str))), (y2_1 + 1)) ⟨rfl, rfl, trivial⟩ (by repeat (first | exact trivial | refine And.intro rfl ?_)) (ConvH.of (.cons r0 (.cons r0 (.cons r0 .nil)))) lk2 (Nat.lt_succ_self _) hl2
                  · replace hl2 := iff_ w88 hl2
                    conv => whnf
                    refine cond_T ?_
                    conv => whnf
                    refine MeetStep.mk ((y2_0, y2_1)) ⟨rfl, rfl, trivial⟩ (by repeat (first | exact trivial | refine And.intro rfl ?_)) (ConvH.of (.cons r0 (.cons r0 (.cons r0 .nil)))) lk2 (si hl2).symm
              · rintro t2 Kt2 lt2 rfl j2
                replace hm := elg hm
                obtain ⟨x129, q129, hm⟩ := bnd hm
                conv => whnf
                refine call_fn (tags_Clean_ok q129) .nil ?_
                rintro _ K129 _ l129 ⟨a129_0, c129_0, rfl, h129_0, rfl⟩
                conv => whnf
                refine eq_err rfl ?_
                conv => whnf
                refine cond_s (fun g134_22 => ?_) (fun g134_22 => ?_)
                · conv => whnf
                  refine cond_t g134_22 ?_
                  conv => whnf
                  refine RStep.of (len_slice rfl ?_)
                  conv => whnf
                  refine cond_t g134_22 ?_
                  conv => whnf
                  refine cond_t g134_22 ?_
                  obtain ⟨x143, e143, hm⟩ := bnd hm
                  conv => whnf
                  refine cond_s (fun g139_22 => ?_) (fun g139_22 => ?_)
                  · replace e143 := ift (and_t g134_22 g139_22) e143
                    conv => whnf
                    refine cond_t g139_22 ?_
                    conv => whnf
                    refine cond_t g139_22 ?_
                    obtain ⟨x142, q142, e143⟩ := bnd e143
                    conv => whnf
                    refine call_fn (Fn.lend Try.call13 (fun K142_0 l142_0 f142_0 => (Fn.lend Try.call13 (fun K142_1 l142_1 f142_1 => (base_Texts_ok q142 (f142_0.mono l142_1) rfl f142_1 rfl)) (by exact fun _ _ _ _ h => h))) (by exact fun _ _ _ _ h => h)) (.cons r0 (.cons r0 .nil)) ?_
                    rintro _ K142 _ l142 ⟨_, rfl, _, rfl, rfl, rfl⟩
                    conv => whnf
                    refine cond_t g139_22 ?_
                    obtain rfl := si hm
                    conv => whnf
                    refine EndStep.mk _ (((((((((l12.trans l22).trans lt0).trans l53).trans l57).trans l59).trans l64).trans lt2).trans l129).trans l142) ⟨(by rw [← (si e143)] <;> rfl), rfl⟩ (ConvH.of (.cons r3 .nil))
                  · replace e143 := iff_ (and_g g134_22 g139_22) e143
                    conv => whnf
                    refine cond_f g139_22 ?_
                    conv => whnf
                    refine cond_f g139_22 ?_
                    conv => whnf
                    refine cond_f g139_22 ?_
                    obtain rfl := si hm
                    conv => whnf
                    refine EndStep.mk _ ((((((((l12.trans l22).trans lt0).trans l53).trans l57).trans l59).trans l64).trans lt2).trans l129) ⟨(by rw [← ((si e143).symm).symm] <;> rfl), rfl⟩ (ConvH.of (.cons r3 .nil))
                · conv => whnf
                  refine cond_f g134_22 ?_
                  conv => whnf
                  refine cond_f g134_22 ?_
                  conv => whnf
                  refine cond_f g134_22 ?_
                  obtain ⟨x143, e143, hm⟩ := bnd hm
                  replace e143 := iff_ (and_f g134_22) e143
                  conv => whnf
                  refine cond_F ?_
                  conv => whnf
                  refine cond_F ?_
                  conv => whnf
                  refine cond_F ?_
                  conv => whnf
                  refine cond_F ?_
                  obtain rfl := si hm
                  conv => whnf
                  refine EndStep.mk _ ((((((((l12.trans l22).trans lt0).trans l53).trans l57).trans l59).trans l64).trans lt2).trans l129) ⟨(by rw [← ((si e143).symm).symm] <;> rfl), rfl⟩ (ConvH.of (.cons r3 .nil))
