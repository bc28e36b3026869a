/- Functions of the program: mirrors, and that a call returns what the mirror says. Printed by gen.py. -/
import Derived.Test.YtkpipkpdnbconaaGreatDoorG4
set_option linter.unusedVariables false
set_option linter.unusedSimpArgs false
open Go Go.SL Go.Proofs
set_option maxRecDepth 1000000
noncomputable def Jbg (c : UInt8) : Option (Bool) :=
  some (decide ((c.toNat : Int) ≥ 48) && decide ((c.toNat : Int) ≤ 57))
set_option maxHeartbeats 8000000 in
theorem Jcn {c : UInt8} {K : Hp} {r : Bool}
    (hm : Jbg c = some r)  :
    Fn Tryz.prog 156 [.int .u8 (c.toNat : Int)] K [] (fun v K' H' => v = .bool r ∧ H' = []) := by
 refine Fn.enter Tryz.func156 Tryz.call156 rfl fun F => ?_
 unfold Jbg at hm
 refine cond_s (fun g5_1 => ?_) (fun g5_1 => ?_)
 refine cond_t g5_1 (cond_t g5_1 ?_)
 obtain rfl := si hm
 refine EndStep.mk _ (Hp.Le.refl _) ⟨(by rw [← (and_e (b := decide ((c.toNat : Int) ≤ 57)) g5_1)] <;> rfl), rfl⟩ (ConvH.of (.cons r0 .nil))
 refine cond_f g5_1 (cond_f g5_1 ?_)
 obtain rfl := si hm
 refine EndStep.mk _ (Hp.Le.refl _) ⟨(by rw [← ((and_f g5_1)).symm] <;> rfl), rfl⟩ (ConvH.of (.cons r0 .nil))

noncomputable def JaL (s : Str) : Nat → Str → Int → Option (Fl (Int × Str × Int) (Str × Int))
  | 0, _, _ => none
  | xs0 + 1, y0_0, y0_1 =>
    if decide (y0_1 < (s.length : Int)) then
    (ix s y0_1).bind fun x16 =>
    if decide ((x16.toNat : Int) = 34) then
    (chk (InI (y0_1 + 1))).bind fun _ =>
    some (Fl.ret (3, y0_0, (y0_1 + 1)))
    else
    if (decide ((x16.toNat : Int) < 32) || decide ((x16.toNat : Int) > 126)) then
    some (Fl.ret (0, ([] : Str), 0))
    else
    if decide ((x16.toNat : Int) = 92) then
    (chk (InI (y0_1 + 1))).bind fun _ =>
    if decide ((y0_1 + 1) = (s.length : Int)) then
    some (Fl.ret (0, ([] : Str), 0))
    else
    (ix s (y0_1 + 1)).bind fun x42 =>
    (if decide ((x42.toNat : Int) ≠ 92) then (ix s (y0_1 + 1)).bind fun x47 =>
    some (decide ((x47.toNat : Int) ≠ 34)) else some false).bind fun x49 =>
    if x49 then
    some (Fl.ret (0, ([] : Str), 0))
    else
    (chk (InI ((y0_1 + 1) + 1))).bind fun _ =>
    (chk (0 ≤ (y0_1 + 1) ∧ (y0_1 + 1) ≤ ((y0_1 + 1) + 1) ∧ ((y0_1 + 1) + 1) ≤ (s.length : Int))).bind fun _ =>
    (chk (y0_0.length + (subL s (y0_1 + 1) ((y0_1 + 1) + 1)).length ≤ lim)).bind fun _ =>
    (chk (InI ((y0_1 + 1) + 1))).bind fun _ =>
    JaL s xs0 (y0_0 ++ (subL s (y0_1 + 1) ((y0_1 + 1) + 1))) ((y0_1 + 1) + 1)
    else
    (chk (InI (y0_1 + 1))).bind fun _ =>
    (chk (0 ≤ y0_1 ∧ y0_1 ≤ (y0_1 + 1) ∧ (y0_1 + 1) ≤ (s.length : Int))).bind fun _ =>
    (chk (y0_0.length + (subL s y0_1 (y0_1 + 1)).length ≤ lim)).bind fun _ =>
    (chk (InI (y0_1 + 1))).bind fun _ =>
    JaL s xs0 (y0_0 ++ (subL s y0_1 (y0_1 + 1))) (y0_1 + 1)
    else
    some (Fl.go (y0_0, y0_1))
noncomputable def Jch (n : Nat) (s : Str) : Option (Int × Str × Int) :=
  (JaL s n ([] : Str) 1).bind fun s0 => s0.el some fun t0 =>
  some (0, ([] : Str), 0)
set_option maxHeartbeats 8000000 in
theorem Jc9 {n : Nat} {s : Str} {K : Hp} {r : Int × Str × Int}
    (hm : Jch n s = some r)  :
    Fn Tryz.prog 157 [str s] K [] (fun v K' H' => v = .tuple #[.int .i64 r.1, str r.2.1, .int .i64 r.2.2] ∧ H' = []) := by
 refine Fn.enter Tryz.func157 Tryz.call157 rfl fun F => ?_
 unfold Jch at hm
 obtain ⟨s0, hl0, hm⟩ := bnd hm
 refine code_cut (σ := (Str × Int)) [2, 3, 4, 5, 6, 7, 8, 9, 10, 11, 12, 13, 14, 15, 16, 17, 18, 19, 20, 21, 22, 23, 24, 25, 26, 27, 28, 29, 30, 31, 32, 33, 34, 35, 36, 37, 38, 39, 40, 41, 42, 43, 44, 45, 46, 47, 48, 49, 50, 51, 52, 53, 54, 55, 56, 57] (fun t0 => [(5, str t0.1), (6, .int .i64 t0.2)]) (fun t0 => [F]) (fun zz K1 => match zz with | t0 => s0 = Fl.go t0) ?_ ?_
 refine block_go rfl ?_
 refine loop_rule (σ := Nat × Str × Int) [2, 3, 4, 5, 6, 7, 8, 9, 10, 11, 12, 13, 14, 15, 16, 17, 18, 19, 20, 21, 22, 23, 24, 25, 26, 27, 28, 29, 30, 31, 32, 33, 34, 35, 36, 37, 38, 39, 40, 41, 42, 43, 44, 45, 46, 47, 48, 49, 50, 51, 52, 53, 54, 55, 56, 57] (fun (i0, y0_0, y0_1) => [(5, str y0_0), (6, .int .i64 y0_1)]) (fun (i0, y0_0, y0_1) => [F]) (fun zz K1 => match zz with | (i0, y0_0, y0_1) => JaL s i0 y0_0 y0_1 = some s0) (fun zz => zz.1) (n, ([] : Str), 1) rfl ⟨rfl, rfl, trivial⟩ (ConvH.of (.cons r0 .nil)) hl0 ?_
 clear hl0
 rintro ⟨i0, y0_0, y0_1⟩ Kb0 lk0 hl0 j0
 conv at hl0 => whnf
 cases i0 with
 | zero => rw [JaL.eq_1] at hl0; cases hl0
 | succ i0 =>
  rw [JaL.eq_2] at hl0
  refine RStep.of (len_str rfl (cond_go rfl ?_))
  refine cond_s (fun w11 => ?_) (fun w11 => ?_)
  replace hl0 := ift w11 hl0
  refine block_go rfl ?_
  obtain ⟨x16, l16, k16, hl0⟩ := ixb hl0
  refine idx_str rfl l16 k16 ?_
  refine block_go rfl ?_
  refine eq_int (cond_go rfl ?_)
  refine cond_s (fun w17 => ?_) (fun w17 => ?_)
  replace hl0 := ift w17 hl0
  obtain ⟨h22, hl0⟩ := chkb hl0
  refine int_in h22 ?_
  obtain rfl := si hl0
  replace hm := elr hm
  obtain rfl := si hm
  refine EndStep.mk _ lk0 ⟨rfl, rfl⟩ (ConvH.of (.cons r0 .nil))
  replace hl0 := iff_ w17 hl0
  refine cond_s (fun g26_8 => ?_) (fun g26_8 => ?_)
  refine cond_t g26_8 (cond_t g26_8 (cond_go rfl (cond_T ?_)))
  replace hl0 := ift (or_t g26_8) hl0
  obtain rfl := si hl0
  replace hm := elr hm
  obtain rfl := si hm
  refine EndStep.mk _ lk0 ⟨rfl, rfl⟩ (ConvH.of (.cons r0 .nil))
  refine cond_f g26_8 (cond_f g26_8 (cond_go rfl ?_))
  refine cond_s (fun w23 => ?_) (fun w23 => ?_)
  replace hl0 := ift (or_u g26_8 w23) hl0
  obtain rfl := si hl0
  replace hm := elr hm
  obtain rfl := si hm
  refine EndStep.mk _ lk0 ⟨rfl, rfl⟩ (ConvH.of (.cons r0 .nil))
  replace hl0 := iff_ (or_f g26_8 w23) hl0
  refine eq_int (cond_go rfl ?_)
  refine cond_s (fun w30 => ?_) (fun w30 => ?_)
  replace hl0 := ift w30 hl0
  obtain ⟨h34, hl0⟩ := chkb hl0
  refine int_in h34 (RStep.of (len_str rfl (eq_int ?_)))
  refine cond_s (fun g39_12 => ?_) (fun g39_12 => ?_)
  replace hl0 := ift g39_12 hl0
  refine cond_t g39_12 (cond_t g39_12 (cond_t g39_12 (cond_t g39_12 (cond_t g39_12 (cond_t g39_12 ?_)))))
  refine cond_go rfl (cond_T ?_)
  obtain rfl := si hl0
  replace hm := elr hm
  obtain rfl := si hm
  refine EndStep.mk _ lk0 ⟨rfl, rfl⟩ (ConvH.of (.cons r0 .nil))
  replace hl0 := iff_ g39_12 hl0
  refine cond_f g39_12 (cond_f g39_12 ?_)
  obtain ⟨x42, l42, k42, hl0⟩ := ixb hl0
  refine idx_str rfl l42 k42 (cond_f g39_12 (neq_int (cond_f g39_12 ?_)))
  obtain ⟨x49, e49, hl0⟩ := bnd hl0
  refine cond_s (fun g44_12 => ?_) (fun g44_12 => ?_)
  replace e49 := ift g44_12 e49
  refine cond_t g44_12 (cond_t g44_12 ?_)
  obtain ⟨x47, l47, k47, e49⟩ := ixb e49
  refine idx_str rfl l47 k47 (cond_t g44_12 (neq_int (cond_f g39_12 (cond_t g44_12 (cond_f g39_12 ?_)))))
  refine cond_go rfl ?_
  refine cond_s (fun w50 => ?_) (fun w50 => ?_)
  replace hl0 := ift ((si e49).symm.trans w50) hl0
  obtain rfl := si hl0
  replace hm := elr hm
  obtain rfl := si hm
  refine EndStep.mk _ lk0 ⟨rfl, rfl⟩ (ConvH.of (.cons r0 .nil))
  replace hl0 := iff_ ((si e49).symm.trans w50) hl0
  obtain ⟨h55, hl0⟩ := chkb hl0
  refine int_in h55 ?_
  obtain ⟨h56, hl0⟩ := chkb hl0
  refine RStep.ofN (sl_str (lo := (some (y0_1 + 1))) (hi := (some ((y0_1 + 1) + 1))) rfl h56 ?_)
  obtain ⟨h57, hl0⟩ := chkb hl0
  refine cat_str h57 ?_
  obtain ⟨h13, hl0⟩ := chkb hl0
  refine int_in h13 ?_
  refine RoundStep.mk (i0, (y0_0 ++ (subL s (y0_1 + 1) ((y0_1 + 1) + 1))), ((y0_1 + 1) + 1)) ⟨rfl, rfl, trivial⟩ (by repeat (first | exact trivial | refine And.intro rfl ?_)) (ConvH.of (.cons r0 .nil)) lk0 (Nat.lt_succ_self _) hl0
  replace e49 := iff_ g44_12 e49
  refine cond_f g44_12 (cond_f g44_12 (cond_f g44_12 (cond_f g39_12 (cond_f g44_12 (cond_f g39_12 ?_)))))
  refine cond_go rfl (cond_F ?_)
  replace hl0 := iff_ (si e49).symm hl0
  obtain ⟨h55, hl0⟩ := chkb hl0
  refine int_in h55 ?_
  obtain ⟨h56, hl0⟩ := chkb hl0
  refine RStep.ofN (sl_str (lo := (some (y0_1 + 1))) (hi := (some ((y0_1 + 1) + 1))) rfl h56 ?_)
  obtain ⟨h57, hl0⟩ := chkb hl0
  refine cat_str h57 ?_
  obtain ⟨h13, hl0⟩ := chkb hl0
  refine int_in h13 ?_
  refine RoundStep.mk (i0, (y0_0 ++ (subL s (y0_1 + 1) ((y0_1 + 1) + 1))), ((y0_1 + 1) + 1)) ⟨rfl, rfl, trivial⟩ (by repeat (first | exact trivial | refine And.intro rfl ?_)) (ConvH.of (.cons r0 .nil)) lk0 (Nat.lt_succ_self _) hl0
  replace hl0 := iff_ w30 hl0
  obtain ⟨h55, hl0⟩ := chkb hl0
  refine int_in h55 ?_
  obtain ⟨h56, hl0⟩ := chkb hl0
  refine RStep.ofN (sl_str (lo := (some y0_1)) (hi := (some (y0_1 + 1))) rfl h56 ?_)
  obtain ⟨h57, hl0⟩ := chkb hl0
  refine cat_str h57 ?_
  obtain ⟨h13, hl0⟩ := chkb hl0
  refine int_in h13 ?_
  refine RoundStep.mk (i0, (y0_0 ++ (subL s y0_1 (y0_1 + 1))), (y0_1 + 1)) ⟨rfl, rfl, trivial⟩ (by repeat (first | exact trivial | refine And.intro rfl ?_)) (ConvH.of (.cons r0 .nil)) lk0 (Nat.lt_succ_self _) hl0
  replace hl0 := iff_ w11 hl0
  refine cond_T ?_
  refine MeetStep.mk ((y0_0, y0_1)) ⟨rfl, rfl, trivial⟩ (by repeat (first | exact trivial | refine And.intro rfl ?_)) (ConvH.of (.cons r0 .nil)) lk0 (si hl0).symm
 rintro t0 Kt0 lt0 rfl j0
 replace hm := elg hm
 obtain rfl := si hm
 refine EndStep.mk _ lt0 ⟨rfl, rfl⟩ (ConvH.of (.cons r0 .nil))

noncomputable def Ja7 (s : Str) : Nat → Int → Option (Int)
  | 0, _ => none
  | xs1 + 1, y1_0 =>
    if decide (y1_0 < (s.length : Int)) then
    (ix s y1_0).bind fun x19 =>
    (Jbn x19).bind fun x20 =>
    (if x20 then some true else (ix s y1_0).bind fun x24 =>
    (Jbg x24).bind fun x25 =>
    some x25).bind fun x26 =>
    if x26 then
    (chk (InI (y1_0 + 1))).bind fun _ =>
    Ja7 s xs1 (y1_0 + 1)
    else
    some y1_0
    else
    some y1_0
noncomputable def Ja8 (s : Str) : Nat → Int → Option (Int)
  | 0, _ => none
  | xs3 + 1, y3_0 =>
    (if decide (y3_0 < (s.length : Int)) then (ix s y3_0).bind fun x45 =>
    (Jbg x45).bind fun x46 =>
    some x46 else some false).bind fun x47 =>
    if x47 then
    (chk (InI (y3_0 + 1))).bind fun _ =>
    Ja8 s xs3 (y3_0 + 1)
    else
    some y3_0
noncomputable def Jbr (s : Str) : Nat → Nat → Option (Fl (Int × Str × Int) (Unit))
  | 0, _ => some (Fl.go ())
  | xs5 + 1, i5 =>
    (ix ([([61, 61] : Str), ([33, 61] : Str), ([60, 61] : Str), ([60] : Str), ([43] : Str), ([45] : Str), ([42] : Str), ([40] : Str), ([41] : Str), ([123] : Str), ([125] : Str), ([44] : Str), ([59] : Str), ([61] : Str)]) (i5 : Int)).bind fun x75 =>
    (if decide ((s.length : Int) ≥ (x75.length : Int)) then (ix ([([61, 61] : Str), ([33, 61] : Str), ([60, 61] : Str), ([60] : Str), ([43] : Str), ([45] : Str), ([42] : Str), ([40] : Str), ([41] : Str), ([123] : Str), ([125] : Str), ([44] : Str), ([59] : Str), ([61] : Str)]) (i5 : Int)).bind fun x83 =>
    (chk (0 ≤ (0 : Int) ∧ (0 : Int) ≤ (x83.length : Int) ∧ (x83.length : Int) ≤ (s.length : Int))).bind fun _ =>
    (ix ([([61, 61] : Str), ([33, 61] : Str), ([60, 61] : Str), ([60] : Str), ([43] : Str), ([45] : Str), ([42] : Str), ([40] : Str), ([41] : Str), ([123] : Str), ([125] : Str), ([44] : Str), ([59] : Str), ([61] : Str)]) (i5 : Int)).bind fun x89 =>
    some (decide ((subL s (0 : Int) (x83.length : Int)) = x89)) else some false).bind fun x92 =>
    if x92 then
    (ix ([([61, 61] : Str), ([33, 61] : Str), ([60, 61] : Str), ([60] : Str), ([43] : Str), ([45] : Str), ([42] : Str), ([40] : Str), ([41] : Str), ([123] : Str), ([125] : Str), ([44] : Str), ([59] : Str), ([61] : Str)]) (i5 : Int)).bind fun x95 =>
    (ix ([([61, 61] : Str), ([33, 61] : Str), ([60, 61] : Str), ([60] : Str), ([43] : Str), ([45] : Str), ([42] : Str), ([40] : Str), ([41] : Str), ([123] : Str), ([125] : Str), ([44] : Str), ([59] : Str), ([61] : Str)]) (i5 : Int)).bind fun x99 =>
    some (Fl.ret (4, x95, (x99.length : Int)))
    else
    Jbr s xs5 (i5 + 1)
noncomputable def Jbt (n : Nat) (s : Str) : Option (Int × Str × Int) :=
  (ix s 0).bind fun x10 =>
  (Jbn x10).bind fun x11 =>
  if x11 then
  (Ja7 s n 0).bind fun t1 =>
  (chk (0 ≤ (0 : Int) ∧ (0 : Int) ≤ t1 ∧ t1 ≤ (s.length : Int))).bind fun _ =>
  some (1, (subL s (0 : Int) t1), t1)
  else
  (ix s 0).bind fun x36 =>
  (Jbg x36).bind fun x37 =>
  if x37 then
  (Ja8 s n 0).bind fun t3 =>
  if decide (t3 > 9) then
  some (0, ([] : Str), 0)
  else
  (chk (0 ≤ (0 : Int) ∧ (0 : Int) ≤ t3 ∧ t3 ≤ (s.length : Int))).bind fun _ =>
  some (2, (subL s (0 : Int) t3), t3)
  else
  (ix s 0).bind fun x58 =>
  if decide ((x58.toNat : Int) = 34) then
  (Jch n s).bind fun x61 =>
  some (x61.1, x61.2.1, x61.2.2)
  else
  (chk (InI (14 : Int))).bind fun _ =>
  (Jbr s (14 : Int).toNat 0).bind fun s5 => s5.el some fun t5 =>
  some (0, ([] : Str), 0)
set_option maxHeartbeats 8000000 in
theorem Jdl {n : Nat} {s : Str} {K : Hp} {r : Int × Str × Int}
    (hm : Jbt n s = some r)  :
    Fn Tryz.prog 154 [str s] K [] (fun v K' H' => v = .tuple #[.int .i64 r.1, str r.2.1, .int .i64 r.2.2] ∧ H' = []) := by
 refine Fn.enter Tryz.func154 Tryz.call154 rfl fun F => ?_
 unfold Jbt at hm
 refine block_go rfl ?_
 obtain ⟨x10, l10, k10, hm⟩ := ixb hm
 refine idx_str rfl l10 k10 ?_
 obtain ⟨x11, q11, hm⟩ := bnd hm
 refine call_fn (JcF (c := x10) q11) .nil ?_
 rintro _ K11 _ l11 ⟨rfl, rfl⟩
 refine cond_go rfl ?_
 refine cond_s (fun w8 => ?_) (fun w8 => ?_)
 replace hm := ift w8 hm
 obtain ⟨s1, hl1, hm⟩ := bnd hm
 refine code_cut (σ := (Int)) [5, 12, 13, 14, 15, 16, 17, 18, 19, 20, 21, 22, 23, 24, 25, 26, 27, 28, 29] (fun t1 => [(5, .int .i64 t1)]) (fun t1 => [F]) (fun zz K1 => match zz with | t1 => t1 = s1) ?_ ?_
 refine block_go rfl ?_
 refine loop_rule (σ := Nat × Int) [5, 12, 13, 14, 15, 16, 17, 18, 19, 20, 21, 22, 23, 24, 25, 26, 27, 28, 29] (fun (i1, y1_0) => [(5, .int .i64 y1_0)]) (fun (i1, y1_0) => [F]) (fun zz K1 => match zz with | (i1, y1_0) => Ja7 s i1 y1_0 = some s1) (fun zz => zz.1) (n, 0) rfl ⟨rfl, trivial⟩ (ConvH.of (.cons r0 .nil)) hl1 ?_
 clear hl1
 rintro ⟨i1, y1_0⟩ Kb1 lk1 hl1 j1
 conv at hl1 => whnf
 cases i1 with
 | zero => rw [Ja7.eq_1] at hl1; cases hl1
 | succ i1 =>
  rw [Ja7.eq_2] at hl1
  refine RStep.of (len_str rfl ?_)
  refine cond_s (fun g16_3 => ?_) (fun g16_3 => ?_)
  replace hl1 := ift g16_3 hl1
  refine cond_t g16_3 (cond_t g16_3 ?_)
  obtain ⟨x19, l19, k19, hl1⟩ := ixb hl1
  refine idx_str rfl l19 k19 (cond_t g16_3 ?_)
  obtain ⟨x20, q20, hl1⟩ := bnd hl1
  refine call_fn (JcF (c := x19) q20) .nil ?_
  rintro _ K20 _ l20 ⟨rfl, rfl⟩
  refine cond_t g16_3 ?_
  obtain ⟨x26, e26, hl1⟩ := bnd hl1
  refine cond_s (fun g21_3 => ?_) (fun g21_3 => ?_)
  replace e26 := ift g21_3 e26
  refine cond_t g21_3 (cond_t g21_3 (cond_t g21_3 (cond_t g16_3 (cond_t g21_3 (cond_t g16_3 ?_)))))
  refine cond_go rfl (cond_T ?_)
  replace hl1 := ift (si e26).symm hl1
  refine block_go rfl ?_
  obtain ⟨h29, hl1⟩ := chkb hl1
  refine int_in h29 ?_
  refine RoundStep.mk (i1, (y1_0 + 1)) ⟨rfl, trivial⟩ (by repeat (first | exact trivial | refine And.intro rfl ?_)) (ConvH.of (.cons r0 .nil)) (lk1.trans l20) (Nat.lt_succ_self _) hl1
  replace e26 := iff_ g21_3 e26
  refine cond_f g21_3 (cond_f g21_3 ?_)
  obtain ⟨x24, l24, k24, e26⟩ := ixb e26
  refine idx_str rfl l24 k24 (cond_f g21_3 ?_)
  obtain ⟨x25, q25, e26⟩ := bnd e26
  refine call_fn (Jcn (c := x24) q25) .nil ?_
  rintro _ K25 _ l25 ⟨rfl, rfl⟩
  refine cond_t g16_3 (cond_f g21_3 (cond_t g16_3 (cond_go rfl ?_)))
  refine cond_s (fun w27 => ?_) (fun w27 => ?_)
  replace hl1 := ift ((si e26).symm.trans w27) hl1
  refine block_go rfl ?_
  obtain ⟨h29, hl1⟩ := chkb hl1
  refine int_in h29 ?_
  refine RoundStep.mk (i1, (y1_0 + 1)) ⟨rfl, trivial⟩ (by repeat (first | exact trivial | refine And.intro rfl ?_)) (ConvH.of (.cons r0 .nil)) ((lk1.trans l20).trans l25) (Nat.lt_succ_self _) hl1
  replace hl1 := iff_ ((si e26).symm.trans w27) hl1
  refine cond_T ?_
  refine MeetStep.mk (y1_0) ⟨rfl, trivial⟩ (by repeat (first | exact trivial | refine And.intro rfl ?_)) (ConvH.of (.cons r0 .nil)) ((lk1.trans l20).trans l25) (si hl1)
  replace hl1 := iff_ g16_3 hl1
  refine cond_f g16_3 (cond_f g16_3 (cond_f g16_3 (cond_f g16_3 (cond_f g16_3 (cond_f g16_3 ?_)))))
  refine cond_go rfl (cond_F (cond_T ?_))
  refine MeetStep.mk (y1_0) ⟨rfl, trivial⟩ (by repeat (first | exact trivial | refine And.intro rfl ?_)) (ConvH.of (.cons r0 .nil)) lk1 (si hl1)
 rintro t1 Kt1 lt1 rfl j1
 refine draw_go ⟨⟨[], false⟩, _, []⟩ (by kernel_rfl) ⟨Hp.Le.refl _, (ConvH.of .nil)⟩ ?_
 obtain ⟨h32, hm⟩ := chkb hm
 refine sl_str (lo := none) (hi := (some t1)) rfl h32 ?_
 obtain rfl := si hm
 refine EndStep.mk _ (l11.trans lt1) ⟨rfl, rfl⟩ (ConvH.of (.cons r0 .nil))
 replace hm := iff_ w8 hm
 obtain ⟨x36, l36, k36, hm⟩ := ixb hm
 refine idx_str rfl l36 k36 ?_
 obtain ⟨x37, q37, hm⟩ := bnd hm
 refine call_fn (Jcn (c := x36) q37) .nil ?_
 rintro _ K37 _ l37 ⟨rfl, rfl⟩
 refine cond_go rfl ?_
 refine cond_s (fun w34 => ?_) (fun w34 => ?_)
 replace hm := ift w34 hm
 obtain ⟨s3, hl3, hm⟩ := bnd hm
 refine code_cut (σ := (Int)) [5, 38, 39, 40, 41, 42, 43, 44, 45, 46, 47, 48, 49] (fun t3 => [(5, .int .i64 t3)]) (fun t3 => [F]) (fun zz K1 => match zz with | t3 => t3 = s3) ?_ ?_
 refine block_go rfl ?_
 refine loop_rule (σ := Nat × Int) [5, 38, 39, 40, 41, 42, 43, 44, 45, 46, 47, 48, 49] (fun (i3, y3_0) => [(5, .int .i64 y3_0)]) (fun (i3, y3_0) => [F]) (fun zz K1 => match zz with | (i3, y3_0) => Ja8 s i3 y3_0 = some s3) (fun zz => zz.1) (n, 0) rfl ⟨rfl, trivial⟩ (ConvH.of (.cons r0 .nil)) hl3 ?_
 clear hl3
 rintro ⟨i3, y3_0⟩ Kb3 lk3 hl3 j3
 conv at hl3 => whnf
 cases i3 with
 | zero => rw [Ja8.eq_1] at hl3; cases hl3
 | succ i3 =>
  rw [Ja8.eq_2] at hl3
  refine RStep.of (len_str rfl ?_)
  obtain ⟨x47, e47, hl3⟩ := bnd hl3
  refine cond_s (fun g42_7 => ?_) (fun g42_7 => ?_)
  replace e47 := ift g42_7 e47
  refine cond_t g42_7 (cond_t g42_7 ?_)
  obtain ⟨x45, l45, k45, e47⟩ := ixb e47
  refine idx_str rfl l45 k45 (cond_t g42_7 ?_)
  obtain ⟨x46, q46, e47⟩ := bnd e47
  refine call_fn (Jcn (c := x45) q46) .nil ?_
  rintro _ K46 _ l46 ⟨rfl, rfl⟩
  refine cond_t g42_7 (cond_go rfl ?_)
  refine cond_s (fun w47 => ?_) (fun w47 => ?_)
  replace hl3 := ift ((si e47).symm.trans w47) hl3
  refine block_go rfl ?_
  obtain ⟨h49, hl3⟩ := chkb hl3
  refine int_in h49 ?_
  refine RoundStep.mk (i3, (y3_0 + 1)) ⟨rfl, trivial⟩ (by repeat (first | exact trivial | refine And.intro rfl ?_)) (ConvH.of (.cons r0 .nil)) (lk3.trans l46) (Nat.lt_succ_self _) hl3
  replace hl3 := iff_ ((si e47).symm.trans w47) hl3
  refine cond_T ?_
  refine MeetStep.mk (y3_0) ⟨rfl, trivial⟩ (by repeat (first | exact trivial | refine And.intro rfl ?_)) (ConvH.of (.cons r0 .nil)) (lk3.trans l46) (si hl3)
  replace e47 := iff_ g42_7 e47
  refine cond_f g42_7 (cond_f g42_7 (cond_f g42_7 (cond_f g42_7 (cond_go rfl (cond_F ?_)))))
  replace hl3 := iff_ (si e47).symm hl3
  refine cond_T ?_
  refine MeetStep.mk (y3_0) ⟨rfl, trivial⟩ (by repeat (first | exact trivial | refine And.intro rfl ?_)) (ConvH.of (.cons r0 .nil)) lk3 (si hl3)
 rintro t3 Kt3 lt3 rfl j3
 refine cond_go rfl ?_
 refine cond_s (fun w51 => ?_) (fun w51 => ?_)
 replace hm := ift w51 hm
 obtain rfl := si hm
 refine EndStep.mk _ ((l11.trans l37).trans lt3) ⟨rfl, rfl⟩ (ConvH.of (.cons r0 .nil))
 replace hm := iff_ w51 hm
 refine draw_go ⟨⟨[], false⟩, _, []⟩ (by kernel_rfl) ⟨Hp.Le.refl _, (ConvH.of .nil)⟩ ?_
 obtain ⟨h54, hm⟩ := chkb hm
 refine sl_str (lo := none) (hi := (some t3)) rfl h54 ?_
 obtain rfl := si hm
 refine EndStep.mk _ ((l11.trans l37).trans lt3) ⟨rfl, rfl⟩ (ConvH.of (.cons r0 .nil))
 replace hm := iff_ w34 hm
 obtain ⟨x58, l58, k58, hm⟩ := ixb hm
 refine idx_str rfl l58 k58 (eq_int (cond_go rfl ?_))
 refine cond_s (fun w56 => ?_) (fun w56 => ?_)
 replace hm := ift w56 hm
 obtain ⟨x61, q61, hm⟩ := bnd hm
 refine call_fn (Jc9 (s := s) q61) .nil ?_
 rintro _ K61 _ l61 ⟨rfl, rfl⟩
 obtain rfl := si hm
 refine EndStep.mk _ ((l11.trans l37).trans l61) ⟨rfl, rfl⟩ (ConvH.of (.cons r0 .nil))
 replace hm := iff_ w56 hm
 refine bsO (len := 14) (enc := eS) (l := [([61, 61] : Str), ([33, 61] : Str), ([60, 61] : Str), ([60] : Str), ([43] : Str), ([45] : Str), ([42] : Str), ([40] : Str), ([41] : Str), ([123] : Str), ([125] : Str), ([44] : Str), ([59] : Str), ([61] : Str)]) (cl := [str ([61, 61] : Str), str ([33, 61] : Str), str ([60, 61] : Str), str ([60] : Str), str ([43] : Str), str ([45] : Str), str ([42] : Str), str ([40] : Str), str ([41] : Str), str ([123] : Str), str ([125] : Str), str ([44] : Str), str ([59] : Str), str ([61] : Str)]) elT70 rfl rfl (fun _ _ => rfl) rfl rfl rfl ?_ fun b65 => ?_
 · conv => whnf
   refine cond_T (cond_T (cond_T (cond_T (cond_T (cond_T ?_)))))
   refine cond_T (cond_T (cond_T (cond_T (cond_T (cond_T ?_)))))
   refine cond_T (cond_T ?_)
   first | done | rfl
 refine RStep.of (len_slice rfl ?_)
 obtain ⟨hk5, hm⟩ := chkb hm
 obtain ⟨s5, hl5, hm⟩ := bnd hm
 refine code_cut (σ := (Unit)) [2, 3, 4, 7, 68, 69, 70, 71, 72, 73, 74, 75, 76, 77, 78, 79, 80, 81, 82, 83, 84, 85, 86, 87, 88, 89, 90, 91, 92, 93, 94, 95, 96, 97, 98, 99, 100, 101, 102] (fun t5 => []) (fun t5 => [OwnL eS (some ⟨b65, 0, none⟩) 9 1 14 ([([61, 61] : Str), ([33, 61] : Str), ([60, 61] : Str), ([60] : Str), ([43] : Str), ([45] : Str), ([42] : Str), ([40] : Str), ([41] : Str), ([123] : Str), ([125] : Str), ([44] : Str), ([59] : Str), ([61] : Str)]), F]) (fun zz K1 => match zz with | t5 => s5 = Fl.go t5) ?_ ?_
 refine block_go rfl ?_
 refine loop_rule (σ := Nat) [2, 3, 4, 7, 68, 69, 70, 71, 72, 73, 74, 75, 76, 77, 78, 79, 80, 81, 82, 83, 84, 85, 86, 87, 88, 89, 90, 91, 92, 93, 94, 95, 96, 97, 98, 99, 100, 101, 102] (fun i5 => [(68, .int .i64 (i5 : Int))]) (fun i5 => [OwnL eS (some ⟨b65, 0, none⟩) 9 1 14 ([([61, 61] : Str), ([33, 61] : Str), ([60, 61] : Str), ([60] : Str), ([43] : Str), ([45] : Str), ([42] : Str), ([40] : Str), ([41] : Str), ([123] : Str), ([125] : Str), ([44] : Str), ([59] : Str), ([61] : Str)]), F]) (fun zz K1 => match zz with | i5 => Jbr s ((14 : Int).toNat - i5) i5 = some s5) (fun zz => (14 : Int).toNat - zz) (0) rfl ⟨rfl, trivial⟩ (ConvH.of (.cons r0 (.cons r0 .nil))) hl5 ?_
 clear hl5
 rintro i5 Kb5 lk5 hl5 j5
 conv at hl5 => whnf
 refine cond_go rfl ?_
 refine cond_s (fun w5 => ?_) (fun w5 => ?_)
 rw [ltn (n := (14 : Int)) w5, Jbr.eq_2] at hl5
 refine block_go rfl ?_
 refine DStep.ownLe r0 fun hc7 => ?_
 refine draw_go ⟨⟨[], true⟩, _, []⟩ (by kernel_rfl) ⟨Hp.Le.refl _, (ConvH.of .nil)⟩ ?_
 refine len_strN rfl ?_
 obtain ⟨x75, l75, k75, hl5⟩ := ixb hl5
 refine index_addr rfl rfl (hasO (fun _ => ⟨_, _, rfl⟩) k75) l75 (lt_ofE rfl l75 k75) ?_
 refine ld_own (i := ((i5 : Int)).toNat) (o := 0) r0 rfl k75 rfl rfl ?_
 refine len_strN rfl ?_
 obtain ⟨x92, e92, hl5⟩ := bnd hl5
 refine cond_s (fun g79_18 => ?_) (fun g79_18 => ?_)
 replace e92 := ift g79_18 e92
 refine cond_t g79_18 (cond_t g79_18 (cond_t g79_18 ?_))
 obtain ⟨x83, l83, k83, e92⟩ := ixb e92
 refine index_addr rfl rfl (hasO (fun _ => ⟨_, _, rfl⟩) k83) l83 (lt_ofE rfl l83 k83) (cond_t g79_18 ?_)
 refine ld_own (i := ((i5 : Int)).toNat) (o := 0) r0 rfl k83 rfl rfl ?_
 refine cond_t g79_18 (len_strN rfl (cond_t g79_18 ?_))
 obtain ⟨h86, e92⟩ := chkb e92
 refine sl_str (lo := none) (hi := (some (x83.length : Int))) rfl h86 (cond_t g79_18 (cond_t g79_18 (cond_t g79_18 ?_)))
 obtain ⟨x89, l89, k89, e92⟩ := ixb e92
 refine index_addr rfl rfl (hasO (fun _ => ⟨_, _, rfl⟩) k89) l89 (lt_ofE rfl l89 k89) (cond_t g79_18 ?_)
 refine ld_own (i := ((i5 : Int)).toNat) (o := 0) r0 rfl k89 rfl rfl ?_
 refine cond_t g79_18 (eq_str (cond_t g79_18 (cond_go rfl ?_)))
 refine cond_s (fun w92 => ?_) (fun w92 => ?_)
 replace hl5 := ift ((si e92).symm.trans w92) hl5
 refine draw_go ⟨⟨[], true⟩, _, []⟩ (by kernel_rfl) ⟨Hp.Le.refl _, (ConvH.of .nil)⟩ ?_
 obtain ⟨x95, l95, k95, hl5⟩ := ixb hl5
 refine index_addr rfl rfl (hasO (fun _ => ⟨_, _, rfl⟩) k95) l95 (lt_ofE rfl l95 k95) ?_
 refine ld_own (i := ((i5 : Int)).toNat) (o := 0) r0 rfl k95 rfl rfl ?_
 obtain ⟨x99, l99, k99, hl5⟩ := ixb hl5
 refine index_addr rfl rfl (hasO (fun _ => ⟨_, _, rfl⟩) k99) l99 (lt_ofE rfl l99 k99) ?_
 refine ld_own (i := ((i5 : Int)).toNat) (o := 0) r0 rfl k99 rfl rfl ?_
 refine len_strN rfl ?_
 obtain rfl := si hl5
 replace hm := elr hm
 obtain rfl := si hm
 refine EndStep.mk _ ((l11.trans l37).trans lk5) ⟨rfl, rfl⟩ (ConvH.of (.cons r1 .nil))
 replace hl5 := iff_ ((si e92).symm.trans w92) hl5
 refine int_in (cntn w5 hk5) ?_
 refine RoundStep.mk (i5 + 1) ⟨rfl, trivial⟩ (by repeat (first | exact trivial | refine And.intro rfl ?_)) (ConvH.of (.cons r0 (.cons r0 .nil))) lk5 (ltnm w5) hl5
 replace e92 := iff_ g79_18 e92
 refine cond_f g79_18 (cond_f g79_18 (cond_f g79_18 (cond_f g79_18 (cond_f g79_18 (cond_f g79_18 ?_)))))
 refine cond_f g79_18 (cond_f g79_18 (cond_f g79_18 (cond_f g79_18 (cond_f g79_18 (cond_f g79_18 ?_)))))
 refine cond_go rfl (cond_F ?_)
 replace hl5 := iff_ (si e92).symm hl5
 refine int_in (cntn w5 hk5) ?_
 refine RoundStep.mk (i5 + 1) ⟨rfl, trivial⟩ (by repeat (first | exact trivial | refine And.intro rfl ?_)) (ConvH.of (.cons r0 (.cons r0 .nil))) lk5 (ltnm w5) hl5
 rw [lto (n := (14 : Int)) w5, Jbr.eq_1] at hl5
 refine cond_T ?_
 refine MeetStep.mk (()) trivial (by repeat (first | exact trivial | refine And.intro rfl ?_)) (ConvH.of (.cons r0 (.cons r0 .nil))) lk5 (si hl5).symm
 rintro t5 Kt5 lt5 rfl j5
 replace hm := elg hm
 obtain rfl := si hm
 refine EndStep.mk _ ((l11.trans l37).trans lt5) ⟨rfl, rfl⟩ (ConvH.of (.cons r1 .nil))

noncomputable def Jbh (y0_3 : Int) (text : Str) : Nat → Int → Option (Int)
  | 0, _ => none
  | xs3 + 1, y3_0 =>
    (chk (InI (y0_3 + y3_0))).bind fun _ =>
    (if decide ((y0_3 + y3_0) < (text.length : Int)) then (chk (InI (y0_3 + y3_0))).bind fun _ =>
    (ix text (y0_3 + y3_0)).bind fun x42 =>
    some (decide ((x42.toNat : Int) ≠ 10)) else some false).bind fun x44 =>
    if x44 then
    (chk (InI (y3_0 + 1))).bind fun _ =>
    Jbh y0_3 text xs3 (y3_0 + 1)
    else
    some y3_0
noncomputable def Jai (text : Str) (n : Nat) : Nat → (List Jx) → Int → Int → Int → Option (Fl ((List Jx) × Int) ((List Jx) × Int × Int × Int))
  | 0, _, _, _, _ => none
  | xs0 + 1, y0_0, y0_1, y0_2, y0_3 =>
    if decide (y0_3 < (text.length : Int)) then
    (ix text y0_3).bind fun x22 =>
    if decide ((x22.toNat : Int) = 10) then
    (chk (InI (y0_1 + 1))).bind fun _ =>
    (chk (InI (y0_3 + 1))).bind fun _ =>
    (chk (InI (0 + 1))).bind fun _ =>
    Jai text n xs0 y0_0 (y0_1 + 1) (0 + 1) (y0_3 + 1)
    else
    if decide ((x22.toNat : Int) = 35) then
    (Jbh y0_3 text n 1).bind fun t3 =>
    (chk (InI (y0_3 + t3))).bind fun _ =>
    (chk (InI (y0_2 + t3))).bind fun _ =>
    Jai text n xs0 y0_0 y0_1 (y0_2 + t3) (y0_3 + t3)
    else
    if ((decide ((x22.toNat : Int) ≠ 32) && decide ((x22.toNat : Int) ≠ 9)) && decide ((x22.toNat : Int) ≠ 13)) then
    (chk (0 ≤ y0_3 ∧ y0_3 ≤ (text.length : Int) ∧ (text.length : Int) ≤ (text.length : Int))).bind fun _ =>
    (Jbt n (subL text y0_3 (text.length : Int))).bind fun x62 =>
    if decide (x62.2.2 = 0) then
    some (Fl.ret ([], 2))
    else
    (chk (y0_0.length + [(⟨x62.1, x62.2.1, y0_1, y0_2⟩ : Jx)].length ≤ lim)).bind fun _ =>
    (chk (InI (y0_3 + x62.2.2))).bind fun _ =>
    (chk (InI (y0_2 + x62.2.2))).bind fun _ =>
    Jai text n xs0 (y0_0 ++ [(⟨x62.1, x62.2.1, y0_1, y0_2⟩ : Jx)]) y0_1 (y0_2 + x62.2.2) (y0_3 + x62.2.2)
    else
    (chk (InI (y0_3 + 1))).bind fun _ =>
    (chk (InI (y0_2 + 1))).bind fun _ =>
    Jai text n xs0 y0_0 y0_1 (y0_2 + 1) (y0_3 + 1)
    else
    some (Fl.go (y0_0, y0_1, y0_2, y0_3))
noncomputable def JbA (n : Nat) (text : Str) : Option ((List Jx) × Int) :=
  if decide ((text.length : Int) > 4096) then
  some ([], 5)
  else
  (Jai text n n [] 1 1 0).bind fun s0 => s0.el some fun t0 =>
  (chk (t0.1.length + ([(⟨5, ([] : Str), t0.2.1, t0.2.2.1⟩ : Jx)]).length ≤ lim)).bind fun _ =>
  some ((t0.1 ++ [(⟨5, ([] : Str), t0.2.1, t0.2.2.1⟩ : Jx)]), 0)
set_option maxHeartbeats 8000000 in
theorem Jdf {n : Nat} {text : Str} {K : Hp} {r : (List Jx) × Int}
    (hm : JbA n text = some r)  :
    Fn Tryz.prog 150 [str text] K [] (fun v K' H' => ∃ ar_0 : Option Addr, ∃ cr_0 : Nat, v = .tuple #[.slice ar_0 r.1.length cr_0, .int .i64 r.2] ∧ (0 < r.1.length → Has ar_0) ∧ H' = [OwnL Jx.enc ar_0 205 4 cr_0 r.1]) := by
 refine Fn.enter Tryz.func150 Tryz.call150 rfl fun F => ?_
 unfold JbA at hm
 refine RStep.of (len_str rfl (cond_go rfl ?_))
 refine cond_s (fun w15 => ?_) (fun w15 => ?_)
 replace hm := ift w15 hm
 obtain rfl := si hm
 refine nilE Jx.enc 205 4 ?_
 refine EndStep.mk _ (Hp.Le.refl _) ⟨none, 0, rfl, (fun h => by simp at h), rfl⟩ (ConvH.of (.cons r0 (.cons r0 .nil)))
 replace hm := iff_ w15 hm
 obtain ⟨s0, hl0, hm⟩ := bnd hm
 refine nilC Jx.enc 205 4 ?_
 refine code_cut (σ := ((List Jx) × Int × Int × Int) × Option Addr × Nat) [2, 3, 4, 5, 6, 7, 8, 9, 10, 11, 12, 16, 17, 18, 19, 20, 21, 22, 23, 24, 25, 26, 27, 28, 29, 30, 31, 32, 33, 34, 35, 36, 37, 38, 39, 40, 41, 42, 43, 44, 45, 46, 47, 48, 49, 50, 51, 52, 53, 54, 55, 56, 57, 58, 59, 60, 61, 62, 63, 64, 65, 66, 67, 68, 69, 70, 71, 72, 73, 74, 75, 76, 77, 78, 79, 80, 81, 82] (fun (t0, t0_a0, t0_c0) => [(4, .slice t0_a0 t0.1.length t0_c0), (5, .int .i64 t0.2.1), (6, .int .i64 t0.2.2.1), (7, .int .i64 t0.2.2.2)]) (fun (t0, t0_a0, t0_c0) => [OwnL Jx.enc t0_a0 205 4 t0_c0 t0.1, F]) (fun zz K1 => match zz with | (t0, t0_a0, t0_c0) => (0 < t0.1.length → Has t0_a0) ∧ s0 = Fl.go t0) ?_ ?_
 refine block_go rfl ?_
 refine loop_rule (σ := Nat × (List Jx) × Int × Int × Int × Option Addr × Nat) [2, 3, 4, 5, 6, 7, 8, 9, 10, 11, 12, 16, 17, 18, 19, 20, 21, 22, 23, 24, 25, 26, 27, 28, 29, 30, 31, 32, 33, 34, 35, 36, 37, 38, 39, 40, 41, 42, 43, 44, 45, 46, 47, 48, 49, 50, 51, 52, 53, 54, 55, 56, 57, 58, 59, 60, 61, 62, 63, 64, 65, 66, 67, 68, 69, 70, 71, 72, 73, 74, 75, 76, 77, 78, 79, 80, 81, 82] (fun (i0, y0_0, y0_1, y0_2, y0_3, y0_a0, y0_c0) => [(4, .slice y0_a0 y0_0.length y0_c0), (5, .int .i64 y0_1), (6, .int .i64 y0_2), (7, .int .i64 y0_3)]) (fun (i0, y0_0, y0_1, y0_2, y0_3, y0_a0, y0_c0) => [OwnL Jx.enc y0_a0 205 4 y0_c0 y0_0, F]) (fun zz K1 => match zz with | (i0, y0_0, y0_1, y0_2, y0_3, y0_a0, y0_c0) => (0 < y0_0.length → Has y0_a0) ∧ Jai text n i0 y0_0 y0_1 y0_2 y0_3 = some s0) (fun zz => zz.1) (n, [], 1, 1, 0, none, 0) rfl ⟨rfl, rfl, rfl, rfl, trivial⟩ (ConvH.of (.cons r0 (.cons r0 .nil))) ⟨(fun h => by simp at h), hl0⟩ ?_
 clear hl0
 rintro ⟨i0, y0_0, y0_1, y0_2, y0_3, y0_a0, y0_c0⟩ Kb0 lk0 ⟨y0_h0, hl0⟩ j0
 cases i0 with
 | zero => rw [Jai.eq_1] at hl0; cases hl0
 | succ i0 =>
  rw [Jai.eq_2] at hl0
  refine RStep.of (len_str rfl (cond_go rfl ?_))
  refine cond_s (fun w19 => ?_) (fun w19 => ?_)
  replace hl0 := ift w19 hl0
  refine block_go rfl ?_
  obtain ⟨x22, l22, k22, hl0⟩ := ixb hl0
  refine idx_str rfl l22 k22 ?_
  refine block_go rfl ?_
  refine eq_int ?_
  refine CStep.ownLe r0 fun hc3 => ?_
  refine cond_go rfl ?_
  refine cond_s (fun w23 => ?_) (fun w23 => ?_)
  replace hl0 := ift w23 hl0
  obtain ⟨h27, hl0⟩ := chkb hl0
  refine int_in h27 ?_
  obtain ⟨h79, hl0⟩ := chkb hl0
  refine int_in h79 ?_
  obtain ⟨h82, hl0⟩ := chkb hl0
  refine int_in h82 ?_
  refine RoundStep.mk (i0, y0_0, (y0_1 + 1), (0 + 1), (y0_3 + 1), y0_a0, y0_c0) ⟨rfl, rfl, rfl, rfl, trivial⟩ (by repeat (first | exact trivial | refine And.intro rfl ?_)) (ConvH.of (.cons r0 (.cons r0 .nil))) lk0 (Nat.lt_succ_self _) ⟨y0_h0, hl0⟩
  replace hl0 := iff_ w23 hl0
  refine eq_int ?_
  refine CStep.ownLe r0 fun hc5 => ?_
  refine cond_go rfl ?_
  refine cond_s (fun w28 => ?_) (fun w28 => ?_)
  replace hl0 := ift w28 hl0
  obtain ⟨s3, hl3, hl0⟩ := bnd hl0
  refine code_cut (σ := (Int)) [9, 31, 32, 33, 34, 35, 36, 37, 38, 39, 40, 41, 42, 43, 44, 45, 46] (fun t3 => [(9, .int .i64 t3)]) (fun t3 => [OwnL Jx.enc y0_a0 205 4 y0_c0 y0_0, F]) (fun zz K1 => match zz with | t3 => t3 = s3) ?_ ?_
  refine block_go rfl ?_
  refine loop_rule (σ := Nat × Int) [9, 31, 32, 33, 34, 35, 36, 37, 38, 39, 40, 41, 42, 43, 44, 45, 46] (fun (i3, y3_0) => [(9, .int .i64 y3_0)]) (fun (i3, y3_0) => [OwnL Jx.enc y0_a0 205 4 y0_c0 y0_0, F]) (fun zz K1 => match zz with | (i3, y3_0) => Jbh y0_3 text i3 y3_0 = some s3) (fun zz => zz.1) (n, 1) rfl ⟨rfl, trivial⟩ (ConvH.of (.cons r0 (.cons r0 .nil))) hl3 ?_
  clear hl3
  rintro ⟨i3, y3_0⟩ Kb3 lk3 hl3 j3
  conv at hl3 => whnf
  cases i3 with
  | zero => rw [Jbh.eq_1] at hl3; cases hl3
  | succ i3 =>
   rw [Jbh.eq_2] at hl3
   obtain ⟨h33, hl3⟩ := chkb hl3
   refine int_in h33 (RStep.of (len_str rfl ?_))
   obtain ⟨x44, e44, hl3⟩ := bnd hl3
   refine cond_s (fun g37_12 => ?_) (fun g37_12 => ?_)
   replace e44 := ift g37_12 e44
   refine cond_t g37_12 (cond_t g37_12 (cond_t g37_12 ?_))
   obtain ⟨h41, e44⟩ := chkb e44
   refine int_in h41 (cond_t g37_12 ?_)
   obtain ⟨x42, l42, k42, e44⟩ := ixb e44
   refine idx_str rfl l42 k42 (cond_t g37_12 (neq_int (cond_t g37_12 (cond_go rfl ?_))))
   refine cond_s (fun w44 => ?_) (fun w44 => ?_)
   replace hl3 := ift ((si e44).symm.trans w44) hl3
   refine block_go rfl ?_
   obtain ⟨h46, hl3⟩ := chkb hl3
   refine int_in h46 ?_
   refine RoundStep.mk (i3, (y3_0 + 1)) ⟨rfl, trivial⟩ (by repeat (first | exact trivial | refine And.intro rfl ?_)) (ConvH.of (.cons r0 (.cons r0 .nil))) lk3 (Nat.lt_succ_self _) hl3
   replace hl3 := iff_ ((si e44).symm.trans w44) hl3
   refine cond_T ?_
   refine MeetStep.mk (y3_0) ⟨rfl, trivial⟩ (by repeat (first | exact trivial | refine And.intro rfl ?_)) (ConvH.of (.cons r0 (.cons r0 .nil))) lk3 (si hl3)
   replace e44 := iff_ g37_12 e44
   refine cond_f g37_12 (cond_f g37_12 (cond_f g37_12 (cond_f g37_12 (cond_f g37_12 (cond_f g37_12 ?_)))))
   refine cond_go rfl (cond_F ?_)
   replace hl3 := iff_ (si e44).symm hl3
   refine cond_T ?_
   refine MeetStep.mk (y3_0) ⟨rfl, trivial⟩ (by repeat (first | exact trivial | refine And.intro rfl ?_)) (ConvH.of (.cons r0 (.cons r0 .nil))) lk3 (si hl3)
  rintro t3 Kt3 lt3 rfl j3
  obtain ⟨h79, hl0⟩ := chkb hl0
  refine int_in h79 ?_
  obtain ⟨h82, hl0⟩ := chkb hl0
  refine int_in h82 ?_
  refine RoundStep.mk (i0, y0_0, y0_1, (y0_2 + t3), (y0_3 + t3), y0_a0, y0_c0) ⟨rfl, rfl, rfl, rfl, trivial⟩ (by repeat (first | exact trivial | refine And.intro rfl ?_)) (ConvH.of (.cons r0 (.cons r0 .nil))) (lk0.trans lt3) (Nat.lt_succ_self _) ⟨y0_h0, hl0⟩
  replace hl0 := iff_ w28 hl0
  refine neq_int ?_
  refine cond_s (fun g50_14 => ?_) (fun g50_14 => ?_)
  refine cond_t g50_14 (neq_int (cond_t g50_14 ?_))
  refine cond_s (fun g54_14 => ?_) (fun g54_14 => ?_)
  refine cond_t g54_14 (neq_int (cond_t g54_14 ?_))
  refine CStep.ownLe r0 fun hc8 => ?_
  refine cond_go rfl ?_
  refine cond_s (fun w47 => ?_) (fun w47 => ?_)
  replace hl0 := ift (and_t (and_t g50_14 g54_14) w47) hl0
  obtain ⟨h61, hl0⟩ := chkb hl0
  refine RStep.ofN (sl_str (lo := (some y0_3)) (hi := none) rfl h61 ?_)
  obtain ⟨x62, q62, hl0⟩ := bnd hl0
  refine call_fn (Jdl (s := (subL text y0_3 (text.length : Int))) q62) .nil ?_
  rintro _ K62 _ l62 ⟨rfl, rfl⟩
  refine eq_int (cond_go rfl ?_)
  refine cond_s (fun w67 => ?_) (fun w67 => ?_)
  replace hl0 := ift w67 hl0
  obtain rfl := si hl0
  replace hm := elr hm
  obtain rfl := si hm
  refine nilE Jx.enc 205 4 ?_
  refine EndStep.mk _ (lk0.trans l62) ⟨none, 0, rfl, (fun h => by simp at h), rfl⟩ (ConvH.of (.cons r0 (.cons r1 .nil)))
  replace hl0 := iff_ w67 hl0
  refine build_struct rfl rfl (cond_T (cond_T (cond_T (cond_T ?_))))
  refine bsO (len := 1) (enc := Jx.enc) (l := [(⟨x62.1, x62.2.1, y0_1, y0_2⟩ : Jx)]) (cl := [.int .i64 x62.1, str x62.2.1, .int .i64 y0_1, .int .i64 y0_2]) elT202 rfl rfl (fun _ _ => rfl) rfl rfl rfl ?_ fun b74 => ?_
  · conv => whnf
    refine cond_T ?_
    first | done | rfl
  obtain ⟨h75, hl0⟩ := chkb hl0
  refine apE rfl r1 elT202 (src_own' rfl r0 rfl (fun _ => rfl) (fun _ => rfl)) h75 ?_
  intro a75 c75 o75
  obtain ⟨h79, hl0⟩ := chkb hl0
  refine int_in h79 ?_
  obtain ⟨h82, hl0⟩ := chkb hl0
  refine int_in h82 ?_
  refine RoundStep.mk (i0, (y0_0 ++ [(⟨x62.1, x62.2.1, y0_1, y0_2⟩ : Jx)]), y0_1, (y0_2 + x62.2.2), (y0_3 + x62.2.2), a75, c75) ⟨rfl, rfl, rfl, rfl, trivial⟩ (by repeat (first | exact trivial | refine And.intro rfl ?_)) (ConvH.of (.cons r0 (.cons r1 .nil))) (lk0.trans l62) (Nat.lt_succ_self _) ⟨o75, hl0⟩
  replace hl0 := iff_ (and_g (and_t g50_14 g54_14) w47) hl0
  obtain ⟨h79, hl0⟩ := chkb hl0
  refine int_in h79 ?_
  obtain ⟨h82, hl0⟩ := chkb hl0
  refine int_in h82 ?_
  refine RoundStep.mk (i0, y0_0, y0_1, (y0_2 + 1), (y0_3 + 1), y0_a0, y0_c0) ⟨rfl, rfl, rfl, rfl, trivial⟩ (by repeat (first | exact trivial | refine And.intro rfl ?_)) (ConvH.of (.cons r0 (.cons r0 .nil))) lk0 (Nat.lt_succ_self _) ⟨y0_h0, hl0⟩
  refine cond_f g54_14 (cond_f g54_14 ?_)
  refine CStep.ownLe r0 fun hc11 => ?_
  refine cond_go rfl (cond_F ?_)
  replace hl0 := iff_ (and_f (and_g g50_14 g54_14)) hl0
  obtain ⟨h79, hl0⟩ := chkb hl0
  refine int_in h79 ?_
  obtain ⟨h82, hl0⟩ := chkb hl0
  refine int_in h82 ?_
  refine RoundStep.mk (i0, y0_0, y0_1, (y0_2 + 1), (y0_3 + 1), y0_a0, y0_c0) ⟨rfl, rfl, rfl, rfl, trivial⟩ (by repeat (first | exact trivial | refine And.intro rfl ?_)) (ConvH.of (.cons r0 (.cons r0 .nil))) lk0 (Nat.lt_succ_self _) ⟨y0_h0, hl0⟩
  refine cond_f g50_14 (cond_f g50_14 (cond_F (cond_F (cond_F ?_))))
  refine CStep.ownLe r0 fun hc12 => ?_
  refine cond_go rfl (cond_F ?_)
  replace hl0 := iff_ (and_f (and_f g50_14)) hl0
  obtain ⟨h79, hl0⟩ := chkb hl0
  refine int_in h79 ?_
  obtain ⟨h82, hl0⟩ := chkb hl0
  refine int_in h82 ?_
  refine RoundStep.mk (i0, y0_0, y0_1, (y0_2 + 1), (y0_3 + 1), y0_a0, y0_c0) ⟨rfl, rfl, rfl, rfl, trivial⟩ (by repeat (first | exact trivial | refine And.intro rfl ?_)) (ConvH.of (.cons r0 (.cons r0 .nil))) lk0 (Nat.lt_succ_self _) ⟨y0_h0, hl0⟩
  replace hl0 := iff_ w19 hl0
  refine cond_T ?_
  refine MeetStep.mk ((y0_0, y0_1, y0_2, y0_3), y0_a0, y0_c0) ⟨rfl, rfl, rfl, rfl, trivial⟩ (by repeat (first | exact trivial | refine And.intro rfl ?_)) (ConvH.of (.cons r0 (.cons r0 .nil))) lk0 ⟨y0_h0, (si hl0).symm⟩
 rintro ⟨t0, t0_a0, t0_c0⟩ Kt0 lt0 ⟨t0_h0, rfl⟩ j0
 replace hm := elg hm
 refine build_struct rfl rfl (cond_T (cond_T (cond_T (cond_T ?_))))
 refine bsO (len := 1) (enc := Jx.enc) (l := [(⟨5, ([] : Str), t0.2.1, t0.2.2.1⟩ : Jx)]) (cl := [.int .i64 5, str ([] : Str), .int .i64 t0.2.1, .int .i64 t0.2.2.1]) elT202 rfl rfl (fun _ _ => rfl) rfl rfl rfl ?_ fun b87 => ?_
 · conv => whnf
   refine cond_T ?_
   first | done | rfl
 obtain ⟨h88, hm⟩ := chkb hm
 refine apE rfl r1 elT202 (src_own' rfl r0 rfl (fun _ => rfl) (fun _ => rfl)) h88 ?_
 intro a88 c88 o88
 obtain rfl := si hm
 refine EndStep.mk _ lt0 ⟨a88, c88, rfl, o88, rfl⟩ (ConvH.of (.cons r0 (.cons r1 .nil)))

noncomputable def Jbi (n : Nat) (s : Str) (kind : Int) : Option (Bool) :=
  (JbA n s).bind fun x9 =>
  (if (decide (x9.2 = 0) && decide ((x9.1.length : Int) = 2)) then (ix x9.1 0).bind fun x21 =>
  some (decide (x21.Kind = kind)) else some false).bind fun x26 =>
  (if x26 then (ix x9.1 0).bind fun x29 =>
  some (decide (x29.Text = s)) else some false).bind fun x34 =>
  (if x34 then (ix x9.1 0).bind fun x37 =>
  some (decide (x37.Column = 1)) else some false).bind fun x41 =>
  (if x41 then (ix x9.1 1).bind fun x44 =>
  (chk (InI ((s.length : Int) + 1))).bind fun _ =>
  some (decide (x44.Column = ((s.length : Int) + 1))) else some false).bind fun x51 =>
  (if x51 then (ix x9.1 1).bind fun x54 =>
  some (decide (x54.Line = 1)) else some false).bind fun x58 =>
  some x58
set_option maxHeartbeats 8000000 in
theorem JcM {n : Nat} {s : Str} {kind : Int} {K : Hp} {r : Bool}
    (hm : Jbi n s kind = some r)  :
    Fn Tryz.prog 138 [str s, .int .i64 kind] K [] (fun v K' H' => v = .bool r ∧ H' = []) := by
 refine Fn.enter Tryz.func138 Tryz.call138 rfl fun F => ?_
 unfold Jbi at hm
 obtain ⟨x9, q9, hm⟩ := bnd hm
 refine call_fn (Jdf (text := s) q9) .nil ?_
 rintro _ K9 _ l9 ⟨a9_0, c9_0, rfl, h9_0, rfl⟩
 refine eq_int ?_
 refine cond_s (fun g14_2 => ?_) (fun g14_2 => ?_)
 refine cond_t g14_2 (RStep.of (len_slice rfl (cond_t g14_2 (eq_int (cond_t g14_2 ?_)))))
 obtain ⟨x26, e26, hm⟩ := bnd hm
 refine cond_s (fun g19_2 => ?_) (fun g19_2 => ?_)
 replace e26 := ift (and_t g14_2 g19_2) e26
 refine cond_t g19_2 ?_
 obtain ⟨x21, l21, k21, e26⟩ := ixb e26
 refine RStep.ofN (index_addr rfl rfl (hasO h9_0 k21) l21 (lt_ofE rfl l21 k21) (cond_t g19_2 (eptr_field rfl (hasO h9_0 k21) (cond_t g19_2 (RStep.of (ld_own (i := (0 : Int).toNat) (o := 0) r0 rfl k21 rfl rfl (cond_t g19_2 ?_)))))))
 refine cond_t g19_2 (eq_int (cond_t g19_2 ?_))
 obtain ⟨x34, e34, hm⟩ := bnd hm
 refine cond_s (fun g27_2 => ?_) (fun g27_2 => ?_)
 replace e34 := ift ((si e26).symm.trans g27_2) e34
 refine cond_t g27_2 ?_
 obtain ⟨x29, l29, k29, e34⟩ := ixb e34
 refine RStep.ofN (index_addr rfl rfl (hasO h9_0 k29) l29 (lt_ofE rfl l29 k29) (cond_t g27_2 (eptr_field rfl (hasO h9_0 k29) (cond_t g27_2 (RStep.of (ld_own (i := (0 : Int).toNat) (o := 1) r0 rfl k29 rfl rfl (cond_t g27_2 ?_)))))))
 refine cond_t g27_2 (eq_str (cond_t g27_2 ?_))
 obtain ⟨x41, e41, hm⟩ := bnd hm
 refine cond_s (fun g35_2 => ?_) (fun g35_2 => ?_)
 replace e41 := ift ((si e34).symm.trans g35_2) e41
 refine cond_t g35_2 ?_
 obtain ⟨x37, l37, k37, e41⟩ := ixb e41
 refine RStep.ofN (index_addr rfl rfl (hasO h9_0 k37) l37 (lt_ofE rfl l37 k37) (cond_t g35_2 (eptr_field rfl (hasO h9_0 k37) (cond_t g35_2 (RStep.of (ld_own (i := (0 : Int).toNat) (o := 3) r0 rfl k37 rfl rfl (cond_t g35_2 ?_)))))))
 refine eq_int (cond_t g35_2 ?_)
 obtain ⟨x51, e51, hm⟩ := bnd hm
 refine cond_s (fun g42_2 => ?_) (fun g42_2 => ?_)
 replace e51 := ift ((si e41).symm.trans g42_2) e51
 refine cond_t g42_2 ?_
 obtain ⟨x44, l44, k44, e51⟩ := ixb e51
 refine RStep.ofN (index_addr rfl rfl (hasO h9_0 k44) l44 (lt_ofE rfl l44 k44) (cond_t g42_2 (eptr_field rfl (hasO h9_0 k44) (cond_t g42_2 (RStep.of (ld_own (i := (1 : Int).toNat) (o := 3) r0 rfl k44 rfl rfl (cond_t g42_2 ?_)))))))
 refine cond_t g42_2 (RStep.of (len_str rfl (cond_t g42_2 ?_)))
 obtain ⟨h49, e51⟩ := chkb e51
 refine int_in h49 (cond_t g42_2 (eq_int (cond_t g42_2 ?_)))
 obtain ⟨x58, e58, hm⟩ := bnd hm
 refine cond_s (fun g52_2 => ?_) (fun g52_2 => ?_)
 replace e58 := ift ((si e51).symm.trans g52_2) e58
 refine cond_t g52_2 ?_
 obtain ⟨x54, l54, k54, e58⟩ := ixb e58
 refine RStep.ofN (index_addr rfl rfl (hasO h9_0 k54) l54 (lt_ofE rfl l54 k54) (cond_t g52_2 (eptr_field rfl (hasO h9_0 k54) (cond_t g52_2 (RStep.of (ld_own (i := (1 : Int).toNat) (o := 2) r0 rfl k54 rfl rfl (cond_t g52_2 ?_)))))))
 refine eq_int (cond_t g52_2 ?_)
 obtain rfl := si hm
 refine EndStep.mk _ l9 ⟨(by rw [← (si e58)] <;> rfl), rfl⟩ (ConvH.of (.cons r1 .nil))
 replace e58 := iff_ ((si e51).symm.trans g52_2) e58
 refine cond_f g52_2 (cond_f g52_2 (cond_f g52_2 (cond_f g52_2 (cond_f g52_2 ?_))))
 obtain rfl := si hm
 refine EndStep.mk _ l9 ⟨(by rw [← ((si e58).symm).symm] <;> rfl), rfl⟩ (ConvH.of (.cons r1 .nil))
 replace e51 := iff_ ((si e41).symm.trans g42_2) e51
 refine cond_f g42_2 (cond_f g42_2 (cond_f g42_2 (cond_f g42_2 (cond_f g42_2 (cond_f g42_2 ?_)))))
 refine cond_f g42_2 (cond_f g42_2 ?_)
 obtain ⟨x58, e58, hm⟩ := bnd hm
 replace e58 := iff_ (si e51).symm e58
 refine cond_F (cond_F (cond_F (cond_F (cond_F (cond_F ?_)))))
 obtain rfl := si hm
 refine EndStep.mk _ l9 ⟨(by rw [← ((si e58).symm).symm] <;> rfl), rfl⟩ (ConvH.of (.cons r1 .nil))
 replace e41 := iff_ ((si e34).symm.trans g35_2) e41
 refine cond_f g35_2 (cond_f g35_2 (cond_f g35_2 (cond_f g35_2 (cond_f g35_2 ?_))))
 obtain ⟨x51, e51, hm⟩ := bnd hm
 replace e51 := iff_ (si e41).symm e51
 refine cond_F (cond_F (cond_F (cond_F (cond_F (cond_F ?_)))))
 refine cond_F (cond_F (cond_F ?_))
 obtain ⟨x58, e58, hm⟩ := bnd hm
 replace e58 := iff_ (si e51).symm e58
 refine cond_F (cond_F (cond_F (cond_F (cond_F (cond_F ?_)))))
 obtain rfl := si hm
 refine EndStep.mk _ l9 ⟨(by rw [← ((si e58).symm).symm] <;> rfl), rfl⟩ (ConvH.of (.cons r1 .nil))
 replace e34 := iff_ ((si e26).symm.trans g27_2) e34
 refine cond_f g27_2 (cond_f g27_2 (cond_f g27_2 (cond_f g27_2 (cond_f g27_2 (cond_f g27_2 ?_)))))
 obtain ⟨x41, e41, hm⟩ := bnd hm
 replace e41 := iff_ (si e34).symm e41
 refine cond_F (cond_F (cond_F (cond_F (cond_F (cond_F ?_)))))
 obtain ⟨x51, e51, hm⟩ := bnd hm
 replace e51 := iff_ (si e41).symm e51
 refine cond_F (cond_F (cond_F (cond_F (cond_F (cond_F ?_)))))
 refine cond_F (cond_F (cond_F ?_))
 obtain ⟨x58, e58, hm⟩ := bnd hm
 replace e58 := iff_ (si e51).symm e58
 refine cond_F (cond_F (cond_F (cond_F (cond_F (cond_F ?_)))))
 obtain rfl := si hm
 refine EndStep.mk _ l9 ⟨(by rw [← ((si e58).symm).symm] <;> rfl), rfl⟩ (ConvH.of (.cons r1 .nil))
 replace e26 := iff_ (and_g g14_2 g19_2) e26
 refine cond_f g19_2 (cond_f g19_2 (cond_f g19_2 (cond_f g19_2 (cond_f g19_2 (cond_f g19_2 ?_)))))
 obtain ⟨x34, e34, hm⟩ := bnd hm
 replace e34 := iff_ (si e26).symm e34
 refine cond_F (cond_F (cond_F (cond_F (cond_F (cond_F ?_)))))
 refine cond_F ?_
 obtain ⟨x41, e41, hm⟩ := bnd hm
 replace e41 := iff_ (si e34).symm e41
 refine cond_F (cond_F (cond_F (cond_F (cond_F (cond_F ?_)))))
 obtain ⟨x51, e51, hm⟩ := bnd hm
 replace e51 := iff_ (si e41).symm e51
 refine cond_F (cond_F (cond_F (cond_F (cond_F (cond_F ?_)))))
 refine cond_F (cond_F (cond_F ?_))
 obtain ⟨x58, e58, hm⟩ := bnd hm
 replace e58 := iff_ (si e51).symm e58
 refine cond_F (cond_F (cond_F (cond_F (cond_F (cond_F ?_)))))
 obtain rfl := si hm
 refine EndStep.mk _ l9 ⟨(by rw [← ((si e58).symm).symm] <;> rfl), rfl⟩ (ConvH.of (.cons r1 .nil))
 refine cond_f g14_2 (cond_f g14_2 (cond_f g14_2 ?_))
 obtain ⟨x26, e26, hm⟩ := bnd hm
 replace e26 := iff_ (and_f g14_2) e26
 refine cond_F (cond_F (cond_F (cond_F (cond_F (cond_F ?_)))))
 refine cond_F ?_
 obtain ⟨x34, e34, hm⟩ := bnd hm
 replace e34 := iff_ (si e26).symm e34
 refine cond_F (cond_F (cond_F (cond_F (cond_F (cond_F ?_)))))
 refine cond_F ?_
 obtain ⟨x41, e41, hm⟩ := bnd hm
 replace e41 := iff_ (si e34).symm e41
 refine cond_F (cond_F (cond_F (cond_F (cond_F (cond_F ?_)))))
 obtain ⟨x51, e51, hm⟩ := bnd hm
 replace e51 := iff_ (si e41).symm e51
 refine cond_F (cond_F (cond_F (cond_F (cond_F (cond_F ?_)))))
 refine cond_F (cond_F (cond_F ?_))
 obtain ⟨x58, e58, hm⟩ := bnd hm
 replace e58 := iff_ (si e51).symm e58
 refine cond_F (cond_F (cond_F (cond_F (cond_F (cond_F ?_)))))
 obtain rfl := si hm
 refine EndStep.mk _ l9 ⟨(by rw [← ((si e58).symm).symm] <;> rfl), rfl⟩ (ConvH.of (.cons r1 .nil))

noncomputable def JaU (s : Str) : List UInt8 → Nat → Str → Option (Fl (Str × Bool) (Str))
  | [], _, y0_0 => some (Fl.go y0_0)
  | e0 :: xs0, i0, y0_0 =>
    (if decide ((e0.toNat : Int) < 32) then some true else some (decide ((e0.toNat : Int) > 126))).bind fun x20 =>
    if x20 then
    some (Fl.ret (([] : Str), false))
    else
    (if decide ((e0.toNat : Int) = 34) then some true else some (decide ((e0.toNat : Int) = 92))).bind fun x30 =>
    if x30 then
    (chk (y0_0.length + ([(92 : UInt8)] : Str).length ≤ lim)).bind fun _ =>
    (chk (0 ≤ (i0 : Int) ∧ (i0 : Int) ≤ ((i0 : Int) + 1) ∧ ((i0 : Int) + 1) ≤ (s.length : Int))).bind fun _ =>
    (chk ((y0_0 ++ ([(92 : UInt8)] : Str)).length + (subL s (i0 : Int) ((i0 : Int) + 1)).length ≤ lim)).bind fun _ =>
    JaU s xs0 (i0 + 1) ((y0_0 ++ ([(92 : UInt8)] : Str)) ++ (subL s (i0 : Int) ((i0 : Int) + 1)))
    else
    (chk (0 ≤ (i0 : Int) ∧ (i0 : Int) ≤ ((i0 : Int) + 1) ∧ ((i0 : Int) + 1) ≤ (s.length : Int))).bind fun _ =>
    (chk (y0_0.length + (subL s (i0 : Int) ((i0 : Int) + 1)).length ≤ lim)).bind fun _ =>
    JaU s xs0 (i0 + 1) (y0_0 ++ (subL s (i0 : Int) ((i0 : Int) + 1)))
noncomputable def JcA (s : Str) : Option (Str × Bool) :=
  (chk (s.length ≤ szMax)).bind fun _ =>
  (JaU s s 0 ([34] : Str)).bind fun s0 => s0.el some fun t0 =>
  (chk (t0.length + ([34] : Str).length ≤ lim)).bind fun _ =>
  some ((t0 ++ ([34] : Str)), true)
set_option maxHeartbeats 8000000 in
theorem Jdg {s : Str} {K : Hp} {r : Str × Bool}
    (hm : JcA s = some r)  :
    Fn Tryz.prog 47 [str s] K [] (fun v K' H' => v = .tuple #[str r.1, .bool r.2] ∧ H' = []) := by
 refine Fn.enter Tryz.func47 Tryz.call47 rfl fun F => ?_
 unfold JcA at hm
 refine RStep.of (len_str rfl ?_)
 obtain ⟨hk0, hm⟩ := chkb hm
 obtain ⟨s0, hl0, hm⟩ := bnd hm
 refine code_cut (σ := (Str)) [2, 3, 4, 5, 8, 9, 10, 11, 12, 13, 14, 15, 16, 17, 18, 19, 20, 21, 22, 23, 24, 25, 26, 27, 28, 29, 30, 31, 32, 33, 34, 35, 36, 37, 38, 39, 40, 41, 42] (fun t0 => [(4, str t0)]) (fun t0 => [F]) (fun zz K1 => match zz with | t0 => s0 = Fl.go t0) ?_ ?_
 refine block_go rfl ?_
 refine loop_rule (σ := Nat × Str) [2, 3, 4, 5, 8, 9, 10, 11, 12, 13, 14, 15, 16, 17, 18, 19, 20, 21, 22, 23, 24, 25, 26, 27, 28, 29, 30, 31, 32, 33, 34, 35, 36, 37, 38, 39, 40, 41, 42] (fun (i0, y0_0) => [(8, .int .i64 (i0 : Int)), (4, str y0_0)]) (fun (i0, y0_0) => [F]) (fun zz K1 => match zz with | (i0, y0_0) => JaU s (s.drop i0) i0 y0_0 = some s0) (fun zz => s.length - zz.1) (0, ([34] : Str)) rfl ⟨rfl, rfl, trivial⟩ (ConvH.of (.cons r0 .nil)) hl0 ?_
 clear hl0
 rintro ⟨i0, y0_0⟩ Kb0 lk0 hl0 j0
 conv at hl0 => whnf
 refine cond_go rfl ?_
 refine cond_s (fun w0 => ?_) (fun w0 => ?_)
 obtain ⟨e0, hx0, hd0⟩ := ltx w0
 rw [hd0, JaU.eq_2] at hl0
 refine block_go rfl ?_
 refine idx_str rfl (nn _) hx0 ?_
 obtain ⟨x20, e20, hl0⟩ := bnd hl0
 refine cond_s (fun g15_5 => ?_) (fun g15_5 => ?_)
 replace e20 := ift g15_5 e20
 refine cond_t g15_5 (cond_t g15_5 (cond_t g15_5 (cond_t g15_5 (cond_go rfl (cond_T ?_)))))
 replace hl0 := ift (si e20).symm hl0
 obtain rfl := si hl0
 replace hm := elr hm
 obtain rfl := si hm
 refine EndStep.mk _ lk0 ⟨rfl, rfl⟩ (ConvH.of (.cons r0 .nil))
 replace e20 := iff_ g15_5 e20
 refine cond_f g15_5 (cond_f g15_5 (idx_str rfl (nn _) hx0 (cond_f g15_5 (cond_f g15_5 (cond_go rfl ?_)))))
 refine cond_s (fun w20 => ?_) (fun w20 => ?_)
 replace hl0 := ift ((si e20).symm.trans w20) hl0
 obtain rfl := si hl0
 replace hm := elr hm
 obtain rfl := si hm
 refine EndStep.mk _ lk0 ⟨rfl, rfl⟩ (ConvH.of (.cons r0 .nil))
 replace hl0 := iff_ ((si e20).symm.trans w20) hl0
 refine idx_str rfl (nn _) hx0 (eq_int ?_)
 obtain ⟨x30, e30, hl0⟩ := bnd hl0
 refine cond_s (fun g25_7 => ?_) (fun g25_7 => ?_)
 replace e30 := ift g25_7 e30
 refine cond_t g25_7 (cond_t g25_7 (cond_t g25_7 (cond_t g25_7 (cond_go rfl (cond_T ?_)))))
 replace hl0 := ift (si e30).symm hl0
 refine bsO (len := 1) (enc := eU) (l := ([(92 : UInt8)] : Str)) (cl := [.int .u8 92]) elT93 rfl rfl (fun _ _ => rfl) rfl rfl rfl ?_ fun b32 => ?_
 · conv => whnf
   refine cond_T ?_
   first | done | rfl
 refine RStep.of (cv_ownE rfl r0 rfl rfl rfl ?_)
 obtain ⟨h34, hl0⟩ := chkb hl0
 refine cat_str h34 ?_
 refine int_in (cntz hx0 hk0) ?_
 obtain ⟨h40, hl0⟩ := chkb hl0
 refine RStep.ofN (sl_str (lo := (some (i0 : Int))) (hi := (some ((i0 : Int) + 1))) rfl h40 ?_)
 obtain ⟨h41, hl0⟩ := chkb hl0
 refine cat_str h41 ?_
 refine int_in (cntz hx0 hk0) ?_
 refine RoundStep.mk (i0 + 1, ((y0_0 ++ ([(92 : UInt8)] : Str)) ++ (subL s (i0 : Int) ((i0 : Int) + 1)))) ⟨rfl, rfl, trivial⟩ (by repeat (first | exact trivial | refine And.intro rfl ?_)) (ConvH.of (.cons r1 .nil)) lk0 (ltm hx0) hl0
 replace e30 := iff_ g25_7 e30
 refine cond_f g25_7 (cond_f g25_7 (idx_str rfl (nn _) hx0 (cond_f g25_7 (eq_int (cond_f g25_7 ?_)))))
 refine cond_go rfl ?_
 refine cond_s (fun w30 => ?_) (fun w30 => ?_)
 replace hl0 := ift ((si e30).symm.trans w30) hl0
 refine bsO (len := 1) (enc := eU) (l := ([(92 : UInt8)] : Str)) (cl := [.int .u8 92]) elT93 rfl rfl (fun _ _ => rfl) rfl rfl rfl ?_ fun b32 => ?_
 · conv => whnf
   refine cond_T ?_
   first | done | rfl
 refine RStep.of (cv_ownE rfl r0 rfl rfl rfl ?_)
 obtain ⟨h34, hl0⟩ := chkb hl0
 refine cat_str h34 ?_
 refine int_in (cntz hx0 hk0) ?_
 obtain ⟨h40, hl0⟩ := chkb hl0
 refine RStep.ofN (sl_str (lo := (some (i0 : Int))) (hi := (some ((i0 : Int) + 1))) rfl h40 ?_)
 obtain ⟨h41, hl0⟩ := chkb hl0
 refine cat_str h41 ?_
 refine int_in (cntz hx0 hk0) ?_
 refine RoundStep.mk (i0 + 1, ((y0_0 ++ ([(92 : UInt8)] : Str)) ++ (subL s (i0 : Int) ((i0 : Int) + 1)))) ⟨rfl, rfl, trivial⟩ (by repeat (first | exact trivial | refine And.intro rfl ?_)) (ConvH.of (.cons r1 .nil)) lk0 (ltm hx0) hl0
 replace hl0 := iff_ ((si e30).symm.trans w30) hl0
 refine int_in (cntz hx0 hk0) ?_
 obtain ⟨h40, hl0⟩ := chkb hl0
 refine RStep.ofN (sl_str (lo := (some (i0 : Int))) (hi := (some ((i0 : Int) + 1))) rfl h40 ?_)
 obtain ⟨h41, hl0⟩ := chkb hl0
 refine cat_str h41 ?_
 refine int_in (cntz hx0 hk0) ?_
 refine RoundStep.mk (i0 + 1, (y0_0 ++ (subL s (i0 : Int) ((i0 : Int) + 1)))) ⟨rfl, rfl, trivial⟩ (by repeat (first | exact trivial | refine And.intro rfl ?_)) (ConvH.of (.cons r0 .nil)) lk0 (ltm hx0) hl0
 rw [lty w0, JaU.eq_1] at hl0
 refine cond_T ?_
 refine MeetStep.mk (y0_0) ⟨rfl, trivial⟩ (by repeat (first | exact trivial | refine And.intro rfl ?_)) (ConvH.of (.cons r0 .nil)) lk0 (si hl0).symm
 rintro t0 Kt0 lt0 rfl j0
 replace hm := elg hm
 obtain ⟨h44, hm⟩ := chkb hm
 refine cat_str h44 ?_
 obtain rfl := si hm
 refine EndStep.mk _ lt0 ⟨rfl, rfl⟩ (ConvH.of (.cons r0 .nil))

noncomputable def JaW (s : Str) : Option (Bool) :=
  (JcA s).bind fun x7 =>
  some x7.2
set_option maxHeartbeats 8000000 in
theorem JbP {s : Str} {K : Hp} {r : Bool}
    (hm : JaW s = some r)  :
    Fn Tryz.prog 122 [str s] K [] (fun v K' H' => v = .bool r ∧ H' = []) := by
 refine Fn.enter Tryz.func122 Tryz.call122 rfl fun F => ?_
 unfold JaW at hm
 obtain ⟨x7, q7, hm⟩ := bnd hm
 refine call_fn (Jdg (s := s) q7) .nil ?_
 rintro _ K7 _ l7 ⟨rfl, rfl⟩
 obtain rfl := si hm
 refine EndStep.mk _ l7 ⟨rfl, rfl⟩ (ConvH.of (.cons r0 .nil))

noncomputable def JbZ : Option ((List Str)) :=
  some ([([105, 102] : Str), ([101, 108, 115, 101] : Str), ([108, 101, 116] : Str), ([118, 97, 114, 121] : Str), ([116, 97, 103] : Str), ([116, 116, 108] : Str), ([100, 101, 110, 121] : Str), ([112, 97, 115, 115] : Str), ([116, 111, 107, 101, 110] : Str), ([111, 114] : Str), ([97, 110, 100] : Str), ([110, 111, 116] : Str), ([115, 116, 97, 114, 116, 115] : Str), ([101, 110, 100, 115] : Str), ([99, 111, 110, 116, 97, 105, 110, 115] : Str), ([116, 114, 117, 101] : Str), ([102, 97, 108, 115, 101] : Str)])
set_option maxHeartbeats 8000000 in
theorem Jc0  {K : Hp} {r : (List Str)}
    (hm : JbZ = some r)  :
    Fn Tryz.prog 151 [] K [] (fun v K' H' => ∃ ar_0 : Option Addr, ∃ cr_0 : Nat, v = .slice ar_0 r.length cr_0 ∧ (0 < r.length → Has ar_0) ∧ H' = [OwnL eS ar_0 9 1 cr_0 r]) := by
 refine Fn.enter Tryz.func151 Tryz.call151 rfl fun F => ?_
 unfold JbZ at hm
 refine bsO (len := 17) (enc := eS) (l := [([105, 102] : Str), ([101, 108, 115, 101] : Str), ([108, 101, 116] : Str), ([118, 97, 114, 121] : Str), ([116, 97, 103] : Str), ([116, 116, 108] : Str), ([100, 101, 110, 121] : Str), ([112, 97, 115, 115] : Str), ([116, 111, 107, 101, 110] : Str), ([111, 114] : Str), ([97, 110, 100] : Str), ([110, 111, 116] : Str), ([115, 116, 97, 114, 116, 115] : Str), ([101, 110, 100, 115] : Str), ([99, 111, 110, 116, 97, 105, 110, 115] : Str), ([116, 114, 117, 101] : Str), ([102, 97, 108, 115, 101] : Str)]) (cl := [str ([105, 102] : Str), str ([101, 108, 115, 101] : Str), str ([108, 101, 116] : Str), str ([118, 97, 114, 121] : Str), str ([116, 97, 103] : Str), str ([116, 116, 108] : Str), str ([100, 101, 110, 121] : Str), str ([112, 97, 115, 115] : Str), str ([116, 111, 107, 101, 110] : Str), str ([111, 114] : Str), str ([97, 110, 100] : Str), str ([110, 111, 116] : Str), str ([115, 116, 97, 114, 116, 115] : Str), str ([101, 110, 100, 115] : Str), str ([99, 111, 110, 116, 97, 105, 110, 115] : Str), str ([116, 114, 117, 101] : Str), str ([102, 97, 108, 115, 101] : Str)]) elT70 rfl rfl (fun _ _ => rfl) rfl rfl rfl ?_ fun b1 => ?_
 · conv => whnf
   refine cond_T (cond_T (cond_T (cond_T (cond_T (cond_T ?_)))))
   refine cond_T (cond_T (cond_T (cond_T (cond_T (cond_T ?_)))))
   refine cond_T (cond_T (cond_T (cond_T (cond_T ?_))))
   first | done | rfl
 obtain rfl := si hm
 refine EndStep.mk _ (Hp.Le.refl _) ⟨(some ⟨b1, 0, none⟩), 17, rfl, (fun _ => ⟨_, _, rfl⟩), rfl⟩ (ConvH.of (.cons r0 (.cons r0 .nil)))

noncomputable def JaQ (s : Str) : List Str → Nat → Option (Fl (Bool) (Unit))
  | [], _ => some (Fl.go ())
  | e0 :: xs0, i0 =>
    if decide (e0 = s) then
    some (Fl.ret true)
    else
    JaQ s xs0 (i0 + 1)
noncomputable def JbQ (s : Str) : Option (Bool) :=
  (JbZ).bind fun x5 =>
  (chk (x5.length ≤ szMax)).bind fun _ =>
  (JaQ s x5 0).bind fun s0 => s0.el some fun t0 =>
  some false
set_option maxHeartbeats 8000000 in
theorem Jc5 {s : Str} {K : Hp} {r : Bool}
    (hm : JbQ s = some r)  :
    Fn Tryz.prog 139 [str s] K [] (fun v K' H' => v = .bool r ∧ H' = []) := by
 refine Fn.enter Tryz.func139 Tryz.call139 rfl fun F => ?_
 unfold JbQ at hm
 obtain ⟨x5, q5, hm⟩ := bnd hm
 refine call_fn (Jc0 q5) .nil ?_
 rintro _ K5 _ l5 ⟨a5_0, c5_0, rfl, h5_0, rfl⟩
 refine RStep.of (len_slice rfl ?_)
 obtain ⟨hk0, hm⟩ := chkb hm
 obtain ⟨s0, hl0, hm⟩ := bnd hm
 refine code_cut (σ := (Unit)) [2, 4, 8, 9, 10, 11, 12, 13, 14, 15, 16, 17] (fun t0 => []) (fun t0 => [OwnL eS a5_0 9 1 c5_0 x5, F]) (fun zz K1 => match zz with | t0 => s0 = Fl.go t0) ?_ ?_
 refine block_go rfl ?_
 refine loop_rule (σ := Nat) [2, 4, 8, 9, 10, 11, 12, 13, 14, 15, 16, 17] (fun i0 => [(8, .int .i64 (i0 : Int))]) (fun i0 => [OwnL eS a5_0 9 1 c5_0 x5, F]) (fun zz K1 => match zz with | i0 => JaQ s (x5.drop i0) i0 = some s0) (fun zz => x5.length - zz) (0) rfl ⟨rfl, trivial⟩ (ConvH.of (.cons r0 (.cons r0 .nil))) hl0 ?_
 clear hl0
 rintro i0 Kb0 lk0 hl0 j0
 conv at hl0 => whnf
 refine cond_go rfl ?_
 refine cond_s (fun w0 => ?_) (fun w0 => ?_)
 obtain ⟨e0, hx0, hd0⟩ := ltx w0
 rw [hd0, JaQ.eq_2] at hl0
 refine block_go rfl ?_
 refine RStep.ofN (index_addr rfl rfl (hasO h5_0 hx0) (nn _) (lt_ofNE rfl hx0) (RStep.of (ld_own (i := i0) (o := 0) r0 rfl hx0 rfl rfl (eq_str (cond_go rfl ?_)))))
 refine cond_s (fun w16 => ?_) (fun w16 => ?_)
 replace hl0 := ift w16 hl0
 obtain rfl := si hl0
 replace hm := elr hm
 obtain rfl := si hm
 refine EndStep.mk _ (l5.trans lk0) ⟨rfl, rfl⟩ (ConvH.of (.cons r1 .nil))
 replace hl0 := iff_ w16 hl0
 refine int_in (cntz hx0 hk0) ?_
 refine RoundStep.mk (i0 + 1) ⟨rfl, trivial⟩ (by repeat (first | exact trivial | refine And.intro rfl ?_)) (ConvH.of (.cons r0 (.cons r0 .nil))) lk0 (ltm hx0) hl0
 rw [lty w0, JaQ.eq_1] at hl0
 refine cond_T ?_
 refine MeetStep.mk (()) trivial (by repeat (first | exact trivial | refine And.intro rfl ?_)) (ConvH.of (.cons r0 (.cons r0 .nil))) lk0 (si hl0).symm
 rintro t0 Kt0 lt0 rfl j0
 replace hm := elg hm
 obtain rfl := si hm
 refine EndStep.mk _ (l5.trans lt0) ⟨rfl, rfl⟩ (ConvH.of (.cons r1 .nil))

noncomputable def JbH (n : Nat) (s : Str) : Option (Bool) :=
  (Jbi n s 1).bind fun x4 =>
  (if x4 then (JbQ s).bind fun x7 =>
  some (!x7) else some false).bind fun x9 =>
  some x9
set_option maxHeartbeats 8000000 in
theorem Jco {n : Nat} {s : Str} {K : Hp} {r : Bool}
    (hm : JbH n s = some r)  :
    Fn Tryz.prog 120 [str s] K [] (fun v K' H' => v = .bool r ∧ H' = []) := by
 refine Fn.enter Tryz.func120 Tryz.call120 rfl fun F => ?_
 unfold JbH at hm
 obtain ⟨x4, q4, hm⟩ := bnd hm
 refine call_fn (JcM (s := s) (kind := 1) q4) .nil ?_
 rintro _ K4 _ l4 ⟨rfl, rfl⟩
 obtain ⟨x9, e9, hm⟩ := bnd hm
 refine cond_s (fun g5_1 => ?_) (fun g5_1 => ?_)
 replace e9 := ift g5_1 e9
 refine cond_t g5_1 ?_
 obtain ⟨x7, q7, e9⟩ := bnd e9
 refine call_fn (Jc5 (s := s) q7) .nil ?_
 rintro _ K7 _ l7 ⟨rfl, rfl⟩
 refine cond_t g5_1 (un_not (cond_t g5_1 ?_))
 obtain rfl := si hm
 refine EndStep.mk _ (l4.trans l7) ⟨(by rw [← (si e9)] <;> rfl), rfl⟩ (ConvH.of (.cons r0 .nil))
 replace e9 := iff_ g5_1 e9
 refine cond_f g5_1 (cond_f g5_1 (cond_f g5_1 ?_))
 obtain rfl := si hm
 refine EndStep.mk _ l4 ⟨(by rw [← ((si e9).symm).symm] <;> rfl), rfl⟩ (ConvH.of (.cons r0 .nil))

noncomputable def Jau (rec3_0 : (Jc → Option (Bool))) : List Jc → Nat → Option (Fl (Bool) (Unit))
  | [], _ => some (Fl.go ())
  | e0 :: xs0, i0 =>
    (rec3_0 e0).bind fun x15 =>
    if (!x15) then
    some (Fl.ret false)
    else
    Jau rec3_0 xs0 (i0 + 1)
noncomputable def J9 (rec3_0 : (Jc → Option (Bool))) (n : Nat) (l : (List Jc)) (many : Int) : Option (Bool) :=
  (chk (l.length ≤ szMax)).bind fun _ =>
  (Jau rec3_0 l 0).bind fun s0 => s0.el some fun t0 =>
  some (decide ((l.length : Int) = many))
set_option maxHeartbeats 8000000 in
theorem J3 {rec3_0 : (Jc → Option (Bool))} (ihrec3_0 : ∀ {n' : Jc} {ap0_0 : Option Addr} {cp0_0 : Nat} {K : Hp} {r : Bool} (hm : rec3_0 n' = some r) (hp0_0 : LiC Jc.R K ap0_0 cp0_0 4 n'.Kids), Fn Tryz.prog 118 [.agg #[.int .i64 n'.Kind, str n'.Text, .slice ap0_0 n'.Kids.length cp0_0, .int .i64 n'.Line]] K [] (fun v K' H' => v = .bool r ∧ H' = [])) {n : Nat} {l : (List Jc)} {many : Int} {ap0_0 : Option Addr} {cp0_0 : Nat} {n0 : Nat} {K : Hp} {r : Bool}
    (hm : J9 rec3_0 n l many = some r) (hp0_0 : LiC Jc.R K ap0_0 cp0_0 4 l) (en0 : n0 = l.length) :
    Fn Tryz.prog 121 [.slice ap0_0 n0 cp0_0, .int .i64 many] K [] (fun v K' H' => v = .bool r ∧ H' = []) := by
 subst en0
 refine Fn.enter Tryz.func121 Tryz.call121 rfl fun F => ?_
 unfold J9 at hm
 refine RStep.of (len_slice rfl ?_)
 obtain ⟨hk0, hm⟩ := chkb hm
 obtain ⟨s0, hl0, hm⟩ := bnd hm
 refine code_cut (σ := (Unit)) [4, 5, 8, 9, 10, 11, 12, 13, 14, 15, 16, 17] (fun t0 => []) (fun t0 => [F]) (fun zz K1 => match zz with | t0 => s0 = Fl.go t0) ?_ ?_
 refine block_go rfl ?_
 refine loop_rule (σ := Nat) [4, 5, 8, 9, 10, 11, 12, 13, 14, 15, 16, 17] (fun i0 => [(8, .int .i64 (i0 : Int))]) (fun i0 => [F]) (fun zz K1 => match zz with | i0 => Jau rec3_0 (l.drop i0) i0 = some s0) (fun zz => l.length - zz) (0) rfl ⟨rfl, trivial⟩ (ConvH.of (.cons r0 .nil)) hl0 ?_
 clear hl0
 rintro i0 Kb0 lk0 hl0 j0
 conv at hl0 => whnf
 refine cond_go rfl ?_
 refine cond_s (fun w0 => ?_) (fun w0 => ?_)
 obtain ⟨e0, hx0, hd0⟩ := ltx w0
 rw [hd0, Jau.eq_2] at hl0
 refine block_go rfl ?_
 refine RStep.ofN (index_addr rfl rfl (hasR (LiC.mono Jc.R_ok lk0 hp0_0).rd hx0) (nn _) (lt_ofN hx0) ?_)
 obtain ⟨ss14, cc14, hr14, hc14, hR14⟩ := LiR.get (LiC.mono Jc.R_ok lk0 hp0_0).rd hx0
 obtain ⟨a14_0, c14_0, rfl, h14_0⟩ := Jc.out hR14
 refine RStep.of (load_rd_agg i0 _ hr14 rfl hc14 rfl ?_)
 obtain ⟨x15, q15, hl0⟩ := bnd hl0
 refine call_fn (ihrec3_0 (n' := e0) q15 h14_0) .nil ?_
 rintro _ K15 _ l15 ⟨rfl, rfl⟩
 refine un_not (cond_go rfl ?_)
 refine cond_s (fun w16 => ?_) (fun w16 => ?_)
 replace hl0 := ift (not_t (ni_t w16)) hl0
 obtain rfl := si hl0
 replace hm := elr hm
 obtain rfl := si hm
 refine EndStep.mk _ (lk0.trans l15) ⟨rfl, rfl⟩ (ConvH.of (.cons r0 .nil))
 replace hl0 := iff_ (not_f (ni_f w16)) hl0
 refine int_in (cntz hx0 hk0) ?_
 refine RoundStep.mk (i0 + 1) ⟨rfl, trivial⟩ (by repeat (first | exact trivial | refine And.intro rfl ?_)) (ConvH.of (.cons r0 .nil)) (lk0.trans l15) (ltm hx0) hl0
 rw [lty w0, Jau.eq_1] at hl0
 refine cond_T ?_
 refine MeetStep.mk (()) trivial (by repeat (first | exact trivial | refine And.intro rfl ?_)) (ConvH.of (.cons r0 .nil)) lk0 (si hl0).symm
 rintro t0 Kt0 lt0 rfl j0
 replace hm := elg hm
 refine RStep.of (len_slice rfl (eq_int ?_))
 obtain rfl := si hm
 refine EndStep.mk _ lt0 ⟨rfl, rfl⟩ (ConvH.of (.cons r0 .nil))

noncomputable def Jq : Nat → Jc → Option (Bool)
  | 0, _ => none
  | n + 1, n' =>
    if decide (n'.Kind = 13) then
    (if decide (n'.Text = ([] : Str)) then (J9 (Jq n) n n'.Kids 2).bind fun x17 =>
    some x17 else some false).bind fun x18 =>
    some x18
    else
    if decide (n'.Kind = 14) then
    (if decide (n'.Text = ([] : Str)) then (J9 (Jq n) n n'.Kids 2).bind fun x17 =>
    some x17 else some false).bind fun x18 =>
    some x18
    else
    if decide (n'.Kind = 17) then
    (if decide (n'.Text = ([] : Str)) then (J9 (Jq n) n n'.Kids 2).bind fun x17 =>
    some x17 else some false).bind fun x18 =>
    some x18
    else
    if decide (n'.Kind = 18) then
    (if decide (n'.Text = ([] : Str)) then (J9 (Jq n) n n'.Kids 2).bind fun x17 =>
    some x17 else some false).bind fun x18 =>
    some x18
    else
    if decide (n'.Kind = 19) then
    (if decide (n'.Text = ([] : Str)) then (J9 (Jq n) n n'.Kids 2).bind fun x17 =>
    some x17 else some false).bind fun x18 =>
    some x18
    else
    if decide (n'.Kind = 15) then
    (if decide (n'.Text = ([] : Str)) then (J9 (Jq n) n n'.Kids 1).bind fun x27 =>
    some x27 else some false).bind fun x28 =>
    some x28
    else
    if decide (n'.Kind = 16) then
    (JbG n'.Text).bind fun x33 =>
    (if x33 then (J9 (Jq n) n n'.Kids 2).bind fun x37 =>
    some x37 else some false).bind fun x38 =>
    some x38
    else
    if decide (n'.Kind = 20) then
    (Jbi n n'.Text 2).bind fun x43 =>
    some (x43 && decide ((n'.Kids.length : Int) = 0))
    else
    if decide (n'.Kind = 21) then
    (JaW n'.Text).bind fun x54 =>
    some (x54 && decide ((n'.Kids.length : Int) = 0))
    else
    if decide (n'.Kind = 22) then
    some ((decide (n'.Text = ([116, 114, 117, 101] : Str)) || decide (n'.Text = ([102, 97, 108, 115, 101] : Str))) && decide ((n'.Kids.length : Int) = 0))
    else
    if decide (n'.Kind = 23) then
    (JbH n n'.Text).bind fun x81 =>
    some (x81 && decide ((n'.Kids.length : Int) = 0))
    else
    if decide (n'.Kind = 24) then
    (JbH n n'.Text).bind fun x92 =>
    (if x92 then (J9 (Jq n) n n'.Kids (n'.Kids.length : Int)).bind fun x99 =>
    some x99 else some false).bind fun x100 =>
    some x100
    else
    some false
set_option maxHeartbeats 8000000 in
theorem Jag : ∀ {n : Nat} {n' : Jc} {ap0_0 : Option Addr} {cp0_0 : Nat} {K : Hp} {r : Bool}
    (hm : Jq n n' = some r) (hp0_0 : LiC Jc.R K ap0_0 cp0_0 4 n'.Kids),
    Fn Tryz.prog 118 [.agg #[.int .i64 n'.Kind, str n'.Text, .slice ap0_0 n'.Kids.length cp0_0, .int .i64 n'.Line]] K [] (fun v K' H' => v = .bool r ∧ H' = []) := by
 intro n
 induction n with
 | zero =>
   intro n' ap0_0 cp0_0 K r hm hp0_0
   rw [Jq.eq_1] at hm; cases hm
 | succ n ih =>
   intro n' ap0_0 cp0_0 K r hm hp0_0
   refine Fn.enter Tryz.func118 Tryz.call118 rfl fun F => ?_
   rw [Jq.eq_2] at hm
   refine box_rule ?_
   intro b1
   refine Jb rfl (RStep.of (load1_s r0 rfl rfl ?_))
   refine block_go rfl ?_
   refine eq_int (cond_go rfl ?_)
   refine cond_s (fun w5 => ?_) (fun w5 => ?_)
   replace hm := ift w5 hm
   refine cond_go rfl (cond_t w5 (Jb rfl (RStep.of (load1_s r0 rfl rfl (eq_str ?_)))))
   obtain ⟨x18, e18, hm⟩ := bnd hm
   refine cond_s (fun g14_7 => ?_) (fun g14_7 => ?_)
   replace e18 := ift g14_7 e18
   refine Jb rfl (cond_t g14_7 (RStep.of (load1_s r0 rfl rfl (cond_t g14_7 ?_))))
   obtain ⟨x17, q17, e18⟩ := bnd e18
   refine call_fn (J3 ih (many := 2) q17 hp0_0 rfl) .nil ?_
   rintro _ K17 _ l17 ⟨rfl, rfl⟩
   refine cond_t g14_7 ?_
   obtain rfl := si hm
   refine EndStep.mk _ l17 ⟨(by rw [← (si e18)] <;> rfl), rfl⟩ (ConvH.of (.cons r1 .nil))
   replace e18 := iff_ g14_7 e18
   refine cond_f g14_7 (cond_f g14_7 (cond_f g14_7 ?_))
   obtain rfl := si hm
   refine EndStep.mk _ (Hp.Le.refl _) ⟨(by rw [← ((si e18).symm).symm] <;> rfl), rfl⟩ (ConvH.of (.cons r1 .nil))
   replace hm := iff_ w5 hm
   refine eq_int (cond_go rfl ?_)
   refine cond_s (fun w5 => ?_) (fun w5 => ?_)
   replace hm := ift w5 hm
   refine cond_go rfl (cond_t w5 (Jb rfl (RStep.of (load1_s r0 rfl rfl (eq_str ?_)))))
   obtain ⟨x18, e18, hm⟩ := bnd hm
   refine cond_s (fun g14_7 => ?_) (fun g14_7 => ?_)
   replace e18 := ift g14_7 e18
   refine Jb rfl (cond_t g14_7 (RStep.of (load1_s r0 rfl rfl (cond_t g14_7 ?_))))
   obtain ⟨x17, q17, e18⟩ := bnd e18
   refine call_fn (J3 ih (many := 2) q17 hp0_0 rfl) .nil ?_
   rintro _ K17 _ l17 ⟨rfl, rfl⟩
   refine cond_t g14_7 ?_
   obtain rfl := si hm
   refine EndStep.mk _ l17 ⟨(by rw [← (si e18)] <;> rfl), rfl⟩ (ConvH.of (.cons r1 .nil))
   replace e18 := iff_ g14_7 e18
   refine cond_f g14_7 (cond_f g14_7 (cond_f g14_7 ?_))
   obtain rfl := si hm
   refine EndStep.mk _ (Hp.Le.refl _) ⟨(by rw [← ((si e18).symm).symm] <;> rfl), rfl⟩ (ConvH.of (.cons r1 .nil))
   replace hm := iff_ w5 hm
   refine eq_int (cond_go rfl ?_)
   refine cond_s (fun w5 => ?_) (fun w5 => ?_)
   replace hm := ift w5 hm
   refine cond_go rfl (cond_t w5 (Jb rfl (RStep.of (load1_s r0 rfl rfl (eq_str ?_)))))
   obtain ⟨x18, e18, hm⟩ := bnd hm
   refine cond_s (fun g14_7 => ?_) (fun g14_7 => ?_)
   replace e18 := ift g14_7 e18
   refine Jb rfl (cond_t g14_7 (RStep.of (load1_s r0 rfl rfl (cond_t g14_7 ?_))))
   obtain ⟨x17, q17, e18⟩ := bnd e18
   refine call_fn (J3 ih (many := 2) q17 hp0_0 rfl) .nil ?_
   rintro _ K17 _ l17 ⟨rfl, rfl⟩
   refine cond_t g14_7 ?_
   obtain rfl := si hm
   refine EndStep.mk _ l17 ⟨(by rw [← (si e18)] <;> rfl), rfl⟩ (ConvH.of (.cons r1 .nil))
   replace e18 := iff_ g14_7 e18
   refine cond_f g14_7 (cond_f g14_7 (cond_f g14_7 ?_))
   obtain rfl := si hm
   refine EndStep.mk _ (Hp.Le.refl _) ⟨(by rw [← ((si e18).symm).symm] <;> rfl), rfl⟩ (ConvH.of (.cons r1 .nil))
   replace hm := iff_ w5 hm
   refine eq_int (cond_go rfl ?_)
   refine cond_s (fun w5 => ?_) (fun w5 => ?_)
   replace hm := ift w5 hm
   refine cond_go rfl (cond_t w5 (Jb rfl (RStep.of (load1_s r0 rfl rfl (eq_str ?_)))))
   obtain ⟨x18, e18, hm⟩ := bnd hm
   refine cond_s (fun g14_7 => ?_) (fun g14_7 => ?_)
   replace e18 := ift g14_7 e18
   refine Jb rfl (cond_t g14_7 (RStep.of (load1_s r0 rfl rfl (cond_t g14_7 ?_))))
   obtain ⟨x17, q17, e18⟩ := bnd e18
   refine call_fn (J3 ih (many := 2) q17 hp0_0 rfl) .nil ?_
   rintro _ K17 _ l17 ⟨rfl, rfl⟩
   refine cond_t g14_7 ?_
   obtain rfl := si hm
   refine EndStep.mk _ l17 ⟨(by rw [← (si e18)] <;> rfl), rfl⟩ (ConvH.of (.cons r1 .nil))
   replace e18 := iff_ g14_7 e18
   refine cond_f g14_7 (cond_f g14_7 (cond_f g14_7 ?_))
   obtain rfl := si hm
   refine EndStep.mk _ (Hp.Le.refl _) ⟨(by rw [← ((si e18).symm).symm] <;> rfl), rfl⟩ (ConvH.of (.cons r1 .nil))
   replace hm := iff_ w5 hm
   refine eq_int (cond_go rfl ?_)
   refine cond_s (fun w5 => ?_) (fun w5 => ?_)
   replace hm := ift w5 hm
   refine Jb rfl (RStep.of (load1_s r0 rfl rfl (eq_str ?_)))
   obtain ⟨x18, e18, hm⟩ := bnd hm
   refine cond_s (fun g14_7 => ?_) (fun g14_7 => ?_)
   replace e18 := ift g14_7 e18
   refine Jb rfl (cond_t g14_7 (RStep.of (load1_s r0 rfl rfl (cond_t g14_7 ?_))))
   obtain ⟨x17, q17, e18⟩ := bnd e18
   refine call_fn (J3 ih (many := 2) q17 hp0_0 rfl) .nil ?_
   rintro _ K17 _ l17 ⟨rfl, rfl⟩
   refine cond_t g14_7 ?_
   obtain rfl := si hm
   refine EndStep.mk _ l17 ⟨(by rw [← (si e18)] <;> rfl), rfl⟩ (ConvH.of (.cons r1 .nil))
   replace e18 := iff_ g14_7 e18
   refine cond_f g14_7 (cond_f g14_7 (cond_f g14_7 ?_))
   obtain rfl := si hm
   refine EndStep.mk _ (Hp.Le.refl _) ⟨(by rw [← ((si e18).symm).symm] <;> rfl), rfl⟩ (ConvH.of (.cons r1 .nil))
   replace hm := iff_ w5 hm
   refine eq_int (cond_go rfl ?_)
   refine cond_s (fun w19 => ?_) (fun w19 => ?_)
   replace hm := ift w19 hm
   refine Jb rfl (RStep.of (load1_s r0 rfl rfl (eq_str ?_)))
   obtain ⟨x28, e28, hm⟩ := bnd hm
   refine cond_s (fun g24_9 => ?_) (fun g24_9 => ?_)
   replace e28 := ift g24_9 e28
   refine Jb rfl (cond_t g24_9 (RStep.of (load1_s r0 rfl rfl (cond_t g24_9 ?_))))
   obtain ⟨x27, q27, e28⟩ := bnd e28
   refine call_fn (J3 ih (many := 1) q27 hp0_0 rfl) .nil ?_
   rintro _ K27 _ l27 ⟨rfl, rfl⟩
   refine cond_t g24_9 ?_
   obtain rfl := si hm
   refine EndStep.mk _ l27 ⟨(by rw [← (si e28)] <;> rfl), rfl⟩ (ConvH.of (.cons r1 .nil))
   replace e28 := iff_ g24_9 e28
   refine cond_f g24_9 (cond_f g24_9 (cond_f g24_9 ?_))
   obtain rfl := si hm
   refine EndStep.mk _ (Hp.Le.refl _) ⟨(by rw [← ((si e28).symm).symm] <;> rfl), rfl⟩ (ConvH.of (.cons r1 .nil))
   replace hm := iff_ w19 hm
   refine eq_int (cond_go rfl ?_)
   refine cond_s (fun w29 => ?_) (fun w29 => ?_)
   replace hm := ift w29 hm
   refine Jb rfl (RStep.of (load1_s r0 rfl rfl ?_))
   obtain ⟨x33, q33, hm⟩ := bnd hm
   refine call_fn (JcZ (s := n'.Text) q33) .nil ?_
   rintro _ K33 _ l33 ⟨rfl, rfl⟩
   obtain ⟨x38, e38, hm⟩ := bnd hm
   refine cond_s (fun g34_11 => ?_) (fun g34_11 => ?_)
   replace e38 := ift g34_11 e38
   refine Jb rfl (cond_t g34_11 (RStep.of (load1_s r0 rfl rfl (cond_t g34_11 ?_))))
   obtain ⟨x37, q37, e38⟩ := bnd e38
   refine call_fn (J3 ih (many := 2) q37 (LiC.mono Jc.R_ok l33 hp0_0) rfl) .nil ?_
   rintro _ K37 _ l37 ⟨rfl, rfl⟩
   refine cond_t g34_11 ?_
   obtain rfl := si hm
   refine EndStep.mk _ (l33.trans l37) ⟨(by rw [← (si e38)] <;> rfl), rfl⟩ (ConvH.of (.cons r1 .nil))
   replace e38 := iff_ g34_11 e38
   refine cond_f g34_11 (cond_f g34_11 (cond_f g34_11 ?_))
   obtain rfl := si hm
   refine EndStep.mk _ l33 ⟨(by rw [← ((si e38).symm).symm] <;> rfl), rfl⟩ (ConvH.of (.cons r1 .nil))
   replace hm := iff_ w29 hm
   refine eq_int (cond_go rfl ?_)
   refine cond_s (fun w39 => ?_) (fun w39 => ?_)
   replace hm := ift w39 hm
   refine Jb rfl (RStep.of (load1_s r0 rfl rfl ?_))
   obtain ⟨x43, q43, hm⟩ := bnd hm
   refine call_fn (JcM (s := n'.Text) (kind := 2) q43) .nil ?_
   rintro _ K43 _ l43 ⟨rfl, rfl⟩
   refine cond_s (fun g44_13 => ?_) (fun g44_13 => ?_)
   refine Jb rfl (cond_t g44_13 (RStep.of (load1_s r0 rfl rfl (cond_t g44_13 (RStep.of (len_slice rfl (cond_t g44_13 ?_)))))))
   refine eq_int (cond_t g44_13 ?_)
   obtain rfl := si hm
   refine EndStep.mk _ l43 ⟨(by rw [← (and_e (b := decide ((n'.Kids.length : Int) = 0)) g44_13)] <;> rfl), rfl⟩ (ConvH.of (.cons r1 .nil))
   refine cond_f g44_13 (cond_f g44_13 (cond_f g44_13 (cond_f g44_13 ?_)))
   obtain rfl := si hm
   refine EndStep.mk _ l43 ⟨(by rw [← ((and_f g44_13)).symm] <;> rfl), rfl⟩ (ConvH.of (.cons r1 .nil))
   replace hm := iff_ w39 hm
   refine eq_int (cond_go rfl ?_)
   refine cond_s (fun w50 => ?_) (fun w50 => ?_)
   replace hm := ift w50 hm
   refine Jb rfl (RStep.of (load1_s r0 rfl rfl ?_))
   obtain ⟨x54, q54, hm⟩ := bnd hm
   refine call_fn (JbP (s := n'.Text) q54) .nil ?_
   rintro _ K54 _ l54 ⟨rfl, rfl⟩
   refine cond_s (fun g55_15 => ?_) (fun g55_15 => ?_)
   refine Jb rfl (cond_t g55_15 (RStep.of (load1_s r0 rfl rfl (cond_t g55_15 (RStep.of (len_slice rfl (cond_t g55_15 ?_)))))))
   refine eq_int (cond_t g55_15 ?_)
   obtain rfl := si hm
   refine EndStep.mk _ l54 ⟨(by rw [← (and_e (b := decide ((n'.Kids.length : Int) = 0)) g55_15)] <;> rfl), rfl⟩ (ConvH.of (.cons r1 .nil))
   refine cond_f g55_15 (cond_f g55_15 (cond_f g55_15 (cond_f g55_15 ?_)))
   obtain rfl := si hm
   refine EndStep.mk _ l54 ⟨(by rw [← ((and_f g55_15)).symm] <;> rfl), rfl⟩ (ConvH.of (.cons r1 .nil))
   replace hm := iff_ w50 hm
   refine eq_int (cond_go rfl ?_)
   refine cond_s (fun w61 => ?_) (fun w61 => ?_)
   replace hm := ift w61 hm
   refine Jb rfl (RStep.of (load1_s r0 rfl rfl (eq_str ?_)))
   refine cond_s (fun g66_17 => ?_) (fun g66_17 => ?_)
   refine cond_t g66_17 (cond_t g66_17 (cond_t g66_17 (cond_T (Jb rfl (cond_T ?_)))))
   refine RStep.of (load1_s r0 rfl rfl (cond_T (RStep.of (len_slice rfl (cond_T (eq_int (cond_T ?_)))))))
   obtain rfl := si hm
   refine EndStep.mk _ (Hp.Le.refl _) ⟨(by rw [← (and_e (b := decide ((n'.Kids.length : Int) = 0)) (or_t g66_17))] <;> rfl), rfl⟩ (ConvH.of (.cons r1 .nil))
   refine Jb rfl (cond_f g66_17 (RStep.of (load1_s r0 rfl rfl (cond_f g66_17 (eq_str (cond_f g66_17 ?_))))))
   refine cond_s (fun g71_17 => ?_) (fun g71_17 => ?_)
   refine Jb rfl (cond_t g71_17 (RStep.of (load1_s r0 rfl rfl (cond_t g71_17 (RStep.of (len_slice rfl (cond_t g71_17 ?_)))))))
   refine eq_int (cond_t g71_17 ?_)
   obtain rfl := si hm
   refine EndStep.mk _ (Hp.Le.refl _) ⟨(by rw [← (and_e (b := decide ((n'.Kids.length : Int) = 0)) (or_u g66_17 g71_17))] <;> rfl), rfl⟩ (ConvH.of (.cons r1 .nil))
   refine cond_f g71_17 (cond_f g71_17 (cond_f g71_17 (cond_f g71_17 ?_)))
   obtain rfl := si hm
   refine EndStep.mk _ (Hp.Le.refl _) ⟨(by rw [← ((and_f (or_f g66_17 g71_17))).symm] <;> rfl), rfl⟩ (ConvH.of (.cons r1 .nil))
   replace hm := iff_ w61 hm
   refine eq_int (cond_go rfl ?_)
   refine cond_s (fun w77 => ?_) (fun w77 => ?_)
   replace hm := ift w77 hm
   refine Jb rfl (RStep.of (load1_s r0 rfl rfl ?_))
   obtain ⟨x81, q81, hm⟩ := bnd hm
   refine call_fn (Jco (s := n'.Text) q81) .nil ?_
   rintro _ K81 _ l81 ⟨rfl, rfl⟩
   refine cond_s (fun g82_19 => ?_) (fun g82_19 => ?_)
   refine Jb rfl (cond_t g82_19 (RStep.of (load1_s r0 rfl rfl (cond_t g82_19 (RStep.of (len_slice rfl (cond_t g82_19 ?_)))))))
   refine eq_int (cond_t g82_19 ?_)
   obtain rfl := si hm
   refine EndStep.mk _ l81 ⟨(by rw [← (and_e (b := decide ((n'.Kids.length : Int) = 0)) g82_19)] <;> rfl), rfl⟩ (ConvH.of (.cons r1 .nil))
   refine cond_f g82_19 (cond_f g82_19 (cond_f g82_19 (cond_f g82_19 ?_)))
   obtain rfl := si hm
   refine EndStep.mk _ l81 ⟨(by rw [← ((and_f g82_19)).symm] <;> rfl), rfl⟩ (ConvH.of (.cons r1 .nil))
   replace hm := iff_ w77 hm
   refine eq_int (cond_go rfl ?_)
   refine cond_s (fun w88 => ?_) (fun w88 => ?_)
   replace hm := ift w88 hm
   refine Jb rfl (RStep.of (load1_s r0 rfl rfl ?_))
   obtain ⟨x92, q92, hm⟩ := bnd hm
   refine call_fn (Jco (s := n'.Text) q92) .nil ?_
   rintro _ K92 _ l92 ⟨rfl, rfl⟩
   obtain ⟨x100, e100, hm⟩ := bnd hm
   refine cond_s (fun g93_21 => ?_) (fun g93_21 => ?_)
   replace e100 := ift g93_21 e100
   refine Jb rfl (cond_t g93_21 (RStep.of (load1_s r0 rfl rfl (cond_t g93_21 (Jb rfl (cond_t g93_21 ?_))))))
   refine RStep.of (load1_s r0 rfl rfl (cond_t g93_21 (RStep.of (len_slice rfl (cond_t g93_21 ?_)))))
   obtain ⟨x99, q99, e100⟩ := bnd e100
   refine call_fn (J3 ih (many := (n'.Kids.length : Int)) q99 (LiC.mono Jc.R_ok l92 hp0_0) rfl) .nil ?_
   rintro _ K99 _ l99 ⟨rfl, rfl⟩
   refine cond_t g93_21 ?_
   obtain rfl := si hm
   refine EndStep.mk _ (l92.trans l99) ⟨(by rw [← (si e100)] <;> rfl), rfl⟩ (ConvH.of (.cons r1 .nil))
   replace e100 := iff_ g93_21 e100
   refine cond_f g93_21 (cond_f g93_21 (cond_f g93_21 (cond_f g93_21 (cond_f g93_21 (cond_f g93_21 ?_)))))
   obtain rfl := si hm
   refine EndStep.mk _ l92 ⟨(by rw [← ((si e100).symm).symm] <;> rfl), rfl⟩ (ConvH.of (.cons r1 .nil))
   replace hm := iff_ w88 hm
   obtain rfl := si hm
   refine EndStep.mk _ (Hp.Le.refl _) ⟨rfl, rfl⟩ (ConvH.of (.cons r1 .nil))

noncomputable def JbK (rec4_0 : ((List Jc) → Option (Bool))) (n : Nat) (n' : Jc) : Option (Bool) :=
  (if (decide (n'.Kind = 12) && decide (n'.Text = ([] : Str))) then (rec4_0 n'.Kids).bind fun x14 =>
  some x14 else some false).bind fun x15 =>
  some x15
set_option maxHeartbeats 8000000 in
theorem JcG {rec4_0 : ((List Jc) → Option (Bool))} (ihrec4_0 : ∀ {l : (List Jc)} {ap0_0 : Option Addr} {cp0_0 : Nat} {n0 : Nat} {K : Hp} {r : Bool} (hm : rec4_0 l = some r) (hp0_0 : LiC Jc.R K ap0_0 cp0_0 4 l) (en0 : n0 = l.length), Fn Tryz.prog 77 [.slice ap0_0 n0 cp0_0] K [] (fun v K' H' => v = .bool r ∧ H' = [])) {n : Nat} {n' : Jc} {ap0_0 : Option Addr} {cp0_0 : Nat} {K : Hp} {r : Bool}
    (hm : JbK rec4_0 n n' = some r) (hp0_0 : LiC Jc.R K ap0_0 cp0_0 4 n'.Kids) :
    Fn Tryz.prog 119 [.agg #[.int .i64 n'.Kind, str n'.Text, .slice ap0_0 n'.Kids.length cp0_0, .int .i64 n'.Line]] K [] (fun v K' H' => v = .bool r ∧ H' = []) := by
 refine Fn.enter Tryz.func119 Tryz.call119 rfl fun F => ?_
 unfold JbK at hm
 refine box_rule ?_
 intro b1
 refine Jb rfl (RStep.of (load1_s r0 rfl rfl (eq_int ?_)))
 refine cond_s (fun g6_1 => ?_) (fun g6_1 => ?_)
 refine Jb rfl (cond_t g6_1 (RStep.of (load1_s r0 rfl rfl (cond_t g6_1 (eq_str (cond_t g6_1 ?_))))))
 obtain ⟨x15, e15, hm⟩ := bnd hm
 refine cond_s (fun g11_1 => ?_) (fun g11_1 => ?_)
 replace e15 := ift (and_t g6_1 g11_1) e15
 refine Jb rfl (cond_t g11_1 (RStep.of (load1_s r0 rfl rfl (cond_t g11_1 ?_))))
 obtain ⟨x14, q14, e15⟩ := bnd e15
 refine call_fn (ihrec4_0 q14 hp0_0 rfl) .nil ?_
 rintro _ K14 _ l14 ⟨rfl, rfl⟩
 refine cond_t g11_1 ?_
 obtain rfl := si hm
 refine EndStep.mk _ l14 ⟨(by rw [← (si e15)] <;> rfl), rfl⟩ (ConvH.of (.cons r1 .nil))
 replace e15 := iff_ (and_g g6_1 g11_1) e15
 refine cond_f g11_1 (cond_f g11_1 (cond_f g11_1 ?_))
 obtain rfl := si hm
 refine EndStep.mk _ (Hp.Le.refl _) ⟨(by rw [← ((si e15).symm).symm] <;> rfl), rfl⟩ (ConvH.of (.cons r1 .nil))
 refine cond_f g6_1 (cond_f g6_1 (cond_f g6_1 ?_))
 obtain ⟨x15, e15, hm⟩ := bnd hm
 replace e15 := iff_ (and_f g6_1) e15
 refine cond_F (cond_F (cond_F (cond_F ?_)))
 obtain rfl := si hm
 refine EndStep.mk _ (Hp.Le.refl _) ⟨(by rw [← ((si e15).symm).symm] <;> rfl), rfl⟩ (ConvH.of (.cons r1 .nil))

noncomputable def J1 (rec4_0 : ((List Jc) → Option (Bool))) : Nat → Jc → Option (Bool)
  | 0, _ => none
  | n + 1, n' =>
    if decide (n'.Kind = 2) then
    (if ((decide (n'.Text ≠ ([] : Str)) || decide ((n'.Kids.length : Int) < 2)) || decide ((n'.Kids.length : Int) > 3)) then some true else (ix n'.Kids 0).bind fun x25 =>
    (Jq n x25).bind fun x27 =>
    some (!x27)).bind fun x29 =>
    (if x29 then some true else (ix n'.Kids 1).bind fun x33 =>
    (JbK rec4_0 n x33).bind fun x35 =>
    some (!x35)).bind fun x37 =>
    if x37 then
    some false
    else
    (if decide ((n'.Kids.length : Int) = 2) then some true else (ix n'.Kids 2).bind fun x43 =>
    (JbK rec4_0 n x43).bind fun x45 =>
    some x45).bind fun x46 =>
    if x46 then
    some true
    else
    (ix n'.Kids 2).bind fun x50 =>
    (if decide (x50.Kind = 2) then (ix n'.Kids 2).bind fun x57 =>
    ((J1 rec4_0 n) x57).bind fun x59 =>
    some x59 else some false).bind fun x60 =>
    some x60
    else
    if decide (n'.Kind = 3) then
    (JbH n n'.Text).bind fun x66 =>
    (if x66 then (J9 (Jq n) n n'.Kids 1).bind fun x70 =>
    some x70 else some false).bind fun x71 =>
    some x71
    else
    if decide (n'.Kind = 4) then
    (if (decide (n'.Text = ([112, 97, 116, 104] : Str)) || decide (n'.Text = ([113, 117, 101, 114, 121] : Str))) then (J9 (Jq n) n n'.Kids 1).bind fun x85 =>
    some x85 else some false).bind fun x86 =>
    some x86
    else
    if decide (n'.Kind = 5) then
    (JaW n'.Text).bind fun x91 =>
    (if x91 then (J9 (Jq n) n n'.Kids 1).bind fun x95 =>
    some x95 else some false).bind fun x96 =>
    some x96
    else
    if decide (n'.Kind = 6) then
    (JaW n'.Text).bind fun x101 =>
    some (x101 && decide ((n'.Kids.length : Int) = 0))
    else
    if decide (n'.Kind = 7) then
    (if decide (n'.Text = ([] : Str)) then (J9 (Jq n) n n'.Kids 1).bind fun x118 =>
    some x118 else some false).bind fun x119 =>
    some x119
    else
    if decide (n'.Kind = 8) then
    (if decide (n'.Text = ([] : Str)) then (J9 (Jq n) n n'.Kids 1).bind fun x118 =>
    some x118 else some false).bind fun x119 =>
    some x119
    else
    if decide (n'.Kind = 9) then
    (if decide (n'.Text = ([] : Str)) then (J9 (Jq n) n n'.Kids 1).bind fun x118 =>
    some x118 else some false).bind fun x119 =>
    some x119
    else
    if decide (n'.Kind = 10) then
    some (decide (n'.Text = ([] : Str)) && decide ((n'.Kids.length : Int) = 0))
    else
    if decide (n'.Kind = 11) then
    some (decide (n'.Text = ([] : Str)) && decide ((n'.Kids.length : Int) = 0))
    else
    some false
set_option maxHeartbeats 8000000 in
theorem Jda {rec4_0 : ((List Jc) → Option (Bool))} (ihrec4_0 : ∀ {l : (List Jc)} {ap0_0 : Option Addr} {cp0_0 : Nat} {n0 : Nat} {K : Hp} {r : Bool} (hm : rec4_0 l = some r) (hp0_0 : LiC Jc.R K ap0_0 cp0_0 4 l) (en0 : n0 = l.length), Fn Tryz.prog 77 [.slice ap0_0 n0 cp0_0] K [] (fun v K' H' => v = .bool r ∧ H' = [])) : ∀ {n : Nat} {n' : Jc} {ap0_0 : Option Addr} {cp0_0 : Nat} {K : Hp} {r : Bool}
    (hm : J1 rec4_0 n n' = some r) (hp0_0 : LiC Jc.R K ap0_0 cp0_0 4 n'.Kids),
    Fn Tryz.prog 102 [.agg #[.int .i64 n'.Kind, str n'.Text, .slice ap0_0 n'.Kids.length cp0_0, .int .i64 n'.Line]] K [] (fun v K' H' => v = .bool r ∧ H' = []) := by
 intro n
 induction n with
 | zero =>
   intro n' ap0_0 cp0_0 K r hm hp0_0
   rw [J1.eq_1] at hm; cases hm
 | succ n ih =>
   intro n' ap0_0 cp0_0 K r hm hp0_0
   refine Fn.enter Tryz.func102 Tryz.call102 rfl fun F => ?_
   rw [J1.eq_2] at hm
   refine box_rule ?_
   intro b1
   refine Jb rfl (RStep.of (load1_s r0 rfl rfl ?_))
   refine block_go rfl ?_
   refine eq_int (cond_go rfl ?_)
   refine cond_s (fun w6 => ?_) (fun w6 => ?_)
   replace hm := ift w6 hm
   refine Jb rfl (RStep.of (load1_s r0 rfl rfl (RStep.of (len_slice rfl (Jb rfl (RStep.of (load1_s r0 rfl rfl (neq_str ?_))))))))
   refine cond_s (fun g14_4 => ?_) (fun g14_4 => ?_)
   refine cond_t g14_4 (cond_t g14_4 (cond_T (cond_T (cond_T ?_))))
   obtain ⟨x29, e29, hm⟩ := bnd hm
   replace e29 := ift (or_t (or_t g14_4)) e29
   refine cond_T (cond_T (cond_T (cond_T (cond_T (cond_T ?_)))))
   refine cond_T ?_
   obtain ⟨x37, e37, hm⟩ := bnd hm
   replace e37 := ift (si e29).symm e37
   refine cond_T (cond_T (cond_T (cond_T (cond_T (cond_T ?_)))))
   refine cond_T (cond_go rfl (cond_T ?_))
   replace hm := ift (si e37).symm hm
   obtain rfl := si hm
   refine EndStep.mk _ (Hp.Le.refl _) ⟨rfl, rfl⟩ (ConvH.of (.cons r1 .nil))
   refine cond_f g14_4 (cond_f g14_4 ?_)
   refine cond_s (fun g18_4 => ?_) (fun g18_4 => ?_)
   refine cond_t g18_4 (cond_t g18_4 ?_)
   obtain ⟨x29, e29, hm⟩ := bnd hm
   replace e29 := ift (or_t (or_u g14_4 g18_4)) e29
   refine cond_T (cond_T (cond_T (cond_T (cond_T (cond_T ?_)))))
   refine cond_T ?_
   obtain ⟨x37, e37, hm⟩ := bnd hm
   replace e37 := ift (si e29).symm e37
   refine cond_T (cond_T (cond_T (cond_T (cond_T (cond_T ?_)))))
   refine cond_T (cond_go rfl (cond_T ?_))
   replace hm := ift (si e37).symm hm
   obtain rfl := si hm
   refine EndStep.mk _ (Hp.Le.refl _) ⟨rfl, rfl⟩ (ConvH.of (.cons r1 .nil))
   refine cond_f g18_4 (cond_f g18_4 ?_)
   obtain ⟨x29, e29, hm⟩ := bnd hm
   refine cond_s (fun g22_4 => ?_) (fun g22_4 => ?_)
   replace e29 := ift (or_u (or_f g14_4 g18_4) g22_4) e29
   refine cond_t g22_4 (cond_t g22_4 (cond_t g22_4 (cond_t g22_4 (cond_t g22_4 (cond_t g22_4 ?_)))))
   obtain ⟨x37, e37, hm⟩ := bnd hm
   replace e37 := ift (si e29).symm e37
   refine cond_T (cond_T (cond_T (cond_T (cond_T (cond_T ?_)))))
   refine cond_T (cond_go rfl (cond_T ?_))
   replace hm := ift (si e37).symm hm
   obtain rfl := si hm
   refine EndStep.mk _ (Hp.Le.refl _) ⟨rfl, rfl⟩ (ConvH.of (.cons r1 .nil))
   replace e29 := iff_ (or_f (or_f g14_4 g18_4) g22_4) e29
   refine Jb rfl (cond_f g22_4 (RStep.of (load1_s r0 rfl rfl (cond_f g22_4 ?_))))
   obtain ⟨x25, l25, k25, e29⟩ := ixb e29
   refine RStep.ofN (index_addr rfl rfl (hasR hp0_0.rd k25) l25 (lt_ofE rfl l25 k25) (cond_f g22_4 ?_))
   obtain ⟨ss26, cc26, hr26, hc26, hR26⟩ := LiR.get hp0_0.rd k25
   obtain ⟨a26_0, c26_0, rfl, h26_0⟩ := Jc.out hR26
   refine RStep.of (load_rd_agg ((0 : Int).toNat) _ hr26 rfl hc26 rfl (cond_f g22_4 ?_))
   obtain ⟨x27, q27, e29⟩ := bnd e29
   refine call_fn (Jag (n' := x25) q27 h26_0) .nil ?_
   rintro _ K27 _ l27 ⟨rfl, rfl⟩
   refine cond_f g22_4 (un_not (cond_f g22_4 ?_))
   obtain ⟨x37, e37, hm⟩ := bnd hm
   refine cond_s (fun g30_4 => ?_) (fun g30_4 => ?_)
   replace e37 := ift ((si e29).symm.trans (not_t (ni_t g30_4))) e37
   refine cond_t g30_4 (cond_t g30_4 (cond_t g30_4 (cond_t g30_4 (cond_t g30_4 (cond_t g30_4 ?_)))))
   refine cond_go rfl (cond_T ?_)
   replace hm := ift (si e37).symm hm
   obtain rfl := si hm
   refine EndStep.mk _ l27 ⟨rfl, rfl⟩ (ConvH.of (.cons r1 .nil))
   replace e37 := iff_ ((si e29).symm.trans (not_f (ni_f g30_4))) e37
   refine Jb rfl (cond_f g30_4 (RStep.of (load1_s r0 rfl rfl (cond_f g30_4 ?_))))
   obtain ⟨x33, l33, k33, e37⟩ := ixb e37
   refine RStep.ofN (index_addr rfl rfl (hasR (LiC.mono Jc.R_ok l27 hp0_0).rd k33) l33 (lt_ofE rfl l33 k33) (cond_f g30_4 ?_))
   obtain ⟨ss34, cc34, hr34, hc34, hR34⟩ := LiR.get (LiC.mono Jc.R_ok l27 hp0_0).rd k33
   obtain ⟨a34_0, c34_0, rfl, h34_0⟩ := Jc.out hR34
   refine RStep.of (load_rd_agg ((1 : Int).toNat) _ hr34 rfl hc34 rfl (cond_f g30_4 ?_))
   obtain ⟨x35, q35, e37⟩ := bnd e37
   refine call_fn (JcG ihrec4_0 (n' := x33) q35 h34_0) .nil ?_
   rintro _ K35 _ l35 ⟨rfl, rfl⟩
   refine cond_f g30_4 (un_not (cond_f g30_4 (cond_go rfl ?_)))
   refine cond_s (fun w37 => ?_) (fun w37 => ?_)
   replace hm := ift ((si e37).symm.trans (not_t (ni_t w37))) hm
   obtain rfl := si hm
   refine EndStep.mk _ (l27.trans l35) ⟨rfl, rfl⟩ (ConvH.of (.cons r1 .nil))
   replace hm := iff_ ((si e37).symm.trans (not_f (ni_f w37))) hm
   refine eq_int ?_
   obtain ⟨x46, e46, hm⟩ := bnd hm
   refine cond_s (fun g40_6 => ?_) (fun g40_6 => ?_)
   replace e46 := ift g40_6 e46
   refine cond_t g40_6 (cond_t g40_6 (cond_t g40_6 (cond_t g40_6 (cond_t g40_6 ?_))))
   replace hm := ift (si e46).symm hm
   refine cond_T (cond_T (cond_T (cond_T (cond_T (cond_T ?_)))))
   refine cond_T (cond_T (cond_T ?_))
   obtain rfl := si hm
   refine EndStep.mk _ (l27.trans l35) ⟨rfl, rfl⟩ (ConvH.of (.cons r1 .nil))
   replace e46 := iff_ g40_6 e46
   refine Jb rfl (cond_f g40_6 (RStep.of (load1_s r0 rfl rfl (cond_f g40_6 ?_))))
   obtain ⟨x43, l43, k43, e46⟩ := ixb e46
   refine RStep.ofN (index_addr rfl rfl (hasR (LiC.mono Jc.R_ok (l27.trans l35) hp0_0).rd k43) l43 (lt_ofE rfl l43 k43) (cond_f g40_6 ?_))
   obtain ⟨ss44, cc44, hr44, hc44, hR44⟩ := LiR.get (LiC.mono Jc.R_ok (l27.trans l35) hp0_0).rd k43
   obtain ⟨a44_0, c44_0, rfl, h44_0⟩ := Jc.out hR44
   refine RStep.of (load_rd_agg ((2 : Int).toNat) _ hr44 rfl hc44 rfl (cond_f g40_6 ?_))
   obtain ⟨x45, q45, e46⟩ := bnd e46
   refine call_fn (JcG ihrec4_0 (n' := x43) q45 h44_0) .nil ?_
   rintro _ K45 _ l45 ⟨rfl, rfl⟩
   refine cond_f g40_6 ?_
   refine cond_s (fun g47_6 => ?_) (fun g47_6 => ?_)
   replace hm := ift ((si e46).symm.trans g47_6) hm
   refine cond_t g47_6 (cond_t g47_6 (cond_t g47_6 (cond_t g47_6 (cond_t g47_6 (cond_t g47_6 ?_)))))
   refine cond_t g47_6 (cond_t g47_6 ?_)
   obtain rfl := si hm
   refine EndStep.mk _ ((l27.trans l35).trans l45) ⟨rfl, rfl⟩ (ConvH.of (.cons r1 .nil))
   replace hm := iff_ ((si e46).symm.trans g47_6) hm
   refine Jb rfl (cond_f g47_6 (RStep.of (load1_s r0 rfl rfl (cond_f g47_6 ?_))))
   obtain ⟨x50, l50, k50, hm⟩ := ixb hm
   refine RStep.ofN (index_addr rfl rfl (hasR (LiC.mono Jc.R_ok ((l27.trans l35).trans l45) hp0_0).rd k50) l50 (lt_ofE rfl l50 k50) (cond_f g47_6 (eptr_field rfl (hasR (LiC.mono Jc.R_ok ((l27.trans l35).trans l45) hp0_0).rd k50) (cond_f g47_6 ?_))))
   obtain ⟨ss52, cc52, hr52, hc52, hR52⟩ := LiR.get (LiC.mono Jc.R_ok ((l27.trans l35).trans l45) hp0_0).rd k50
   obtain ⟨a52_0, c52_0, rfl, h52_0⟩ := Jc.out hR52
   refine RStep.of (load_rd ((2 : Int).toNat) 0 _ _ hr52 rfl hc52 rfl rfl (cond_f g47_6 (eq_int (cond_f g47_6 ?_))))
   obtain ⟨x60, e60, hm⟩ := bnd hm
   refine cond_s (fun g54_6 => ?_) (fun g54_6 => ?_)
   replace e60 := ift g54_6 e60
   refine Jb rfl (cond_t g54_6 (RStep.of (load1_s r0 rfl rfl (cond_t g54_6 ?_))))
   obtain ⟨x57, l57, k57, e60⟩ := ixb e60
   refine RStep.ofN (index_addr rfl rfl (hasR (LiC.mono Jc.R_ok ((l27.trans l35).trans l45) hp0_0).rd k57) l57 (lt_ofE rfl l57 k57) (cond_t g54_6 ?_))
   obtain ⟨ss58, cc58, hr58, hc58, hR58⟩ := LiR.get (LiC.mono Jc.R_ok ((l27.trans l35).trans l45) hp0_0).rd k57
   obtain ⟨a58_0, c58_0, rfl, h58_0⟩ := Jc.out hR58
   refine RStep.of (load_rd_agg ((2 : Int).toNat) _ hr58 rfl hc58 rfl (cond_t g54_6 ?_))
   obtain ⟨x59, q59, e60⟩ := bnd e60
   refine call_fn (ih (n' := x57) q59 h58_0) .nil ?_
   rintro _ K59 _ l59 ⟨rfl, rfl⟩
   refine cond_f g47_6 (cond_t g54_6 (cond_f g47_6 ?_))
   obtain rfl := si hm
   refine EndStep.mk _ (((l27.trans l35).trans l45).trans l59) ⟨(by rw [← (si e60)] <;> rfl), rfl⟩ (ConvH.of (.cons r1 .nil))
   replace e60 := iff_ g54_6 e60
   refine cond_f g54_6 (cond_f g54_6 (cond_f g54_6 (cond_f g54_6 (cond_f g47_6 (cond_f g54_6 ?_)))))
   refine cond_f g47_6 ?_
   obtain rfl := si hm
   refine EndStep.mk _ ((l27.trans l35).trans l45) ⟨(by rw [← ((si e60).symm).symm] <;> rfl), rfl⟩ (ConvH.of (.cons r1 .nil))
   replace hm := iff_ w6 hm
   refine eq_int (cond_go rfl ?_)
   refine cond_s (fun w62 => ?_) (fun w62 => ?_)
   replace hm := ift w62 hm
   refine Jb rfl (RStep.of (load1_s r0 rfl rfl ?_))
   obtain ⟨x66, q66, hm⟩ := bnd hm
   refine call_fn (Jco (s := n'.Text) q66) .nil ?_
   rintro _ K66 _ l66 ⟨rfl, rfl⟩
   obtain ⟨x71, e71, hm⟩ := bnd hm
   refine cond_s (fun g67_8 => ?_) (fun g67_8 => ?_)
   replace e71 := ift g67_8 e71
   refine Jb rfl (cond_t g67_8 (RStep.of (load1_s r0 rfl rfl (cond_t g67_8 ?_))))
   obtain ⟨x70, q70, e71⟩ := bnd e71
   refine call_fn (J3 (Jag (n := n)) (many := 1) q70 (LiC.mono Jc.R_ok l66 hp0_0) rfl) .nil ?_
   rintro _ K70 _ l70 ⟨rfl, rfl⟩
   refine cond_t g67_8 ?_
   obtain rfl := si hm
   refine EndStep.mk _ (l66.trans l70) ⟨(by rw [← (si e71)] <;> rfl), rfl⟩ (ConvH.of (.cons r1 .nil))
   replace e71 := iff_ g67_8 e71
   refine cond_f g67_8 (cond_f g67_8 (cond_f g67_8 ?_))
   obtain rfl := si hm
   refine EndStep.mk _ l66 ⟨(by rw [← ((si e71).symm).symm] <;> rfl), rfl⟩ (ConvH.of (.cons r1 .nil))
   replace hm := iff_ w62 hm
   refine eq_int (cond_go rfl ?_)
   refine cond_s (fun w72 => ?_) (fun w72 => ?_)
   replace hm := ift w72 hm
   refine Jb rfl (RStep.of (load1_s r0 rfl rfl (eq_str ?_)))
   refine cond_s (fun g77_10 => ?_) (fun g77_10 => ?_)
   refine cond_t g77_10 (cond_t g77_10 (cond_t g77_10 ?_))
   obtain ⟨x86, e86, hm⟩ := bnd hm
   replace e86 := ift (or_t g77_10) e86
   refine cond_T (Jb rfl (cond_T (RStep.of (load1_s r0 rfl rfl (cond_T ?_)))))
   obtain ⟨x85, q85, e86⟩ := bnd e86
   refine call_fn (J3 (Jag (n := n)) (many := 1) q85 hp0_0 rfl) .nil ?_
   rintro _ K85 _ l85 ⟨rfl, rfl⟩
   refine cond_T ?_
   obtain rfl := si hm
   refine EndStep.mk _ l85 ⟨(by rw [← (si e86)] <;> rfl), rfl⟩ (ConvH.of (.cons r1 .nil))
   refine Jb rfl (cond_f g77_10 (RStep.of (load1_s r0 rfl rfl (cond_f g77_10 (eq_str (cond_f g77_10 ?_))))))
   obtain ⟨x86, e86, hm⟩ := bnd hm
   refine cond_s (fun g82_10 => ?_) (fun g82_10 => ?_)
   replace e86 := ift (or_u g77_10 g82_10) e86
   refine Jb rfl (cond_t g82_10 (RStep.of (load1_s r0 rfl rfl (cond_t g82_10 ?_))))
   obtain ⟨x85, q85, e86⟩ := bnd e86
   refine call_fn (J3 (Jag (n := n)) (many := 1) q85 hp0_0 rfl) .nil ?_
   rintro _ K85 _ l85 ⟨rfl, rfl⟩
   refine cond_t g82_10 ?_
   obtain rfl := si hm
   refine EndStep.mk _ l85 ⟨(by rw [← (si e86)] <;> rfl), rfl⟩ (ConvH.of (.cons r1 .nil))
   replace e86 := iff_ (or_f g77_10 g82_10) e86
   refine cond_f g82_10 (cond_f g82_10 (cond_f g82_10 ?_))
   obtain rfl := si hm
   refine EndStep.mk _ (Hp.Le.refl _) ⟨(by rw [← ((si e86).symm).symm] <;> rfl), rfl⟩ (ConvH.of (.cons r1 .nil))
   replace hm := iff_ w72 hm
   refine eq_int (cond_go rfl ?_)
   refine cond_s (fun w87 => ?_) (fun w87 => ?_)
   replace hm := ift w87 hm
   refine Jb rfl (RStep.of (load1_s r0 rfl rfl ?_))
   obtain ⟨x91, q91, hm⟩ := bnd hm
   refine call_fn (JbP (s := n'.Text) q91) .nil ?_
   rintro _ K91 _ l91 ⟨rfl, rfl⟩
   obtain ⟨x96, e96, hm⟩ := bnd hm
   refine cond_s (fun g92_12 => ?_) (fun g92_12 => ?_)
   replace e96 := ift g92_12 e96
   refine Jb rfl (cond_t g92_12 (RStep.of (load1_s r0 rfl rfl (cond_t g92_12 ?_))))
   obtain ⟨x95, q95, e96⟩ := bnd e96
   refine call_fn (J3 (Jag (n := n)) (many := 1) q95 (LiC.mono Jc.R_ok l91 hp0_0) rfl) .nil ?_
   rintro _ K95 _ l95 ⟨rfl, rfl⟩
   refine cond_t g92_12 ?_
   obtain rfl := si hm
   refine EndStep.mk _ (l91.trans l95) ⟨(by rw [← (si e96)] <;> rfl), rfl⟩ (ConvH.of (.cons r1 .nil))
   replace e96 := iff_ g92_12 e96
   refine cond_f g92_12 (cond_f g92_12 (cond_f g92_12 ?_))
   obtain rfl := si hm
   refine EndStep.mk _ l91 ⟨(by rw [← ((si e96).symm).symm] <;> rfl), rfl⟩ (ConvH.of (.cons r1 .nil))
   replace hm := iff_ w87 hm
   refine eq_int (cond_go rfl ?_)
   refine cond_s (fun w97 => ?_) (fun w97 => ?_)
   replace hm := ift w97 hm
   refine Jb rfl (RStep.of (load1_s r0 rfl rfl ?_))
   obtain ⟨x101, q101, hm⟩ := bnd hm
   refine call_fn (JbP (s := n'.Text) q101) .nil ?_
   rintro _ K101 _ l101 ⟨rfl, rfl⟩
   refine cond_s (fun g102_14 => ?_) (fun g102_14 => ?_)
   refine Jb rfl (cond_t g102_14 (RStep.of (load1_s r0 rfl rfl (cond_t g102_14 (RStep.of (len_slice rfl (cond_t g102_14 ?_)))))))
   refine eq_int (cond_t g102_14 ?_)
   obtain rfl := si hm
   refine EndStep.mk _ l101 ⟨(by rw [← (and_e (b := decide ((n'.Kids.length : Int) = 0)) g102_14)] <;> rfl), rfl⟩ (ConvH.of (.cons r1 .nil))
   refine cond_f g102_14 (cond_f g102_14 (cond_f g102_14 (cond_f g102_14 ?_)))
   obtain rfl := si hm
   refine EndStep.mk _ l101 ⟨(by rw [← ((and_f g102_14)).symm] <;> rfl), rfl⟩ (ConvH.of (.cons r1 .nil))
   replace hm := iff_ w97 hm
   refine eq_int (cond_go rfl ?_)
   refine cond_s (fun w108 => ?_) (fun w108 => ?_)
   replace hm := ift w108 hm
   refine cond_go rfl (cond_t w108 (Jb rfl (RStep.of (load1_s r0 rfl rfl (eq_str ?_)))))
   obtain ⟨x119, e119, hm⟩ := bnd hm
   refine cond_s (fun g115_18 => ?_) (fun g115_18 => ?_)
   replace e119 := ift g115_18 e119
   refine Jb rfl (cond_t g115_18 (RStep.of (load1_s r0 rfl rfl (cond_t g115_18 ?_))))
   obtain ⟨x118, q118, e119⟩ := bnd e119
   refine call_fn (J3 (Jag (n := n)) (many := 1) q118 hp0_0 rfl) .nil ?_
   rintro _ K118 _ l118 ⟨rfl, rfl⟩
   refine cond_t g115_18 ?_
   obtain rfl := si hm
   refine EndStep.mk _ l118 ⟨(by rw [← (si e119)] <;> rfl), rfl⟩ (ConvH.of (.cons r1 .nil))
   replace e119 := iff_ g115_18 e119
   refine cond_f g115_18 (cond_f g115_18 (cond_f g115_18 ?_))
   obtain rfl := si hm
   refine EndStep.mk _ (Hp.Le.refl _) ⟨(by rw [← ((si e119).symm).symm] <;> rfl), rfl⟩ (ConvH.of (.cons r1 .nil))
   replace hm := iff_ w108 hm
   refine eq_int (cond_go rfl ?_)
   refine cond_s (fun w108 => ?_) (fun w108 => ?_)
   replace hm := ift w108 hm
   refine cond_go rfl (cond_t w108 (Jb rfl (RStep.of (load1_s r0 rfl rfl (eq_str ?_)))))
   obtain ⟨x119, e119, hm⟩ := bnd hm
   refine cond_s (fun g115_18 => ?_) (fun g115_18 => ?_)
   replace e119 := ift g115_18 e119
   refine Jb rfl (cond_t g115_18 (RStep.of (load1_s r0 rfl rfl (cond_t g115_18 ?_))))
   obtain ⟨x118, q118, e119⟩ := bnd e119
   refine call_fn (J3 (Jag (n := n)) (many := 1) q118 hp0_0 rfl) .nil ?_
   rintro _ K118 _ l118 ⟨rfl, rfl⟩
   refine cond_t g115_18 ?_
   obtain rfl := si hm
   refine EndStep.mk _ l118 ⟨(by rw [← (si e119)] <;> rfl), rfl⟩ (ConvH.of (.cons r1 .nil))
   replace e119 := iff_ g115_18 e119
   refine cond_f g115_18 (cond_f g115_18 (cond_f g115_18 ?_))
   obtain rfl := si hm
   refine EndStep.mk _ (Hp.Le.refl _) ⟨(by rw [← ((si e119).symm).symm] <;> rfl), rfl⟩ (ConvH.of (.cons r1 .nil))
   replace hm := iff_ w108 hm
   refine eq_int (cond_go rfl ?_)
   refine cond_s (fun w108 => ?_) (fun w108 => ?_)
   replace hm := ift w108 hm
   refine Jb rfl (RStep.of (load1_s r0 rfl rfl (eq_str ?_)))
   obtain ⟨x119, e119, hm⟩ := bnd hm
   refine cond_s (fun g115_18 => ?_) (fun g115_18 => ?_)
   replace e119 := ift g115_18 e119
   refine Jb rfl (cond_t g115_18 (RStep.of (load1_s r0 rfl rfl (cond_t g115_18 ?_))))
   obtain ⟨x118, q118, e119⟩ := bnd e119
   refine call_fn (J3 (Jag (n := n)) (many := 1) q118 hp0_0 rfl) .nil ?_
   rintro _ K118 _ l118 ⟨rfl, rfl⟩
   refine cond_t g115_18 ?_
   obtain rfl := si hm
   refine EndStep.mk _ l118 ⟨(by rw [← (si e119)] <;> rfl), rfl⟩ (ConvH.of (.cons r1 .nil))
   replace e119 := iff_ g115_18 e119
   refine cond_f g115_18 (cond_f g115_18 (cond_f g115_18 ?_))
   obtain rfl := si hm
   refine EndStep.mk _ (Hp.Le.refl _) ⟨(by rw [← ((si e119).symm).symm] <;> rfl), rfl⟩ (ConvH.of (.cons r1 .nil))
   replace hm := iff_ w108 hm
   refine eq_int (cond_go rfl ?_)
   refine cond_s (fun w120 => ?_) (fun w120 => ?_)
   replace hm := ift w120 hm
   refine cond_go rfl (cond_t w120 (Jb rfl (RStep.of (load1_s r0 rfl rfl (eq_str ?_)))))
   refine cond_s (fun g126_21 => ?_) (fun g126_21 => ?_)
   refine Jb rfl (cond_t g126_21 (RStep.of (load1_s r0 rfl rfl (cond_t g126_21 (RStep.of (len_slice rfl (cond_t g126_21 ?_)))))))
   refine eq_int (cond_t g126_21 ?_)
   obtain rfl := si hm
   refine EndStep.mk _ (Hp.Le.refl _) ⟨(by rw [← (and_e (b := decide ((n'.Kids.length : Int) = 0)) g126_21)] <;> rfl), rfl⟩ (ConvH.of (.cons r1 .nil))
   refine cond_f g126_21 (cond_f g126_21 (cond_f g126_21 (cond_f g126_21 ?_)))
   obtain rfl := si hm
   refine EndStep.mk _ (Hp.Le.refl _) ⟨(by rw [← ((and_f g126_21)).symm] <;> rfl), rfl⟩ (ConvH.of (.cons r1 .nil))
   replace hm := iff_ w120 hm
   refine eq_int (cond_go rfl ?_)
   refine cond_s (fun w120 => ?_) (fun w120 => ?_)
   replace hm := ift w120 hm
   refine Jb rfl (RStep.of (load1_s r0 rfl rfl (eq_str ?_)))
   refine cond_s (fun g126_21 => ?_) (fun g126_21 => ?_)
   refine Jb rfl (cond_t g126_21 (RStep.of (load1_s r0 rfl rfl (cond_t g126_21 (RStep.of (len_slice rfl (cond_t g126_21 ?_)))))))
   refine eq_int (cond_t g126_21 ?_)
   obtain rfl := si hm
   refine EndStep.mk _ (Hp.Le.refl _) ⟨(by rw [← (and_e (b := decide ((n'.Kids.length : Int) = 0)) g126_21)] <;> rfl), rfl⟩ (ConvH.of (.cons r1 .nil))
   refine cond_f g126_21 (cond_f g126_21 (cond_f g126_21 (cond_f g126_21 ?_)))
   obtain rfl := si hm
   refine EndStep.mk _ (Hp.Le.refl _) ⟨(by rw [← ((and_f g126_21)).symm] <;> rfl), rfl⟩ (ConvH.of (.cons r1 .nil))
   replace hm := iff_ w120 hm
   obtain rfl := si hm
   refine EndStep.mk _ (Hp.Le.refl _) ⟨rfl, rfl⟩ (ConvH.of (.cons r1 .nil))

noncomputable def Jbo (rec_ : ((List Jc) → Option (Bool))) (n : Nat) : List Jc → Nat → Option (Fl (Bool) (Unit))
  | [], _ => some (Fl.go ())
  | e0 :: xs0, i0 =>
    (J1 rec_ n e0).bind fun x13 =>
    if (!x13) then
    some (Fl.ret false)
    else
    Jbo rec_ n xs0 (i0 + 1)
noncomputable def Ja9 : Nat → (List Jc) → Option (Bool)
  | 0, _ => none
  | n + 1, l =>
    (chk (l.length ≤ szMax)).bind fun _ =>
    (Jbo (Ja9 n) n l 0).bind fun s0 => s0.el some fun t0 =>
    some true
set_option maxHeartbeats 8000000 in
theorem Jdr : ∀ {n : Nat} {l : (List Jc)} {ap0_0 : Option Addr} {cp0_0 : Nat} {n0 : Nat} {K : Hp} {r : Bool}
    (hm : Ja9 n l = some r) (hp0_0 : LiC Jc.R K ap0_0 cp0_0 4 l) (en0 : n0 = l.length),
    Fn Tryz.prog 77 [.slice ap0_0 n0 cp0_0] K [] (fun v K' H' => v = .bool r ∧ H' = []) := by
 intro n
 induction n with
 | zero =>
   intro l ap0_0 cp0_0 n0 K r hm hp0_0 en0
   rw [Ja9.eq_1] at hm; cases hm
 | succ n ih =>
   intro l ap0_0 cp0_0 n0 K r hm hp0_0 en0
   subst en0
   refine Fn.enter Tryz.func77 Tryz.call77 rfl fun F => ?_
   rw [Ja9.eq_2] at hm
   refine RStep.of (len_slice rfl ?_)
   obtain ⟨hk0, hm⟩ := chkb hm
   obtain ⟨s0, hl0, hm⟩ := bnd hm
   refine code_cut (σ := (Unit)) [2, 3, 6, 7, 8, 9, 10, 11, 12, 13, 14, 15] (fun t0 => []) (fun t0 => [F]) (fun zz K1 => match zz with | t0 => s0 = Fl.go t0) ?_ ?_
   refine block_go rfl ?_
   refine loop_rule (σ := Nat) [2, 3, 6, 7, 8, 9, 10, 11, 12, 13, 14, 15] (fun i0 => [(6, .int .i64 (i0 : Int))]) (fun i0 => [F]) (fun zz K1 => match zz with | i0 => Jbo (Ja9 n) n (l.drop i0) i0 = some s0) (fun zz => l.length - zz) (0) rfl ⟨rfl, trivial⟩ (ConvH.of (.cons r0 .nil)) hl0 ?_
   clear hl0
   rintro i0 Kb0 lk0 hl0 j0
   conv at hl0 => whnf
   refine cond_go rfl ?_
   refine cond_s (fun w0 => ?_) (fun w0 => ?_)
   obtain ⟨e0, hx0, hd0⟩ := ltx w0
   rw [hd0, Jbo.eq_2] at hl0
   refine block_go rfl ?_
   refine RStep.ofN (index_addr rfl rfl (hasR (LiC.mono Jc.R_ok lk0 hp0_0).rd hx0) (nn _) (lt_ofN hx0) ?_)
   obtain ⟨ss12, cc12, hr12, hc12, hR12⟩ := LiR.get (LiC.mono Jc.R_ok lk0 hp0_0).rd hx0
   obtain ⟨a12_0, c12_0, rfl, h12_0⟩ := Jc.out hR12
   refine RStep.of (load_rd_agg i0 _ hr12 rfl hc12 rfl ?_)
   obtain ⟨x13, q13, hl0⟩ := bnd hl0
   refine call_fn (Jda ih (n' := e0) q13 h12_0) .nil ?_
   rintro _ K13 _ l13 ⟨rfl, rfl⟩
   refine un_not (cond_go rfl ?_)
   refine cond_s (fun w14 => ?_) (fun w14 => ?_)
   replace hl0 := ift (not_t (ni_t w14)) hl0
   obtain rfl := si hl0
   replace hm := elr hm
   obtain rfl := si hm
   refine EndStep.mk _ (lk0.trans l13) ⟨rfl, rfl⟩ (ConvH.of (.cons r0 .nil))
   replace hl0 := iff_ (not_f (ni_f w14)) hl0
   refine int_in (cntz hx0 hk0) ?_
   refine RoundStep.mk (i0 + 1) ⟨rfl, trivial⟩ (by repeat (first | exact trivial | refine And.intro rfl ?_)) (ConvH.of (.cons r0 .nil)) (lk0.trans l13) (ltm hx0) hl0
   rw [lty w0, Jbo.eq_1] at hl0
   refine cond_T ?_
   refine MeetStep.mk (()) trivial (by repeat (first | exact trivial | refine And.intro rfl ?_)) (ConvH.of (.cons r0 .nil)) lk0 (si hl0).symm
   rintro t0 Kt0 lt0 rfl j0
   replace hm := elg hm
   obtain rfl := si hm
   refine EndStep.mk _ lt0 ⟨rfl, rfl⟩ (ConvH.of (.cons r0 .nil))

noncomputable def JbI (n : Nat) (n' : Jc) : Option (Bool) :=
  (if (decide (n'.Kind = 1) && decide (n'.Text = ([] : Str))) then (JbJ n n').bind fun x13 =>
  some (decide (x13 ≤ 512)) else some false).bind fun x15 =>
  (if x15 then (Jbz n n').bind fun x18 =>
  some (decide (x18 ≤ 32)) else some false).bind fun x20 =>
  (if x20 then (Ja9 n n'.Kids).bind fun x24 =>
  some x24 else some false).bind fun x25 =>
  some x25
set_option maxHeartbeats 8000000 in
theorem Jdh {n : Nat} {n' : Jc} {ap0_0 : Option Addr} {cp0_0 : Nat} {K : Hp} {r : Bool}
    (hm : JbI n n' = some r) (hp0_0 : LiC Jc.R K ap0_0 cp0_0 4 n'.Kids) :
    Fn Tryz.prog 50 [.agg #[.int .i64 n'.Kind, str n'.Text, .slice ap0_0 n'.Kids.length cp0_0, .int .i64 n'.Line]] K [] (fun v K' H' => v = .bool r ∧ H' = []) := by
 refine Fn.enter Tryz.func50 Tryz.call50 rfl fun F => ?_
 unfold JbI at hm
 refine box_rule ?_
 intro b1
 refine Jb rfl (RStep.of (load1_s r0 rfl rfl (eq_int ?_)))
 refine cond_s (fun g6_1 => ?_) (fun g6_1 => ?_)
 refine Jb rfl (cond_t g6_1 (RStep.of (load1_s r0 rfl rfl (cond_t g6_1 (eq_str (cond_t g6_1 ?_))))))
 obtain ⟨x15, e15, hm⟩ := bnd hm
 refine cond_s (fun g11_1 => ?_) (fun g11_1 => ?_)
 replace e15 := ift (and_t g6_1 g11_1) e15
 refine RStep.of (loadn_s r0 rfl (Nat.le_of_ble_eq_true rfl) (cond_t g11_1 ?_))
 obtain ⟨x13, q13, e15⟩ := bnd e15
 refine call_fn (Jdk (n' := n') q13 hp0_0) .nil ?_
 rintro _ K13 _ l13 ⟨rfl, rfl⟩
 refine cond_t g11_1 (cond_t g11_1 ?_)
 obtain ⟨x20, e20, hm⟩ := bnd hm
 refine cond_s (fun g16_1 => ?_) (fun g16_1 => ?_)
 replace e20 := ift ((si e15).symm.trans g16_1) e20
 refine RStep.of (loadn_s r0 rfl (Nat.le_of_ble_eq_true rfl) (cond_t g16_1 ?_))
 obtain ⟨x18, q18, e20⟩ := bnd e20
 refine call_fn (Jde (n' := n') q18 (LiC.mono Jc.R_ok l13 hp0_0)) .nil ?_
 rintro _ K18 _ l18 ⟨rfl, rfl⟩
 refine cond_t g16_1 (cond_t g16_1 ?_)
 obtain ⟨x25, e25, hm⟩ := bnd hm
 refine cond_s (fun g21_1 => ?_) (fun g21_1 => ?_)
 replace e25 := ift ((si e20).symm.trans g21_1) e25
 refine Jb rfl (cond_t g21_1 (RStep.of (load1_s r0 rfl rfl (cond_t g21_1 ?_))))
 obtain ⟨x24, q24, e25⟩ := bnd e25
 refine call_fn (Jdr q24 (LiC.mono Jc.R_ok (l13.trans l18) hp0_0) rfl) .nil ?_
 rintro _ K24 _ l24 ⟨rfl, rfl⟩
 refine cond_t g21_1 ?_
 obtain rfl := si hm
 refine EndStep.mk _ ((l13.trans l18).trans l24) ⟨(by rw [← (si e25)] <;> rfl), rfl⟩ (ConvH.of (.cons r1 .nil))
 replace e25 := iff_ ((si e20).symm.trans g21_1) e25
 refine cond_f g21_1 (cond_f g21_1 (cond_f g21_1 ?_))
 obtain rfl := si hm
 refine EndStep.mk _ (l13.trans l18) ⟨(by rw [← ((si e25).symm).symm] <;> rfl), rfl⟩ (ConvH.of (.cons r1 .nil))
 replace e20 := iff_ ((si e15).symm.trans g16_1) e20
 refine cond_f g16_1 (cond_f g16_1 (cond_f g16_1 ?_))
 obtain ⟨x25, e25, hm⟩ := bnd hm
 replace e25 := iff_ (si e20).symm e25
 refine cond_F (cond_F (cond_F (cond_F ?_)))
 obtain rfl := si hm
 refine EndStep.mk _ l13 ⟨(by rw [← ((si e25).symm).symm] <;> rfl), rfl⟩ (ConvH.of (.cons r1 .nil))
 replace e15 := iff_ (and_g g6_1 g11_1) e15
 refine cond_f g11_1 (cond_f g11_1 (cond_f g11_1 ?_))
 obtain ⟨x20, e20, hm⟩ := bnd hm
 replace e20 := iff_ (si e15).symm e20
 refine cond_F (cond_F (cond_F (cond_F ?_)))
 obtain ⟨x25, e25, hm⟩ := bnd hm
 replace e25 := iff_ (si e20).symm e25
 refine cond_F (cond_F (cond_F (cond_F ?_)))
 obtain rfl := si hm
 refine EndStep.mk _ (Hp.Le.refl _) ⟨(by rw [← ((si e25).symm).symm] <;> rfl), rfl⟩ (ConvH.of (.cons r1 .nil))
 refine cond_f g6_1 (cond_f g6_1 (cond_f g6_1 ?_))
 obtain ⟨x15, e15, hm⟩ := bnd hm
 replace e15 := iff_ (and_f g6_1) e15
 refine cond_F (cond_F (cond_F (cond_F ?_)))
 obtain ⟨x20, e20, hm⟩ := bnd hm
 replace e20 := iff_ (si e15).symm e20
 refine cond_F (cond_F (cond_F (cond_F ?_)))
 obtain ⟨x25, e25, hm⟩ := bnd hm
 replace e25 := iff_ (si e20).symm e25
 refine cond_F (cond_F (cond_F (cond_F ?_)))
 obtain rfl := si hm
 refine EndStep.mk _ (Hp.Le.refl _) ⟨(by rw [← ((si e25).symm).symm] <;> rfl), rfl⟩ (ConvH.of (.cons r1 .nil))

noncomputable def Jbm (s : Str) : Option (Bool) :=
  some (((decide (s = ([109, 101, 116, 104, 111, 100] : Str)) || decide (s = ([104, 111, 115, 116] : Str))) || decide (s = ([112, 97, 116, 104] : Str))) || decide (s = ([113, 117, 101, 114, 121] : Str)))
set_option maxHeartbeats 8000000 in
theorem Jb5 {s : Str} {K : Hp} {r : Bool}
    (hm : Jbm s = some r)  :
    Fn Tryz.prog 63 [str s] K [] (fun v K' H' => v = .bool r ∧ H' = []) := by
 refine Fn.enter Tryz.func63 Tryz.call63 rfl fun F => ?_
 unfold Jbm at hm
 refine eq_str ?_
 refine cond_s (fun g5_1 => ?_) (fun g5_1 => ?_)
 refine cond_t g5_1 (cond_t g5_1 (cond_T (cond_T (cond_T (cond_T ?_)))))
 refine cond_T (cond_T ?_)
 obtain rfl := si hm
 refine EndStep.mk _ (Hp.Le.refl _) ⟨(by rw [← ((or_t (or_t (or_t g5_1)))).symm] <;> rfl), rfl⟩ (ConvH.of (.cons r0 .nil))
 refine cond_f g5_1 (eq_str (cond_f g5_1 ?_))
 refine cond_s (fun g9_1 => ?_) (fun g9_1 => ?_)
 refine cond_t g9_1 (cond_t g9_1 (cond_T (cond_T (cond_T ?_))))
 obtain rfl := si hm
 refine EndStep.mk _ (Hp.Le.refl _) ⟨(by rw [← ((or_t (or_t (or_u g5_1 g9_1)))).symm] <;> rfl), rfl⟩ (ConvH.of (.cons r0 .nil))
 refine cond_f g9_1 (eq_str (cond_f g9_1 ?_))
 refine cond_s (fun g13_1 => ?_) (fun g13_1 => ?_)
 refine cond_t g13_1 (cond_t g13_1 ?_)
 obtain rfl := si hm
 refine EndStep.mk _ (Hp.Le.refl _) ⟨(by rw [← ((or_t (or_u (or_f g5_1 g9_1) g13_1))).symm] <;> rfl), rfl⟩ (ConvH.of (.cons r0 .nil))
 refine cond_f g13_1 (eq_str (cond_f g13_1 ?_))
 obtain rfl := si hm
 refine EndStep.mk _ (Hp.Le.refl _) ⟨(by rw [← (or_e (b := decide (s = ([113, 117, 101, 114, 121] : Str))) (or_f (or_f g5_1 g9_1) g13_1))] <;> rfl), rfl⟩ (ConvH.of (.cons r0 .nil))
