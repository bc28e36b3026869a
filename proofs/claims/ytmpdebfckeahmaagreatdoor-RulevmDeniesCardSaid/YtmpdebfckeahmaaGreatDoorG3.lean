/- Functions of the program: mirrors, and that a call returns what the mirror says. Printed by gen.py. -/
import Derived.Test.YtmpdebfckeahmaaGreatDoorG2
set_option linter.unusedVariables false
set_option linter.unusedSimpArgs false
open Go Go.SL Go.Proofs
noncomputable section
set_option maxRecDepth 1000000
set_option maxHeartbeats 8000000
def JaH (s : Str) : Nat → Str → Int → Option (Fl (Int × Str) (Str × Int))
  | 0, _, _ => none
  | aP + 1, ac, aM =>
    if decide (aM < (s.length : Int)) then
    (ix s aM).bind fun aN =>
    if decide ((aN.toNat : Int) = 34) then
    (chk (InI (aM + 1))).bind fun _ =>
    some (Fl.ret ((aM + 1), ac))
    else
    if decide ((aN.toNat : Int) = 92) then
    (chk (InI (aM + 1))).bind fun _ =>
    if decide ((aM + 1) = (s.length : Int)) then
    some (Fl.ret (0, ([] : Str)))
    else
    (ix s (aM + 1)).bind fun aQ =>
    (if decide ((aQ.toNat : Int) ≠ 34) then (ix s (aM + 1)).bind fun aR =>
    some (decide ((aR.toNat : Int) ≠ 92)) else some false).bind fun aS =>
    if aS then
    some (Fl.ret (0, ([] : Str)))
    else
    (ix s (aM + 1)).bind fun aO =>
    (chk (ac.length + ([aO] : Str).length ≤ lim)).bind fun _ =>
    (chk (InI ((aM + 1) + 1))).bind fun _ =>
    JaH s aP (ac ++ ([aO] : Str)) ((aM + 1) + 1)
    else
    if (decide ((aN.toNat : Int) < 32) || decide ((aN.toNat : Int) > 126)) then
    some (Fl.ret (0, ([] : Str)))
    else
    (chk (ac.length + ([aN] : Str).length ≤ lim)).bind fun _ =>
    (chk (InI (aM + 1))).bind fun _ =>
    JaH s aP (ac ++ ([aN] : Str)) (aM + 1)
    else
    some (Fl.go (ac, aM))
def JcU (n : Nat) (s : Str) : Option (Int × Str) :=
  (JaH s n [] 1).bind fun s0 => s0.el some fun t0 =>
  some (0, ([] : Str))
theorem JeJ {n : Nat} {s : Str} {K : Hp} {r : Int × Str}
    (hm : JcU n s = some r)  :
    Fn Tryz.prog 250 [str s] K [] (fun v K' H' => v = .tuple #[.int .i64 r.1, str r.2] ∧ H' = []) := by
 refine Fn.enter Tryz.func250 Tryz.call250 rfl fun F => ?_
 unfold JcU at hm
 obtain ⟨s0, aN, hm⟩ := bnd hm
 refine nilC eU 5 1 ?_
 refine lD (σ := (Str × Int) × Option Addr × Nat) [2, 3, 4, 5, 6, 7, 8, 9, 10, 11, 12, 13, 14, 15, 16, 17, 18, 19, 20, 21, 22, 23, 24, 25, 26, 27, 28, 29, 30, 31, 32, 33, 34, 35, 36, 37, 38, 39, 40, 41, 42, 43, 44, 45, 46, 47, 48, 49, 50, 51, 52, 53, 54, 55, 56, 57] [1] (fun _ => []) (fun (t0, aQ, aR) => [(4, .slice aQ t0.1.length aR), (5, .int .i64 t0.2)]) (fun (t0, aQ, aR) => [OwnL eU aQ 5 1 aR t0.1]) (fun (t0, aQ, aR) => (0 < t0.1.length → Has aQ) ∧ True) (fun i0 (t0, aQ, aR) => JaH s i0 t0.1 t0.2 = some s0) (fun (t0, aQ, aR) => s0 = Fl.go t0) (fun i0 => i0) n ((_, _), _, _) aN (And.intro qe (And.intro ?_ ?_))
 clear aN
 rintro i0 ⟨⟨ac, bo⟩, aY, a6⟩ ⟨bc, _⟩ aN j0
 dsimp only at aN ⊢
 cases i0 with
 | zero => rw [JaH.eq_1] at aN; cases aN
 | succ i0 =>
  rw [JaH.eq_2] at aN
  refine ro (len_str rfl ?_)
  refine cs rfl rfl aN ?_ ?_ <;> intro bA aN
  refine block_go rfl ?_
  obtain ⟨bg, bn, bm, aN⟩ := ixb aN
  refine idx_str rfl bn bm ?_
  refine block_go rfl ?_
  refine eq_int (cs rfl rfl aN ?_ ?_) <;> intro bw aN
  refine draw_go ⟨⟨[], false⟩, _, [], []⟩ (by kernel_rfl) ⟨Hp.Le.refl _, (pf rfl), ci0⟩ ?_
  refine ci aN fun aN => ?_
  refine cv_ownE rfl r0 rfl rfl rfl ?_
  exact eE (er aN hm)
  refine eq_int (cs rfl rfl aN ?_ ?_) <;> intro bz aN
  refine ci aN fun aN => ?_
  refine guard_go rfl ?_
  refine ro (len_str rfl (eq_int ?_))
  refine cond_s ?_ ?_ <;> intro aM
  replace aN := ift aM aN
  refine ct aM (ct aM (ct aM (ct aM (ct aM (ct aM (cond_go rfl (cT ?_)))))))
  exact eE (er aN hm)
  replace aN := iff_ aM aN
  refine cf aM (cf aM ?_)
  obtain ⟨bu, bq, bp, aN⟩ := ixb aN
  refine idx_str rfl bq bp (cf aM (neq_int (cf aM ?_)))
  obtain ⟨bt, aS, aN⟩ := bnd aN
  refine cond_s ?_ ?_ <;> intro aO
  replace aS := ift aO aS
  refine ct aO (ct aO ?_)
  obtain ⟨br, bh, bj, aS⟩ := ixb aS
  refine idx_str rfl bh bj (ct aO (neq_int (cf aM (ct aO (cf aM (cond_go rfl ?_))))))
  refine cond_s ?_ ?_ <;> intro bd
  replace aN := ift ((si aS).symm.trans bd) aN
  exact eE (er aN hm)
  replace aN := iff_ ((si aS).symm.trans bd) aN
  obtain ⟨aT, aV, aW, aN⟩ := ixb aN
  refine idx_str rfl aV aW ?_
  refine bsO (len := 1) (enc := eU) (l := ([aT] : Str)) (cl := [.int .u8 (aT.toNat : Int)]) elT130 rfl rfl (fun _ _ => rfl) rfl rfl rfl ?_ fun bf => ?_
  · conv => whnf
    refine cT ?_
    first | done | rfl
  obtain ⟨aU, aN⟩ := chkb aN
  refine apE rfl r1 elT130 (src_own' rfl r0 rfl (fun _ => rfl) (fun _ => rfl)) aU ?_
  intro a8 aX bb
  refine ci aN fun aN => ?_
  exact eR aN (_, (_, _), _, _)
  replace aS := iff_ aO aS
  refine cf aO (cf aO (cf aO (cf aM (cf aO (cf aM (cond_go rfl (cF ?_)))))))
  replace aN := iff_ (si aS).symm aN
  obtain ⟨aT, aV, aW, aN⟩ := ixb aN
  refine idx_str rfl aV aW ?_
  refine bsO (len := 1) (enc := eU) (l := ([aT] : Str)) (cl := [.int .u8 (aT.toNat : Int)]) elT130 rfl rfl (fun _ _ => rfl) rfl rfl rfl ?_ fun bf => ?_
  · conv => whnf
    refine cT ?_
    first | done | rfl
  obtain ⟨aU, aN⟩ := chkb aN
  refine apE rfl r1 elT130 (src_own' rfl r0 rfl (fun _ => rfl) (fun _ => rfl)) aU ?_
  intro a8 aX bb
  refine ci aN fun aN => ?_
  exact eR aN (_, (_, _), _, _)
  refine guard_go rfl ?_
  refine cond_s ?_ ?_ <;> intro aP
  refine ct aP (ct aP (cond_go rfl (cT ?_)))
  replace aN := ift (or_t aP) aN
  exact eE (er aN hm)
  refine cf aP (cf aP (cond_go rfl ?_))
  refine cond_s ?_ ?_ <;> intro ba
  replace aN := ift (or_u aP ba) aN
  exact eE (er aN hm)
  replace aN := iff_ (or_f aP ba) aN
  refine bsO (len := 1) (enc := eU) (l := ([bg] : Str)) (cl := [.int .u8 (bg.toNat : Int)]) elT130 rfl rfl (fun _ _ => rfl) rfl rfl rfl ?_ fun bf => ?_
  · conv => whnf
    refine cT ?_
    first | done | rfl
  obtain ⟨aU, aN⟩ := chkb aN
  refine apE rfl r1 elT130 (src_own' rfl r0 rfl (fun _ => rfl) (fun _ => rfl)) aU ?_
  intro a8 aX bb
  refine ci aN fun aN => ?_
  exact eR aN (_, (_, _), _, _)
  refine cT ?_
  exact eM aN (_, _, _)
 rintro ⟨t0, aQ, aR⟩ ⟨aZ, _⟩ rfl j0
 replace hm := elg hm
 exact eE hm

def JaD (s : Str) : Nat → Int → Option (Int)
  | 0, _ => none
  | aO + 1, aM =>
    if decide (aM < (s.length : Int)) then
    (ix s aM).bind fun aN =>
    (Ja0 aN).bind fun aP =>
    (if aP then some true else (ix s aM).bind fun aR =>
    (JaO aR).bind fun aQ =>
    some aQ).bind fun aS =>
    if aS then
    (chk (InI (aM + 1))).bind fun _ =>
    JaD s aO (aM + 1)
    else
    some aM
    else
    some aM
def Ja9 (s : Str) : Nat → Int → Option (Int)
  | 0, _ => none
  | aQ + 1, aM =>
    (if decide (aM < (s.length : Int)) then (ix s aM).bind fun aO =>
    (JaO aO).bind fun aP =>
    some aP else some false).bind fun aN =>
    if aN then
    (chk (InI (aM + 1))).bind fun _ =>
    Ja9 s aQ (aM + 1)
    else
    some aM
def JaE (s : Str) : Nat → Nat → Option (Fl (Int × Int × Str) (Unit))
  | 0, _ => some (Fl.go ())
  | aN + 1, i5 =>
    (ix ([([61, 61] : Str), ([33, 61] : Str), ([60, 61] : Str), ([60] : Str), ([43] : Str), ([45] : Str), ([42] : Str), ([40] : Str), ([41] : Str), ([123] : Str), ([125] : Str), ([44] : Str), ([59] : Str), ([61] : Str)]) (i5 : Int)).bind fun aM =>
    (J1 s aM).bind fun aO =>
    if aO then
    some (Fl.ret (4, (aM.length : Int), aM))
    else
    JaE s aN (i5 + 1)
def Jbf (n : Nat) (s : Str) : Option (Int × Int × Str) :=
  (ix s 0).bind fun ax =>
  (Ja0 ax).bind fun aO =>
  if aO then
  (JaD s n 1).bind fun t1 =>
  (chk (0 ≤ (0 : Int) ∧ (0 : Int) ≤ t1 ∧ t1 ≤ (s.length : Int))).bind fun _ =>
  some (1, t1, (subL s (0 : Int) t1))
  else
  (JaO ax).bind fun aN =>
  if aN then
  (Ja9 s n 1).bind fun t3 =>
  if decide (t3 > 9) then
  some (0, 0, ([] : Str))
  else
  (chk (0 ≤ (0 : Int) ∧ (0 : Int) ≤ t3 ∧ t3 ≤ (s.length : Int))).bind fun _ =>
  some (2, t3, (subL s (0 : Int) t3))
  else
  if decide ((ax.toNat : Int) = 34) then
  (JcU n s).bind fun aM =>
  some (3, aM.1, aM.2)
  else
  (chk (InI (14 : Int))).bind fun _ =>
  (JaE s (14 : Int).toNat 0).bind fun s5 => s5.el some fun t5 =>
  some (0, 0, ([] : Str))
theorem JeZ {n : Nat} {s : Str} {K : Hp} {r : Int × Int × Str}
    (hm : Jbf n s = some r)  :
    Fn Tryz.prog 224 [str s] K [] (fun v K' H' => v = .tuple #[.int .i64 r.1, .int .i64 r.2.1, str r.2.2] ∧ H' = []) := by
 refine Fn.enter Tryz.func224 Tryz.call224 rfl fun F => ?_
 unfold Jbf at hm
 obtain ⟨ax, bj, bf, hm⟩ := ixb hm
 refine idx_str rfl bj bf ?_
 refine block_go rfl ?_
 refine cb hm fun bN bc hm => cg0 (JdA bc :) ?_
 refine cs rfl rfl hm ?_ ?_ <;> intro bE hm
 obtain ⟨s1, aP, hm⟩ := bnd hm
 refine lD (σ := (Int)) [5, 16, 17, 18, 19, 20, 21, 22, 23, 24, 25, 26, 27, 28, 29, 30, 31, 32, 33] [0] (fun _ => []) (fun t1 => [(5, .int .i64 t1)]) (fun _ => []) (fun _ => True) (fun i1 t1 => JaD s i1 t1 = some s1) (fun t1 => t1 = s1) (fun i1 => i1) n _ aP (And.intro qe (And.intro ?_ ?_))
 clear aP
 rintro i1 bm _ aP j1
 conv at aP => whnf
 cases i1 with
 | zero => rw [JaD.eq_1] at aP; cases aP
 | succ i1 =>
  rw [JaD.eq_2] at aP
  refine guard_go rfl ?_
  refine ro (len_str rfl ?_)
  refine cond_s ?_ ?_ <;> intro aM
  replace aP := ift aM aP
  refine ct aM (ct aM ?_)
  obtain ⟨bw, aZ, a8, aP⟩ := ixb aP
  refine idx_str rfl aZ a8 (ct aM ?_)
  refine cb aP fun bJ bg aP => cg0 (JdA bg :) ?_
  refine ct aM ?_
  obtain ⟨bQ, aT, aP⟩ := bnd aP
  refine cond_s ?_ ?_ <;> intro aO
  replace aT := ift aO aT
  refine ct aO (ct aO (ct aO (ct aM (ct aO (ct aM (cond_go rfl (cT ?_)))))))
  replace aP := ift (si aT).symm aP
  refine block_go rfl ?_
  refine ci aP fun aP => ?_
  exact eR aP (_, _)
  replace aT := iff_ aO aT
  refine cf aO (cf aO ?_)
  obtain ⟨bG, bp, bt, aT⟩ := ixb aT
  refine idx_str rfl bp bt (cf aO ?_)
  refine cb aT fun bH bu aT => cg0 (Jc1 bu :) ?_
  refine ct aM (cf aO (ct aM (cond_go rfl ?_)))
  refine cond_s ?_ ?_ <;> intro aV
  replace aP := ift ((si aT).symm.trans aV) aP
  refine block_go rfl ?_
  refine ci aP fun aP => ?_
  exact eR aP (_, _)
  replace aP := iff_ ((si aT).symm.trans aV) aP
  refine cT ?_
  exact eM aP _
  replace aP := iff_ aM aP
  refine cf aM (cf aM (cf aM (cf aM (cf aM (cf aM (cond_go rfl (cF ?_)))))))
  refine cT ?_
  exact eM aP _
 rintro t1 _ rfl j1
 refine draw_go ⟨⟨[], false⟩, _, [], []⟩ (by kernel_rfl) ⟨Hp.Le.refl _, (pf rfl), ci0⟩ ?_
 obtain ⟨br, hm⟩ := chkb hm
 refine sl_str (lo := none) (hi := (some t1)) rfl br ?_
 exact eE hm
 refine cb hm fun bB bh hm => cg0 (Jc1 bh :) ?_
 refine cs rfl rfl hm ?_ ?_ <;> intro bA hm
 obtain ⟨s3, aQ, hm⟩ := bnd hm
 refine lD (σ := (Int)) [5, 41, 42, 43, 44, 45, 46, 47, 48, 49, 50, 51, 52] [0] (fun _ => []) (fun t3 => [(5, .int .i64 t3)]) (fun _ => []) (fun _ => True) (fun i3 t3 => Ja9 s i3 t3 = some s3) (fun t3 => t3 = s3) (fun i3 => i3) n _ aQ (And.intro qe (And.intro ?_ ?_))
 clear aQ
 rintro i3 bd _ aQ j3
 conv at aQ => whnf
 cases i3 with
 | zero => rw [Ja9.eq_1] at aQ; cases aQ
 | succ i3 =>
  rw [Ja9.eq_2] at aQ
  refine guard_go rfl ?_
  refine ro (len_str rfl ?_)
  obtain ⟨bL, aS, aQ⟩ := bnd aQ
  refine cond_s ?_ ?_ <;> intro aN
  replace aS := ift aN aS
  refine ct aN (ct aN ?_)
  obtain ⟨bF, ba, bo, aS⟩ := ixb aS
  refine idx_str rfl ba bo (ct aN ?_)
  refine cb aS fun bI a6 aS => cg0 (Jc1 a6 :) ?_
  refine ct aN (cond_go rfl ?_)
  refine cond_s ?_ ?_ <;> intro aW
  replace aQ := ift ((si aS).symm.trans aW) aQ
  refine block_go rfl ?_
  refine ci aQ fun aQ => ?_
  exact eR aQ (_, _)
  replace aQ := iff_ ((si aS).symm.trans aW) aQ
  refine cT ?_
  exact eM aQ _
  replace aS := iff_ aN aS
  refine cf aN (cf aN (cf aN (cf aN (cond_go rfl (cF ?_)))))
  replace aQ := iff_ (si aS).symm aQ
  refine cT ?_
  exact eM aQ _
 rintro t3 _ rfl j3
 refine cs rfl rfl hm ?_ ?_ <;> intro bK hm
 exact eE hm
 refine draw_go ⟨⟨[], false⟩, _, [], []⟩ (by kernel_rfl) ⟨Hp.Le.refl _, (pf rfl), ci0⟩ ?_
 obtain ⟨bq, hm⟩ := chkb hm
 refine sl_str (lo := none) (hi := (some t3)) rfl bq ?_
 exact eE hm
 refine eq_int (cs rfl rfl hm ?_ ?_) <;> intro bP hm
 refine cb hm fun bM bb hm => cg0 (JeJ bb :) ?_
 exact eE hm
 refine bsO (len := 14) (enc := eS) (l := [([61, 61] : Str), ([33, 61] : Str), ([60, 61] : Str), ([60] : Str), ([43] : Str), ([45] : Str), ([42] : Str), ([40] : Str), ([41] : Str), ([123] : Str), ([125] : Str), ([44] : Str), ([59] : Str), ([61] : Str)]) (cl := [str ([61, 61] : Str), str ([33, 61] : Str), str ([60, 61] : Str), str ([60] : Str), str ([43] : Str), str ([45] : Str), str ([42] : Str), str ([40] : Str), str ([41] : Str), str ([123] : Str), str ([125] : Str), str ([44] : Str), str ([59] : Str), str ([61] : Str)]) elT31 rfl rfl (fun _ _ => rfl) rfl rfl rfl ?_ fun bz => ?_
 · conv => whnf
   refine cT (cT (cT (cT (cT (cT (cT (cT ?_)))))))
   refine cT (cT (cT (cT (cT (cT ?_)))))
   first | done | rfl
 refine ro (len_slice rfl ?_)
 obtain ⟨aY, hm⟩ := chkb hm
 obtain ⟨s5, aR, hm⟩ := bnd hm
 refine lD (σ := (Unit)) [2, 3, 4, 10, 71, 72, 73, 74, 75, 76, 77, 78, 79, 80, 81] [0, 1] (fun i5 => [(71, .int .i64 (i5 : Int))]) (fun _ => []) (fun _ => []) (fun _ => True) (fun i5 _ => JaE s ((14 : Int).toNat - i5) i5 = some s5) (fun t5 => s5 = Fl.go t5) (fun i5 => (14 : Int).toNat - i5) 0 () aR (And.intro qe (And.intro ?_ ?_))
 clear aR
 rintro i5 _ _ aR j5
 conv at aR => whnf
 refine cond_go rfl ?_
 refine cond_s ?_ ?_ <;> intro w5
 rw [ltn (n := (14 : Int)) w5, JaE.eq_2] at aR
 refine block_go rfl ?_
 obtain ⟨bO, aX, aU, aR⟩ := ixb aR
 refine RStep.ofN (index_addr rfl rfl (hasO (fun _ => ⟨_, _, rfl⟩) aU) aX (lt_ofE rfl aX aU) (ro (ld_own (i := ((i5 : Int)).toNat) (o := 0) r0 rfl aU rfl rfl ?_)))
 refine cb aR fun bC bn aR => cg0 (Jbc bn :) ?_
 refine cs rfl rfl aR ?_ ?_ <;> intro bD aR
 refine ro (len_str rfl ?_)
 exact eE (er aR hm)
 refine int_in (cntn w5 aY) ?_
 exact eR aR (_, ())
 rw [lto (n := (14 : Int)) w5, JaE.eq_1] at aR
 refine cT ?_
 exact eM aR _
 rintro t5 _ rfl j5
 replace hm := elg hm
 exact eE hm

def Jba (text : Str) : Nat → Int → Option (Int)
  | 0, _ => none
  | aO + 1, aM =>
    (if decide (aM < (text.length : Int)) then (ix text aM).bind fun aP =>
    some (decide ((aP.toNat : Int) ≠ 10)) else some false).bind fun aN =>
    if aN then
    (chk (InI (aM + 1))).bind fun _ =>
    Jba text aO (aM + 1)
    else
    some aM
def JQ (text : Str) (n : Nat) : Nat → (List JA) → Int → Int → Int → Option (Fl ((List JA) × Err) ((List JA) × Int × Int × Int))
  | 0, _, _, _, _ => none
  | aP + 1, ac, aM, aN, al =>
    if decide (al < (text.length : Int)) then
    (ix text al).bind fun aQ =>
    if decide ((aQ.toNat : Int) = 10) then
    (chk (InI (al + 1))).bind fun _ =>
    (chk (InI (aM + 1))).bind fun _ =>
    JQ text n aP ac (aM + 1) (al + 1) (al + 1)
    else
    if decide ((aQ.toNat : Int) = 32) then
    (chk (InI (al + 1))).bind fun _ =>
    JQ text n aP ac aM aN (al + 1)
    else
    if decide ((aQ.toNat : Int) = 9) then
    (chk (InI (al + 1))).bind fun _ =>
    JQ text n aP ac aM aN (al + 1)
    else
    if decide ((aQ.toNat : Int) = 13) then
    (chk (InI (al + 1))).bind fun _ =>
    JQ text n aP ac aM aN (al + 1)
    else
    if decide ((aQ.toNat : Int) = 35) then
    (Jba text n al).bind fun t3 =>
    JQ text n aP ac aM aN t3
    else
    (chk (0 ≤ al ∧ al ≤ (text.length : Int) ∧ (text.length : Int) ≤ (text.length : Int))).bind fun _ =>
    (Jbf n (subL text al (text.length : Int))).bind fun aO =>
    if decide (aO.2.1 = 0) then
    some (Fl.ret ([], (some 2)))
    else
    (chk (InI (al - aN))).bind fun _ =>
    (chk (InI ((al - aN) + 1))).bind fun _ =>
    (chk (ac.length + [(⟨aO.1, aO.2.2, aM, ((al - aN) + 1)⟩ : JA)].length ≤ lim)).bind fun _ =>
    (chk (InI (al + aO.2.1))).bind fun _ =>
    JQ text n aP (ac ++ [(⟨aO.1, aO.2.2, aM, ((al - aN) + 1)⟩ : JA)]) aM aN (al + aO.2.1)
    else
    some (Fl.go (ac, aM, aN, al))
def Jbg (n : Nat) (text : Str) : Option ((List JA) × Err) :=
  if decide ((text.length : Int) > 4096) then
  some ([], (some 5))
  else
  (JQ text n n [] 1 0 0).bind fun s0 => s0.el some fun t0 =>
  (chk (InI ((text.length : Int) - t0.2.2.1))).bind fun _ =>
  (chk (InI (((text.length : Int) - t0.2.2.1) + 1))).bind fun _ =>
  (chk (t0.1.length + ([(⟨5, ([] : Str), t0.2.1, (((text.length : Int) - t0.2.2.1) + 1)⟩ : JA)]).length ≤ lim)).bind fun _ =>
  some ((t0.1 ++ [(⟨5, ([] : Str), t0.2.1, (((text.length : Int) - t0.2.2.1) + 1)⟩ : JA)]), none)
theorem Je0 {n : Nat} {text : Str} {K : Hp} {r : (List JA) × Err}
    (hm : Jbg n text = some r)  :
    Fn Tryz.prog 192 [str text] K [] (fun v K' H' => ∃ ar_0 : Option Addr, ∃ cr_0 : Nat, v = .tuple #[.slice ar_0 r.1.length cr_0, errV 87 r.2] ∧ (0 < r.1.length → Has ar_0) ∧ H' = [OwnL JA.enc ar_0 269 4 cr_0 r.1]) := by
 refine Fn.enter Tryz.func192 Tryz.call192 rfl fun F => ?_
 unfold Jbg at hm
 refine ro (len_str rfl ?_)
 refine cs rfl rfl hm ?_ ?_ <;> intro bD hm
 refine mk_iface rfl ?_
 refine nilE JA.enc 269 4 ?_
 exact eE hm
 obtain ⟨s0, aM, hm⟩ := bnd hm
 refine nilC JA.enc 269 4 ?_
 refine lD (σ := ((List JA) × Int × Int × Int) × Option Addr × Nat) [2, 3, 4, 5, 6, 7, 8, 9, 10, 15, 16, 17, 18, 19, 20, 21, 22, 23, 24, 25, 26, 27, 28, 29, 30, 31, 32, 33, 34, 35, 36, 37, 38, 39, 40, 41, 42, 43, 44, 45, 46, 47, 48, 49, 50, 51, 52, 53, 54, 55, 56, 57, 58, 59, 60, 61, 62, 63, 64, 65, 66, 67, 68, 69, 70, 71, 72, 73] [1] (fun _ => []) (fun (t0, aO, aP) => [(4, .slice aO t0.1.length aP), (5, .int .i64 t0.2.1), (6, .int .i64 t0.2.2.1), (7, .int .i64 t0.2.2.2)]) (fun (t0, aO, aP) => [OwnL JA.enc aO 269 4 aP t0.1]) (fun (t0, aO, aP) => (0 < t0.1.length → Has aO) ∧ True) (fun i0 (t0, aO, aP) => JQ text n i0 t0.1 t0.2.1 t0.2.2.1 t0.2.2.2 = some s0) (fun (t0, aO, aP) => s0 = Fl.go t0) (fun i0 => i0) n ((_, _, _, _), _, _) aM (And.intro qe (And.intro ?_ ?_))
 clear aM
 rintro i0 ⟨⟨ac, aS, aU, al⟩, aX, aZ⟩ ⟨a6, _⟩ aM j0
 dsimp only at aM ⊢
 cases i0 with
 | zero => rw [JQ.eq_1] at aM; cases aM
 | succ i0 =>
  rw [JQ.eq_2] at aM
  refine ro (len_str rfl ?_)
  refine cs rfl rfl aM ?_ ?_ <;> intro bJ aM
  refine block_go rfl ?_
  obtain ⟨bw, bg, bm, aM⟩ := ixb aM
  refine idx_str rfl bg bm ?_
  refine block_go rfl ?_
  refine eq_int (cs rfl rfl aM ?_ ?_) <;> intro bG aM
  refine ci aM fun aM => ?_
  obtain ⟨bf, aM⟩ := chkb aM
  refine int_in bf (cF (cT ?_))
  exact eR aM (_, (_, _, _, _), _, _)
  refine eq_int (cs rfl rfl aM ?_ ?_) <;> intro aV aM
  refine cond_go rfl (ct aV ?_)
  obtain ⟨aT, aM⟩ := chkb aM
  refine int_in aT (cF (cT ?_))
  exact eR aM (_, (_, _, _, _), _, _)
  refine eq_int (cs rfl rfl aM ?_ ?_) <;> intro aV aM
  refine cond_go rfl (ct aV ?_)
  obtain ⟨aT, aM⟩ := chkb aM
  refine int_in aT (cF (cT ?_))
  exact eR aM (_, (_, _, _, _), _, _)
  refine eq_int (cs rfl rfl aM ?_ ?_) <;> intro aV aM
  obtain ⟨aT, aM⟩ := chkb aM
  refine int_in aT (cF (cT ?_))
  exact eR aM (_, (_, _, _, _), _, _)
  refine eq_int (cs rfl rfl aM ?_ ?_) <;> intro bE aM
  obtain ⟨s3, aQ, aM⟩ := bnd aM
  refine lD (σ := (Int)) [7, 37, 38, 39, 40, 41, 42, 43, 44, 45, 46, 47, 48] [0, 1] (fun _ => []) (fun t3 => [(7, .int .i64 t3)]) (fun _ => []) (fun _ => True) (fun i3 t3 => Jba text i3 t3 = some s3) (fun t3 => t3 = s3) (fun i3 => i3) n _ aQ (And.intro qe (And.intro ?_ ?_))
  clear aQ
  rintro i3 bd _ aQ j3
  conv at aQ => whnf
  cases i3 with
  | zero => rw [Jba.eq_1] at aQ; cases aQ
  | succ i3 =>
   rw [Jba.eq_2] at aQ
   refine guard_go rfl ?_
   refine ro (len_str rfl ?_)
   obtain ⟨br, aR, aQ⟩ := bnd aQ
   refine cond_s ?_ ?_ <;> intro aN
   replace aR := ift aN aR
   refine ct aN (ct aN ?_)
   obtain ⟨bz, bp, bo, aR⟩ := ixb aR
   refine idx_str rfl bp bo (ct aN (neq_int (ct aN (cond_go rfl ?_))))
   refine cond_s ?_ ?_ <;> intro a8
   replace aQ := ift ((si aR).symm.trans a8) aQ
   refine block_go rfl ?_
   refine ci aQ fun aQ => ?_
   exact eR aQ (_, _)
   replace aQ := iff_ ((si aR).symm.trans a8) aQ
   refine cT ?_
   exact eM aQ _
   replace aR := iff_ aN aR
   refine cf aN (cf aN (cf aN (cf aN (cond_go rfl (cF ?_)))))
   replace aQ := iff_ (si aR).symm aQ
   refine cT ?_
   exact eM aQ _
  rintro t3 _ rfl j3
  refine cF (cT ?_)
  exact eR aM (_, (_, _, _, _), _, _)
  obtain ⟨bh, aM⟩ := chkb aM
  refine RStep.ofN (sl_str (lo := (some al)) (hi := none) rfl bh ?_)
  refine cb aM fun aW bj aM => cg0 (JeZ bj :) ?_
  refine eq_int (cs rfl rfl aM ?_ ?_) <;> intro bF aM
  refine mk_iface rfl ?_
  refine nilE JA.enc 269 4 ?_
  exact eE (er aM hm)
  refine ci aM fun aM => ?_
  obtain ⟨bn, aM⟩ := chkb aM
  refine int_in bn (build_struct rfl rfl (cT (cT (cT (cT ?_)))))
  refine bsO (len := 1) (enc := JA.enc) (l := [(⟨aW.1, aW.2.2, aS, ((al - aU) + 1)⟩ : JA)]) (cl := [.int .i64 aW.1, str aW.2.2, .int .i64 aS, .int .i64 ((al - aU) + 1)]) elT265 rfl rfl (fun _ _ => rfl) rfl rfl rfl ?_ fun bq => ?_
  · conv => whnf
    refine cT ?_
    first | done | rfl
  obtain ⟨bb, aM⟩ := chkb aM
  refine apE rfl r1 elT265 (src_own' rfl r0 rfl (fun _ => rfl) (fun _ => rfl)) bb ?_
  intro bu bA bI
  refine ci aM fun aM => ?_
  exact eR aM (_, (_, _, _, _), _, _)
  refine cT ?_
  exact eM aM (_, _, _)
 rintro ⟨t0, aO, aP⟩ ⟨aY, _⟩ rfl j0
 replace hm := elg hm
 refine ro (len_str rfl ?_)
 refine ci hm fun hm => ?_
 obtain ⟨ba, hm⟩ := chkb hm
 refine int_in ba (build_struct rfl rfl (cT (cT (cT (cT ?_)))))
 refine bsO (len := 1) (enc := JA.enc) (l := [(⟨5, ([] : Str), t0.2.1, (((text.length : Int) - t0.2.2.1) + 1)⟩ : JA)]) (cl := [.int .i64 5, str ([] : Str), .int .i64 t0.2.1, .int .i64 (((text.length : Int) - t0.2.2.1) + 1)]) elT265 rfl rfl (fun _ _ => rfl) rfl rfl rfl ?_ fun bH => ?_
 · conv => whnf
   refine cT ?_
   first | done | rfl
 obtain ⟨bc, hm⟩ := chkb hm
 refine apE rfl r1 elT265 (src_own' rfl r0 rfl (fun _ => rfl) (fun _ => rfl)) bc ?_
 intro bt bB bC
 exact eE hm

def Jcd (s : Str) : Option (Bool) :=
  (JO gkw0 s).bind fun x5 =>
  some x5
theorem Jet {s : Str} {K : Hp} {r : Bool}
    (hm : Jcd s = some r) (hG : GG K) :
    Fn Tryz.prog 193 [str s] K [] (fun v K' H' => v = .bool r ∧ H' = []) := by
 obtain ⟨aQ, aP, aN, gn_, aM, aO⟩ := gg4 hG
 subst gn_
 refine Fn.enter Tryz.func193 Tryz.call193 rfl fun F => ?_
 unfold Jcd at hm
 refine ro (g_load aM rfl ?_)
 refine cb hm fun x5 q5 hm => cgx (Jai q5 :) ?_
 exact eE hm

def JbJ (n : Nat) (s : Str) : Option (Bool) :=
  (Jbg n s).bind fun x7 =>
  (if (x7.2.isNone && decide ((x7.1.length : Int) = 2)) then (ix x7.1 0).bind fun aR =>
  some (decide (aR.Ab = 1)) else some false).bind fun aM =>
  (if aM then (ix x7.1 0).bind fun aP =>
  some (decide (aP.Ac = s)) else some false).bind fun aQ =>
  (if aQ then (Jcd s).bind fun aN =>
  some (!aN) else some false).bind fun aO =>
  some aO
theorem JcQ {n : Nat} {s : Str} {K : Hp} {r : Bool}
    (hm : JbJ n s = some r) (hG : GG K) :
    Fn Tryz.prog 159 [str s] K [] (fun v K' H' => v = .bool r ∧ H' = []) := by
 refine Fn.enter Tryz.func159 Tryz.call159 rfl fun F => ?_
 unfold JbJ at hm
 refine cb hm fun x7 q7 hm => ck0 (Je0 q7 :) ?_
 rintro _ _ _ ⟨a8, bb, rfl, aT, rfl⟩
 refine guard_go rfl ?_
 refine eq_err rfl ?_
 refine cond_s ?_ ?_ <;> intro aO
 refine ct aO (ro (len_slice rfl (ct aO (eq_int (ct aO ?_)))))
 obtain ⟨a6, aS, hm⟩ := bnd hm
 refine cond_s ?_ ?_ <;> intro aN
 replace aS := ift (and_t aO aN) aS
 refine ct aN ?_
 obtain ⟨bc, aY, aV, aS⟩ := ixb aS
 refine RStep.ofN (index_addr rfl rfl (hasO aT aV) aY (lt_ofE rfl aY aV) (ct aN (eptr_field rfl (hasO aT aV) (ct aN (ro (ld_own (i := (0 : Int).toNat) (o := 0) r0 rfl aV rfl rfl (ct aN (eq_int (ct aN ?_)))))))))
 obtain ⟨aX, aR, hm⟩ := bnd hm
 refine cond_s ?_ ?_ <;> intro aM
 replace aR := ift ((si aS).symm.trans aM) aR
 refine ct aM ?_
 obtain ⟨bf, aZ, aU, aR⟩ := ixb aR
 refine RStep.ofN (index_addr rfl rfl (hasO aT aU) aZ (lt_ofE rfl aZ aU) (ct aM (eptr_field rfl (hasO aT aU) (ct aM (ro (ld_own (i := (0 : Int).toNat) (o := 1) r0 rfl aU rfl rfl (ct aM (ct aM (eq_str ?_)))))))))
 refine ct aM ?_
 obtain ⟨aW, aQ, hm⟩ := bnd hm
 refine cond_s ?_ ?_ <;> intro aP
 replace aQ := ift ((si aR).symm.trans aP) aQ
 refine ct aP ?_
 refine cb aQ fun bd ba aQ => cgx (Jet ba :) ?_
 refine ct aP (un_not (ct aP ?_))
 cases hm
 exact en lr ⟨(by rw [← (si aQ)] <;> rfl), rfl⟩ (sc [1] rfl)
 replace aQ := iff_ ((si aR).symm.trans aP) aQ
 refine cf aP (cf aP (cf aP ?_))
 cases hm
 exact en lr ⟨(by rw [← ((si aQ).symm).symm] <;> rfl), rfl⟩ (sc [1] rfl)
 replace aR := iff_ ((si aS).symm.trans aM) aR
 refine cf aM (cf aM (cf aM (cf aM (cf aM (cf aM ?_)))))
 obtain ⟨aW, aQ, hm⟩ := bnd hm
 replace aQ := iff_ (si aR).symm aQ
 refine cF (cF (cF (cF ?_)))
 cases hm
 exact en lr ⟨(by rw [← ((si aQ).symm).symm] <;> rfl), rfl⟩ (sc [1] rfl)
 replace aS := iff_ (and_g aO aN) aS
 refine cf aN (cf aN (cf aN (cf aN (cf aN ?_))))
 obtain ⟨aX, aR, hm⟩ := bnd hm
 replace aR := iff_ (si aS).symm aR
 refine cF (cF (cF (cF (cF (cF (cF ?_))))))
 obtain ⟨aW, aQ, hm⟩ := bnd hm
 replace aQ := iff_ (si aR).symm aQ
 refine cF (cF (cF (cF ?_)))
 cases hm
 exact en lr ⟨(by rw [← ((si aQ).symm).symm] <;> rfl), rfl⟩ (sc [1] rfl)
 refine cf aO (cf aO (cf aO ?_))
 obtain ⟨a6, aS, hm⟩ := bnd hm
 replace aS := iff_ (and_f aO) aS
 refine cF (cF (cF (cF (cF (cF ?_)))))
 obtain ⟨aX, aR, hm⟩ := bnd hm
 replace aR := iff_ (si aS).symm aR
 refine cF (cF (cF (cF (cF (cF (cF ?_))))))
 obtain ⟨aW, aQ, hm⟩ := bnd hm
 replace aQ := iff_ (si aR).symm aQ
 refine cF (cF (cF (cF ?_)))
 cases hm
 exact en lr ⟨(by rw [← ((si aQ).symm).symm] <;> rfl), rfl⟩ (sc [1] rfl)

def Ju (n : Nat) (n' : Ja) : Option (Int) :=
  if decide (n'.Ab = 13) then
  if (!decide (n'.Ac = ([] : Str))) then
  some (-2)
  else
  some 2
  else
  if decide (n'.Ab = 14) then
  if (!decide (n'.Ac = ([] : Str))) then
  some (-2)
  else
  some 2
  else
  if decide (n'.Ab = 17) then
  if (!decide (n'.Ac = ([] : Str))) then
  some (-2)
  else
  some 2
  else
  if decide (n'.Ab = 18) then
  if (!decide (n'.Ac = ([] : Str))) then
  some (-2)
  else
  some 2
  else
  if decide (n'.Ab = 19) then
  if (!decide (n'.Ac = ([] : Str))) then
  some (-2)
  else
  some 2
  else
  if decide (n'.Ab = 15) then
  if (!decide (n'.Ac = ([] : Str))) then
  some (-2)
  else
  some 1
  else
  if decide (n'.Ab = 16) then
  (JaG 4 n'.Ac).bind fun aS =>
  (if aS then some true else (JaG 1 n'.Ac).bind fun aQ =>
  some aQ).bind fun aM =>
  if (!aM) then
  some (-2)
  else
  some 2
  else
  if decide (n'.Ab = 20) then
  (Jcb n'.Ac).bind fun aR =>
  if (!aR) then
  some (-2)
  else
  some 0
  else
  if decide (n'.Ab = 21) then
  (JaN n'.Ac).bind fun aO =>
  if (!aO) then
  some (-2)
  else
  some 0
  else
  if decide (n'.Ab = 22) then
  if (!(decide (n'.Ac = ([116, 114, 117, 101] : Str)) || decide (n'.Ac = ([102, 97, 108, 115, 101] : Str)))) then
  some (-2)
  else
  some 0
  else
  if decide (n'.Ab = 23) then
  (JbJ n n'.Ac).bind fun aP =>
  if (!aP) then
  some (-2)
  else
  some 0
  else
  if decide (n'.Ab = 24) then
  (JbJ n n'.Ac).bind fun aN =>
  if (!aN) then
  some (-2)
  else
  some (-1)
  else
  some (-2)
theorem Jeb {n : Nat} {n' : Ja} {aa : Option Addr} {ab : Nat} {K : Hp} {r : Int}
    (hm : Ju n n' = some r) (hX : LiC Ja.R K aa ab 4 n'.Aa ∧ GG K) :
    Fn Tryz.prog 191 [.agg #[.int .i64 n'.Ab, str n'.Ac, .slice aa n'.Aa.length ab, .int .i64 n'.Ad]] K [] (fun v K' H' => v = .int .i64 r ∧ H' = []) := by
 obtain ⟨ae, hG⟩ := hX
 refine Fn.enter Tryz.func191 Tryz.call191 rfl fun F => ?_
 unfold Ju at hm
 refine box_rule ?_
 intro b1
 refine fa rfl (ro (ld r0 rfl rfl (eq_str (fa rfl (ro (ld r0 rfl rfl ?_))))))
 refine block_go rfl ?_
 refine eq_int (cs rfl rfl hm ?_ ?_) <;> intro aQ hm
 refine cond_go rfl (ct aQ (un_not ?_))
 refine cs rfl rfl hm ?_ ?_ <;> intro aO hm
 exact eE hm
 exact eE hm
 refine eq_int (cs rfl rfl hm ?_ ?_) <;> intro aQ hm
 refine cond_go rfl (ct aQ (un_not ?_))
 refine cs rfl rfl hm ?_ ?_ <;> intro aO hm
 exact eE hm
 exact eE hm
 refine eq_int (cs rfl rfl hm ?_ ?_) <;> intro aQ hm
 refine cond_go rfl (ct aQ (un_not ?_))
 refine cs rfl rfl hm ?_ ?_ <;> intro aO hm
 exact eE hm
 exact eE hm
 refine eq_int (cs rfl rfl hm ?_ ?_) <;> intro aQ hm
 refine cond_go rfl (ct aQ (un_not ?_))
 refine cs rfl rfl hm ?_ ?_ <;> intro aO hm
 exact eE hm
 exact eE hm
 refine eq_int (cs rfl rfl hm ?_ ?_) <;> intro aQ hm
 refine un_not ?_
 refine cs rfl rfl hm ?_ ?_ <;> intro aO hm
 exact eE hm
 exact eE hm
 refine eq_int (cs rfl rfl hm ?_ ?_) <;> intro bg hm
 refine un_not ?_
 refine cs rfl rfl hm ?_ ?_ <;> intro aO hm
 exact eE hm
 exact eE hm
 refine eq_int (cs rfl rfl hm ?_ ?_) <;> intro bj hm
 refine guard_go rfl ?_
 refine fa rfl (ro (ld r0 rfl rfl ?_))
 refine cb hm fun bm aU hm => cg0 (Jc3 aU :) ?_
 obtain ⟨bd, aP, hm⟩ := bnd hm
 refine cond_s ?_ ?_ <;> intro aN
 replace aP := ift aN aP
 refine ct aN (ct aN (ct aN (un_not (cond_go rfl (cF ?_)))))
 replace hm := iff_ (not_f (si aP).symm) hm
 exact eE hm
 replace aP := iff_ aN aP
 refine fa rfl (cf aN (ro (ld r0 rfl rfl (cf aN ?_))))
 refine cb aP fun bf aT aP => cg0 (Jc3 aT :) ?_
 refine cf aN (un_not (cond_go rfl ?_))
 refine cond_s ?_ ?_ <;> intro aO
 replace hm := ift (not_t ((si aP).symm.trans (ni_t aO))) hm
 exact eE hm
 replace hm := iff_ (not_f ((si aP).symm.trans (ni_f aO))) hm
 exact eE hm
 refine eq_int (cs rfl rfl hm ?_ ?_) <;> intro aX hm
 refine fa rfl (ro (ld r0 rfl rfl ?_))
 refine cb hm fun a8 aR hm => cg0 (Jes aR :) ?_
 refine un_not ?_
 refine cs rfl rfl hm ?_ ?_ <;> intro aO hm
 exact eE hm
 exact eE hm
 refine eq_int (cs rfl rfl hm ?_ ?_) <;> intro bh hm
 refine fa rfl (ro (ld r0 rfl rfl ?_))
 refine cb hm fun bb aW hm => cg0 (Jcc aW :) ?_
 refine un_not ?_
 refine cs rfl rfl hm ?_ ?_ <;> intro aO hm
 exact eE hm
 exact eE hm
 refine eq_int (cs rfl rfl hm ?_ ?_) <;> intro aY hm
 refine guard_go rfl ?_
 refine fa rfl (ro (ld r0 rfl rfl (eq_str ?_)))
 refine cond_s ?_ ?_ <;> intro aM
 refine ct aM (ct aM (ct aM (un_not (cond_go rfl (cF ?_)))))
 replace hm := iff_ (not_f (or_t aM)) hm
 exact eE hm
 refine fa rfl (cf aM (ro (ld r0 rfl rfl (cf aM (eq_str (cf aM (un_not (cond_go rfl ?_))))))))
 refine cond_s ?_ ?_ <;> intro aO
 replace hm := ift (not_t (or_f aM (ni_t aO))) hm
 exact eE hm
 replace hm := iff_ (not_f (or_u aM (ni_f aO))) hm
 exact eE hm
 refine eq_int (cs rfl rfl hm ?_ ?_) <;> intro bc hm
 refine fa rfl (ro (ld r0 rfl rfl ?_))
 refine cb hm fun aZ aV hm => cgx (JcQ aV :) ?_
 refine un_not ?_
 refine cs rfl rfl hm ?_ ?_ <;> intro aO hm
 exact eE hm
 exact eE hm
 refine eq_int (cs rfl rfl hm ?_ ?_) <;> intro a6 hm
 refine fa rfl (ro (ld r0 rfl rfl ?_))
 refine cb hm fun ba aS hm => cgx (JcQ aS :) ?_
 refine un_not ?_
 refine cs rfl rfl hm ?_ ?_ <;> intro aO hm
 exact eE hm
 exact eE hm
 exact eE hm

def JI (rec_ : (Ja → Option (Bool))) : List Ja → Nat → Option (Fl (Bool) (Unit))
  | [], _ => some (Fl.go ())
  | e0 :: aN, i0 =>
    (rec_ e0).bind fun aM =>
    if (!aM) then
    some (Fl.ret false)
    else
    JI rec_ aN (i0 + 1)
def Jq : Nat → Ja → Option (Bool)
  | 0, _ => none
  | n + 1, n' =>
    (Ju n n').bind fun x7 =>
    if decide (x7 = (-2)) then
    some false
    else
    if (decide (x7 ≥ 0) && decide ((n'.Aa.length : Int) ≠ x7)) then
    some false
    else
    (chk (n'.Aa.length ≤ szMax)).bind fun _ =>
    (JI (Jq n) n'.Aa 0).bind fun s0 => s0.el some fun t0 =>
    some true
theorem J7 : ∀ {n : Nat} {n' : Ja} {aa : Option Addr} {ab : Nat} {K : Hp} {r : Bool}
    (hm : Jq n n' = some r) (hX : LiC Ja.R K aa ab 4 n'.Aa ∧ GG K),
    Fn Tryz.prog 156 [.agg #[.int .i64 n'.Ab, str n'.Ac, .slice aa n'.Aa.length ab, .int .i64 n'.Ad]] K [] (fun v K' H' => v = .bool r ∧ H' = []) := by
 intro n
 induction n with
 | zero =>
   intro n' aa ab K r hm hX
   rw [Jq.eq_1] at hm; cases hm
 | succ n ih =>
   intro n' aa ab K r hm hX
   obtain ⟨ae, hG⟩ := hX
   refine Fn.enter Tryz.func156 Tryz.call156 rfl fun F => ?_
   rw [Jq.eq_2] at hm
   refine box_rule ?_
   intro b1
   refine ro (loadn_s r0 rfl (nl rfl) ?_)
   refine cb hm fun x7 q7 hm => cgx (Jeb q7 :) ?_
   refine guard_go rfl ?_
   refine eq_int ?_
   refine cond_s ?_ ?_ <;> intro aN
   replace hm := ift aN hm
   refine ct aN (ct aN (ct aN (ct aN (cond_go rfl (cT ?_)))))
   exact eE hm
   replace hm := iff_ aN hm
   refine cf aN (cf aN ?_)
   refine cond_s ?_ ?_ <;> intro aM
   refine fa rfl (ct aM (ro (ld r0 rfl rfl (ct aM (ro (len_slice rfl (ct aM (ct aM (neq_int ?_)))))))))
   refine cf aN (ct aM (cf aN (cond_go rfl ?_)))
   refine cond_s ?_ ?_ <;> intro a8
   replace hm := ift (and_t aM a8) hm
   exact eE hm
   replace hm := iff_ (and_g aM a8) hm
   refine fa rfl (ro (ld r0 rfl rfl (ro (len_slice rfl ?_))))
   obtain ⟨aZ, hm⟩ := chkb hm
   obtain ⟨s0, aO, hm⟩ := bnd hm
   refine lD (σ := (Unit)) [2, 5, 24, 25, 26, 27, 28, 29, 30, 31] [0, 1] (fun i0 => [(24, .int .i64 (i0 : Int))]) (fun _ => []) (fun _ => []) (fun _ => True) (fun i0 _ => JI (Jq n) (n'.Aa.drop i0) i0 = some s0) (fun t0 => s0 = Fl.go t0) (fun i0 => n'.Aa.length - i0) 0 () aO (And.intro qe (And.intro ?_ ?_))
   clear aO
   rintro i0 _ _ aO j0
   conv at aO => whnf
   refine cond_go rfl ?_
   refine cond_s ?_ ?_ <;> intro w0
   obtain ⟨e0, aP, aW⟩ := ltx w0
   rw [aW, JI.eq_2] at aO
   refine block_go rfl ?_
   refine RStep.ofN (index_addr rfl rfl (hasR ae.rd aP) (nn _) (lt_ofN aP) ?_)
   obtain ⟨aX, aY, aQ, aR, aS⟩ := LiR.get ae.rd aP
   obtain ⟨aT, aV, rfl, aU⟩ := Ja.out aS
   refine ro (load_rd_agg i0 _ aQ rfl aR rfl ?_)
   refine alloc_rule rfl fun b5 => ?_
   refine store_rule r0 rfl ⟨rfl, rfl, (nl rfl), ?_⟩
   refine ro (loadn_s r0 rfl (nl rfl) ?_)
   refine cb aO fun bb a6 aO => cgx (ih a6 :) ?_
   refine un_not ?_
   refine cs rfl rfl aO ?_ ?_ <;> intro ba aO
   exact eE (er aO hm)
   refine int_in (cntz aP aZ) ?_
   exact eR aO (_, ())
   rw [lty w0, JI.eq_1] at aO
   refine cT ?_
   exact eM aO _
   rintro t0 _ rfl j0
   replace hm := elg hm
   exact eE hm
   refine cf aM (cf aM (cf aM (cf aM (cf aN (cf aM (cf aN (cond_go rfl ?_)))))))
   refine cF ?_
   replace hm := iff_ (and_f aM) hm
   refine fa rfl (ro (ld r0 rfl rfl (ro (len_slice rfl ?_))))
   obtain ⟨aZ, hm⟩ := chkb hm
   obtain ⟨s0, aO, hm⟩ := bnd hm
   refine lD (σ := (Unit)) [2, 5, 24, 25, 26, 27, 28, 29, 30, 31] [0, 1] (fun i0 => [(24, .int .i64 (i0 : Int))]) (fun _ => []) (fun _ => []) (fun _ => True) (fun i0 _ => JI (Jq n) (n'.Aa.drop i0) i0 = some s0) (fun t0 => s0 = Fl.go t0) (fun i0 => n'.Aa.length - i0) 0 () aO (And.intro qe (And.intro ?_ ?_))
   clear aO
   rintro i0 _ _ aO j0
   conv at aO => whnf
   refine cond_go rfl ?_
   refine cond_s ?_ ?_ <;> intro w0
   obtain ⟨e0, aP, aW⟩ := ltx w0
   rw [aW, JI.eq_2] at aO
   refine block_go rfl ?_
   refine RStep.ofN (index_addr rfl rfl (hasR ae.rd aP) (nn _) (lt_ofN aP) ?_)
   obtain ⟨aX, aY, aQ, aR, aS⟩ := LiR.get ae.rd aP
   obtain ⟨aT, aV, rfl, aU⟩ := Ja.out aS
   refine ro (load_rd_agg i0 _ aQ rfl aR rfl ?_)
   refine alloc_rule rfl fun b5 => ?_
   refine store_rule r0 rfl ⟨rfl, rfl, (nl rfl), ?_⟩
   refine ro (loadn_s r0 rfl (nl rfl) ?_)
   refine cb aO fun bb a6 aO => cgx (ih a6 :) ?_
   refine un_not ?_
   refine cs rfl rfl aO ?_ ?_ <;> intro ba aO
   exact eE (er aO hm)
   refine int_in (cntz aP aZ) ?_
   exact eR aO (_, ())
   rw [lty w0, JI.eq_1] at aO
   refine cT ?_
   exact eM aO _
   rintro t0 _ rfl j0
   replace hm := elg hm
   exact eE hm

def JU (az : (Ja → Option (Bool))) : List Ja → Nat → Option (Fl (Bool) (Unit))
  | [], _ => some (Fl.go ())
  | e0 :: aN, i0 =>
    (az e0).bind fun aM =>
    if (!aM) then
    some (Fl.ret false)
    else
    JU az aN (i0 + 1)
def JaF (az : (Ja → Option (Bool))) (n : Nat) (n' : Ja) : Option (Bool) :=
  if (decide (n'.Ab ≠ 12) || decide (n'.Ac ≠ ([] : Str))) then
  some false
  else
  (chk (n'.Aa.length ≤ szMax)).bind fun _ =>
  (JU az n'.Aa 0).bind fun s0 => s0.el some fun t0 =>
  some true
theorem Jc9 {az : (Ja → Option (Bool))} (ihrec0_0 : ∀ {n' : Ja} {aa : Option Addr} {ab : Nat} {K : Hp} {r : Bool} (hm : az n' = some r) (hX : LiC Ja.R K aa ab 4 n'.Aa ∧ GG K), Fn Tryz.prog 125 [.agg #[.int .i64 n'.Ab, str n'.Ac, .slice aa n'.Aa.length ab, .int .i64 n'.Ad]] K [] (fun v K' H' => v = .bool r ∧ H' = [])) {n : Nat} {n' : Ja} {aa : Option Addr} {ab : Nat} {K : Hp} {r : Bool}
    (hm : JaF az n n' = some r) (hX : LiC Ja.R K aa ab 4 n'.Aa ∧ GG K) :
    Fn Tryz.prog 157 [.agg #[.int .i64 n'.Ab, str n'.Ac, .slice aa n'.Aa.length ab, .int .i64 n'.Ad]] K [] (fun v K' H' => v = .bool r ∧ H' = []) := by
 obtain ⟨ae, hG⟩ := hX
 refine Fn.enter Tryz.func157 Tryz.call157 rfl fun F => ?_
 unfold JaF at hm
 refine box_rule ?_
 intro b1
 refine jR (σ := Unit) [5, 6, 7, 8, 9, 10, 11, 12] (fun _ => [(12, .bool (decide (n'.Ab ≠ 12) || decide (n'.Ac ≠ ([] : Str))))]) (fun aY => True) ?_ ?_
 refine guard_go rfl ?_
 refine fa rfl (ro (ld r0 rfl rfl (neq_int ?_)))
 refine cond_s ?_ ?_ <;> intro aM
 refine ct aM (ct aM (ct aM ?_))
 exact mt (()) ⟨(by rw [← ((or_t aM)).symm] <;> rfl), trivial⟩ rfl (pf rfl) lr trivial
 refine fa rfl (cf aM (ro (ld r0 rfl rfl (cf aM (neq_str (cf aM ?_))))))
 exact mt (()) ⟨(by rw [← (or_e (b := decide (n'.Ac ≠ ([] : Str))) aM)] <;> rfl), trivial⟩ rfl (pf rfl) lr trivial
 rintro _ _ aZ
 refine cs rfl rfl hm ?_ ?_ <;> intro bb hm
 exact eE hm
 refine fa rfl (ro (ld r0 rfl rfl (ro (len_slice rfl ?_))))
 obtain ⟨a6, hm⟩ := chkb hm
 obtain ⟨s0, aN, hm⟩ := bnd hm
 refine lD (σ := (Unit)) [2, 4, 16, 17, 18, 19, 20, 21, 22, 23] [0, 1] (fun i0 => [(16, .int .i64 (i0 : Int))]) (fun _ => []) (fun _ => []) (fun _ => True) (fun i0 _ => JU az (n'.Aa.drop i0) i0 = some s0) (fun t0 => s0 = Fl.go t0) (fun i0 => n'.Aa.length - i0) 0 () aN (And.intro qe (And.intro ?_ ?_))
 clear aN
 rintro i0 _ _ aN j0
 conv at aN => whnf
 refine cond_go rfl ?_
 refine cond_s ?_ ?_ <;> intro w0
 obtain ⟨e0, aO, aV⟩ := ltx w0
 rw [aV, JU.eq_2] at aN
 refine block_go rfl ?_
 refine RStep.ofN (index_addr rfl rfl (hasR ae.rd aO) (nn _) (lt_ofN aO) ?_)
 obtain ⟨a8, aX, aQ, aR, aP⟩ := LiR.get ae.rd aO
 obtain ⟨aS, aU, rfl, aT⟩ := Ja.out aP
 refine ro (load_rd_agg i0 _ aQ rfl aR rfl ?_)
 refine alloc_rule rfl fun b4 => ?_
 refine store_rule r0 rfl ⟨rfl, rfl, (nl rfl), ?_⟩
 refine ro (loadn_s r0 rfl (nl rfl) ?_)
 refine cb aN fun ba aW aN => cgx (ihrec0_0 aW :) ?_
 refine un_not ?_
 refine cs rfl rfl aN ?_ ?_ <;> intro bc aN
 exact eE (er aN hm)
 refine int_in (cntz aO a6) ?_
 exact eR aN (_, ())
 rw [lty w0, JU.eq_1] at aN
 refine cT ?_
 exact eM aN _
 rintro t0 _ rfl j0
 replace hm := elg hm
 exact eE hm

def Jr : Nat → Ja → Option (Bool)
  | 0, _ => none
  | n + 1, n' =>
    if decide (n'.Ab = 2) then
    (if ((decide (n'.Ac ≠ ([] : Str)) || decide ((n'.Aa.length : Int) < 2)) || decide ((n'.Aa.length : Int) > 3)) then some true else (ix n'.Aa 0).bind fun aT =>
    (Jq n aT).bind fun a6 =>
    some (!a6)).bind fun aY =>
    (if aY then some true else (ix n'.Aa 1).bind fun aW =>
    (JaF (Jr n) n aW).bind fun ba =>
    some (!ba)).bind fun aV =>
    if aV then
    some false
    else
    (if decide ((n'.Aa.length : Int) = 2) then some true else (ix n'.Aa 2).bind fun aR =>
    (JaF (Jr n) n aR).bind fun a8 =>
    some a8).bind fun aS =>
    if aS then
    some true
    else
    (ix n'.Aa 2).bind fun bc =>
    (if decide (bc.Ab = 2) then (ix n'.Aa 2).bind fun aU =>
    ((Jr n) aU).bind fun aQ =>
    some aQ else some false).bind fun aZ =>
    some aZ
    else
    if decide (n'.Ab = 6) then
    (JaN n'.Ac).bind fun bb =>
    some (bb && decide ((n'.Aa.length : Int) = 0))
    else
    if decide (n'.Ab = 10) then
    some (decide (n'.Ac = ([] : Str)) && decide ((n'.Aa.length : Int) = 0))
    else
    if decide (n'.Ab = 11) then
    some (decide (n'.Ac = ([] : Str)) && decide ((n'.Aa.length : Int) = 0))
    else
    if decide (n'.Ab = 3) then
    (JbJ n n'.Ac).bind fun aX =>
    if (!aX) then
    some false
    else
    (if decide ((n'.Aa.length : Int) = 1) then (ix n'.Aa 0).bind fun aM =>
    (Jq n aM).bind fun aO =>
    some aO else some false).bind fun aN =>
    some aN
    else
    if decide (n'.Ab = 4) then
    if (decide (n'.Ac ≠ ([112, 97, 116, 104] : Str)) && decide (n'.Ac ≠ ([113, 117, 101, 114, 121] : Str))) then
    some false
    else
    (if decide ((n'.Aa.length : Int) = 1) then (ix n'.Aa 0).bind fun aM =>
    (Jq n aM).bind fun aO =>
    some aO else some false).bind fun aN =>
    some aN
    else
    if decide (n'.Ab = 5) then
    (JaN n'.Ac).bind fun aP =>
    if (!aP) then
    some false
    else
    (if decide ((n'.Aa.length : Int) = 1) then (ix n'.Aa 0).bind fun aM =>
    (Jq n aM).bind fun aO =>
    some aO else some false).bind fun aN =>
    some aN
    else
    if decide (n'.Ab = 7) then
    if decide (n'.Ac ≠ ([] : Str)) then
    some false
    else
    (if decide ((n'.Aa.length : Int) = 1) then (ix n'.Aa 0).bind fun aM =>
    (Jq n aM).bind fun aO =>
    some aO else some false).bind fun aN =>
    some aN
    else
    if decide (n'.Ab = 8) then
    if decide (n'.Ac ≠ ([] : Str)) then
    some false
    else
    (if decide ((n'.Aa.length : Int) = 1) then (ix n'.Aa 0).bind fun aM =>
    (Jq n aM).bind fun aO =>
    some aO else some false).bind fun aN =>
    some aN
    else
    if decide (n'.Ab = 9) then
    if decide (n'.Ac ≠ ([] : Str)) then
    some false
    else
    (if decide ((n'.Aa.length : Int) = 1) then (ix n'.Aa 0).bind fun aM =>
    (Jq n aM).bind fun aO =>
    some aO else some false).bind fun aN =>
    some aN
    else
    some false
theorem Jeu : ∀ {n : Nat} {n' : Ja} {aa : Option Addr} {ab : Nat} {K : Hp} {r : Bool}
    (hm : Jr n n' = some r) (hX : LiC Ja.R K aa ab 4 n'.Aa ∧ GG K),
    Fn Tryz.prog 125 [.agg #[.int .i64 n'.Ab, str n'.Ac, .slice aa n'.Aa.length ab, .int .i64 n'.Ad]] K [] (fun v K' H' => v = .bool r ∧ H' = []) := by
 intro n
 induction n with
 | zero =>
   intro n' aa ab K r hm hX
   rw [Jr.eq_1] at hm; cases hm
 | succ n ih =>
   intro n' aa ab K r hm hX
   obtain ⟨ae, hG⟩ := hX
   refine Fn.enter Tryz.func125 Tryz.call125 rfl fun F => ?_
   rw [Jr.eq_2] at hm
   refine box_rule ?_
   intro b1
   refine fa rfl (ro (ld r0 rfl rfl ?_))
   refine block_go rfl ?_
   refine eq_int (cs rfl rfl hm ?_ ?_) <;> intro w6 hm
   refine fa rfl (ro (ld r0 rfl rfl (ro (len_slice rfl ?_))))
   refine guard_go rfl ?_
   refine fa rfl (ro (ld r0 rfl rfl (neq_str ?_)))
   refine cond_s ?_ ?_ <;> intro bd
   refine ct bd (ct bd (cT (cT (cT ?_))))
   obtain ⟨cE, bm, hm⟩ := bnd hm
   replace bm := ift (or_t (or_t bd)) bm
   refine cT (cT (cT (cT (cT (cT (cT ?_))))))
   obtain ⟨bA, bf, hm⟩ := bnd hm
   replace bf := ift (si bm).symm bf
   refine cT (cT (cT (cT (cT (cT (cT (cond_go rfl ?_)))))))
   refine cT ?_
   replace hm := ift (si bf).symm hm
   exact eE hm
   refine cf bd (cf bd ?_)
   refine cond_s ?_ ?_ <;> intro bg
   refine ct bg (ct bg ?_)
   obtain ⟨cE, bm, hm⟩ := bnd hm
   replace bm := ift (or_t (or_u bd bg)) bm
   refine cT (cT (cT (cT (cT (cT (cT ?_))))))
   obtain ⟨bA, bf, hm⟩ := bnd hm
   replace bf := ift (si bm).symm bf
   refine cT (cT (cT (cT (cT (cT (cT (cond_go rfl ?_)))))))
   refine cT ?_
   replace hm := ift (si bf).symm hm
   exact eE hm
   refine cf bg (cf bg ?_)
   obtain ⟨cE, bm, hm⟩ := bnd hm
   refine cond_s ?_ ?_ <;> intro aS
   replace bm := ift (or_u (or_f bd bg) aS) bm
   refine ct aS (ct aS (ct aS (ct aS (ct aS (ct aS ?_)))))
   obtain ⟨bA, bf, hm⟩ := bnd hm
   replace bf := ift (si bm).symm bf
   refine cT (cT (cT (cT (cT (cT (cT (cond_go rfl ?_)))))))
   refine cT ?_
   replace hm := ift (si bf).symm hm
   exact eE hm
   replace bm := iff_ (or_f (or_f bd bg) aS) bm
   refine fa rfl (cf aS (ro (ld r0 rfl rfl (cf aS ?_))))
   obtain ⟨dk, cd, bM, bm⟩ := ixb bm
   refine RStep.ofN (index_addr rfl rfl (hasR ae.rd bM) cd (lt_ofE rfl cd bM) (cf aS ?_))
   obtain ⟨cP, cM, bJ, bR, bS⟩ := LiR.get ae.rd bM
   obtain ⟨cp, cq, rfl, bX⟩ := Ja.out bS
   refine ro (load_rd_agg ((0 : Int).toNat) _ bJ rfl bR rfl (cf aS ?_))
   refine cb bm fun dq cX bm => cgx (J7 cX :) ?_
   refine cf aS (un_not (cf aS ?_))
   obtain ⟨bA, bf, hm⟩ := bnd hm
   refine cond_s ?_ ?_ <;> intro aR
   replace bf := ift ((si bm).symm.trans (not_t (ni_t aR))) bf
   refine ct aR (ct aR (ct aR (ct aR (ct aR (ct aR (cond_go rfl (cT ?_)))))))
   replace hm := ift (si bf).symm hm
   exact eE hm
   replace bf := iff_ ((si bm).symm.trans (not_f (ni_f aR))) bf
   refine fa rfl (cf aR (ro (ld r0 rfl rfl (cf aR ?_))))
   obtain ⟨c9, cm, bC, bf⟩ := ixb bf
   refine RStep.ofN (index_addr rfl rfl (hasR ae.rd bC) cm (lt_ofE rfl cm bC) (cf aR ?_))
   obtain ⟨cR, cY, bN, bD, bG⟩ := LiR.get ae.rd bC
   obtain ⟨bZ, bY, rfl, cr⟩ := Ja.out bG
   refine ro (load_rd_agg ((1 : Int).toNat) _ bN rfl bD rfl (cf aR ?_))
   refine cb bf fun dc cJ bf => cgx (Jc9 ih cJ :) ?_
   refine cf aR (un_not (cf aR (cond_go rfl ?_)))
   refine cond_s ?_ ?_ <;> intro cz
   replace hm := ift ((si bf).symm.trans (not_t (ni_t cz))) hm
   exact eE hm
   replace hm := iff_ ((si bf).symm.trans (not_f (ni_f cz))) hm
   refine guard_go rfl ?_
   refine eq_int ?_
   obtain ⟨dj, bq, hm⟩ := bnd hm
   refine cond_s ?_ ?_ <;> intro aZ
   replace bq := ift aZ bq
   refine ct aZ (ct aZ (ct aZ (ct aZ (ct aZ ?_))))
   replace hm := ift (si bq).symm hm
   refine cT (cT (cT (cT (cT (cT (cT (cT ?_)))))))
   refine cT ?_
   exact eE hm
   replace bq := iff_ aZ bq
   refine fa rfl (cf aZ (ro (ld r0 rfl rfl (cf aZ ?_))))
   obtain ⟨dt, cD, bO, bq⟩ := ixb bq
   refine RStep.ofN (index_addr rfl rfl (hasR ae.rd bO) cD (lt_ofE rfl cD bO) (cf aZ ?_))
   obtain ⟨c6, cK, bH, bT, bE⟩ := LiR.get ae.rd bO
   obtain ⟨cC, cG, rfl, ce⟩ := Ja.out bE
   refine ro (load_rd_agg ((2 : Int).toNat) _ bH rfl bT rfl (cf aZ ?_))
   refine cb bq fun db cQ bq => cgx (Jc9 ih cQ :) ?_
   refine cf aZ ?_
   refine cond_s ?_ ?_ <;> intro aP
   replace hm := ift ((si bq).symm.trans aP) hm
   refine ct aP (ct aP (ct aP (ct aP (ct aP (ct aP (ct aP (ct aP ?_)))))))
   exact eE hm
   replace hm := iff_ ((si bq).symm.trans aP) hm
   refine fa rfl (cf aP (ro (ld r0 rfl rfl (cf aP ?_))))
   obtain ⟨dg, cA, bz, hm⟩ := ixb hm
   refine RStep.ofN (index_addr rfl rfl (hasR ae.rd bz) cA (lt_ofE rfl cA bz) (cf aP (eptr_field rfl (hasR ae.rd bz) (cf aP ?_))))
   obtain ⟨cZ, cV, bL, bU, bP⟩ := LiR.get ae.rd bz
   obtain ⟨co, cw, rfl, ca⟩ := Ja.out bP
   refine ro (load_rd ((2 : Int).toNat) 0 _ _ bL rfl bU rfl rfl (cf aP (eq_int (cf aP ?_))))
   obtain ⟨dp, br, hm⟩ := bnd hm
   refine cond_s ?_ ?_ <;> intro aY
   replace br := ift aY br
   refine fa rfl (ct aY (ro (ld r0 rfl rfl (ct aY ?_))))
   obtain ⟨dl, cj, bI, br⟩ := ixb br
   refine RStep.ofN (index_addr rfl rfl (hasR ae.rd bI) cj (lt_ofE rfl cj bI) (ct aY ?_))
   obtain ⟨cU, cI, bB, bK, bF⟩ := LiR.get ae.rd bI
   obtain ⟨bW, cn, rfl, bV⟩ := Ja.out bF
   refine ro (load_rd_agg ((2 : Int).toNat) _ bB rfl bK rfl (ct aY ?_))
   refine cb br fun c8 cH br => cgx (ih cH :) ?_
   refine cf aP (ct aY (cf aP ?_))
   cases hm
   exact en lr ⟨(by rw [← (si br)] <;> rfl), rfl⟩ (sc [1] rfl)
   replace br := iff_ aY br
   refine cf aY (cf aY (cf aY (cf aY (cf aP (cf aY (cf aP ?_))))))
   cases hm
   exact en lr ⟨(by rw [← ((si br).symm).symm] <;> rfl), rfl⟩ (sc [1] rfl)
   refine eq_int (cs rfl rfl hm ?_ ?_) <;> intro dh hm
   refine guard_go rfl ?_
   refine fa rfl (ro (ld r0 rfl rfl ?_))
   refine cb hm fun de cL hm => cg0 (Jcc cL :) ?_
   refine cond_s ?_ ?_ <;> intro a6
   refine fa rfl (ct a6 (ro (ld r0 rfl rfl (ct a6 (ro (len_slice rfl (ct a6 (eq_int (ct a6 ?_)))))))))
   cases hm
   exact en lr ⟨(by rw [← (and_e (b := decide ((n'.Aa.length : Int) = 0)) a6)] <;> rfl), rfl⟩ (sc [1] rfl)
   refine cf a6 (cf a6 (cf a6 (cf a6 ?_)))
   cases hm
   exact en lr ⟨(by rw [← ((and_f a6)).symm] <;> rfl), rfl⟩ (sc [1] rfl)
   refine eq_int (cs rfl rfl hm ?_ ?_) <;> intro cB hm
   refine cond_go rfl (ct cB ?_)
   refine guard_go rfl ?_
   refine fa rfl (ro (ld r0 rfl rfl (eq_str ?_)))
   refine cond_s ?_ ?_ <;> intro aO
   refine fa rfl (ct aO (ro (ld r0 rfl rfl (ct aO (ro (len_slice rfl (ct aO (eq_int (ct aO ?_)))))))))
   cases hm
   exact en lr ⟨(by rw [← (and_e (b := decide ((n'.Aa.length : Int) = 0)) aO)] <;> rfl), rfl⟩ (sc [1] rfl)
   refine cf aO (cf aO (cf aO (cf aO ?_)))
   cases hm
   exact en lr ⟨(by rw [← ((and_f aO)).symm] <;> rfl), rfl⟩ (sc [1] rfl)
   refine eq_int (cs rfl rfl hm ?_ ?_) <;> intro cB hm
   refine guard_go rfl ?_
   refine fa rfl (ro (ld r0 rfl rfl (eq_str ?_)))
   refine cond_s ?_ ?_ <;> intro aO
   refine fa rfl (ct aO (ro (ld r0 rfl rfl (ct aO (ro (len_slice rfl (ct aO (eq_int (ct aO ?_)))))))))
   cases hm
   exact en lr ⟨(by rw [← (and_e (b := decide ((n'.Aa.length : Int) = 0)) aO)] <;> rfl), rfl⟩ (sc [1] rfl)
   refine cf aO (cf aO (cf aO (cf aO ?_)))
   cases hm
   exact en lr ⟨(by rw [← ((and_f aO)).symm] <;> rfl), rfl⟩ (sc [1] rfl)
   refine eq_int (cs rfl rfl hm ?_ ?_) <;> intro da hm
   refine fa rfl (ro (ld r0 rfl rfl ?_))
   refine cb hm fun df cW hm => cgx (JcQ cW :) ?_
   refine un_not ?_
   refine cs rfl rfl hm ?_ ?_ <;> intro di hm
   exact eE hm
   refine guard_go rfl ?_
   refine fa rfl (ro (ld r0 rfl rfl (ro (len_slice rfl (eq_int ?_)))))
   obtain ⟨bn, aN, hm⟩ := bnd hm
   refine cond_s ?_ ?_ <;> intro aM
   replace aN := ift aM aN
   refine fa rfl (ct aM (ro (ld r0 rfl rfl (ct aM ?_))))
   obtain ⟨bp, aV, aQ, aN⟩ := ixb aN
   refine RStep.ofN (index_addr rfl rfl (hasR ae.rd aQ) aV (lt_ofE rfl aV aQ) (ct aM ?_))
   obtain ⟨bh, bj, aW, aU, aT⟩ := LiR.get ae.rd aQ
   obtain ⟨a8, bc, rfl, ba⟩ := Ja.out aT
   refine ro (load_rd_agg ((0 : Int).toNat) _ aW rfl aU rfl (ct aM ?_))
   refine cb aN fun bo bb aN => cgx (J7 bb :) ?_
   refine ct aM ?_
   cases hm
   exact en lr ⟨(by rw [← (si aN)] <;> rfl), rfl⟩ (sc [1] rfl)
   replace aN := iff_ aM aN
   refine cf aM (cf aM (cf aM (cf aM (cf aM ?_))))
   cases hm
   exact en lr ⟨(by rw [← ((si aN).symm).symm] <;> rfl), rfl⟩ (sc [1] rfl)
   refine eq_int (cs rfl rfl hm ?_ ?_) <;> intro dm hm
   refine guard_go rfl ?_
   refine fa rfl (ro (ld r0 rfl rfl (neq_str ?_)))
   refine cond_s ?_ ?_ <;> intro aX
   refine fa rfl (ct aX (ro (ld r0 rfl rfl (ct aX (neq_str (ct aX (cond_go rfl ?_)))))))
   refine cond_s ?_ ?_ <;> intro bu
   replace hm := ift (and_t aX bu) hm
   exact eE hm
   replace hm := iff_ (and_g aX bu) hm
   refine guard_go rfl ?_
   refine fa rfl (ro (ld r0 rfl rfl (ro (len_slice rfl (eq_int ?_)))))
   obtain ⟨bn, aN, hm⟩ := bnd hm
   refine cond_s ?_ ?_ <;> intro aM
   replace aN := ift aM aN
   refine fa rfl (ct aM (ro (ld r0 rfl rfl (ct aM ?_))))
   obtain ⟨bp, aV, aQ, aN⟩ := ixb aN
   refine RStep.ofN (index_addr rfl rfl (hasR ae.rd aQ) aV (lt_ofE rfl aV aQ) (ct aM ?_))
   obtain ⟨bh, bj, aW, aU, aT⟩ := LiR.get ae.rd aQ
   obtain ⟨a8, bc, rfl, ba⟩ := Ja.out aT
   refine ro (load_rd_agg ((0 : Int).toNat) _ aW rfl aU rfl (ct aM ?_))
   refine cb aN fun bo bb aN => cgx (J7 bb :) ?_
   refine ct aM ?_
   cases hm
   exact en lr ⟨(by rw [← (si aN)] <;> rfl), rfl⟩ (sc [1] rfl)
   replace aN := iff_ aM aN
   refine cf aM (cf aM (cf aM (cf aM (cf aM ?_))))
   cases hm
   exact en lr ⟨(by rw [← ((si aN).symm).symm] <;> rfl), rfl⟩ (sc [1] rfl)
   refine cf aX (cf aX (cf aX (cond_go rfl (cF ?_))))
   replace hm := iff_ (and_f aX) hm
   refine guard_go rfl ?_
   refine fa rfl (ro (ld r0 rfl rfl (ro (len_slice rfl (eq_int ?_)))))
   obtain ⟨bn, aN, hm⟩ := bnd hm
   refine cond_s ?_ ?_ <;> intro aM
   replace aN := ift aM aN
   refine fa rfl (ct aM (ro (ld r0 rfl rfl (ct aM ?_))))
   obtain ⟨bp, aV, aQ, aN⟩ := ixb aN
   refine RStep.ofN (index_addr rfl rfl (hasR ae.rd aQ) aV (lt_ofE rfl aV aQ) (ct aM ?_))
   obtain ⟨bh, bj, aW, aU, aT⟩ := LiR.get ae.rd aQ
   obtain ⟨a8, bc, rfl, ba⟩ := Ja.out aT
   refine ro (load_rd_agg ((0 : Int).toNat) _ aW rfl aU rfl (ct aM ?_))
   refine cb aN fun bo bb aN => cgx (J7 bb :) ?_
   refine ct aM ?_
   cases hm
   exact en lr ⟨(by rw [← (si aN)] <;> rfl), rfl⟩ (sc [1] rfl)
   replace aN := iff_ aM aN
   refine cf aM (cf aM (cf aM (cf aM (cf aM ?_))))
   cases hm
   exact en lr ⟨(by rw [← ((si aN).symm).symm] <;> rfl), rfl⟩ (sc [1] rfl)
   refine eq_int (cs rfl rfl hm ?_ ?_) <;> intro cO hm
   refine fa rfl (ro (ld r0 rfl rfl ?_))
   refine cb hm fun cS bQ hm => cg0 (Jcc bQ :) ?_
   refine un_not ?_
   refine cs rfl rfl hm ?_ ?_ <;> intro c5 hm
   exact eE hm
   refine guard_go rfl ?_
   refine fa rfl (ro (ld r0 rfl rfl (ro (len_slice rfl (eq_int ?_)))))
   obtain ⟨bn, aN, hm⟩ := bnd hm
   refine cond_s ?_ ?_ <;> intro aM
   replace aN := ift aM aN
   refine fa rfl (ct aM (ro (ld r0 rfl rfl (ct aM ?_))))
   obtain ⟨bp, aV, aQ, aN⟩ := ixb aN
   refine RStep.ofN (index_addr rfl rfl (hasR ae.rd aQ) aV (lt_ofE rfl aV aQ) (ct aM ?_))
   obtain ⟨bh, bj, aW, aU, aT⟩ := LiR.get ae.rd aQ
   obtain ⟨a8, bc, rfl, ba⟩ := Ja.out aT
   refine ro (load_rd_agg ((0 : Int).toNat) _ aW rfl aU rfl (ct aM ?_))
   refine cb aN fun bo bb aN => cgx (J7 bb :) ?_
   refine ct aM ?_
   cases hm
   exact en lr ⟨(by rw [← (si aN)] <;> rfl), rfl⟩ (sc [1] rfl)
   replace aN := iff_ aM aN
   refine cf aM (cf aM (cf aM (cf aM (cf aM ?_))))
   cases hm
   exact en lr ⟨(by rw [← ((si aN).symm).symm] <;> rfl), rfl⟩ (sc [1] rfl)
   refine eq_int (cs rfl rfl hm ?_ ?_) <;> intro bt hm
   refine cond_go rfl (ct bt (fa rfl (ro (ld r0 rfl rfl (neq_str ?_)))))
   refine cs rfl rfl hm ?_ ?_ <;> intro bw hm
   exact eE hm
   refine guard_go rfl ?_
   refine fa rfl (ro (ld r0 rfl rfl (ro (len_slice rfl (eq_int ?_)))))
   obtain ⟨bn, aN, hm⟩ := bnd hm
   refine cond_s ?_ ?_ <;> intro aM
   replace aN := ift aM aN
   refine fa rfl (ct aM (ro (ld r0 rfl rfl (ct aM ?_))))
   obtain ⟨bp, aV, aQ, aN⟩ := ixb aN
   refine RStep.ofN (index_addr rfl rfl (hasR ae.rd aQ) aV (lt_ofE rfl aV aQ) (ct aM ?_))
   obtain ⟨bh, bj, aW, aU, aT⟩ := LiR.get ae.rd aQ
   obtain ⟨a8, bc, rfl, ba⟩ := Ja.out aT
   refine ro (load_rd_agg ((0 : Int).toNat) _ aW rfl aU rfl (ct aM ?_))
   refine cb aN fun bo bb aN => cgx (J7 bb :) ?_
   refine ct aM ?_
   cases hm
   exact en lr ⟨(by rw [← (si aN)] <;> rfl), rfl⟩ (sc [1] rfl)
   replace aN := iff_ aM aN
   refine cf aM (cf aM (cf aM (cf aM (cf aM ?_))))
   cases hm
   exact en lr ⟨(by rw [← ((si aN).symm).symm] <;> rfl), rfl⟩ (sc [1] rfl)
   refine eq_int (cs rfl rfl hm ?_ ?_) <;> intro bt hm
   refine cond_go rfl (ct bt (fa rfl (ro (ld r0 rfl rfl (neq_str ?_)))))
   refine cs rfl rfl hm ?_ ?_ <;> intro bw hm
   exact eE hm
   refine guard_go rfl ?_
   refine fa rfl (ro (ld r0 rfl rfl (ro (len_slice rfl (eq_int ?_)))))
   obtain ⟨bn, aN, hm⟩ := bnd hm
   refine cond_s ?_ ?_ <;> intro aM
   replace aN := ift aM aN
   refine fa rfl (ct aM (ro (ld r0 rfl rfl (ct aM ?_))))
   obtain ⟨bp, aV, aQ, aN⟩ := ixb aN
   refine RStep.ofN (index_addr rfl rfl (hasR ae.rd aQ) aV (lt_ofE rfl aV aQ) (ct aM ?_))
   obtain ⟨bh, bj, aW, aU, aT⟩ := LiR.get ae.rd aQ
   obtain ⟨a8, bc, rfl, ba⟩ := Ja.out aT
   refine ro (load_rd_agg ((0 : Int).toNat) _ aW rfl aU rfl (ct aM ?_))
   refine cb aN fun bo bb aN => cgx (J7 bb :) ?_
   refine ct aM ?_
   cases hm
   exact en lr ⟨(by rw [← (si aN)] <;> rfl), rfl⟩ (sc [1] rfl)
   replace aN := iff_ aM aN
   refine cf aM (cf aM (cf aM (cf aM (cf aM ?_))))
   cases hm
   exact en lr ⟨(by rw [← ((si aN).symm).symm] <;> rfl), rfl⟩ (sc [1] rfl)
   refine eq_int (cs rfl rfl hm ?_ ?_) <;> intro bt hm
   refine fa rfl (ro (ld r0 rfl rfl (neq_str ?_)))
   refine cs rfl rfl hm ?_ ?_ <;> intro bw hm
   exact eE hm
   refine guard_go rfl ?_
   refine fa rfl (ro (ld r0 rfl rfl (ro (len_slice rfl (eq_int ?_)))))
   obtain ⟨bn, aN, hm⟩ := bnd hm
   refine cond_s ?_ ?_ <;> intro aM
   replace aN := ift aM aN
   refine fa rfl (ct aM (ro (ld r0 rfl rfl (ct aM ?_))))
   obtain ⟨bp, aV, aQ, aN⟩ := ixb aN
   refine RStep.ofN (index_addr rfl rfl (hasR ae.rd aQ) aV (lt_ofE rfl aV aQ) (ct aM ?_))
   obtain ⟨bh, bj, aW, aU, aT⟩ := LiR.get ae.rd aQ
   obtain ⟨a8, bc, rfl, ba⟩ := Ja.out aT
   refine ro (load_rd_agg ((0 : Int).toNat) _ aW rfl aU rfl (ct aM ?_))
   refine cb aN fun bo bb aN => cgx (J7 bb :) ?_
   refine ct aM ?_
   cases hm
   exact en lr ⟨(by rw [← (si aN)] <;> rfl), rfl⟩ (sc [1] rfl)
   replace aN := iff_ aM aN
   refine cf aM (cf aM (cf aM (cf aM (cf aM ?_))))
   cases hm
   exact en lr ⟨(by rw [← ((si aN).symm).symm] <;> rfl), rfl⟩ (sc [1] rfl)
   exact eE hm

def Jav (n : Nat) : List Ja → Nat → Option (Fl (Bool) (Unit))
  | [], _ => some (Fl.go ())
  | e0 :: aN, i0 =>
    (Jr n e0).bind fun aM =>
    if (!aM) then
    some (Fl.ret false)
    else
    Jav n aN (i0 + 1)
def Jab (n : Nat) (n' : Ja) : Option (Bool) :=
  if (decide (n'.Ab ≠ 1) || decide (n'.Ac ≠ ([] : Str))) then
  some false
  else
  (Jas n n' 512 32).bind fun aM =>
  if (!aM.1) then
  some false
  else
  (chk (n'.Aa.length ≤ szMax)).bind fun _ =>
  (Jav n n'.Aa 0).bind fun s0 => s0.el some fun t0 =>
  some true
theorem JeK {n : Nat} {n' : Ja} {aa : Option Addr} {ab : Nat} {K : Hp} {r : Bool}
    (hm : Jab n n' = some r) (hX : LiC Ja.R K aa ab 4 n'.Aa ∧ GG K) :
    Fn Tryz.prog 84 [.agg #[.int .i64 n'.Ab, str n'.Ac, .slice aa n'.Aa.length ab, .int .i64 n'.Ad]] K [] (fun v K' H' => v = .bool r ∧ H' = []) := by
 obtain ⟨ae, hG⟩ := hX
 refine Fn.enter Tryz.func84 Tryz.call84 rfl fun F => ?_
 unfold Jab at hm
 refine box_rule ?_
 intro b1
 refine alloc_rule rfl fun b3 => ?_
 refine store_rule r0 rfl ⟨rfl, rfl, (nl rfl), ?_⟩
 refine guard_go rfl ?_
 refine fa rfl (ro (ld r1 rfl rfl (neq_int ?_)))
 refine cond_s ?_ ?_ <;> intro aN
 refine ct aN (ct aN (ct aN ?_))
 replace hm := ift (or_t aN) hm
 refine cT (cT (cT (cT (cond_go rfl (cT ?_)))))
 exact eE hm
 refine fa rfl (cf aN (ro (ld r1 rfl rfl (cf aN (neq_str (cf aN ?_))))))
 refine cond_s ?_ ?_ <;> intro aM
 replace hm := ift (or_u aN aM) hm
 refine ct aM (ct aM (ct aM (cond_go rfl (cT ?_))))
 exact eE hm
 replace hm := iff_ (or_f aN aM) hm
 refine ro (loadn_s r1 rfl (nl rfl) (cf aM ?_))
 refine cb hm fun bc aX hm => cgx (JeI aX :) ?_
 refine cf aM (un_not (cf aM ?_))
 refine cs rfl rfl hm ?_ ?_ <;> intro bd hm
 exact eE hm
 refine fa rfl (ro (ld r1 rfl rfl (ro (len_slice rfl ?_))))
 obtain ⟨a6, hm⟩ := chkb hm
 obtain ⟨s0, aO, hm⟩ := bnd hm
 refine lD (σ := (Unit)) [2, 5, 22, 23, 24, 25, 26, 27, 28, 29] [0, 1, 2] (fun i0 => [(22, .int .i64 (i0 : Int))]) (fun _ => []) (fun _ => []) (fun _ => True) (fun i0 _ => Jav n (n'.Aa.drop i0) i0 = some s0) (fun t0 => s0 = Fl.go t0) (fun i0 => n'.Aa.length - i0) 0 () aO (And.intro qe (And.intro ?_ ?_))
 clear aO
 rintro i0 _ _ aO j0
 conv at aO => whnf
 refine cond_go rfl ?_
 refine cond_s ?_ ?_ <;> intro w0
 obtain ⟨e0, aP, aW⟩ := ltx w0
 rw [aW, Jav.eq_2] at aO
 refine block_go rfl ?_
 refine RStep.ofN (index_addr rfl rfl (hasR ae.rd aP) (nn _) (lt_ofN aP) ?_)
 obtain ⟨a8, aY, aR, aS, aQ⟩ := LiR.get ae.rd aP
 obtain ⟨aV, aT, rfl, aU⟩ := Ja.out aQ
 refine ro (load_rd_agg i0 _ aR rfl aS rfl ?_)
 refine alloc_rule rfl fun b5 => ?_
 refine store_rule r0 rfl ⟨rfl, rfl, (nl rfl), ?_⟩
 refine ro (loadn_s r0 rfl (nl rfl) ?_)
 refine cb aO fun ba aZ aO => cgx (Jeu aZ :) ?_
 refine un_not ?_
 refine cs rfl rfl aO ?_ ?_ <;> intro bb aO
 exact eE (er aO hm)
 refine int_in (cntz aP a6) ?_
 exact eR aO (_, ())
 rw [lty w0, Jav.eq_1] at aO
 refine cT ?_
 exact eM aO _
 rintro t0 _ rfl j0
 replace hm := elg hm
 exact eE hm

def Jco (name : Str) : Option (Bool) :=
  some (((decide (name = ([109, 101, 116, 104, 111, 100] : Str)) || decide (name = ([104, 111, 115, 116] : Str))) || decide (name = ([112, 97, 116, 104] : Str))) || decide (name = ([113, 117, 101, 114, 121] : Str)))
theorem JdH {name : Str} {K : Hp} {r : Bool}
    (hm : Jco name = some r)  :
    Fn Tryz.prog 170 [str name] K [] (fun v K' H' => v = .bool r ∧ H' = []) := by
 refine Fn.enter Tryz.func170 Tryz.call170 rfl fun F => ?_
 unfold Jco at hm
 refine guard_go rfl ?_
 refine eq_str ?_
 refine cond_s ?_ ?_ <;> intro aN
 refine ct aN (ct aN (cT (cT (cT (cT (cT (cT ?_)))))))
 cases hm
 exact en lr ⟨(by rw [← ((or_t (or_t (or_t aN)))).symm] <;> rfl), rfl⟩ (pf rfl)
 refine cf aN (eq_str (cf aN ?_))
 refine cond_s ?_ ?_ <;> intro aO
 refine ct aO (ct aO (cT (cT (cT ?_))))
 cases hm
 exact en lr ⟨(by rw [← ((or_t (or_t (or_u aN aO)))).symm] <;> rfl), rfl⟩ (pf rfl)
 refine cf aO (eq_str (cf aO ?_))
 refine cond_s ?_ ?_ <;> intro aM
 refine ct aM (ct aM ?_)
 cases hm
 exact en lr ⟨(by rw [← ((or_t (or_u (or_f aN aO) aM))).symm] <;> rfl), rfl⟩ (pf rfl)
 refine cf aM (eq_str (cf aM ?_))
 cases hm
 exact en lr ⟨(by rw [← (or_e (b := decide (name = ([113, 117, 101, 114, 121] : Str))) (or_f (or_f aN aO) aM))] <;> rfl), rfl⟩ (pf rfl)

def Jac (env : (List Ji)) (name : Str) : Nat → Int → Option (Fl (Int) (Int))
  | 0, _ => none
  | aO + 1, ac =>
    if decide (ac ≥ 0) then
    (ix env ac).bind fun aM =>
    if decide (aM.Name = name) then
    (ix env ac).bind fun aN =>
    some (Fl.ret aN.As)
    else
    (chk (InI (ac - 1))).bind fun _ =>
    Jac env name aO (ac - 1)
    else
    some (Fl.go ac)
def JaP (n : Nat) (name : Str) (env : (List Ji)) : Option (Int) :=
  (chk (InI ((env.length : Int) - 1))).bind fun _ =>
  (Jac env name n ((env.length : Int) - 1)).bind fun s0 => s0.el some fun t0 =>
  (Jco name).bind fun aM =>
  if aM then
  some 1
  else
  some 0
theorem Jdj {n : Nat} {name : Str} {env : (List Ji)} {ag : Option Addr} {ah : Nat} {n1 : Nat} {K : Hp} {r : Int}
    (hm : JaP n name env = some r) (hX : RdC Ji.enc K ag ah 2 env ∧ n1 = env.length) :
    Fn Tryz.prog 137 [str name, .slice ag n1 ah] K [] (fun v K' H' => v = .int .i64 r ∧ H' = []) := by
 obtain ⟨af, aS⟩ := hX
 subst aS
 refine Fn.enter Tryz.func137 Tryz.call137 rfl fun F => ?_
 unfold JaP at hm
 refine ro (len_slice rfl ?_)
 refine ci hm fun hm => ?_
 obtain ⟨s0, aM, hm⟩ := bnd hm
 refine lD (σ := (Int)) [4, 5, 9, 10, 11, 12, 13, 14, 15, 16, 17, 18, 19, 20, 21, 22, 23, 24] [0] (fun _ => []) (fun t0 => [(5, .int .i64 t0)]) (fun _ => []) (fun _ => True) (fun i0 t0 => Jac env name i0 t0 = some s0) (fun t0 => s0 = Fl.go t0) (fun i0 => i0) n _ aM (And.intro qe (And.intro ?_ ?_))
 clear aM
 rintro i0 ac _ aM j0
 conv at aM => whnf
 cases i0 with
 | zero => rw [Jac.eq_1] at aM; cases aM
 | succ i0 =>
  rw [Jac.eq_2] at aM
  refine cs rfl rfl aM ?_ ?_ <;> intro aU aM
  refine block_go rfl ?_
  obtain ⟨aX, aQ, aN, aM⟩ := ixb aM
  refine RStep.ofN (index_addr rfl rfl (hasK af.rd aN) aQ (lt_ofE rfl aQ aN) (eptr_field rfl (hasK af.rd aN) (ro (load_rd ((ac).toNat) 0 _ _ af.rd rfl (mp aN) rfl rfl (eq_str ?_)))))
  refine cs rfl rfl aM ?_ ?_ <;> intro aY aM
  obtain ⟨aW, aP, aO, aM⟩ := ixb aM
  refine RStep.ofN (index_addr rfl rfl (hasK af.rd aO) aP (lt_ofE rfl aP aO) (eptr_field rfl (hasK af.rd aO) (ro (load_rd ((ac).toNat) 1 _ _ af.rd rfl (mp aO) rfl rfl ?_))))
  exact eE (er aM hm)
  refine ci aM fun aM => ?_
  exact eR aM (_, _)
  refine cT ?_
  exact eM aM _
 rintro t0 _ rfl j0
 replace hm := elg hm
 refine cb hm fun aV aR hm => cg0 (JdH aR :) ?_
 refine cs rfl rfl hm ?_ ?_ <;> intro aT hm
 exact eE hm
 exact eE hm

def JH (c : Jk) (n' : Ja) (err : Err) : Option (Jk) :=
  if c.err.isNone then
  some (⟨n'.Ad, err⟩ : Jk)
  else
  some c
theorem J0 {c : Jk} {n' : Ja} {err : Err} {b0 : Nat} {ag : Option Addr} {ah : Nat} {K : Hp} {r : Jk}
    (hm : JH c n' err = some r) (af : LiC Ja.R K ag ah 4 n'.Aa) :
    Fn Tryz.prog 128 [.pointer (some ⟨b0, 0, none⟩), .agg #[.int .i64 n'.Ab, str n'.Ac, .slice ag n'.Aa.length ah, .int .i64 n'.Ad], errV 87 err] K [Cells b0 171 [.int .i64 c.line, errV 87 c.err]] (fun v K' H' => v = .tuple #[] ∧ H' = [Cells b0 171 [.int .i64 r.line, errV 87 r.err]]) := by
 refine Fn.enter Tryz.func128 Tryz.call128 rfl fun F => ?_
 unfold JH at hm
 refine box_rule ?_
 intro b4
 refine nil_check (fa rfl (ro (ld r1 rfl rfl (eq_err rfl ?_))))
 refine cs rfl rfl hm ?_ ?_ <;> intro aM hm
 refine fa rfl (ro (ld r0 rfl rfl (nil_check (fa rfl ?_))))
 refine store_rule r1 rfl ⟨rfl, rfl, (nl rfl), ?_⟩
 refine nil_check (fa rfl ?_)
 refine store_err r0 rfl rfl ?_
 exact eE hm
 exact eE hm

def J2 (name : Str) : Option (Int × Int) :=
  if decide (name = ([104, 101, 97, 100, 101, 114] : Str)) then
  some (1, 1)
  else
  if decide (name = ([97, 114, 103] : Str)) then
  some (1, 1)
  else
  if decide (name = ([108, 111, 119, 101, 114] : Str)) then
  some (1, 1)
  else
  if decide (name = ([104, 97, 115] : Str)) then
  some (1, 3)
  else
  if decide (name = ([108, 101, 110] : Str)) then
  some (1, 2)
  else
  if decide (name = ([110, 117, 109, 98, 101, 114] : Str)) then
  some (1, 2)
  else
  if decide (name = ([112, 97, 114, 116] : Str)) then
  some (2, 1)
  else
  if decide (name = ([116, 101, 120, 116] : Str)) then
  some (2, 1)
  else
  some (0, 0)
theorem Jec {name : Str} {K : Hp} {r : Int × Int}
    (hm : J2 name = some r)  :
    Fn Tryz.prog 171 [str name] K [] (fun v K' H' => v = .tuple #[.int .i64 r.1, .int .i64 r.2] ∧ H' = []) := by
 refine Fn.enter Tryz.func171 Tryz.call171 rfl fun F => ?_
 unfold J2 at hm
 refine block_go rfl ?_
 refine eq_str (cs rfl rfl hm ?_ ?_) <;> intro w5 hm
 refine cond_go rfl (ct w5 ?_)
 exact eE hm
 refine eq_str (cs rfl rfl hm ?_ ?_) <;> intro w5 hm
 refine cond_go rfl (ct w5 ?_)
 exact eE hm
 refine eq_str (cs rfl rfl hm ?_ ?_) <;> intro w5 hm
 exact eE hm
 refine eq_str (cs rfl rfl hm ?_ ?_) <;> intro w9 hm
 exact eE hm
 refine eq_str (cs rfl rfl hm ?_ ?_) <;> intro aM hm
 refine cond_go rfl (ct aM ?_)
 exact eE hm
 refine eq_str (cs rfl rfl hm ?_ ?_) <;> intro aM hm
 exact eE hm
 refine eq_str (cs rfl rfl hm ?_ ?_) <;> intro aN hm
 refine cond_go rfl (ct aN ?_)
 exact eE hm
 refine eq_str (cs rfl rfl hm ?_ ?_) <;> intro aN hm
 exact eE hm
 exact eE hm

def JV (c : Jk) (n' : Ja) (args : (List Int)) : Option (Int × Jk) :=
  (J2 n'.Ac).bind fun ax =>
  if decide (ax.2 = 0) then
  (JH c n' (some 8)).bind fun aN =>
  some (ax.2, aN)
  else
  (if decide ((args.length : Int) ≠ 1) then some true else (ix args 0).bind fun aO =>
  some (decide (aO ≠ ax.1))).bind fun aP =>
  if aP then
  (JH c n' (some 9)).bind fun aM =>
  some (ax.2, aM)
  else
  some (ax.2, c)
theorem JdB {c : Jk} {n' : Ja} {args : (List Int)} {b0 : Nat} {ag : Option Addr} {ah : Nat} {aq : Option Addr} {ar : Nat} {n2 : Nat} {K : Hp} {r : Int × Jk}
    (hm : JV c n' args = some r) (hX : LiC Ja.R K ag ah 4 n'.Aa ∧ RdC eN K aq ar 1 args ∧ n2 = args.length) :
    Fn Tryz.prog 138 [.pointer (some ⟨b0, 0, none⟩), .agg #[.int .i64 n'.Ab, str n'.Ac, .slice ag n'.Aa.length ah, .int .i64 n'.Ad], .slice aq n2 ar] K [Cells b0 171 [.int .i64 c.line, errV 87 c.err]] (fun v K' H' => v = .int .i64 r.1 ∧ H' = [Cells b0 171 [.int .i64 r.2.line, errV 87 r.2.err]]) := by
 obtain ⟨af, aO, aT⟩ := hX
 subst aT
 refine Fn.enter Tryz.func138 Tryz.call138 rfl fun F => ?_
 unfold JV at hm
 refine box_rule ?_
 intro b4
 refine fa rfl (ro (ld r0 rfl rfl ?_))
 refine cb hm fun ax aW hm => cg0 (Jec aW :) ?_
 refine eq_int (cs rfl rfl hm ?_ ?_) <;> intro aZ hm
 refine ro (loadn_s r0 rfl (nl rfl) ?_)
 refine mk_iface rfl ?_
 refine cb hm fun aX aU hm => cgx (J0 aU :) ?_
 exact eE hm
 refine guard_go rfl ?_
 refine ro (len_slice rfl (neq_int ?_))
 obtain ⟨a6, aN, hm⟩ := bnd hm
 refine cond_s ?_ ?_ <;> intro aM
 replace aN := ift aM aN
 refine ct aM (ct aM (ct aM (ct aM (ct aM (cond_go rfl (cT ?_))))))
 replace hm := ift (si aN).symm hm
 refine ro (loadn_s r0 rfl (nl rfl) ?_)
 refine mk_iface rfl ?_
 refine cb hm fun aV aQ hm => cgx (J0 aQ :) ?_
 exact eE hm
 replace aN := iff_ aM aN
 refine cf aM ?_
 obtain ⟨aY, aS, aP, aN⟩ := ixb aN
 refine RStep.ofN (index_addr rfl rfl (hasK aO.rd aP) aS (lt_ofE rfl aS aP) (cf aM (ro (load_rd ((0 : Int).toNat) 0 _ _ aO.rd rfl (mp aP) rfl rfl (cf aM (cf aM (neq_int (cf aM (cond_go rfl ?_)))))))))
 refine cond_s ?_ ?_ <;> intro aR
 replace hm := ift ((si aN).symm.trans aR) hm
 refine ro (loadn_s r0 rfl (nl rfl) ?_)
 refine mk_iface rfl ?_
 refine cb hm fun aV aQ hm => cgx (J0 aQ :) ?_
 exact eE hm
 replace hm := iff_ ((si aN).symm.trans aR) hm
 exact eE hm

def JJ (t : Int) : List Int → Nat → Option (Fl (Bool) (Unit))
  | [], _ => some (Fl.go ())
  | e0 :: aM, i0 =>
    if decide (e0 ≠ t) then
    some (Fl.ret false)
    else
    JJ t aM (i0 + 1)
def Jv (t : Int) (aD : (List Int)) : Option (Bool) :=
  (chk (aD.length ≤ szMax)).bind fun _ =>
  (JJ t aD 0).bind fun s0 => s0.el some fun t0 =>
  some true
theorem JT {t : Int} {aD : (List Int)} {b1 : Nat} {ag : Option Addr} {ah : Nat} {K : Hp} {r : Bool}
    (hm : Jv t aD = some r) (af : RdC eN K ag ah 1 aD) :
    Fn Tryz.prog 172 [.int .i64 t, .pointer (some ⟨b1, 0, none⟩)] K [Cells b1 150 [.slice ag aD.length ah]] (fun v K' H' => v = .bool r ∧ H' = [Cells b1 150 [.slice ag aD.length ah]]) := by
 refine Fn.enter Tryz.func172 Tryz.call172 rfl fun F => ?_
 unfold Jv at hm
 refine ro (ld r0 rfl rfl (ro (len_slice rfl ?_)))
 obtain ⟨aP, hm⟩ := chkb hm
 obtain ⟨s0, aM, hm⟩ := bnd hm
 refine lD (σ := (Unit)) [3, 5, 8, 9, 10, 11, 12, 13, 14, 15] [0, 1] (fun i0 => [(8, .int .i64 (i0 : Int))]) (fun _ => []) (fun _ => []) (fun _ => True) (fun i0 _ => JJ t (aD.drop i0) i0 = some s0) (fun t0 => s0 = Fl.go t0) (fun i0 => aD.length - i0) 0 () aM (And.intro qe (And.intro ?_ ?_))
 clear aM
 rintro i0 _ _ aM j0
 conv at aM => whnf
 refine cond_go rfl ?_
 refine cond_s ?_ ?_ <;> intro w0
 obtain ⟨e0, aN, aO⟩ := ltx w0
 rw [aO, JJ.eq_2] at aM
 refine block_go rfl ?_
 refine RStep.ofN (index_addr rfl rfl (hasK af.rd aN) (nn _) (lt_ofN aN) (ro (load_rd i0 0 _ _ af.rd rfl (mp aN) rfl rfl (neq_int ?_))))
 refine cs rfl rfl aM ?_ ?_ <;> intro aQ aM
 exact eE (er aM hm)
 refine int_in (cntz aN aP) ?_
 exact eR aM (_, ())
 rw [lty w0, JJ.eq_1] at aM
 refine cT ?_
 exact eM aM _
 rintro t0 _ rfl j0
 replace hm := elg hm
 exact eE hm

def JL (n' : Ja) (args : (List Int)) : Option (Int) :=
  if decide (n'.Ab = 17) then
  (Jv 1 args).bind fun ax =>
  if ax then
  some 1
  else
  (Jv 2 args).bind fun aS =>
  if aS then
  some 2
  else
  some 0
  else
  if decide (n'.Ab = 18) then
  (Jv 2 args).bind fun aQ =>
  if aQ then
  some 2
  else
  some 0
  else
  if decide (n'.Ab = 19) then
  (Jv 2 args).bind fun aQ =>
  if aQ then
  some 2
  else
  some 0
  else
  if decide (n'.Ab = 13) then
  (Jv 3 args).bind fun aM =>
  if aM then
  some 3
  else
  some 0
  else
  if decide (n'.Ab = 14) then
  (Jv 3 args).bind fun aM =>
  if aM then
  some 3
  else
  some 0
  else
  if decide (n'.Ab = 15) then
  (Jv 3 args).bind fun aM =>
  if aM then
  some 3
  else
  some 0
  else
  if decide (n'.Ab = 16) then
  if decide (n'.Ac = ([61, 61] : Str)) then
  (ix args 0).bind fun aN =>
  (ix args 1).bind fun aP =>
  if decide (aN = aP) then
  some 3
  else
  some 0
  else
  if decide (n'.Ac = ([33, 61] : Str)) then
  (ix args 0).bind fun aN =>
  (ix args 1).bind fun aP =>
  if decide (aN = aP) then
  some 3
  else
  some 0
  else
  if decide (n'.Ac = ([60] : Str)) then
  (Jv 2 args).bind fun aO =>
  if aO then
  some 3
  else
  some 0
  else
  if decide (n'.Ac = ([60, 61] : Str)) then
  (Jv 2 args).bind fun aO =>
  if aO then
  some 3
  else
  some 0
  else
  (Jv 1 args).bind fun aR =>
  if aR then
  some 3
  else
  some 0
  else
  some 0
theorem Jed {n' : Ja} {args : (List Int)} {aa : Option Addr} {ab : Nat} {ag : Option Addr} {ah : Nat} {n1 : Nat} {K : Hp} {r : Int}
    (hm : JL n' args = some r) (hX : LiC Ja.R K aa ab 4 n'.Aa ∧ RdC eN K ag ah 1 args ∧ n1 = args.length) :
    Fn Tryz.prog 139 [.agg #[.int .i64 n'.Ab, str n'.Ac, .slice aa n'.Aa.length ab, .int .i64 n'.Ad], .slice ag n1 ah] K [] (fun v K' H' => v = .int .i64 r ∧ H' = []) := by
 obtain ⟨ae, af, a8⟩ := hX
 subst a8
 refine Fn.enter Tryz.func139 Tryz.call139 rfl fun F => ?_
 unfold JL at hm
 refine box_rule ?_
 intro b2
 refine box_rule ?_
 intro b3
 refine mkFunc ?_
 refine fa rfl (ro (ld r1 rfl rfl ?_))
 refine block_go rfl ?_
 refine eq_int (cs rfl rfl hm ?_ ?_) <;> intro w9 hm
 refine cb hm fun ax bg hm => cgx (JT bg :) ?_
 refine cs rfl rfl hm ?_ ?_ <;> intro bq hm
 exact eE hm
 refine cb hm fun bo bb hm => cgx (JT bb :) ?_
 refine cs rfl rfl hm ?_ ?_ <;> intro br hm
 exact eE hm
 exact eE hm
 refine eq_int (cs rfl rfl hm ?_ ?_) <;> intro aV hm
 refine cond_go rfl (ct aV ?_)
 refine cb hm fun a6 aT hm => cgx (JT aT :) ?_
 refine cs rfl rfl hm ?_ ?_ <;> intro bj hm
 exact eE hm
 exact eE hm
 refine eq_int (cs rfl rfl hm ?_ ?_) <;> intro aV hm
 refine cb hm fun a6 aT hm => cgx (JT aT :) ?_
 refine cs rfl rfl hm ?_ ?_ <;> intro bj hm
 exact eE hm
 exact eE hm
 refine eq_int (cs rfl rfl hm ?_ ?_) <;> intro aR hm
 refine cond_go rfl (ct aR ?_)
 refine cb hm fun aU aP hm => cgx (JT aP :) ?_
 refine cs rfl rfl hm ?_ ?_ <;> intro aX hm
 exact eE hm
 exact eE hm
 refine eq_int (cs rfl rfl hm ?_ ?_) <;> intro aR hm
 refine cond_go rfl (ct aR ?_)
 refine cb hm fun aU aP hm => cgx (JT aP :) ?_
 refine cs rfl rfl hm ?_ ?_ <;> intro aX hm
 exact eE hm
 exact eE hm
 refine eq_int (cs rfl rfl hm ?_ ?_) <;> intro aR hm
 refine cb hm fun aU aP hm => cgx (JT aP :) ?_
 refine cs rfl rfl hm ?_ ?_ <;> intro aX hm
 exact eE hm
 exact eE hm
 refine eq_int (cs rfl rfl hm ?_ ?_) <;> intro bm hm
 refine fa rfl (ro (ld r1 rfl rfl ?_))
 refine block_go rfl ?_
 refine eq_str (cs rfl rfl hm ?_ ?_) <;> intro aW hm
 refine cond_go rfl (ct aW ?_)
 refine draw_go ⟨⟨[], false⟩, _, [(_, _)], []⟩ (by kernel_rfl) ⟨Hp.Le.refl _, (pf rfl), ci0⟩ ?_
 refine load1_l m0 rfl rfl ?_
 obtain ⟨ba, aO, aM, hm⟩ := ixb hm
 refine index_addr rfl rfl (hasK af.rd aM) aO (lt_ofE rfl aO aM) (load_rd_l ((0 : Int).toNat) 0 _ _ af.rd rfl (mp aM) rfl rfl (load1_l m0 rfl rfl ?_))
 obtain ⟨bh, aQ, aN, hm⟩ := ixb hm
 refine index_addr rfl rfl (hasK af.rd aN) aQ (lt_ofE rfl aQ aN) (load_rd_l ((1 : Int).toNat) 0 _ _ af.rd rfl (mp aN) rfl rfl (eq_int ?_))
 refine cs rfl rfl hm ?_ ?_ <;> intro bc hm
 exact eE hm
 exact eE hm
 refine eq_str (cs rfl rfl hm ?_ ?_) <;> intro aW hm
 refine draw_go ⟨⟨[], false⟩, _, [(_, _)], []⟩ (by kernel_rfl) ⟨Hp.Le.refl _, (pf rfl), ci0⟩ ?_
 refine load1_l m0 rfl rfl ?_
 obtain ⟨ba, aO, aM, hm⟩ := ixb hm
 refine index_addr rfl rfl (hasK af.rd aM) aO (lt_ofE rfl aO aM) (load_rd_l ((0 : Int).toNat) 0 _ _ af.rd rfl (mp aM) rfl rfl (load1_l m0 rfl rfl ?_))
 obtain ⟨bh, aQ, aN, hm⟩ := ixb hm
 refine index_addr rfl rfl (hasK af.rd aN) aQ (lt_ofE rfl aQ aN) (load_rd_l ((1 : Int).toNat) 0 _ _ af.rd rfl (mp aN) rfl rfl (eq_int ?_))
 refine cs rfl rfl hm ?_ ?_ <;> intro bc hm
 exact eE hm
 exact eE hm
 refine eq_str (cs rfl rfl hm ?_ ?_) <;> intro aY hm
 refine cond_go rfl (ct aY ?_)
 refine cb hm fun aZ aS hm => cgx (JT aS :) ?_
 refine cs rfl rfl hm ?_ ?_ <;> intro bd hm
 exact eE hm
 exact eE hm
 refine eq_str (cs rfl rfl hm ?_ ?_) <;> intro aY hm
 refine cb hm fun aZ aS hm => cgx (JT aS :) ?_
 refine cs rfl rfl hm ?_ ?_ <;> intro bd hm
 exact eE hm
 exact eE hm
 refine cb hm fun bp bf hm => cgx (JT bf :) ?_
 refine cs rfl rfl hm ?_ ?_ <;> intro bn hm
 exact eE hm
 exact eE hm
 exact eE hm

def JM (rec_ : (Jk → Ja → (List Ji) → Option (Int × Jk))) (env : (List Ji)) : List Ja → Nat → (List Int) → Int → Err → Option (Fl (Int × Jk) ((List Int) × Int × Err))
  | [], _, ac, aM, aN => some (Fl.go (ac, aM, aN))
  | e0 :: aP, i0, ac, aM, aN =>
    (rec_ (⟨aM, aN⟩ : Jk) e0 env).bind fun aO =>
    (chk (ac.length + [aO.1].length ≤ lim)).bind fun _ =>
    if aO.2.err.isSome then
    some (Fl.ret (0, aO.2))
    else
    JM rec_ env aP (i0 + 1) (ac ++ [aO.1]) aO.2.line aO.2.err
def JD : Nat → Jk → Ja → (List Ji) → Option (Int × Jk)
  | 0, _, _, _ => none
  | n + 1, c, n', env =>
    (chk (n'.Aa.length ≤ szMax)).bind fun _ =>
    (JM (JD n) env n'.Aa 0 [] c.line c.err).bind fun s0 => s0.el some fun t0 =>
    if decide (n'.Ab = 20) then
    some (2, (⟨t0.2.1, t0.2.2⟩ : Jk))
    else
    if decide (n'.Ab = 21) then
    some (1, (⟨t0.2.1, t0.2.2⟩ : Jk))
    else
    if decide (n'.Ab = 22) then
    some (3, (⟨t0.2.1, t0.2.2⟩ : Jk))
    else
    if decide (n'.Ab = 23) then
    (JaP n n'.Ac env).bind fun aM =>
    if decide (aM = 0) then
    (JH (⟨t0.2.1, t0.2.2⟩ : Jk) n' (some 8)).bind fun aP =>
    some (aM, aP)
    else
    some (aM, (⟨t0.2.1, t0.2.2⟩ : Jk))
    else
    if decide (n'.Ab = 24) then
    (JV (⟨t0.2.1, t0.2.2⟩ : Jk) n' t0.1).bind fun aO =>
    some (aO.1, aO.2)
    else
    (JL n' t0.1).bind fun aN =>
    if decide (aN = 0) then
    (JH (⟨t0.2.1, t0.2.2⟩ : Jk) n' (some 9)).bind fun aQ =>
    some (aN, aQ)
    else
    some (aN, (⟨t0.2.1, t0.2.2⟩ : Jk))
theorem JdC : ∀ {n : Nat} {c : Jk} {n' : Ja} {env : (List Ji)} {b0 : Nat} {ag : Option Addr} {ah : Nat} {aq : Option Addr} {ar : Nat} {n2 : Nat} {K : Hp} {r : Int × Jk}
    (hm : JD n c n' env = some r) (hX : LiC Ja.R K ag ah 4 n'.Aa ∧ RdC Ji.enc K aq ar 2 env ∧ n2 = env.length),
    Fn Tryz.prog 126 [.pointer (some ⟨b0, 0, none⟩), .agg #[.int .i64 n'.Ab, str n'.Ac, .slice ag n'.Aa.length ah, .int .i64 n'.Ad], .slice aq n2 ar] K [Cells b0 171 [.int .i64 c.line, errV 87 c.err]] (fun v K' H' => v = .int .i64 r.1 ∧ H' = [Cells b0 171 [.int .i64 r.2.line, errV 87 r.2.err]]) := by
 intro n
 induction n with
 | zero =>
   intro c n' env b0 ag ah aq ar n2 K r hm hX
   rw [JD.eq_1] at hm; cases hm
 | succ n ih =>
   intro c n' env b0 ag ah aq ar n2 K r hm hX
   obtain ⟨af, bc, bo⟩ := hX
   subst bo
   refine Fn.enter Tryz.func126 Tryz.call126 rfl fun F => ?_
   rw [JD.eq_2] at hm
   refine box_rule ?_
   intro b4
   refine fa rfl (ro (ld r0 rfl rfl (ro (len_slice rfl ?_))))
   obtain ⟨bw, hm⟩ := chkb hm
   obtain ⟨s0, aO, hm⟩ := bnd hm
   refine nilC eN 3 1 ?_
   refine lD (σ := ((List Int) × Int × Err) × Option Addr × Nat) [6, 7, 9, 15, 16, 17, 18, 19, 20, 21, 22, 23, 24, 25, 26, 27, 28, 29, 30, 31] [1, 3] (fun i0 => [(15, .int .i64 (i0 : Int))]) (fun (t0, aM, aN) => [(7, .slice aM t0.1.length aN)]) (fun (t0, aM, aN) => [OwnL eN aM 3 1 aN t0.1, Cells b0 171 [.int .i64 t0.2.1, errV 87 t0.2.2]]) (fun (t0, aM, aN) => (0 < t0.1.length → Has aM) ∧ True) (fun i0 (t0, aM, aN) => JM (JD n) env (n'.Aa.drop i0) i0 t0.1 t0.2.1 t0.2.2 = some s0) (fun (t0, aM, aN) => s0 = Fl.go t0) (fun i0 => n'.Aa.length - i0) 0 ((_, _, _), _, _) aO (And.intro qe (And.intro ?_ ?_))
   clear aO
   rintro i0 ⟨⟨ac, br, bz⟩, bf, aZ⟩ ⟨ba, _⟩ aO j0
   dsimp only at aO ⊢
   refine cond_go rfl ?_
   refine cond_s ?_ ?_ <;> intro w0
   obtain ⟨e0, aT, bm⟩ := ltx w0
   rw [bm, JM.eq_2] at aO
   refine block_go rfl ?_
   refine RStep.ofN (index_addr rfl rfl (hasR af.rd aT) (nn _) (lt_ofN aT) ?_)
   obtain ⟨bu, bt, aW, aU, aV⟩ := LiR.get af.rd aT
   obtain ⟨bd, a6, rfl, bg⟩ := Ja.out aV
   refine ro (load_rd_agg i0 _ aW rfl aU rfl ?_)
   refine alloc_rule rfl fun b9 => ?_
   refine store_rule r0 rfl ⟨rfl, rfl, (nl rfl), ?_⟩
   refine ro (loadn_s r0 rfl (nl rfl) ?_)
   refine cb aO fun bb bh aO => cgx (ih bh :) ?_
   refine bsO (len := 1) (enc := eN) (l := [bb.1]) (cl := [.int .i64 bb.1]) elT150 rfl rfl (fun _ _ => rfl) rfl rfl rfl ?_ fun bP => ?_
   · conv => whnf
     refine cT ?_
     first | done | rfl
   obtain ⟨bA, aO⟩ := chkb aO
   refine apE rfl r3 elT150 (src_own' rfl r0 rfl (fun _ => rfl) (fun _ => rfl)) bA ?_
   intro bE bJ bM
   refine nil_check (fa rfl (ro (ld r2 rfl rfl (neq_err rfl ?_))))
   refine cs rfl rfl aO ?_ ?_ <;> intro bG aO
   exact eE (er aO hm)
   refine int_in (cntz aT bw) ?_
   exact eR aO (_, (_, _, _), _, _)
   rw [lty w0, JM.eq_1] at aO
   refine cT ?_
   exact eM aO (_, _, _)
   rintro ⟨t0, aM, aN⟩ ⟨aY, _⟩ rfl j0
   replace hm := elg hm
   refine fa rfl (ro (ld r2 rfl rfl ?_))
   refine block_go rfl ?_
   refine eq_int (cs rfl rfl hm ?_ ?_) <;> intro bL hm
   exact eE hm
   refine eq_int (cs rfl rfl hm ?_ ?_) <;> intro bO hm
   exact eE hm
   refine eq_int (cs rfl rfl hm ?_ ?_) <;> intro bD hm
   exact eE hm
   refine eq_int (cs rfl rfl hm ?_ ?_) <;> intro bS hm
   refine fa rfl (ro (ld r2 rfl rfl ?_))
   refine cb hm fun bH bp hm => cgx (Jdj bp :) ?_
   refine eq_int (cs rfl rfl hm ?_ ?_) <;> intro bQ hm
   refine ro (loadn_s r2 rfl (nl rfl) ?_)
   refine mk_iface rfl ?_
   refine cb hm fun bR bq hm => cgx (J0 bq :) ?_
   exact eE hm
   exact eE hm
   refine eq_int (cs rfl rfl hm ?_ ?_) <;> intro bC hm
   refine ro (loadn_s r2 rfl (nl rfl) ?_)
   refine cb hm fun bN bj hm => ck0 (Fn.lend Tryz.call138 (fun a8 aP aQ => (JdB (c := (⟨t0.2.1, t0.2.2⟩ : Jk)) (n' := n') bj ⟨(LiC.mono Ja.R_ok aP af), aQ, rfl⟩)) (by exact fun _ _ _ _ h => h)) ?_
   rintro _ _ _ ⟨_, rfl, rfl, rfl⟩
   exact eE hm
   refine ro (loadn_s r2 rfl (nl rfl) ?_)
   refine cb hm fun bI bB hm => ck0 (Fn.lend Tryz.call139 (fun aX aR aS => (Jed (n' := n') bB ⟨(LiC.mono Ja.R_ok aR af), aS, rfl⟩)) (by exact fun _ _ _ _ h => h)) ?_
   rintro _ _ _ ⟨_, rfl, rfl, rfl⟩
   refine eq_int (cs rfl rfl hm ?_ ?_) <;> intro bK hm
   refine ro (loadn_s r2 rfl (nl rfl) ?_)
   refine mk_iface rfl ?_
   refine cb hm fun bF bn hm => cgx (J0 bn :) ?_
   exact eE hm
   exact eE hm

def JbK (n' : Ja) : Option (Int) :=
  if decide (n'.Ab = 2) then
  some 3
  else
  if decide (n'.Ab = 4) then
  some 1
  else
  if decide (n'.Ab = 5) then
  some 1
  else
  if decide (n'.Ab = 7) then
  some 1
  else
  if decide (n'.Ab = 8) then
  some 2
  else
  if decide (n'.Ab = 9) then
  some 2
  else
  some 0
theorem JeL {n' : Ja} {aa : Option Addr} {ab : Nat} {K : Hp} {r : Int}
    (hm : JbK n' = some r) (ae : LiC Ja.R K aa ab 4 n'.Aa) :
    Fn Tryz.prog 127 [.agg #[.int .i64 n'.Ab, str n'.Ac, .slice aa n'.Aa.length ab, .int .i64 n'.Ad]] K [] (fun v K' H' => v = .int .i64 r ∧ H' = []) := by
 refine Fn.enter Tryz.func127 Tryz.call127 rfl fun F => ?_
 unfold JbK at hm
 refine box_rule ?_
 intro b1
 refine fa rfl (ro (ld r0 rfl rfl ?_))
 refine block_go rfl ?_
 refine eq_int (cs rfl rfl hm ?_ ?_) <;> intro w5 hm
 exact eE hm
 refine eq_int (cs rfl rfl hm ?_ ?_) <;> intro w7 hm
 refine cond_go rfl (ct w7 ?_)
 exact eE hm
 refine eq_int (cs rfl rfl hm ?_ ?_) <;> intro w7 hm
 refine cond_go rfl (ct w7 ?_)
 exact eE hm
 refine eq_int (cs rfl rfl hm ?_ ?_) <;> intro w7 hm
 exact eE hm
 refine eq_int (cs rfl rfl hm ?_ ?_) <;> intro aM hm
 refine cond_go rfl (ct aM ?_)
 exact eE hm
 refine eq_int (cs rfl rfl hm ?_ ?_) <;> intro aM hm
 exact eE hm
 exact eE hm

def JaI (n : Nat) (name : Str) (env : (List Ji)) : Option (Bool) :=
  (JaP n name env).bind fun x7 =>
  some (decide (x7 ≠ 0))
theorem Jc4 {n : Nat} {name : Str} {env : (List Ji)} {ag : Option Addr} {ah : Nat} {n1 : Nat} {K : Hp} {r : Bool}
    (hm : JaI n name env = some r) (hX : RdC Ji.enc K ag ah 2 env ∧ n1 = env.length) :
    Fn Tryz.prog 129 [str name, .slice ag n1 ah] K [] (fun v K' H' => v = .bool r ∧ H' = []) := by
 obtain ⟨af, aM⟩ := hX
 subst aM
 refine Fn.enter Tryz.func129 Tryz.call129 rfl fun F => ?_
 unfold JaI at hm
 refine cb hm fun x7 q7 hm => cgx (Jdj q7 :) ?_
 refine neq_int ?_
 exact eE hm

def Jaa (env : (List Ji)) (name : Str) (t : Int) : Option ((List Ji)) :=
  (chk (InI ((env.length : Int) + 1))).bind fun _ =>
  (chk ((0 : Int) ≤ ((env.length : Int) + 1) ∧ ((env.length : Int) + 1) ≤ (lim : Int))).bind fun _ =>
  (chk (([] : List Ji).length + env.length ≤ lim)).bind fun _ =>
  (chk ((([] : List Ji) ++ env).length + [(⟨name, t⟩ : Ji)].length ≤ lim)).bind fun _ =>
  some ((([] : List Ji) ++ env) ++ [(⟨name, t⟩ : Ji)])
theorem JbQ {env : (List Ji)} {name : Str} {t : Int} {aa : Option Addr} {ab : Nat} {n0 : Nat} {K : Hp} {r : (List Ji)}
    (hm : Jaa env name t = some r) (hX : RdC Ji.enc K aa ab 2 env ∧ n0 = env.length) :
    Fn Tryz.prog 98 [.slice aa n0 ab, str name, .int .i64 t] K [] (fun v K' H' => ∃ ar_0 : Option Addr, ∃ cr_0 : Nat, v = .slice ar_0 r.length cr_0 ∧ (0 < r.length → Has ar_0) ∧ H' = [OwnL Ji.enc ar_0 233 2 cr_0 r]) := by
 obtain ⟨ae, aP⟩ := hX
 subst aP
 refine Fn.enter Tryz.func98 Tryz.call98 rfl fun F => ?_
 unfold Jaa at hm
 refine ro (len_slice rfl ?_)
 refine ci hm fun hm => ?_
 obtain ⟨aO, hm⟩ := chkb hm
 refine mk_room (enc := Ji.enc) elT195 rfl aO fun aV => ?_
 obtain ⟨aN, hm⟩ := chkb hm
 refine apE rfl r0 elT195 (src_k rfl ae.rd rfl) aN ?_
 intro aQ aX aT
 refine build_struct rfl rfl (cT (cT ?_))
 refine bsO (len := 1) (enc := Ji.enc) (l := [(⟨name, t⟩ : Ji)]) (cl := [str name, .int .i64 t]) elT195 rfl rfl (fun _ _ => rfl) rfl rfl rfl ?_ fun aU => ?_
 · conv => whnf
   refine cT ?_
   first | done | rfl
 obtain ⟨aM, hm⟩ := chkb hm
 refine apE rfl r1 elT195 (src_own' rfl r0 rfl (fun _ => rfl) (fun _ => rfl)) aM ?_
 intro aW aR aS
 exact eE hm

def JaB (n' : Ja) : Option ((List Ja)) :=
  if decide (n'.Ab = 12) then
  some n'.Aa
  else
  some [n']
theorem Jdk {n' : Ja} {aa : Option Addr} {ab : Nat} {K : Hp} {r : (List Ja)}
    (hm : JaB n' = some r) (ae : LiC Ja.R K aa ab 4 n'.Aa) :
    Fn Tryz.prog 99 [.agg #[.int .i64 n'.Ab, str n'.Ac, .slice aa n'.Aa.length ab, .int .i64 n'.Ad]] K [] (fun v K' H' => ∃ ar_0 : Option Addr, ∃ cr_0 : Nat, v = .slice ar_0 r.length cr_0 ∧ LiC Ja.R K' ar_0 cr_0 4 r ∧ H' = []) := by
 refine Fn.enter Tryz.func99 Tryz.call99 rfl fun F => ?_
 unfold JaB at hm
 refine box_rule ?_
 intro b1
 refine fa rfl (ro (ld r0 rfl rfl (eq_int ?_)))
 refine cs rfl rfl hm ?_ ?_ <;> intro w5 hm
 refine fa rfl (ro (ld r0 rfl rfl ?_))
 exact eE hm
 refine ro (loadn_s r0 rfl (nl rfl) ?_)
 refine bsOR (R := Ja.R) (len := 1) (l := [n']) (css := [[.int .i64 n'.Ab, str n'.Ac, .slice aa n'.Aa.length ab, .int .i64 n'.Ad]]) (cl := [.int .i64 n'.Ab, str n'.Ac, .slice aa n'.Aa.length ab, .int .i64 n'.Ad]) Ja.R_ok elT66 rfl rfl (LR.snoc LR.nil (Ja.of (x := n') ⟨aa, ab, rfl, ae⟩)) rfl rfl rfl ?_ fun b9 => ?_
 · conv => whnf
   refine cT ?_
   first | done | rfl
 refine fzER Ja.R_ok r0 (show LR Ja.R _ [[.int .i64 n'.Ab, str n'.Ac, .slice aa n'.Aa.length ab, .int .i64 n'.Ad]] [n'] from (LR.snoc LR.nil (Ja.of (x := n') ⟨aa, ab, rfl, ae⟩))) fun aM aN aO => ?_
 exact eE hm
