/- Functions of the program: mirrors, and that a call returns what the mirror says. Printed by gen.py. -/
import Derived.Test.YtmpdebfckeahmaaGreatDoorG2
set_option linter.unusedVariables false
set_option linter.unusedSimpArgs false
open Go Go.SL Go.Proofs
noncomputable section
set_option maxRecDepth 1000000
set_option maxHeartbeats 8000000
def JaW (s : Str) : Nat → Int → Option (Int)
  | 0, _ => none
  | aL + 1, aJ =>
    if decide (aJ < (s.length : Int)) then
    (ix s aJ).bind fun aK =>
    (JbD aK).bind fun aM =>
    (if aM then some true else (ix s aJ).bind fun aP =>
    (Jbi aP).bind fun aN =>
    some aN).bind fun aO =>
    if aO then
    (chk (InI (aJ + 1))).bind fun _ =>
    JaW s aL (aJ + 1)
    else
    some aJ
    else
    some aJ
def JaX (s : Str) : Nat → Int → Option (Int)
  | 0, _ => none
  | aK + 1, aJ =>
    (if decide (aJ < (s.length : Int)) then (ix s aJ).bind fun aN =>
    (Jbi aN).bind fun aM =>
    some aM else some false).bind fun aL =>
    if aL then
    (chk (InI (aJ + 1))).bind fun _ =>
    JaX s aK (aJ + 1)
    else
    some aJ
def JaY (s : Str) : Nat → Nat → Option (Fl (Int × Int × Str) (Unit))
  | 0, _ => some (Fl.go ())
  | aK + 1, i5 =>
    (ix ([([61, 61] : Str), ([33, 61] : Str), ([60, 61] : Str), ([60] : Str), ([43] : Str), ([45] : Str), ([42] : Str), ([40] : Str), ([41] : Str), ([123] : Str), ([125] : Str), ([44] : Str), ([59] : Str), ([61] : Str)]) (i5 : Int)).bind fun aJ =>
    (JV s aJ).bind fun aL =>
    if aL then
    some (Fl.ret (4, (aJ.length : Int), aJ))
    else
    JaY s aK (i5 + 1)
def Jca (n : Nat) (s : Str) : Option (Int × Int × Str) :=
  (ix s 0).bind fun av =>
  (JbD av).bind fun aK =>
  if aK then
  (JaW s n 1).bind fun t1 =>
  (chk (0 ≤ (0 : Int) ∧ (0 : Int) ≤ t1 ∧ t1 ≤ (s.length : Int))).bind fun _ =>
  some (1, t1, (subL s (0 : Int) t1))
  else
  (Jbi av).bind fun aL =>
  if aL then
  (JaX s n 1).bind fun t3 =>
  if decide (t3 > 9) then
  some (0, 0, ([] : Str))
  else
  (chk (0 ≤ (0 : Int) ∧ (0 : Int) ≤ t3 ∧ t3 ≤ (s.length : Int))).bind fun _ =>
  some (2, t3, (subL s (0 : Int) t3))
  else
  if decide ((av.toNat : Int) = 34) then
  (Jcl n s).bind fun aJ =>
  some (3, aJ.1, aJ.2)
  else
  (chk (InI (14 : Int))).bind fun _ =>
  (JaY s (14 : Int).toNat 0).bind fun s5 => s5.el some fun t5 =>
  some (0, 0, ([] : Str))
theorem Jey {n : Nat} {s : Str} {K : Hp} {r : Int × Int × Str}
    (hm : Jca n s = some r)  :
    Fn Tryz.prog 224 [str s] K [] (fun v K' H' => v = .tuple #[.int .i64 r.1, .int .i64 r.2.1, str r.2.2] ∧ H' = []) := by
 refine Fn.enter Tryz.func224 Tryz.call224 rfl fun F => ?_
 unfold Jca at hm
 obtain ⟨av, aX, bj, hm⟩ := ixb hm
 refine qba rfl aX bj ?_
 refine qak rfl ?_
 refine cb hm fun bw aZ hm => cg0 (JcZ aZ :) ?_
 refine cs rfl rfl hm ?_ ?_ <;> intro bD hm
 obtain ⟨s1, aK, hm⟩ := bnd hm
 refine lD (σ := (Int)) ([5] ++ rg 16 18) [0] (fun _ => []) (fun t1 => [(5, .int .i64 t1)]) (fun _ => []) (fun _ => True) (fun i1 t1 => JaW s i1 t1 = some s1) (fun t1 => t1 = s1) (fun i1 => i1) n _ aK (And.intro qe (And.intro ?_ ?_))
 clear aK
 rintro i1 ba _ aK j1
 conv at aK => whnf
 cases i1 with
 | zero => rw [JaW.eq_1] at aK; cases aK
 | succ i1 =>
  rw [JaW.eq_2] at aK
  refine qaj rfl ?_
  refine ro (qa2 rfl ?_)
  refine cS aK (fun aJ aK => ?_) fun aJ aK => ?_
  refine ct aJ (ct aJ ?_)
  obtain ⟨bu, bf, bm, aK⟩ := ixb aK
  refine qba rfl bf bm (ct aJ ?_)
  refine cb aK fun bO a8 aK => cg0 (JcZ a8 :) ?_
  refine ct aJ ?_
  obtain ⟨bA, aP, aK⟩ := bnd aK
  refine cS aP (fun aL aP => ?_) fun aL aP => ?_
  refine ct aL (ct aL (ct aL (ct aJ (ct aL (ct aJ (qad rfl (cT ?_)))))))
  replace aK := ift (si aP).symm aK
  refine qak rfl ?_
  refine ci aK fun aK => ?_
  exact eR aK (_, _)
  refine cf aL (cf aL ?_)
  obtain ⟨bC, bt, aV, aP⟩ := ixb aP
  refine qba rfl bt aV (cf aL ?_)
  refine cb aP fun bF bb aP => cg0 (Jcq bb :) ?_
  refine ct aJ (cf aL (ct aJ (qad rfl ?_)))
  refine qag ?_ ?_ <;> intro aT
  replace aK := ift ((si aP).symm.trans aT) aK
  refine qak rfl ?_
  refine ci aK fun aK => ?_
  exact eR aK (_, _)
  replace aK := qbp ((si aP).symm.trans aT) aK
  refine cT ?_
  exact eM aK _
  refine cf aJ (cf aJ (cf aJ (cf aJ (cf aJ (cf aJ (qad rfl (cF ?_)))))))
  refine cT ?_
  exact eM aK _
 rintro t1 _ rfl j1
 refine qa4 ⟨⟨[], false⟩, _, [], []⟩ (by kernel_rfl) ⟨Hp.Le.refl _, (pf rfl), ci0⟩ ?_
 obtain ⟨bo, hm⟩ := qa7 hm
 refine qf2 (lo := none) (hi := (some t1)) rfl bo ?_
 exact eE hm
 refine cb hm fun bG bh hm => cg0 (Jcq bh :) ?_
 refine cs rfl rfl hm ?_ ?_ <;> intro bz hm
 obtain ⟨s3, aN, hm⟩ := bnd hm
 refine lD (σ := (Int)) ([5] ++ rg 41 12) [0] (fun _ => []) (fun t3 => [(5, .int .i64 t3)]) (fun _ => []) (fun _ => True) (fun i3 t3 => JaX s i3 t3 = some s3) (fun t3 => t3 = s3) (fun i3 => i3) n _ aN (And.intro qe (And.intro ?_ ?_))
 clear aN
 rintro i3 bg _ aN j3
 conv at aN => whnf
 cases i3 with
 | zero => rw [JaX.eq_1] at aN; cases aN
 | succ i3 =>
  rw [JaX.eq_2] at aN
  refine qaj rfl ?_
  refine ro (qa2 rfl ?_)
  obtain ⟨bH, aQ, aN⟩ := bnd aN
  refine cS aQ (fun aM aQ => ?_) fun aM aQ => ?_
  refine ct aM (ct aM ?_)
  obtain ⟨bM, bc, br, aQ⟩ := ixb aQ
  refine qba rfl bc br (ct aM ?_)
  refine cb aQ fun bK aY aQ => cg0 (Jcq aY :) ?_
  refine ct aM (qad rfl ?_)
  refine qag ?_ ?_ <;> intro aU
  replace aN := ift ((si aQ).symm.trans aU) aN
  refine qak rfl ?_
  refine ci aN fun aN => ?_
  exact eR aN (_, _)
  replace aN := qbp ((si aQ).symm.trans aU) aN
  refine cT ?_
  exact eM aN _
  refine cf aM (cf aM (cf aM (cf aM (qad rfl (cF ?_)))))
  replace aN := qbp (si aQ).symm aN
  refine cT ?_
  exact eM aN _
 rintro t3 _ rfl j3
 refine cs rfl rfl hm ?_ ?_ <;> intro bI hm
 exact eE hm
 refine qa4 ⟨⟨[], false⟩, _, [], []⟩ (by kernel_rfl) ⟨Hp.Le.refl _, (pf rfl), ci0⟩ ?_
 obtain ⟨bn, hm⟩ := qa7 hm
 refine qf2 (lo := none) (hi := (some t3)) rfl bn ?_
 exact eE hm
 refine qaf (cs rfl rfl hm ?_ ?_) <;> intro bJ hm
 refine cb hm fun bv aW hm => cg0 (Jed aW :) ?_
 exact eE hm
 refine bsO (len := 14) (enc := eS) (l := [([61, 61] : Str), ([33, 61] : Str), ([60, 61] : Str), ([60] : Str), ([43] : Str), ([45] : Str), ([42] : Str), ([40] : Str), ([41] : Str), ([123] : Str), ([125] : Str), ([44] : Str), ([59] : Str), ([61] : Str)]) (cl := [str ([61, 61] : Str), str ([33, 61] : Str), str ([60, 61] : Str), str ([60] : Str), str ([43] : Str), str ([45] : Str), str ([42] : Str), str ([40] : Str), str ([41] : Str), str ([123] : Str), str ([125] : Str), str ([44] : Str), str ([59] : Str), str ([61] : Str)]) qfk rfl rfl (fun _ _ => rfl) rfl rfl rfl ?_ fun bL => ?_
 · conv => whnf
   refine cT (cT (cT (cT (cT (cT (cT (cT ?_)))))))
   refine cT (cT (cT (cT (cT (cT ?_)))))
   first | done | rfl
 refine ro (qai rfl ?_)
 obtain ⟨a6, hm⟩ := qa7 hm
 obtain ⟨s5, aO, hm⟩ := bnd hm
 refine lD (σ := (Unit)) ([2,3,4,10] ++ rg 71 11) [0, 1] (fun i5 => [(71, .int .i64 (i5 : Int))]) (fun _ => []) (fun _ => []) (fun _ => True) (fun i5 _ => JaY s ((14 : Int).toNat - i5) i5 = some s5) (fun t5 => s5 = Fl.go t5) (fun i5 => (14 : Int).toNat - i5) 0 () aO (And.intro qe (And.intro ?_ ?_))
 clear aO
 rintro i5 _ _ aO j5
 conv at aO => whnf
 refine qad rfl ?_
 refine qag ?_ ?_ <;> intro w5
 rw [ltn (n := (14 : Int)) w5, JaY.eq_2] at aO
 refine qak rfl ?_
 obtain ⟨bB, aS, aR, aO⟩ := ixb aO
 refine RStep.ofN (qac rfl rfl (qdb (fun _ => ⟨_, _, rfl⟩) aR) aS (qay rfl aS aR) (ro (qda (i := ((i5 : Int)).toNat) (o := 0) r0 rfl aR rfl rfl ?_)))
 refine cb aO fun bN bp aO => cg0 (Ja0 bp :) ?_
 refine cs rfl rfl aO ?_ ?_ <;> intro bP aO
 refine ro (qa2 rfl ?_)
 exact eE (er aO hm)
 refine qat (qo3 w5 a6) ?_
 exact eR aO (_, ())
 rw [lto (n := (14 : Int)) w5, JaY.eq_1] at aO
 refine cT ?_
 exact eM aO _
 rintro t5 _ rfl j5
 replace hm := elg hm
 exact eE hm

def JaZ (text : Str) : Nat → Int → Option (Int)
  | 0, _ => none
  | aK + 1, aJ =>
    (if decide (aJ < (text.length : Int)) then (ix text aJ).bind fun aL =>
    some (decide ((aL.toNat : Int) ≠ 10)) else some false).bind fun aM =>
    if aM then
    (chk (InI (aJ + 1))).bind fun _ =>
    JaZ text aK (aJ + 1)
    else
    some aJ
def JZ (text : Str) (n : Nat) : Nat → (List JA) → Int → Int → Int → Option (Fl ((List JA) × Err) ((List JA) × Int × Int × Int))
  | 0, _, _, _, _ => none
  | aN + 1, ab, aL, aK, aJ =>
    if decide (aJ < (text.length : Int)) then
    (ix text aJ).bind fun aO =>
    if decide ((aO.toNat : Int) = 10) then
    (chk (InI (aJ + 1))).bind fun _ =>
    (chk (InI (aL + 1))).bind fun _ =>
    JZ text n aN ab (aL + 1) (aJ + 1) (aJ + 1)
    else
    if decide ((aO.toNat : Int) = 32) then
    (chk (InI (aJ + 1))).bind fun _ =>
    JZ text n aN ab aL aK (aJ + 1)
    else
    if decide ((aO.toNat : Int) = 9) then
    (chk (InI (aJ + 1))).bind fun _ =>
    JZ text n aN ab aL aK (aJ + 1)
    else
    if decide ((aO.toNat : Int) = 13) then
    (chk (InI (aJ + 1))).bind fun _ =>
    JZ text n aN ab aL aK (aJ + 1)
    else
    if decide ((aO.toNat : Int) = 35) then
    (JaZ text n aJ).bind fun t3 =>
    JZ text n aN ab aL aK t3
    else
    (chk (0 ≤ aJ ∧ aJ ≤ (text.length : Int) ∧ (text.length : Int) ≤ (text.length : Int))).bind fun _ =>
    (Jca n (subL text aJ (text.length : Int))).bind fun aM =>
    if decide (aM.2.1 = 0) then
    some (Fl.ret ([], (some 2)))
    else
    (chk (InI (aJ - aK))).bind fun _ =>
    (chk (InI ((aJ - aK) + 1))).bind fun _ =>
    (chk (ab.length + [(⟨aM.1, aM.2.2, aL, ((aJ - aK) + 1)⟩ : JA)].length ≤ lim)).bind fun _ =>
    (chk (InI (aJ + aM.2.1))).bind fun _ =>
    JZ text n aN (ab ++ [(⟨aM.1, aM.2.2, aL, ((aJ - aK) + 1)⟩ : JA)]) aL aK (aJ + aM.2.1)
    else
    some (Fl.go (ab, aL, aK, aJ))
def Jcb (n : Nat) (text : Str) : Option ((List JA) × Err) :=
  if decide ((text.length : Int) > 4096) then
  some ([], (some 5))
  else
  (JZ text n n [] 1 0 0).bind fun s0 => s0.el some fun t0 =>
  (chk (InI ((text.length : Int) - t0.2.2.1))).bind fun _ =>
  (chk (InI (((text.length : Int) - t0.2.2.1) + 1))).bind fun _ =>
  (chk (t0.1.length + ([(⟨5, ([] : Str), t0.2.1, (((text.length : Int) - t0.2.2.1) + 1)⟩ : JA)]).length ≤ lim)).bind fun _ =>
  some ((t0.1 ++ [(⟨5, ([] : Str), t0.2.1, (((text.length : Int) - t0.2.2.1) + 1)⟩ : JA)]), none)
theorem Jez {n : Nat} {text : Str} {K : Hp} {r : (List JA) × Err}
    (hm : Jcb n text = some r)  :
    Fn Tryz.prog 192 [str text] K [] (fun v K' H' => ∃ ar_0 : Option Addr, ∃ cr_0 : Nat, v = .tuple #[.slice ar_0 r.1.length cr_0, qcu 87 r.2] ∧ (0 < r.1.length → Has ar_0) ∧ H' = [OwnL JA.enc ar_0 269 4 cr_0 r.1]) := by
 refine Fn.enter Tryz.func192 Tryz.call192 rfl fun F => ?_
 unfold Jcb at hm
 refine ro (qa2 rfl ?_)
 refine cs rfl rfl hm ?_ ?_ <;> intro bz hm
 refine qa3 rfl ?_
 refine qjc JA.enc 269 4 ?_
 exact eE hm
 obtain ⟨s0, aJ, hm⟩ := bnd hm
 refine ql6 JA.enc 269 4 ?_
 refine lD (σ := ((List JA) × Int × Int × Int) × Option Addr × Nat) (rg 2 9 ++ rg 15 59) [1] (fun _ => []) (fun (t0, aL, aM) => [(4, .slice aL t0.1.length aM), (5, .int .i64 t0.2.1), (6, .int .i64 t0.2.2.1), (7, .int .i64 t0.2.2.2)]) (fun (t0, aL, aM) => [OwnL JA.enc aL 269 4 aM t0.1]) (fun (t0, aL, aM) => (0 < t0.1.length → Has aL) ∧ True) (fun i0 (t0, aL, aM) => JZ text n i0 t0.1 t0.2.1 t0.2.2.1 t0.2.2.2 = some s0) (fun (t0, aL, aM) => s0 = Fl.go t0) (fun i0 => i0) n ((_, _, _, _), _, _) aJ (And.intro qe (And.intro ?_ ?_))
 clear aJ
 rintro i0 ⟨⟨ab, aQ, aR, aP⟩, aZ, aY⟩ ⟨aV, _⟩ aJ j0
 dsimp only at aJ ⊢
 cases i0 with
 | zero => rw [JZ.eq_1] at aJ; cases aJ
 | succ i0 =>
  rw [JZ.eq_2] at aJ
  refine ro (qa2 rfl ?_)
  refine cs rfl rfl aJ ?_ ?_ <;> intro bI aJ
  refine qak rfl ?_
  obtain ⟨bw, bf, bm, aJ⟩ := ixb aJ
  refine qba rfl bf bm ?_
  refine qak rfl ?_
  refine qaf (cs rfl rfl aJ ?_ ?_) <;> intro bG aJ
  refine ci aJ fun aJ => ?_
  obtain ⟨bb, aJ⟩ := qa7 aJ
  refine qat bb (cF (cT ?_))
  exact eR aJ (_, (_, _, _, _), _, _)
  refine qaf (cs rfl rfl aJ ?_ ?_) <;> intro aT aJ
  refine qad rfl (ct aT ?_)
  obtain ⟨aS, aJ⟩ := qa7 aJ
  refine qat aS (cF (cT ?_))
  exact eR aJ (_, (_, _, _, _), _, _)
  refine qaf (cs rfl rfl aJ ?_ ?_) <;> intro aT aJ
  refine qad rfl (ct aT ?_)
  obtain ⟨aS, aJ⟩ := qa7 aJ
  refine qat aS (cF (cT ?_))
  exact eR aJ (_, (_, _, _, _), _, _)
  refine qaf (cs rfl rfl aJ ?_ ?_) <;> intro aT aJ
  obtain ⟨aS, aJ⟩ := qa7 aJ
  refine qat aS (cF (cT ?_))
  exact eR aJ (_, (_, _, _, _), _, _)
  refine qaf (cs rfl rfl aJ ?_ ?_) <;> intro bJ aJ
  obtain ⟨s3, aN, aJ⟩ := bnd aJ
  refine lD (σ := (Int)) ([7] ++ rg 37 12) [0, 1] (fun _ => []) (fun t3 => [(7, .int .i64 t3)]) (fun _ => []) (fun _ => True) (fun i3 t3 => JaZ text i3 t3 = some s3) (fun t3 => t3 = s3) (fun i3 => i3) n _ aN (And.intro qe (And.intro ?_ ?_))
  clear aN
  rintro i3 bj _ aN j3
  conv at aN => whnf
  cases i3 with
  | zero => rw [JaZ.eq_1] at aN; cases aN
  | succ i3 =>
   rw [JaZ.eq_2] at aN
   refine qaj rfl ?_
   refine ro (qa2 rfl ?_)
   obtain ⟨br, aO, aN⟩ := bnd aN
   refine cS aO (fun aK aO => ?_) fun aK aO => ?_
   refine ct aK (ct aK ?_)
   obtain ⟨bC, bg, bn, aO⟩ := ixb aO
   refine qba rfl bg bn (ct aK (qbf (ct aK (qad rfl ?_))))
   refine qag ?_ ?_ <;> intro aX
   replace aN := ift ((si aO).symm.trans aX) aN
   refine qak rfl ?_
   refine ci aN fun aN => ?_
   exact eR aN (_, _)
   replace aN := qbp ((si aO).symm.trans aX) aN
   refine cT ?_
   exact eM aN _
   refine cf aK (cf aK (cf aK (cf aK (qad rfl (cF ?_)))))
   replace aN := qbp (si aO).symm aN
   refine cT ?_
   exact eM aN _
  rintro t3 _ rfl j3
  refine cF (cT ?_)
  exact eR aJ (_, (_, _, _, _), _, _)
  obtain ⟨bo, aJ⟩ := qa7 aJ
  refine RStep.ofN (qf2 (lo := (some aP)) (hi := none) rfl bo ?_)
  refine cb aJ fun aU a8 aJ => cg0 (Jey a8 :) ?_
  refine qaf (cs rfl rfl aJ ?_ ?_) <;> intro bv aJ
  refine qa3 rfl ?_
  refine qjc JA.enc 269 4 ?_
  exact eE (er aJ hm)
  refine ci aJ fun aJ => ?_
  obtain ⟨bc, aJ⟩ := qa7 aJ
  refine qat bc (qam rfl rfl (cT (cT (cT (cT ?_)))))
  refine bsO (len := 1) (enc := JA.enc) (l := [(⟨aU.1, aU.2.2, aQ, ((aP - aR) + 1)⟩ : JA)]) (cl := [.int .i64 aU.1, str aU.2.2, .int .i64 aQ, .int .i64 ((aP - aR) + 1)]) qj3 rfl rfl (fun _ _ => rfl) rfl rfl rfl ?_ fun bF => ?_
  · conv => whnf
    refine cT ?_
    first | done | rfl
  obtain ⟨a6, aJ⟩ := qa7 aJ
  refine apE rfl r1 qj3 (qa6 rfl r0 rfl (fun _ => rfl) (fun _ => rfl)) a6 ?_
  intro bu bD bt
  refine ci aJ fun aJ => ?_
  exact eR aJ (_, (_, _, _, _), _, _)
  refine cT ?_
  exact eM aJ (_, _, _)
 rintro ⟨t0, aL, aM⟩ ⟨aW, _⟩ rfl j0
 replace hm := elg hm
 refine ro (qa2 rfl ?_)
 refine ci hm fun hm => ?_
 obtain ⟨ba, hm⟩ := qa7 hm
 refine qat ba (qam rfl rfl (cT (cT (cT (cT ?_)))))
 refine bsO (len := 1) (enc := JA.enc) (l := [(⟨5, ([] : Str), t0.2.1, (((text.length : Int) - t0.2.2.1) + 1)⟩ : JA)]) (cl := [.int .i64 5, str ([] : Str), .int .i64 t0.2.1, .int .i64 (((text.length : Int) - t0.2.2.1) + 1)]) qj3 rfl rfl (fun _ _ => rfl) rfl rfl rfl ?_ fun bH => ?_
 · conv => whnf
   refine cT ?_
   first | done | rfl
 obtain ⟨bh, hm⟩ := qa7 hm
 refine apE rfl r1 qj3 (qa6 rfl r0 rfl (fun _ => rfl) (fun _ => rfl)) bh ?_
 intro bB bA bp
 exact eE hm

def JbK (s : Str) : Option (Bool) :=
  (JG gkw0 s).bind fun x5 =>
  some x5
theorem JdT {s : Str} {K : Hp} {r : Bool}
    (hm : JbK s = some r) (hG : GG K) :
    Fn Tryz.prog 193 [str s] K [] (fun v K' H' => v = .bool r ∧ H' = []) := by
 obtain ⟨aN, aK, aM, gn_, aJ, aL⟩ := gg4 hG
 subst gn_
 refine Fn.enter Tryz.func193 Tryz.call193 rfl fun F => ?_
 unfold JbK at hm
 refine ro (qkf aJ rfl ?_)
 refine cb hm fun x5 q5 hm => cgx (J9 q5 :) ?_
 exact eE hm

def Jbp (n : Nat) (s : Str) : Option (Bool) :=
  (Jcb n s).bind fun x7 =>
  (if (x7.2.isNone && decide ((x7.1.length : Int) = 2)) then (ix x7.1 0).bind fun aM =>
  some (decide (aM.Ab = 1)) else some false).bind fun aJ =>
  (if aJ then (ix x7.1 0).bind fun aL =>
  some (decide (aL.Ac = s)) else some false).bind fun aO =>
  (if aO then (JbK s).bind fun aN =>
  some (!aN) else some false).bind fun aK =>
  some aK
theorem Jci {n : Nat} {s : Str} {K : Hp} {r : Bool}
    (hm : Jbp n s = some r) (hG : GG K) :
    Fn Tryz.prog 159 [str s] K [] (fun v K' H' => v = .bool r ∧ H' = []) := by
 refine Fn.enter Tryz.func159 Tryz.call159 rfl fun F => ?_
 unfold Jbp at hm
 refine cb hm fun x7 q7 hm => ck0 (Jez q7 :) ?_
 rintro _ _ _ ⟨aY, aZ, rfl, aQ, rfl⟩
 refine qaj rfl ?_
 refine qf0 rfl ?_
 refine qag ?_ ?_ <;> intro aL
 refine ct aL (ro (qai rfl (ct aL (qaf (ct aL ?_)))))
 obtain ⟨aX, aP, hm⟩ := bnd hm
 refine qag ?_ ?_ <;> intro aK
 replace aP := ift (qb5 aL aK) aP
 refine ct aK ?_
 obtain ⟨a8, aV, aR, aP⟩ := ixb aP
 refine RStep.ofN (qac rfl rfl (qdb aQ aR) aV (qay rfl aV aR) (ct aK (qaz rfl (qdb aQ aR) (ct aK (ro (qda (i := (0 : Int).toNat) (o := 0) r0 rfl aR rfl rfl (ct aK (qaf (ct aK ?_)))))))))
 obtain ⟨aU, aO, hm⟩ := bnd hm
 refine qag ?_ ?_ <;> intro aJ
 replace aO := ift ((si aP).symm.trans aJ) aO
 refine ct aJ ?_
 obtain ⟨bb, aW, aS, aO⟩ := ixb aO
 refine RStep.ofN (qac rfl rfl (qdb aQ aS) aW (qay rfl aW aS) (ct aJ (qaz rfl (qdb aQ aS) (ct aJ (ro (qda (i := (0 : Int).toNat) (o := 1) r0 rfl aS rfl rfl (ct aJ (ct aJ (qar ?_)))))))))
 refine ct aJ ?_
 obtain ⟨aT, aN, hm⟩ := bnd hm
 refine qag ?_ ?_ <;> intro aM
 replace aN := ift ((si aO).symm.trans aM) aN
 refine ct aM ?_
 refine cb aN fun ba a6 aN => cgx (JdT a6 :) ?_
 refine ct aM (qax (ct aM ?_))
 exact bE (si aN) (eE hm)
 replace aN := qbp ((si aO).symm.trans aM) aN
 refine cf aM (cf aM (cf aM ?_))
 exact bE (si aN) (eE hm)
 replace aO := qbp ((si aP).symm.trans aJ) aO
 refine cf aJ (cf aJ (cf aJ (cf aJ (cf aJ (cf aJ ?_)))))
 obtain ⟨aT, aN, hm⟩ := bnd hm
 replace aN := qbp (si aO).symm aN
 refine cF (cF (cF (cF ?_)))
 exact bE (si aN) (eE hm)
 replace aP := qbp (qcs aL aK) aP
 refine cf aK (cf aK (cf aK (cf aK (cf aK ?_))))
 obtain ⟨aU, aO, hm⟩ := bnd hm
 replace aO := qbp (si aP).symm aO
 refine cF (cF (cF (cF (cF (cF (cF ?_))))))
 obtain ⟨aT, aN, hm⟩ := bnd hm
 replace aN := qbp (si aO).symm aN
 refine cF (cF (cF (cF ?_)))
 exact bE (si aN) (eE hm)
 refine cf aL (cf aL (cf aL ?_))
 obtain ⟨aX, aP, hm⟩ := bnd hm
 replace aP := qbp (qa0 aL) aP
 refine cF (cF (cF (cF (cF (cF ?_)))))
 obtain ⟨aU, aO, hm⟩ := bnd hm
 replace aO := qbp (si aP).symm aO
 refine cF (cF (cF (cF (cF (cF (cF ?_))))))
 obtain ⟨aT, aN, hm⟩ := bnd hm
 replace aN := qbp (si aO).symm aN
 refine cF (cF (cF (cF ?_)))
 exact bE (si aN) (eE hm)

def JM (n : Nat) (n' : Ja) : Option (Int) :=
  if decide (n'.Ab = 13) then
  if (!decide (n'.Ac = ([] : Str))) then
  some (-2)
  else
  some 2
  else
  if decide (n'.Ab = 14) then
  if (!decide (n'.Ac = ([] : Str))) then
  some (-2)
  else
  some 2
  else
  if decide (n'.Ab = 17) then
  if (!decide (n'.Ac = ([] : Str))) then
  some (-2)
  else
  some 2
  else
  if decide (n'.Ab = 18) then
  if (!decide (n'.Ac = ([] : Str))) then
  some (-2)
  else
  some 2
  else
  if decide (n'.Ab = 19) then
  if (!decide (n'.Ac = ([] : Str))) then
  some (-2)
  else
  some 2
  else
  if decide (n'.Ab = 15) then
  if (!decide (n'.Ac = ([] : Str))) then
  some (-2)
  else
  some 1
  else
  if decide (n'.Ab = 16) then
  (Jao 4 n'.Ac).bind fun aN =>
  (if aN then some true else (Jao 1 n'.Ac).bind fun aP =>
  some aP).bind fun aM =>
  if (!aM) then
  some (-2)
  else
  some 2
  else
  if decide (n'.Ab = 20) then
  (Ja9 n'.Ac).bind fun aO =>
  if (!aO) then
  some (-2)
  else
  some 0
  else
  if decide (n'.Ab = 21) then
  (Jah n'.Ac).bind fun aJ =>
  if (!aJ) then
  some (-2)
  else
  some 0
  else
  if decide (n'.Ab = 22) then
  if (!(decide (n'.Ac = ([116, 114, 117, 101] : Str)) || decide (n'.Ac = ([102, 97, 108, 115, 101] : Str)))) then
  some (-2)
  else
  some 0
  else
  if decide (n'.Ab = 23) then
  (Jbp n n'.Ac).bind fun aK =>
  if (!aK) then
  some (-2)
  else
  some 0
  else
  if decide (n'.Ab = 24) then
  (Jbp n n'.Ac).bind fun aL =>
  if (!aL) then
  some (-2)
  else
  some (-1)
  else
  some (-2)
theorem JdA {n : Nat} {n' : Ja} {aa : Option Addr} {ac : Nat} {K : Hp} {r : Int}
    (hm : JM n n' = some r) (hX : LiC Ja.R K aa ac 4 n'.Aa ∧ GG K) :
    Fn Tryz.prog 191 [.agg #[.int .i64 n'.Ab, str n'.Ac, .slice aa n'.Aa.length ac, .int .i64 n'.Ad]] K [] (fun v K' H' => v = .int .i64 r ∧ H' = []) := by
 obtain ⟨ae, hG⟩ := hX
 refine Fn.enter Tryz.func191 Tryz.call191 rfl fun F => ?_
 unfold JM at hm
 refine qas ?_
 intro b1
 refine fa rfl (ro (ld r0 rfl rfl (qar (fa rfl (ro (ld r0 rfl rfl ?_))))))
 refine qak rfl ?_
 refine qaf (cs rfl rfl hm ?_ ?_) <;> intro aN hm
 refine qad rfl (ct aN (qax ?_))
 refine cs rfl rfl hm ?_ ?_ <;> intro aL hm
 exact eE hm
 exact eE hm
 refine qaf (cs rfl rfl hm ?_ ?_) <;> intro aN hm
 refine qad rfl (ct aN (qax ?_))
 refine cs rfl rfl hm ?_ ?_ <;> intro aL hm
 exact eE hm
 exact eE hm
 refine qaf (cs rfl rfl hm ?_ ?_) <;> intro aN hm
 refine qad rfl (ct aN (qax ?_))
 refine cs rfl rfl hm ?_ ?_ <;> intro aL hm
 exact eE hm
 exact eE hm
 refine qaf (cs rfl rfl hm ?_ ?_) <;> intro aN hm
 refine qad rfl (ct aN (qax ?_))
 refine cs rfl rfl hm ?_ ?_ <;> intro aL hm
 exact eE hm
 exact eE hm
 refine qaf (cs rfl rfl hm ?_ ?_) <;> intro aN hm
 refine qax ?_
 refine cs rfl rfl hm ?_ ?_ <;> intro aL hm
 exact eE hm
 exact eE hm
 refine qaf (cs rfl rfl hm ?_ ?_) <;> intro aU hm
 refine qax ?_
 refine cs rfl rfl hm ?_ ?_ <;> intro aL hm
 exact eE hm
 exact eE hm
 refine qaf (cs rfl rfl hm ?_ ?_) <;> intro bg hm
 refine qaj rfl ?_
 refine fa rfl (ro (ld r0 rfl rfl ?_))
 refine cb hm fun aV aR hm => cg0 (Jcs aR :) ?_
 obtain ⟨aZ, aM, hm⟩ := bnd hm
 refine cS aM (fun aK aM => ?_) fun aK aM => ?_
 refine ct aK (ct aK (ct aK (qax (qad rfl (cF ?_)))))
 replace hm := qbp (qed (si aM).symm) hm
 exact eE hm
 refine fa rfl (cf aK (ro (ld r0 rfl rfl (cf aK ?_))))
 refine cb aM fun bf aP aM => cg0 (Jcs aP :) ?_
 refine cf aK (qax (qad rfl ?_))
 refine qag ?_ ?_ <;> intro aL
 replace hm := ift (qja ((si aM).symm.trans (qrx aL))) hm
 exact eE hm
 replace hm := qbp (qed ((si aM).symm.trans (ql5 aL))) hm
 exact eE hm
 refine qaf (cs rfl rfl hm ?_ ?_) <;> intro bh hm
 refine fa rfl (ro (ld r0 rfl rfl ?_))
 refine cb hm fun aX aQ hm => cg0 (JdS aQ :) ?_
 refine qax ?_
 refine cs rfl rfl hm ?_ ?_ <;> intro aL hm
 exact eE hm
 exact eE hm
 refine qaf (cs rfl rfl hm ?_ ?_) <;> intro a8 hm
 refine fa rfl (ro (ld r0 rfl rfl ?_))
 refine cb hm fun aY aT hm => cg0 (JbJ aT :) ?_
 refine qax ?_
 refine cs rfl rfl hm ?_ ?_ <;> intro aL hm
 exact eE hm
 exact eE hm
 refine qaf (cs rfl rfl hm ?_ ?_) <;> intro ba hm
 refine qaj rfl ?_
 refine fa rfl (ro (ld r0 rfl rfl (qar ?_)))
 refine qag ?_ ?_ <;> intro aJ
 refine ct aJ (ct aJ (ct aJ (qax (qad rfl (cF ?_)))))
 replace hm := qbp (qed (qds aJ)) hm
 exact eE hm
 refine fa rfl (cf aJ (ro (ld r0 rfl rfl (cf aJ (qar (cf aJ (qax (qad rfl ?_))))))))
 refine qag ?_ ?_ <;> intro aL
 replace hm := ift (qja (qgw aJ (qrx aL))) hm
 exact eE hm
 replace hm := qbp (qed (qi9 aJ (ql5 aL))) hm
 exact eE hm
 refine qaf (cs rfl rfl hm ?_ ?_) <;> intro aW hm
 refine fa rfl (ro (ld r0 rfl rfl ?_))
 refine cb hm fun bb aS hm => cgx (Jci aS :) ?_
 refine qax ?_
 refine cs rfl rfl hm ?_ ?_ <;> intro aL hm
 exact eE hm
 exact eE hm
 refine qaf (cs rfl rfl hm ?_ ?_) <;> intro a6 hm
 refine fa rfl (ro (ld r0 rfl rfl ?_))
 refine cb hm fun bc aO hm => cgx (Jci aO :) ?_
 refine qax ?_
 refine cs rfl rfl hm ?_ ?_ <;> intro aL hm
 exact eE hm
 exact eE hm
 exact eE hm

def JH (rec_ : (Ja → Option (Bool))) : List Ja → Nat → Option (Fl (Bool) (Unit))
  | [], _ => some (Fl.go ())
  | e0 :: aK, i0 =>
    (rec_ e0).bind fun aJ =>
    if (!aJ) then
    some (Fl.ret false)
    else
    JH rec_ aK (i0 + 1)
def Jr : Nat → Ja → Option (Bool)
  | 0, _ => none
  | n + 1, n' =>
    (JM n n').bind fun x7 =>
    if decide (x7 = (-2)) then
    some false
    else
    if (decide (x7 ≥ 0) && decide ((n'.Aa.length : Int) ≠ x7)) then
    some false
    else
    (chk (n'.Aa.length ≤ qav)).bind fun _ =>
    (JH (Jr n) n'.Aa 0).bind fun s0 => s0.el some fun t0 =>
    some true
theorem JX : ∀ {n : Nat} {n' : Ja} {aa : Option Addr} {ac : Nat} {K : Hp} {r : Bool}
    (hm : Jr n n' = some r) (hX : LiC Ja.R K aa ac 4 n'.Aa ∧ GG K),
    Fn Tryz.prog 156 [.agg #[.int .i64 n'.Ab, str n'.Ac, .slice aa n'.Aa.length ac, .int .i64 n'.Ad]] K [] (fun v K' H' => v = .bool r ∧ H' = []) := by
 intro n
 induction n with
 | zero =>
   intro n' aa ac K r hm hX
   rw [Jr.eq_1] at hm; cases hm
 | succ n ih =>
   intro n' aa ac K r hm hX
   obtain ⟨ae, hG⟩ := hX
   refine Fn.enter Tryz.func156 Tryz.call156 rfl fun F => ?_
   rw [Jr.eq_2] at hm
   refine qas ?_
   intro b1
   refine ro (qae r0 rfl (nl rfl) ?_)
   refine cb hm fun x7 q7 hm => cgx (JdA q7 :) ?_
   refine qaj rfl ?_
   refine qaf ?_
   refine cS hm (fun aK hm => ?_) fun aK hm => ?_
   refine ct aK (ct aK (ct aK (ct aK (qad rfl (cT ?_)))))
   exact eE hm
   refine cf aK (cf aK ?_)
   refine qag ?_ ?_ <;> intro aJ
   refine fa rfl (ct aJ (ro (ld r0 rfl rfl (ct aJ (ro (qai rfl (ct aJ (ct aJ (qbf ?_)))))))))
   refine cf aK (ct aJ (cf aK (qad rfl ?_)))
   refine qag ?_ ?_ <;> intro aY
   replace hm := ift (qb5 aJ aY) hm
   exact eE hm
   replace hm := qbp (qcs aJ aY) hm
   refine fa rfl (ro (ld r0 rfl rfl (ro (qai rfl ?_))))
   obtain ⟨aU, hm⟩ := qa7 hm
   obtain ⟨s0, aL, hm⟩ := bnd hm
   refine lD (σ := (Unit)) ([2,5] ++ rg 24 8) [0, 1] (fun i0 => [(24, .int .i64 (i0 : Int))]) (fun _ => []) (fun _ => []) (fun _ => True) (fun i0 _ => JH (Jr n) (n'.Aa.drop i0) i0 = some s0) (fun t0 => s0 = Fl.go t0) (fun i0 => n'.Aa.length - i0) 0 () aL (And.intro qe (And.intro ?_ ?_))
   clear aL
   rintro i0 _ _ aL j0
   conv at aL => whnf
   refine qad rfl ?_
   refine qag ?_ ?_ <;> intro w0
   obtain ⟨e0, aM, aX⟩ := ltx w0
   rw [aX, JH.eq_2] at aL
   refine qak rfl ?_
   refine RStep.ofN (qac rfl rfl (qdc ae.rd aM) (nn _) (qbs aM) ?_)
   obtain ⟨aV, aT, aN, aP, aO⟩ := LiR.get ae.rd aM
   obtain ⟨aR, aS, rfl, aQ⟩ := Ja.out aO
   refine ro (qan i0 _ aN rfl aP rfl ?_)
   refine qal rfl fun b5 => ?_
   refine qab r0 rfl ⟨rfl, rfl, (nl rfl), ?_⟩
   refine ro (qae r0 rfl (nl rfl) ?_)
   refine cb aL fun a6 aW aL => cgx (ih aW :) ?_
   refine qax ?_
   refine cs rfl rfl aL ?_ ?_ <;> intro aZ aL
   exact eE (er aL hm)
   refine qat (qcl aM aU) ?_
   exact eR aL (_, ())
   rw [lty w0, JH.eq_1] at aL
   refine cT ?_
   exact eM aL _
   rintro t0 _ rfl j0
   replace hm := elg hm
   exact eE hm
   refine cf aJ (cf aJ (cf aJ (cf aJ (cf aK (cf aJ (cf aK (qad rfl ?_)))))))
   refine cF ?_
   replace hm := qbp (qa0 aJ) hm
   refine fa rfl (ro (ld r0 rfl rfl (ro (qai rfl ?_))))
   obtain ⟨aU, hm⟩ := qa7 hm
   obtain ⟨s0, aL, hm⟩ := bnd hm
   refine lD (σ := (Unit)) ([2,5] ++ rg 24 8) [0, 1] (fun i0 => [(24, .int .i64 (i0 : Int))]) (fun _ => []) (fun _ => []) (fun _ => True) (fun i0 _ => JH (Jr n) (n'.Aa.drop i0) i0 = some s0) (fun t0 => s0 = Fl.go t0) (fun i0 => n'.Aa.length - i0) 0 () aL (And.intro qe (And.intro ?_ ?_))
   clear aL
   rintro i0 _ _ aL j0
   conv at aL => whnf
   refine qad rfl ?_
   refine qag ?_ ?_ <;> intro w0
   obtain ⟨e0, aM, aX⟩ := ltx w0
   rw [aX, JH.eq_2] at aL
   refine qak rfl ?_
   refine RStep.ofN (qac rfl rfl (qdc ae.rd aM) (nn _) (qbs aM) ?_)
   obtain ⟨aV, aT, aN, aP, aO⟩ := LiR.get ae.rd aM
   obtain ⟨aR, aS, rfl, aQ⟩ := Ja.out aO
   refine ro (qan i0 _ aN rfl aP rfl ?_)
   refine qal rfl fun b5 => ?_
   refine qab r0 rfl ⟨rfl, rfl, (nl rfl), ?_⟩
   refine ro (qae r0 rfl (nl rfl) ?_)
   refine cb aL fun a6 aW aL => cgx (ih aW :) ?_
   refine qax ?_
   refine cs rfl rfl aL ?_ ?_ <;> intro aZ aL
   exact eE (er aL hm)
   refine qat (qcl aM aU) ?_
   exact eR aL (_, ())
   rw [lty w0, JH.eq_1] at aL
   refine cT ?_
   exact eM aL _
   rintro t0 _ rfl j0
   replace hm := elg hm
   exact eE hm

def J8 (ax : (Ja → Option (Bool))) : List Ja → Nat → Option (Fl (Bool) (Unit))
  | [], _ => some (Fl.go ())
  | e0 :: aJ, i0 =>
    (ax e0).bind fun aK =>
    if (!aK) then
    some (Fl.ret false)
    else
    J8 ax aJ (i0 + 1)
def Jaz (ax : (Ja → Option (Bool))) (n : Nat) (n' : Ja) : Option (Bool) :=
  if (decide (n'.Ab ≠ 12) || decide (n'.Ac ≠ ([] : Str))) then
  some false
  else
  (chk (n'.Aa.length ≤ qav)).bind fun _ =>
  (J8 ax n'.Aa 0).bind fun s0 => s0.el some fun t0 =>
  some true
theorem Jcz {ax : (Ja → Option (Bool))} (ihrec0_0 : ∀ {n' : Ja} {aa : Option Addr} {ac : Nat} {K : Hp} {r : Bool} (hm : ax n' = some r) (hX : LiC Ja.R K aa ac 4 n'.Aa ∧ GG K), Fn Tryz.prog 125 [.agg #[.int .i64 n'.Ab, str n'.Ac, .slice aa n'.Aa.length ac, .int .i64 n'.Ad]] K [] (fun v K' H' => v = .bool r ∧ H' = [])) {n : Nat} {n' : Ja} {aa : Option Addr} {ac : Nat} {K : Hp} {r : Bool}
    (hm : Jaz ax n n' = some r) (hX : LiC Ja.R K aa ac 4 n'.Aa ∧ GG K) :
    Fn Tryz.prog 157 [.agg #[.int .i64 n'.Ab, str n'.Ac, .slice aa n'.Aa.length ac, .int .i64 n'.Ad]] K [] (fun v K' H' => v = .bool r ∧ H' = []) := by
 obtain ⟨ae, hG⟩ := hX
 refine Fn.enter Tryz.func157 Tryz.call157 rfl fun F => ?_
 unfold Jaz at hm
 refine qas ?_
 intro b1
 refine jR (σ := Unit) (rg 5 8) (fun _ => [(12, .bool (decide (n'.Ab ≠ 12) || decide (n'.Ac ≠ ([] : Str))))]) (fun aV => True) ?_ ?_
 refine qaj rfl ?_
 refine fa rfl (ro (ld r0 rfl rfl (qbf ?_)))
 refine qag ?_ ?_ <;> intro aJ
 refine ct aJ (ct aJ (ct aJ ?_))
 exact eMt () ⟨bq (((qds aJ)).symm), trivial⟩
 refine fa rfl (cf aJ (ro (ld r0 rfl rfl (cf aJ (qbz (cf aJ ?_))))))
 exact eMt () ⟨bq (qll (b := decide (n'.Ac ≠ ([] : Str))) aJ), trivial⟩
 rintro _ _ aY
 refine cs rfl rfl hm ?_ ?_ <;> intro a8 hm
 exact eE hm
 refine fa rfl (ro (ld r0 rfl rfl (ro (qai rfl ?_))))
 obtain ⟨aS, hm⟩ := qa7 hm
 obtain ⟨s0, aK, hm⟩ := bnd hm
 refine lD (σ := (Unit)) ([2,4] ++ rg 16 8) [0, 1] (fun i0 => [(16, .int .i64 (i0 : Int))]) (fun _ => []) (fun _ => []) (fun _ => True) (fun i0 _ => J8 ax (n'.Aa.drop i0) i0 = some s0) (fun t0 => s0 = Fl.go t0) (fun i0 => n'.Aa.length - i0) 0 () aK (And.intro qe (And.intro ?_ ?_))
 clear aK
 rintro i0 _ _ aK j0
 conv at aK => whnf
 refine qad rfl ?_
 refine qag ?_ ?_ <;> intro w0
 obtain ⟨e0, aL, aX⟩ := ltx w0
 rw [aX, J8.eq_2] at aK
 refine qak rfl ?_
 refine RStep.ofN (qac rfl rfl (qdc ae.rd aL) (nn _) (qbs aL) ?_)
 obtain ⟨aT, aU, aO, aN, aM⟩ := LiR.get ae.rd aL
 obtain ⟨aP, aR, rfl, aQ⟩ := Ja.out aM
 refine ro (qan i0 _ aO rfl aN rfl ?_)
 refine qal rfl fun b4 => ?_
 refine qab r0 rfl ⟨rfl, rfl, (nl rfl), ?_⟩
 refine ro (qae r0 rfl (nl rfl) ?_)
 refine cb aK fun aZ aW aK => cgx (ihrec0_0 aW :) ?_
 refine qax ?_
 refine cs rfl rfl aK ?_ ?_ <;> intro a6 aK
 exact eE (er aK hm)
 refine qat (qcl aL aS) ?_
 exact eR aK (_, ())
 rw [lty w0, J8.eq_1] at aK
 refine cT ?_
 exact eM aK _
 rintro t0 _ rfl j0
 replace hm := elg hm
 exact eE hm

def Jv : Nat → Ja → Option (Bool)
  | 0, _ => none
  | n + 1, n' =>
    if decide (n'.Ab = 2) then
    (if ((decide (n'.Ac ≠ ([] : Str)) || decide ((n'.Aa.length : Int) < 2)) || decide ((n'.Aa.length : Int) > 3)) then some true else (ix n'.Aa 0).bind fun aO =>
    (Jr n aO).bind fun aW =>
    some (!aW)).bind fun aS =>
    (if aS then some true else (ix n'.Aa 1).bind fun a8 =>
    (Jaz (Jv n) n a8).bind fun a6 =>
    some (!a6)).bind fun aP =>
    if aP then
    some false
    else
    (if decide ((n'.Aa.length : Int) = 2) then some true else (ix n'.Aa 2).bind fun aX =>
    (Jaz (Jv n) n aX).bind fun aV =>
    some aV).bind fun aQ =>
    if aQ then
    some true
    else
    (ix n'.Aa 2).bind fun aU =>
    (if decide (aU.Ab = 2) then (ix n'.Aa 2).bind fun aY =>
    ((Jv n) aY).bind fun aT =>
    some aT else some false).bind fun aR =>
    some aR
    else
    if decide (n'.Ab = 6) then
    (Jah n'.Ac).bind fun aZ =>
    some (aZ && decide ((n'.Aa.length : Int) = 0))
    else
    if decide (n'.Ab = 10) then
    some (decide (n'.Ac = ([] : Str)) && decide ((n'.Aa.length : Int) = 0))
    else
    if decide (n'.Ab = 11) then
    some (decide (n'.Ac = ([] : Str)) && decide ((n'.Aa.length : Int) = 0))
    else
    if decide (n'.Ab = 3) then
    (Jbp n n'.Ac).bind fun aN =>
    if (!aN) then
    some false
    else
    (if decide ((n'.Aa.length : Int) = 1) then (ix n'.Aa 0).bind fun aJ =>
    (Jr n aJ).bind fun aK =>
    some aK else some false).bind fun aL =>
    some aL
    else
    if decide (n'.Ab = 4) then
    if (decide (n'.Ac ≠ ([112, 97, 116, 104] : Str)) && decide (n'.Ac ≠ ([113, 117, 101, 114, 121] : Str))) then
    some false
    else
    (if decide ((n'.Aa.length : Int) = 1) then (ix n'.Aa 0).bind fun aJ =>
    (Jr n aJ).bind fun aK =>
    some aK else some false).bind fun aL =>
    some aL
    else
    if decide (n'.Ab = 5) then
    (Jah n'.Ac).bind fun aM =>
    if (!aM) then
    some false
    else
    (if decide ((n'.Aa.length : Int) = 1) then (ix n'.Aa 0).bind fun aJ =>
    (Jr n aJ).bind fun aK =>
    some aK else some false).bind fun aL =>
    some aL
    else
    if decide (n'.Ab = 7) then
    if decide (n'.Ac ≠ ([] : Str)) then
    some false
    else
    (if decide ((n'.Aa.length : Int) = 1) then (ix n'.Aa 0).bind fun aJ =>
    (Jr n aJ).bind fun aK =>
    some aK else some false).bind fun aL =>
    some aL
    else
    if decide (n'.Ab = 8) then
    if decide (n'.Ac ≠ ([] : Str)) then
    some false
    else
    (if decide ((n'.Aa.length : Int) = 1) then (ix n'.Aa 0).bind fun aJ =>
    (Jr n aJ).bind fun aK =>
    some aK else some false).bind fun aL =>
    some aL
    else
    if decide (n'.Ab = 9) then
    if decide (n'.Ac ≠ ([] : Str)) then
    some false
    else
    (if decide ((n'.Aa.length : Int) = 1) then (ix n'.Aa 0).bind fun aJ =>
    (Jr n aJ).bind fun aK =>
    some aK else some false).bind fun aL =>
    some aL
    else
    some false
theorem JdU : ∀ {n : Nat} {n' : Ja} {aa : Option Addr} {ac : Nat} {K : Hp} {r : Bool}
    (hm : Jv n n' = some r) (hX : LiC Ja.R K aa ac 4 n'.Aa ∧ GG K),
    Fn Tryz.prog 125 [.agg #[.int .i64 n'.Ab, str n'.Ac, .slice aa n'.Aa.length ac, .int .i64 n'.Ad]] K [] (fun v K' H' => v = .bool r ∧ H' = []) := by
 intro n
 induction n with
 | zero =>
   intro n' aa ac K r hm hX
   rw [Jv.eq_1] at hm; cases hm
 | succ n ih =>
   intro n' aa ac K r hm hX
   obtain ⟨ae, hG⟩ := hX
   refine Fn.enter Tryz.func125 Tryz.call125 rfl fun F => ?_
   rw [Jv.eq_2] at hm
   refine qas ?_
   intro b1
   refine fa rfl (ro (ld r0 rfl rfl ?_))
   refine qak rfl ?_
   refine qaf (cs rfl rfl hm ?_ ?_) <;> intro w6 hm
   refine fa rfl (ro (ld r0 rfl rfl (ro (qai rfl ?_))))
   refine qaj rfl ?_
   refine fa rfl (ro (ld r0 rfl rfl (qbz ?_)))
   refine qag ?_ ?_ <;> intro ba
   refine ct ba (ct ba (cT (cT (cT ?_))))
   obtain ⟨cj, bh, hm⟩ := bnd hm
   replace bh := ift (qds (qds ba)) bh
   refine cT (cT (cT (cT (cT (cT (cT ?_))))))
   obtain ⟨bQ, bc, hm⟩ := bnd hm
   replace bc := ift (si bh).symm bc
   refine cT (cT (cT (cT (cT (cT (cT (qad rfl ?_)))))))
   refine cT ?_
   replace hm := ift (si bc).symm hm
   exact eE hm
   refine cf ba (cf ba ?_)
   refine qag ?_ ?_ <;> intro bb
   refine ct bb (ct bb ?_)
   obtain ⟨cj, bh, hm⟩ := bnd hm
   replace bh := ift (qds (qi9 ba bb)) bh
   refine cT (cT (cT (cT (cT (cT (cT ?_))))))
   obtain ⟨bQ, bc, hm⟩ := bnd hm
   replace bc := ift (si bh).symm bc
   refine cT (cT (cT (cT (cT (cT (cT (qad rfl ?_)))))))
   refine cT ?_
   replace hm := ift (si bc).symm hm
   exact eE hm
   refine cf bb (cf bb ?_)
   obtain ⟨cj, bh, hm⟩ := bnd hm
   refine qag ?_ ?_ <;> intro aO
   replace bh := ift (qi9 (qgw ba bb) aO) bh
   refine ct aO (ct aO (ct aO (ct aO (ct aO (ct aO ?_)))))
   obtain ⟨bQ, bc, hm⟩ := bnd hm
   replace bc := ift (si bh).symm bc
   refine cT (cT (cT (cT (cT (cT (cT (qad rfl ?_)))))))
   refine cT ?_
   replace hm := ift (si bc).symm hm
   exact eE hm
   replace bh := qbp (qgw (qgw ba bb) aO) bh
   refine fa rfl (cf aO (ro (ld r0 rfl rfl (cf aO ?_))))
   obtain ⟨dk, cC, bw, bh⟩ := ixb bh
   refine RStep.ofN (qac rfl rfl (qdc ae.rd bw) cC (qay rfl cC bw) (cf aO ?_))
   obtain ⟨cN, cP, bI, bK, bA⟩ := LiR.get ae.rd bw
   obtain ⟨cm, cd, rfl, cA⟩ := Ja.out bA
   refine ro (qan ((0 : Int).toNat) _ bI rfl bK rfl (cf aO ?_))
   refine cb bh fun db cX bh => cgx (JX cX :) ?_
   refine cf aO (qax (cf aO ?_))
   obtain ⟨bQ, bc, hm⟩ := bnd hm
   refine qag ?_ ?_ <;> intro aP
   replace bc := ift ((si bh).symm.trans (qja (qrx aP))) bc
   refine ct aP (ct aP (ct aP (ct aP (ct aP (ct aP (qad rfl (cT ?_)))))))
   replace hm := ift (si bc).symm hm
   exact eE hm
   replace bc := qbp ((si bh).symm.trans (qed (ql5 aP))) bc
   refine fa rfl (cf aP (ro (ld r0 rfl rfl (cf aP ?_))))
   obtain ⟨dj, cr, bR, bc⟩ := ixb bc
   refine RStep.ofN (qac rfl rfl (qdc ae.rd bR) cr (qay rfl cr bR) (cf aP ?_))
   obtain ⟨cJ, cG, bG, bT, bS⟩ := LiR.get ae.rd bR
   obtain ⟨bX, cp, rfl, cn⟩ := Ja.out bS
   refine ro (qan ((1 : Int).toNat) _ bG rfl bT rfl (cf aP ?_))
   refine cb bc fun c9 cH bc => cgx (Jcz ih cH :) ?_
   refine cf aP (qax (cf aP (qad rfl ?_)))
   refine qag ?_ ?_ <;> intro cw
   replace hm := ift ((si bc).symm.trans (qja (qrx cw))) hm
   exact eE hm
   replace hm := qbp ((si bc).symm.trans (qed (ql5 cw))) hm
   refine qaj rfl ?_
   refine qaf ?_
   obtain ⟨dg, bo, hm⟩ := bnd hm
   refine cS bo (fun aW bo => ?_) fun aW bo => ?_
   refine ct aW (ct aW (ct aW (ct aW (ct aW ?_))))
   replace hm := ift (si bo).symm hm
   refine cT (cT (cT (cT (cT (cT (cT (cT ?_)))))))
   refine cT ?_
   exact eE hm
   refine fa rfl (cf aW (ro (ld r0 rfl rfl (cf aW ?_))))
   obtain ⟨dm, bY, bN, bo⟩ := ixb bo
   refine RStep.ofN (qac rfl rfl (qdc ae.rd bN) bY (qay rfl bY bN) (cf aW ?_))
   obtain ⟨cK, cZ, bM, bO, bF⟩ := LiR.get ae.rd bN
   obtain ⟨co, ce, rfl, ca⟩ := Ja.out bF
   refine ro (qan ((2 : Int).toNat) _ bM rfl bO rfl (cf aW ?_))
   refine cb bo fun dh cR bo => cgx (Jcz ih cR :) ?_
   refine cf aW ?_
   refine qag ?_ ?_ <;> intro aM
   replace hm := ift ((si bo).symm.trans aM) hm
   refine ct aM (ct aM (ct aM (ct aM (ct aM (ct aM (ct aM (ct aM ?_)))))))
   exact eE hm
   replace hm := qbp ((si bo).symm.trans aM) hm
   refine fa rfl (cf aM (ro (ld r0 rfl rfl (cf aM ?_))))
   obtain ⟨dc, cD, bv, hm⟩ := ixb hm
   refine RStep.ofN (qac rfl rfl (qdc ae.rd bv) cD (qay rfl cD bv) (cf aM (qaz rfl (qdc ae.rd bv) (cf aM ?_))))
   obtain ⟨cU, cM, bP, bH, bD⟩ := LiR.get ae.rd bv
   obtain ⟨bV, bW, rfl, cq⟩ := Ja.out bD
   refine ro (qcq ((2 : Int).toNat) 0 _ _ bP rfl bH rfl rfl (cf aM (qaf (cf aM ?_))))
   obtain ⟨da, br, hm⟩ := bnd hm
   refine cS br (fun aV br => ?_) fun aV br => ?_
   refine fa rfl (ct aV (ro (ld r0 rfl rfl (ct aV ?_))))
   obtain ⟨c6, cu, bB, br⟩ := ixb br
   refine RStep.ofN (qac rfl rfl (qdc ae.rd bB) cu (qay rfl cu bB) (ct aV ?_))
   obtain ⟨cV, cO, bC, bz, bJ⟩ := LiR.get ae.rd bB
   obtain ⟨bZ, cz, rfl, bU⟩ := Ja.out bJ
   refine ro (qan ((2 : Int).toNat) _ bC rfl bz rfl (ct aV ?_))
   refine cb br fun c5 cE br => cgx (ih cE :) ?_
   refine cf aM (ct aV (cf aM ?_))
   exact bE (si br) (eE hm)
   refine cf aV (cf aV (cf aV (cf aV (cf aM (cf aV (cf aM ?_))))))
   exact bE (si br) (eE hm)
   refine qaf (cs rfl rfl hm ?_ ?_) <;> intro dp hm
   refine qaj rfl ?_
   refine fa rfl (ro (ld r0 rfl rfl ?_))
   refine cb hm fun di cQ hm => cg0 (JbJ cQ :) ?_
   refine qag ?_ ?_ <;> intro aX
   refine fa rfl (ct aX (ro (ld r0 rfl rfl (ct aX (ro (qai rfl (ct aX (qaf (ct aX ?_)))))))))
   exact bE (qdh (b := decide ((n'.Aa.length : Int) = 0)) aX) (eE hm)
   refine cf aX (cf aX (cf aX (cf aX ?_)))
   exact bE (((qa0 aX)).symm) (eE hm)
   refine qaf (cs rfl rfl hm ?_ ?_) <;> intro cB hm
   refine qad rfl (ct cB ?_)
   refine qaj rfl ?_
   refine fa rfl (ro (ld r0 rfl rfl (qar ?_)))
   refine qag ?_ ?_ <;> intro aL
   refine fa rfl (ct aL (ro (ld r0 rfl rfl (ct aL (ro (qai rfl (ct aL (qaf (ct aL ?_)))))))))
   exact bE (qdh (b := decide ((n'.Aa.length : Int) = 0)) aL) (eE hm)
   refine cf aL (cf aL (cf aL (cf aL ?_)))
   exact bE (((qa0 aL)).symm) (eE hm)
   refine qaf (cs rfl rfl hm ?_ ?_) <;> intro cB hm
   refine qaj rfl ?_
   refine fa rfl (ro (ld r0 rfl rfl (qar ?_)))
   refine qag ?_ ?_ <;> intro aL
   refine fa rfl (ct aL (ro (ld r0 rfl rfl (ct aL (ro (qai rfl (ct aL (qaf (ct aL ?_)))))))))
   exact bE (qdh (b := decide ((n'.Aa.length : Int) = 0)) aL) (eE hm)
   refine cf aL (cf aL (cf aL (cf aL ?_)))
   exact bE (((qa0 aL)).symm) (eE hm)
   refine qaf (cs rfl rfl hm ?_ ?_) <;> intro c8 hm
   refine fa rfl (ro (ld r0 rfl rfl ?_))
   refine cb hm fun de cY hm => cgx (Jci cY :) ?_
   refine qax ?_
   refine cs rfl rfl hm ?_ ?_ <;> intro df hm
   exact eE hm
   refine qaj rfl ?_
   refine fa rfl (ro (ld r0 rfl rfl (ro (qai rfl (qaf ?_)))))
   obtain ⟨bm, aK, hm⟩ := bnd hm
   refine cS aK (fun aJ aK => ?_) fun aJ aK => ?_
   refine fa rfl (ct aJ (ro (ld r0 rfl rfl (ct aJ ?_))))
   obtain ⟨bn, aT, aN, aK⟩ := ixb aK
   refine RStep.ofN (qac rfl rfl (qdc ae.rd aN) aT (qay rfl aT aN) (ct aJ ?_))
   obtain ⟨bg, bf, aQ, aR, aS⟩ := LiR.get ae.rd aN
   obtain ⟨a8, aY, rfl, aZ⟩ := Ja.out aS
   refine ro (qan ((0 : Int).toNat) _ aQ rfl aR rfl (ct aJ ?_))
   refine cb aK fun bj a6 aK => cgx (JX a6 :) ?_
   refine ct aJ ?_
   exact bE (si aK) (eE hm)
   refine cf aJ (cf aJ (cf aJ (cf aJ (cf aJ ?_))))
   exact bE (si aK) (eE hm)
   refine qaf (cs rfl rfl hm ?_ ?_) <;> intro dl hm
   refine qaj rfl ?_
   refine fa rfl (ro (ld r0 rfl rfl (qbz ?_)))
   refine qag ?_ ?_ <;> intro aU
   refine fa rfl (ct aU (ro (ld r0 rfl rfl (ct aU (qbz (ct aU (qad rfl ?_)))))))
   refine qag ?_ ?_ <;> intro bt
   replace hm := ift (qb5 aU bt) hm
   exact eE hm
   replace hm := qbp (qcs aU bt) hm
   refine qaj rfl ?_
   refine fa rfl (ro (ld r0 rfl rfl (ro (qai rfl (qaf ?_)))))
   obtain ⟨bm, aK, hm⟩ := bnd hm
   refine cS aK (fun aJ aK => ?_) fun aJ aK => ?_
   refine fa rfl (ct aJ (ro (ld r0 rfl rfl (ct aJ ?_))))
   obtain ⟨bn, aT, aN, aK⟩ := ixb aK
   refine RStep.ofN (qac rfl rfl (qdc ae.rd aN) aT (qay rfl aT aN) (ct aJ ?_))
   obtain ⟨bg, bf, aQ, aR, aS⟩ := LiR.get ae.rd aN
   obtain ⟨a8, aY, rfl, aZ⟩ := Ja.out aS
   refine ro (qan ((0 : Int).toNat) _ aQ rfl aR rfl (ct aJ ?_))
   refine cb aK fun bj a6 aK => cgx (JX a6 :) ?_
   refine ct aJ ?_
   exact bE (si aK) (eE hm)
   refine cf aJ (cf aJ (cf aJ (cf aJ (cf aJ ?_))))
   exact bE (si aK) (eE hm)
   refine cf aU (cf aU (cf aU (qad rfl (cF ?_))))
   replace hm := qbp (qa0 aU) hm
   refine qaj rfl ?_
   refine fa rfl (ro (ld r0 rfl rfl (ro (qai rfl (qaf ?_)))))
   obtain ⟨bm, aK, hm⟩ := bnd hm
   refine cS aK (fun aJ aK => ?_) fun aJ aK => ?_
   refine fa rfl (ct aJ (ro (ld r0 rfl rfl (ct aJ ?_))))
   obtain ⟨bn, aT, aN, aK⟩ := ixb aK
   refine RStep.ofN (qac rfl rfl (qdc ae.rd aN) aT (qay rfl aT aN) (ct aJ ?_))
   obtain ⟨bg, bf, aQ, aR, aS⟩ := LiR.get ae.rd aN
   obtain ⟨a8, aY, rfl, aZ⟩ := Ja.out aS
   refine ro (qan ((0 : Int).toNat) _ aQ rfl aR rfl (ct aJ ?_))
   refine cb aK fun bj a6 aK => cgx (JX a6 :) ?_
   refine ct aJ ?_
   exact bE (si aK) (eE hm)
   refine cf aJ (cf aJ (cf aJ (cf aJ (cf aJ ?_))))
   exact bE (si aK) (eE hm)
   refine qaf (cs rfl rfl hm ?_ ?_) <;> intro cL hm
   refine fa rfl (ro (ld r0 rfl rfl ?_))
   refine cb hm fun cI bL hm => cg0 (JbJ bL :) ?_
   refine qax ?_
   refine cs rfl rfl hm ?_ ?_ <;> intro cW hm
   exact eE hm
   refine qaj rfl ?_
   refine fa rfl (ro (ld r0 rfl rfl (ro (qai rfl (qaf ?_)))))
   obtain ⟨bm, aK, hm⟩ := bnd hm
   refine cS aK (fun aJ aK => ?_) fun aJ aK => ?_
   refine fa rfl (ct aJ (ro (ld r0 rfl rfl (ct aJ ?_))))
   obtain ⟨bn, aT, aN, aK⟩ := ixb aK
   refine RStep.ofN (qac rfl rfl (qdc ae.rd aN) aT (qay rfl aT aN) (ct aJ ?_))
   obtain ⟨bg, bf, aQ, aR, aS⟩ := LiR.get ae.rd aN
   obtain ⟨a8, aY, rfl, aZ⟩ := Ja.out aS
   refine ro (qan ((0 : Int).toNat) _ aQ rfl aR rfl (ct aJ ?_))
   refine cb aK fun bj a6 aK => cgx (JX a6 :) ?_
   refine ct aJ ?_
   exact bE (si aK) (eE hm)
   refine cf aJ (cf aJ (cf aJ (cf aJ (cf aJ ?_))))
   exact bE (si aK) (eE hm)
   refine qaf (cs rfl rfl hm ?_ ?_) <;> intro bp hm
   refine qad rfl (ct bp (fa rfl (ro (ld r0 rfl rfl (qbz ?_)))))
   refine cs rfl rfl hm ?_ ?_ <;> intro bu hm
   exact eE hm
   refine qaj rfl ?_
   refine fa rfl (ro (ld r0 rfl rfl (ro (qai rfl (qaf ?_)))))
   obtain ⟨bm, aK, hm⟩ := bnd hm
   refine cS aK (fun aJ aK => ?_) fun aJ aK => ?_
   refine fa rfl (ct aJ (ro (ld r0 rfl rfl (ct aJ ?_))))
   obtain ⟨bn, aT, aN, aK⟩ := ixb aK
   refine RStep.ofN (qac rfl rfl (qdc ae.rd aN) aT (qay rfl aT aN) (ct aJ ?_))
   obtain ⟨bg, bf, aQ, aR, aS⟩ := LiR.get ae.rd aN
   obtain ⟨a8, aY, rfl, aZ⟩ := Ja.out aS
   refine ro (qan ((0 : Int).toNat) _ aQ rfl aR rfl (ct aJ ?_))
   refine cb aK fun bj a6 aK => cgx (JX a6 :) ?_
   refine ct aJ ?_
   exact bE (si aK) (eE hm)
   refine cf aJ (cf aJ (cf aJ (cf aJ (cf aJ ?_))))
   exact bE (si aK) (eE hm)
   refine qaf (cs rfl rfl hm ?_ ?_) <;> intro bp hm
   refine qad rfl (ct bp (fa rfl (ro (ld r0 rfl rfl (qbz ?_)))))
   refine cs rfl rfl hm ?_ ?_ <;> intro bu hm
   exact eE hm
   refine qaj rfl ?_
   refine fa rfl (ro (ld r0 rfl rfl (ro (qai rfl (qaf ?_)))))
   obtain ⟨bm, aK, hm⟩ := bnd hm
   refine cS aK (fun aJ aK => ?_) fun aJ aK => ?_
   refine fa rfl (ct aJ (ro (ld r0 rfl rfl (ct aJ ?_))))
   obtain ⟨bn, aT, aN, aK⟩ := ixb aK
   refine RStep.ofN (qac rfl rfl (qdc ae.rd aN) aT (qay rfl aT aN) (ct aJ ?_))
   obtain ⟨bg, bf, aQ, aR, aS⟩ := LiR.get ae.rd aN
   obtain ⟨a8, aY, rfl, aZ⟩ := Ja.out aS
   refine ro (qan ((0 : Int).toNat) _ aQ rfl aR rfl (ct aJ ?_))
   refine cb aK fun bj a6 aK => cgx (JX a6 :) ?_
   refine ct aJ ?_
   exact bE (si aK) (eE hm)
   refine cf aJ (cf aJ (cf aJ (cf aJ (cf aJ ?_))))
   exact bE (si aK) (eE hm)
   refine qaf (cs rfl rfl hm ?_ ?_) <;> intro bp hm
   refine fa rfl (ro (ld r0 rfl rfl (qbz ?_)))
   refine cs rfl rfl hm ?_ ?_ <;> intro bu hm
   exact eE hm
   refine qaj rfl ?_
   refine fa rfl (ro (ld r0 rfl rfl (ro (qai rfl (qaf ?_)))))
   obtain ⟨bm, aK, hm⟩ := bnd hm
   refine cS aK (fun aJ aK => ?_) fun aJ aK => ?_
   refine fa rfl (ct aJ (ro (ld r0 rfl rfl (ct aJ ?_))))
   obtain ⟨bn, aT, aN, aK⟩ := ixb aK
   refine RStep.ofN (qac rfl rfl (qdc ae.rd aN) aT (qay rfl aT aN) (ct aJ ?_))
   obtain ⟨bg, bf, aQ, aR, aS⟩ := LiR.get ae.rd aN
   obtain ⟨a8, aY, rfl, aZ⟩ := Ja.out aS
   refine ro (qan ((0 : Int).toNat) _ aQ rfl aR rfl (ct aJ ?_))
   refine cb aK fun bj a6 aK => cgx (JX a6 :) ?_
   refine ct aJ ?_
   exact bE (si aK) (eE hm)
   refine cf aJ (cf aJ (cf aJ (cf aJ (cf aJ ?_))))
   exact bE (si aK) (eE hm)
   exact eE hm

def Jap (n : Nat) : List Ja → Nat → Option (Fl (Bool) (Unit))
  | [], _ => some (Fl.go ())
  | e0 :: aJ, i0 =>
    (Jv n e0).bind fun aK =>
    if (!aK) then
    some (Fl.ret false)
    else
    Jap n aJ (i0 + 1)
def Jaw (n : Nat) (n' : Ja) : Option (Bool) :=
  if (decide (n'.Ab ≠ 1) || decide (n'.Ac ≠ ([] : Str))) then
  some false
  else
  (Jam n n' 512 32).bind fun aJ =>
  if (!aJ.1) then
  some false
  else
  (chk (n'.Aa.length ≤ qav)).bind fun _ =>
  (Jap n n'.Aa 0).bind fun s0 => s0.el some fun t0 =>
  some true
theorem Jee {n : Nat} {n' : Ja} {aa : Option Addr} {ac : Nat} {K : Hp} {r : Bool}
    (hm : Jaw n n' = some r) (hX : LiC Ja.R K aa ac 4 n'.Aa ∧ GG K) :
    Fn Tryz.prog 84 [.agg #[.int .i64 n'.Ab, str n'.Ac, .slice aa n'.Aa.length ac, .int .i64 n'.Ad]] K [] (fun v K' H' => v = .bool r ∧ H' = []) := by
 obtain ⟨ae, hG⟩ := hX
 refine Fn.enter Tryz.func84 Tryz.call84 rfl fun F => ?_
 unfold Jaw at hm
 refine qas ?_
 intro b1
 refine qal rfl fun b3 => ?_
 refine qab r0 rfl ⟨rfl, rfl, (nl rfl), ?_⟩
 refine qaj rfl ?_
 refine fa rfl (ro (ld r1 rfl rfl (qbf ?_)))
 refine qag ?_ ?_ <;> intro aK
 refine ct aK (ct aK (ct aK ?_))
 replace hm := ift (qds aK) hm
 refine cT (cT (cT (cT (qad rfl (cT ?_)))))
 exact eE hm
 refine fa rfl (cf aK (ro (ld r1 rfl rfl (cf aK (qbz (cf aK ?_))))))
 refine qag ?_ ?_ <;> intro aJ
 replace hm := ift (qi9 aK aJ) hm
 refine ct aJ (ct aJ (ct aJ (qad rfl (cT ?_))))
 exact eE hm
 replace hm := qbp (qgw aK aJ) hm
 refine ro (qae r1 rfl (nl rfl) (cf aJ ?_))
 refine cb hm fun a6 aY hm => cgx (Jec aY :) ?_
 refine cf aJ (qax (cf aJ ?_))
 refine cs rfl rfl hm ?_ ?_ <;> intro a8 hm
 exact eE hm
 refine fa rfl (ro (ld r1 rfl rfl (ro (qai rfl ?_))))
 obtain ⟨aU, hm⟩ := qa7 hm
 obtain ⟨s0, aL, hm⟩ := bnd hm
 refine lD (σ := (Unit)) ([2,5] ++ rg 22 8) [0, 1, 2] (fun i0 => [(22, .int .i64 (i0 : Int))]) (fun _ => []) (fun _ => []) (fun _ => True) (fun i0 _ => Jap n (n'.Aa.drop i0) i0 = some s0) (fun t0 => s0 = Fl.go t0) (fun i0 => n'.Aa.length - i0) 0 () aL (And.intro qe (And.intro ?_ ?_))
 clear aL
 rintro i0 _ _ aL j0
 conv at aL => whnf
 refine qad rfl ?_
 refine qag ?_ ?_ <;> intro w0
 obtain ⟨e0, aM, aX⟩ := ltx w0
 rw [aX, Jap.eq_2] at aL
 refine qak rfl ?_
 refine RStep.ofN (qac rfl rfl (qdc ae.rd aM) (nn _) (qbs aM) ?_)
 obtain ⟨aT, aV, aP, aN, aO⟩ := LiR.get ae.rd aM
 obtain ⟨aQ, aS, rfl, aR⟩ := Ja.out aO
 refine ro (qan i0 _ aP rfl aN rfl ?_)
 refine qal rfl fun b5 => ?_
 refine qab r0 rfl ⟨rfl, rfl, (nl rfl), ?_⟩
 refine ro (qae r0 rfl (nl rfl) ?_)
 refine cb aL fun aZ aW aL => cgx (JdU aW :) ?_
 refine qax ?_
 refine cs rfl rfl aL ?_ ?_ <;> intro ba aL
 exact eE (er aL hm)
 refine qat (qcl aM aU) ?_
 exact eR aL (_, ())
 rw [lty w0, Jap.eq_1] at aL
 refine cT ?_
 exact eM aL _
 rintro t0 _ rfl j0
 replace hm := elg hm
 exact eE hm

def JbT (name : Str) : Option (Bool) :=
  some (((decide (name = ([109, 101, 116, 104, 111, 100] : Str)) || decide (name = ([104, 111, 115, 116] : Str))) || decide (name = ([112, 97, 116, 104] : Str))) || decide (name = ([113, 117, 101, 114, 121] : Str)))
theorem Jc7 {name : Str} {K : Hp} {r : Bool}
    (hm : JbT name = some r)  :
    Fn Tryz.prog 170 [str name] K [] (fun v K' H' => v = .bool r ∧ H' = []) := by
 refine Fn.enter Tryz.func170 Tryz.call170 rfl fun F => ?_
 unfold JbT at hm
 refine qaj rfl ?_
 refine qar ?_
 refine qag ?_ ?_ <;> intro aK
 refine ct aK (ct aK (cT (cT (cT (cT (cT (cT ?_)))))))
 exact bE (((qds (qds (qds aK)))).symm) (eE hm)
 refine cf aK (qar (cf aK ?_))
 refine qag ?_ ?_ <;> intro aL
 refine ct aL (ct aL (cT (cT (cT ?_))))
 exact bE (((qds (qds (qi9 aK aL)))).symm) (eE hm)
 refine cf aL (qar (cf aL ?_))
 refine qag ?_ ?_ <;> intro aJ
 refine ct aJ (ct aJ ?_)
 exact bE (((qds (qi9 (qgw aK aL) aJ))).symm) (eE hm)
 refine cf aJ (qar (cf aJ ?_))
 exact bE (qll (b := decide (name = ([113, 117, 101, 114, 121] : Str))) (qgw (qgw aK aL) aJ)) (eE hm)

def J4 (env : (List Jk)) (name : Str) : Nat → Int → Option (Fl (Int) (Int))
  | 0, _ => none
  | aJ + 1, ab =>
    if decide (ab ≥ 0) then
    (ix env ab).bind fun aL =>
    if decide (aL.Name = name) then
    (ix env ab).bind fun aK =>
    some (Fl.ret aK.As)
    else
    (chk (InI (ab - 1))).bind fun _ =>
    J4 env name aJ (ab - 1)
    else
    some (Fl.go ab)
def JaF (n : Nat) (name : Str) (env : (List Jk)) : Option (Int) :=
  (chk (InI ((env.length : Int) - 1))).bind fun _ =>
  (J4 env name n ((env.length : Int) - 1)).bind fun s0 => s0.el some fun t0 =>
  (JbT name).bind fun aJ =>
  if aJ then
  some 1
  else
  some 0
theorem JcJ {n : Nat} {name : Str} {env : (List Jk)} {af : Option Addr} {ag : Nat} {n1 : Nat} {K : Hp} {r : Int}
    (hm : JaF n name env = some r) (hX : RdC Jk.enc K af ag 2 env ∧ n1 = env.length) :
    Fn Tryz.prog 137 [str name, .slice af n1 ag] K [] (fun v K' H' => v = .int .i64 r ∧ H' = []) := by
 obtain ⟨ah, aP⟩ := hX
 subst aP
 refine Fn.enter Tryz.func137 Tryz.call137 rfl fun F => ?_
 unfold JaF at hm
 refine ro (qai rfl ?_)
 refine ci hm fun hm => ?_
 obtain ⟨s0, aJ, hm⟩ := bnd hm
 refine lD (σ := (Int)) ([4,5] ++ rg 9 16) [0] (fun _ => []) (fun t0 => [(5, .int .i64 t0)]) (fun _ => []) (fun _ => True) (fun i0 t0 => J4 env name i0 t0 = some s0) (fun t0 => s0 = Fl.go t0) (fun i0 => i0) n _ aJ (And.intro qe (And.intro ?_ ?_))
 clear aJ
 rintro i0 ab _ aJ j0
 conv at aJ => whnf
 cases i0 with
 | zero => rw [J4.eq_1] at aJ; cases aJ
 | succ i0 =>
  rw [J4.eq_2] at aJ
  refine cs rfl rfl aJ ?_ ?_ <;> intro aV aJ
  refine qak rfl ?_
  obtain ⟨aR, aM, aL, aJ⟩ := ixb aJ
  refine RStep.ofN (qac rfl rfl (qdg ah.rd aL) aM (qay rfl aM aL) (qaz rfl (qdg ah.rd aL) (ro (qcq ((ab).toNat) 0 _ _ ah.rd rfl (mp aL) rfl rfl (qar ?_)))))
  refine cs rfl rfl aJ ?_ ?_ <;> intro aT aJ
  obtain ⟨aQ, aN, aK, aJ⟩ := ixb aJ
  refine RStep.ofN (qac rfl rfl (qdg ah.rd aK) aN (qay rfl aN aK) (qaz rfl (qdg ah.rd aK) (ro (qcq ((ab).toNat) 1 _ _ ah.rd rfl (mp aK) rfl rfl ?_))))
  exact eE (er aJ hm)
  refine ci aJ fun aJ => ?_
  exact eR aJ (_, _)
  refine cT ?_
  exact eM aJ _
 rintro t0 _ rfl j0
 replace hm := elg hm
 refine cb hm fun aS aO hm => cg0 (Jc7 aO :) ?_
 refine cs rfl rfl hm ?_ ?_ <;> intro aU hm
 exact eE hm
 exact eE hm

def JD (c : Jl) (n' : Ja) (err : Err) : Option (Jl) :=
  if c.err.isNone then
  some (⟨n'.Ad, err⟩ : Jl)
  else
  some c
theorem JU {c : Jl} {n' : Ja} {err : Err} {b0 : Nat} {af : Option Addr} {ag : Nat} {K : Hp} {r : Jl}
    (hm : JD c n' err = some r) (ah : LiC Ja.R K af ag 4 n'.Aa) :
    Fn Tryz.prog 128 [.pointer (some ⟨b0, 0, none⟩), .agg #[.int .i64 n'.Ab, str n'.Ac, .slice af n'.Aa.length ag, .int .i64 n'.Ad], qcu 87 err] K [Cells b0 171 [.int .i64 c.line, qcu 87 c.err]] (fun v K' H' => v = .tuple #[] ∧ H' = [Cells b0 171 [.int .i64 r.line, qcu 87 r.err]]) := by
 refine Fn.enter Tryz.func128 Tryz.call128 rfl fun F => ?_
 unfold JD at hm
 refine qas ?_
 intro b4
 refine qah (fa rfl (ro (ld r1 rfl rfl (qf0 rfl ?_))))
 refine cs rfl rfl hm ?_ ?_ <;> intro aJ hm
 refine fa rfl (ro (ld r0 rfl rfl (qah (fa rfl ?_))))
 refine qab r1 rfl ⟨rfl, rfl, (nl rfl), ?_⟩
 refine qah (fa rfl ?_)
 refine qm2 r0 rfl rfl ?_
 exact eE hm
 exact eE hm

def JaB (name : Str) : Option (Int × Int) :=
  if decide (name = ([104, 101, 97, 100, 101, 114] : Str)) then
  some (1, 1)
  else
  if decide (name = ([97, 114, 103] : Str)) then
  some (1, 1)
  else
  if decide (name = ([108, 111, 119, 101, 114] : Str)) then
  some (1, 1)
  else
  if decide (name = ([104, 97, 115] : Str)) then
  some (1, 3)
  else
  if decide (name = ([108, 101, 110] : Str)) then
  some (1, 2)
  else
  if decide (name = ([110, 117, 109, 98, 101, 114] : Str)) then
  some (1, 2)
  else
  if decide (name = ([112, 97, 114, 116] : Str)) then
  some (2, 1)
  else
  if decide (name = ([116, 101, 120, 116] : Str)) then
  some (2, 1)
  else
  some (0, 0)
theorem JdB {name : Str} {K : Hp} {r : Int × Int}
    (hm : JaB name = some r)  :
    Fn Tryz.prog 171 [str name] K [] (fun v K' H' => v = .tuple #[.int .i64 r.1, .int .i64 r.2] ∧ H' = []) := by
 refine Fn.enter Tryz.func171 Tryz.call171 rfl fun F => ?_
 unfold JaB at hm
 refine qak rfl ?_
 refine qar (cs rfl rfl hm ?_ ?_) <;> intro w5 hm
 refine qad rfl (ct w5 ?_)
 exact eE hm
 refine qar (cs rfl rfl hm ?_ ?_) <;> intro w5 hm
 refine qad rfl (ct w5 ?_)
 exact eE hm
 refine qar (cs rfl rfl hm ?_ ?_) <;> intro w5 hm
 exact eE hm
 refine qar (cs rfl rfl hm ?_ ?_) <;> intro w9 hm
 exact eE hm
 refine qar (cs rfl rfl hm ?_ ?_) <;> intro aK hm
 refine qad rfl (ct aK ?_)
 exact eE hm
 refine qar (cs rfl rfl hm ?_ ?_) <;> intro aK hm
 exact eE hm
 refine qar (cs rfl rfl hm ?_ ?_) <;> intro aJ hm
 refine qad rfl (ct aJ ?_)
 exact eE hm
 refine qar (cs rfl rfl hm ?_ ?_) <;> intro aJ hm
 exact eE hm
 exact eE hm

def JQ (c : Jl) (n' : Ja) (args : (List Int)) : Option (Int × Jl) :=
  (JaB n'.Ac).bind fun av =>
  if decide (av.2 = 0) then
  (JD c n' (some 8)).bind fun aJ =>
  some (av.2, aJ)
  else
  (if decide ((args.length : Int) ≠ 1) then some true else (ix args 0).bind fun aL =>
  some (decide (aL ≠ av.1))).bind fun aK =>
  if aK then
  (JD c n' (some 9)).bind fun aM =>
  some (av.2, aM)
  else
  some (av.2, c)
theorem Jc0 {c : Jl} {n' : Ja} {args : (List Int)} {b0 : Nat} {af : Option Addr} {ag : Nat} {ao : Option Addr} {aq : Nat} {n2 : Nat} {K : Hp} {r : Int × Jl}
    (hm : JQ c n' args = some r) (hX : LiC Ja.R K af ag 4 n'.Aa ∧ RdC eN K ao aq 1 args ∧ n2 = args.length) :
    Fn Tryz.prog 138 [.pointer (some ⟨b0, 0, none⟩), .agg #[.int .i64 n'.Ab, str n'.Ac, .slice af n'.Aa.length ag, .int .i64 n'.Ad], .slice ao n2 aq] K [Cells b0 171 [.int .i64 c.line, qcu 87 c.err]] (fun v K' H' => v = .int .i64 r.1 ∧ H' = [Cells b0 171 [.int .i64 r.2.line, qcu 87 r.2.err]]) := by
 obtain ⟨ah, aK, aT⟩ := hX
 subst aT
 refine Fn.enter Tryz.func138 Tryz.call138 rfl fun F => ?_
 unfold JQ at hm
 refine qas ?_
 intro b4
 refine fa rfl (ro (ld r0 rfl rfl ?_))
 refine cb hm fun av aQ hm => cg0 (JdB aQ :) ?_
 refine qaf (cs rfl rfl hm ?_ ?_) <;> intro aU hm
 refine ro (qae r0 rfl (nl rfl) ?_)
 refine qa3 rfl ?_
 refine cb hm fun aV aS hm => cgx (JU aS :) ?_
 exact eE hm
 refine qaj rfl ?_
 refine ro (qai rfl (qbf ?_))
 obtain ⟨aX, aL, hm⟩ := bnd hm
 refine cS aL (fun aJ aL => ?_) fun aJ aL => ?_
 refine ct aJ (ct aJ (ct aJ (ct aJ (ct aJ (qad rfl (cT ?_))))))
 replace hm := ift (si aL).symm hm
 refine ro (qae r0 rfl (nl rfl) ?_)
 refine qa3 rfl ?_
 refine cb hm fun aR aM hm => cgx (JU aM :) ?_
 exact eE hm
 refine cf aJ ?_
 obtain ⟨aW, aP, aN, aL⟩ := ixb aL
 refine RStep.ofN (qac rfl rfl (qdg aK.rd aN) aP (qay rfl aP aN) (cf aJ (ro (qcq ((0 : Int).toNat) 0 _ _ aK.rd rfl (mp aN) rfl rfl (cf aJ (cf aJ (qbf (cf aJ (qad rfl ?_)))))))))
 refine qag ?_ ?_ <;> intro aO
 replace hm := ift ((si aL).symm.trans aO) hm
 refine ro (qae r0 rfl (nl rfl) ?_)
 refine qa3 rfl ?_
 refine cb hm fun aR aM hm => cgx (JU aM :) ?_
 exact eE hm
 replace hm := qbp ((si aL).symm.trans aO) hm
 exact eE hm

def JK (t : Int) : List Int → Nat → Option (Fl (Bool) (Unit))
  | [], _ => some (Fl.go ())
  | e0 :: aJ, i0 =>
    if decide (e0 ≠ t) then
    some (Fl.ret false)
    else
    JK t aJ (i0 + 1)
def Jw (t : Int) (aA : (List Int)) : Option (Bool) :=
  (chk (aA.length ≤ qav)).bind fun _ =>
  (JK t aA 0).bind fun s0 => s0.el some fun t0 =>
  some true
theorem JO {t : Int} {aA : (List Int)} {b1 : Nat} {af : Option Addr} {ag : Nat} {K : Hp} {r : Bool}
    (hm : Jw t aA = some r) (ah : RdC eN K af ag 1 aA) :
    Fn Tryz.prog 172 [.int .i64 t, .pointer (some ⟨b1, 0, none⟩)] K [Cells b1 150 [.slice af aA.length ag]] (fun v K' H' => v = .bool r ∧ H' = [Cells b1 150 [.slice af aA.length ag]]) := by
 refine Fn.enter Tryz.func172 Tryz.call172 rfl fun F => ?_
 unfold Jw at hm
 refine ro (ld r0 rfl rfl (ro (qai rfl ?_)))
 obtain ⟨aL, hm⟩ := qa7 hm
 obtain ⟨s0, aJ, hm⟩ := bnd hm
 refine lD (σ := (Unit)) ([3,5] ++ rg 8 8) [0, 1] (fun i0 => [(8, .int .i64 (i0 : Int))]) (fun _ => []) (fun _ => []) (fun _ => True) (fun i0 _ => JK t (aA.drop i0) i0 = some s0) (fun t0 => s0 = Fl.go t0) (fun i0 => aA.length - i0) 0 () aJ (And.intro qe (And.intro ?_ ?_))
 clear aJ
 rintro i0 _ _ aJ j0
 conv at aJ => whnf
 refine qad rfl ?_
 refine qag ?_ ?_ <;> intro w0
 obtain ⟨e0, aK, aM⟩ := ltx w0
 rw [aM, JK.eq_2] at aJ
 refine qak rfl ?_
 refine RStep.ofN (qac rfl rfl (qdg ah.rd aK) (nn _) (qbs aK) (ro (qcq i0 0 _ _ ah.rd rfl (mp aK) rfl rfl (qbf ?_))))
 refine cs rfl rfl aJ ?_ ?_ <;> intro aN aJ
 exact eE (er aJ hm)
 refine qat (qcl aK aL) ?_
 exact eR aJ (_, ())
 rw [lty w0, JK.eq_1] at aJ
 refine cT ?_
 exact eM aJ _
 rintro t0 _ rfl j0
 replace hm := elg hm
 exact eE hm

def J1 (n' : Ja) (args : (List Int)) : Option (Int) :=
  if decide (n'.Ab = 17) then
  (Jw 1 args).bind fun av =>
  if av then
  some 1
  else
  (Jw 2 args).bind fun aO =>
  if aO then
  some 2
  else
  some 0
  else
  if decide (n'.Ab = 18) then
  (Jw 2 args).bind fun aM =>
  if aM then
  some 2
  else
  some 0
  else
  if decide (n'.Ab = 19) then
  (Jw 2 args).bind fun aM =>
  if aM then
  some 2
  else
  some 0
  else
  if decide (n'.Ab = 13) then
  (Jw 3 args).bind fun aJ =>
  if aJ then
  some 3
  else
  some 0
  else
  if decide (n'.Ab = 14) then
  (Jw 3 args).bind fun aJ =>
  if aJ then
  some 3
  else
  some 0
  else
  if decide (n'.Ab = 15) then
  (Jw 3 args).bind fun aJ =>
  if aJ then
  some 3
  else
  some 0
  else
  if decide (n'.Ab = 16) then
  if decide (n'.Ac = ([61, 61] : Str)) then
  (ix args 0).bind fun aL =>
  (ix args 1).bind fun aK =>
  if decide (aL = aK) then
  some 3
  else
  some 0
  else
  if decide (n'.Ac = ([33, 61] : Str)) then
  (ix args 0).bind fun aL =>
  (ix args 1).bind fun aK =>
  if decide (aL = aK) then
  some 3
  else
  some 0
  else
  if decide (n'.Ac = ([60] : Str)) then
  (Jw 2 args).bind fun aN =>
  if aN then
  some 3
  else
  some 0
  else
  if decide (n'.Ac = ([60, 61] : Str)) then
  (Jw 2 args).bind fun aN =>
  if aN then
  some 3
  else
  some 0
  else
  (Jw 1 args).bind fun aP =>
  if aP then
  some 3
  else
  some 0
  else
  some 0
theorem JdC {n' : Ja} {args : (List Int)} {aa : Option Addr} {ac : Nat} {af : Option Addr} {ag : Nat} {n1 : Nat} {K : Hp} {r : Int}
    (hm : J1 n' args = some r) (hX : LiC Ja.R K aa ac 4 n'.Aa ∧ RdC eN K af ag 1 args ∧ n1 = args.length) :
    Fn Tryz.prog 139 [.agg #[.int .i64 n'.Ab, str n'.Ac, .slice aa n'.Aa.length ac, .int .i64 n'.Ad], .slice af n1 ag] K [] (fun v K' H' => v = .int .i64 r ∧ H' = []) := by
 obtain ⟨ae, ah, bg⟩ := hX
 subst bg
 refine Fn.enter Tryz.func139 Tryz.call139 rfl fun F => ?_
 unfold J1 at hm
 refine qas ?_
 intro b2
 refine qas ?_
 intro b3
 refine mkFunc ?_
 refine fa rfl (ro (ld r1 rfl rfl ?_))
 refine qak rfl ?_
 refine qaf (cs rfl rfl hm ?_ ?_) <;> intro w9 hm
 refine cb hm fun av ba hm => cgx (JO ba :) ?_
 refine cs rfl rfl hm ?_ ?_ <;> intro bp hm
 exact eE hm
 refine cb hm fun bo a8 hm => cgx (JO a8 :) ?_
 refine cs rfl rfl hm ?_ ?_ <;> intro bn hm
 exact eE hm
 exact eE hm
 refine qaf (cs rfl rfl hm ?_ ?_) <;> intro aT hm
 refine qad rfl (ct aT ?_)
 refine cb hm fun aX aQ hm => cgx (JO aQ :) ?_
 refine cs rfl rfl hm ?_ ?_ <;> intro bf hm
 exact eE hm
 exact eE hm
 refine qaf (cs rfl rfl hm ?_ ?_) <;> intro aT hm
 refine cb hm fun aX aQ hm => cgx (JO aQ :) ?_
 refine cs rfl rfl hm ?_ ?_ <;> intro bf hm
 exact eE hm
 exact eE hm
 refine qaf (cs rfl rfl hm ?_ ?_) <;> intro aO hm
 refine qad rfl (ct aO ?_)
 refine cb hm fun aS aN hm => cgx (JO aN :) ?_
 refine cs rfl rfl hm ?_ ?_ <;> intro aR hm
 exact eE hm
 exact eE hm
 refine qaf (cs rfl rfl hm ?_ ?_) <;> intro aO hm
 refine qad rfl (ct aO ?_)
 refine cb hm fun aS aN hm => cgx (JO aN :) ?_
 refine cs rfl rfl hm ?_ ?_ <;> intro aR hm
 exact eE hm
 exact eE hm
 refine qaf (cs rfl rfl hm ?_ ?_) <;> intro aO hm
 refine cb hm fun aS aN hm => cgx (JO aN :) ?_
 refine cs rfl rfl hm ?_ ?_ <;> intro aR hm
 exact eE hm
 exact eE hm
 refine qaf (cs rfl rfl hm ?_ ?_) <;> intro bm hm
 refine fa rfl (ro (ld r1 rfl rfl ?_))
 refine qak rfl ?_
 refine qar (cs rfl rfl hm ?_ ?_) <;> intro aU hm
 refine qad rfl (ct aU ?_)
 refine qa4 ⟨⟨[], false⟩, _, [(_, _)], []⟩ (by kernel_rfl) ⟨Hp.Le.refl _, (pf rfl), ci0⟩ ?_
 refine qao m0 rfl rfl ?_
 obtain ⟨bc, aL, aJ, hm⟩ := ixb hm
 refine qac rfl rfl (qdg ah.rd aJ) aL (qay rfl aL aJ) (qbk ((0 : Int).toNat) 0 _ _ ah.rd rfl (mp aJ) rfl rfl (qao m0 rfl rfl ?_))
 obtain ⟨aW, aM, aK, hm⟩ := ixb hm
 refine qac rfl rfl (qdg ah.rd aK) aM (qay rfl aM aK) (qbk ((1 : Int).toNat) 0 _ _ ah.rd rfl (mp aK) rfl rfl (qaf ?_))
 refine cs rfl rfl hm ?_ ?_ <;> intro bb hm
 exact eE hm
 exact eE hm
 refine qar (cs rfl rfl hm ?_ ?_) <;> intro aU hm
 refine qa4 ⟨⟨[], false⟩, _, [(_, _)], []⟩ (by kernel_rfl) ⟨Hp.Le.refl _, (pf rfl), ci0⟩ ?_
 refine qao m0 rfl rfl ?_
 obtain ⟨bc, aL, aJ, hm⟩ := ixb hm
 refine qac rfl rfl (qdg ah.rd aJ) aL (qay rfl aL aJ) (qbk ((0 : Int).toNat) 0 _ _ ah.rd rfl (mp aJ) rfl rfl (qao m0 rfl rfl ?_))
 obtain ⟨aW, aM, aK, hm⟩ := ixb hm
 refine qac rfl rfl (qdg ah.rd aK) aM (qay rfl aM aK) (qbk ((1 : Int).toNat) 0 _ _ ah.rd rfl (mp aK) rfl rfl (qaf ?_))
 refine cs rfl rfl hm ?_ ?_ <;> intro bb hm
 exact eE hm
 exact eE hm
 refine qar (cs rfl rfl hm ?_ ?_) <;> intro aV hm
 refine qad rfl (ct aV ?_)
 refine cb hm fun aY aP hm => cgx (JO aP :) ?_
 refine cs rfl rfl hm ?_ ?_ <;> intro a6 hm
 exact eE hm
 exact eE hm
 refine qar (cs rfl rfl hm ?_ ?_) <;> intro aV hm
 refine cb hm fun aY aP hm => cgx (JO aP :) ?_
 refine cs rfl rfl hm ?_ ?_ <;> intro a6 hm
 exact eE hm
 exact eE hm
 refine cb hm fun bj aZ hm => cgx (JO aZ :) ?_
 refine cs rfl rfl hm ?_ ?_ <;> intro bh hm
 exact eE hm
 exact eE hm
 exact eE hm

def JF (rec_ : (Jl → Ja → (List Jk) → Option (Int × Jl))) (env : (List Jk)) : List Ja → Nat → (List Int) → Int → Err → Option (Fl (Int × Jl) ((List Int) × Int × Err))
  | [], _, ab, aK, aJ => some (Fl.go (ab, aK, aJ))
  | e0 :: aM, i0, ab, aK, aJ =>
    (rec_ (⟨aK, aJ⟩ : Jl) e0 env).bind fun aL =>
    (chk (ab.length + [aL.1].length ≤ lim)).bind fun _ =>
    if aL.2.err.isSome then
    some (Fl.ret (0, aL.2))
    else
    JF rec_ env aM (i0 + 1) (ab ++ [aL.1]) aL.2.line aL.2.err
def Jz : Nat → Jl → Ja → (List Jk) → Option (Int × Jl)
  | 0, _, _, _ => none
  | n + 1, c, n', env =>
    (chk (n'.Aa.length ≤ qav)).bind fun _ =>
    (JF (Jz n) env n'.Aa 0 [] c.line c.err).bind fun s0 => s0.el some fun t0 =>
    if decide (n'.Ab = 20) then
    some (2, (⟨t0.2.1, t0.2.2⟩ : Jl))
    else
    if decide (n'.Ab = 21) then
    some (1, (⟨t0.2.1, t0.2.2⟩ : Jl))
    else
    if decide (n'.Ab = 22) then
    some (3, (⟨t0.2.1, t0.2.2⟩ : Jl))
    else
    if decide (n'.Ab = 23) then
    (JaF n n'.Ac env).bind fun aJ =>
    if decide (aJ = 0) then
    (JD (⟨t0.2.1, t0.2.2⟩ : Jl) n' (some 8)).bind fun aN =>
    some (aJ, aN)
    else
    some (aJ, (⟨t0.2.1, t0.2.2⟩ : Jl))
    else
    if decide (n'.Ab = 24) then
    (JQ (⟨t0.2.1, t0.2.2⟩ : Jl) n' t0.1).bind fun aL =>
    some (aL.1, aL.2)
    else
    (J1 n' t0.1).bind fun aK =>
    if decide (aK = 0) then
    (JD (⟨t0.2.1, t0.2.2⟩ : Jl) n' (some 9)).bind fun aM =>
    some (aK, aM)
    else
    some (aK, (⟨t0.2.1, t0.2.2⟩ : Jl))
theorem Jc1 : ∀ {n : Nat} {c : Jl} {n' : Ja} {env : (List Jk)} {b0 : Nat} {af : Option Addr} {ag : Nat} {ao : Option Addr} {aq : Nat} {n2 : Nat} {K : Hp} {r : Int × Jl}
    (hm : Jz n c n' env = some r) (hX : LiC Ja.R K af ag 4 n'.Aa ∧ RdC Jk.enc K ao aq 2 env ∧ n2 = env.length),
    Fn Tryz.prog 126 [.pointer (some ⟨b0, 0, none⟩), .agg #[.int .i64 n'.Ab, str n'.Ac, .slice af n'.Aa.length ag, .int .i64 n'.Ad], .slice ao n2 aq] K [Cells b0 171 [.int .i64 c.line, qcu 87 c.err]] (fun v K' H' => v = .int .i64 r.1 ∧ H' = [Cells b0 171 [.int .i64 r.2.line, qcu 87 r.2.err]]) := by
 intro n
 induction n with
 | zero =>
   intro c n' env b0 af ag ao aq n2 K r hm hX
   rw [Jz.eq_1] at hm; cases hm
 | succ n ih =>
   intro c n' env b0 af ag ao aq n2 K r hm hX
   obtain ⟨ah, bc, br⟩ := hX
   subst br
   refine Fn.enter Tryz.func126 Tryz.call126 rfl fun F => ?_
   rw [Jz.eq_2] at hm
   refine qas ?_
   intro b4
   refine fa rfl (ro (ld r0 rfl rfl (ro (qai rfl ?_))))
   obtain ⟨bp, hm⟩ := qa7 hm
   obtain ⟨s0, aL, hm⟩ := bnd hm
   refine ql6 eN 3 1 ?_
   refine lD (σ := ((List Int) × Int × Err) × Option Addr × Nat) ([6,7,9] ++ rg 15 17) [1, 3] (fun i0 => [(15, .int .i64 (i0 : Int))]) (fun (t0, aJ, aK) => [(7, .slice aJ t0.1.length aK)]) (fun (t0, aJ, aK) => [OwnL eN aJ 3 1 aK t0.1, Cells b0 171 [.int .i64 t0.2.1, qcu 87 t0.2.2]]) (fun (t0, aJ, aK) => (0 < t0.1.length → Has aJ) ∧ True) (fun i0 (t0, aJ, aK) => JF (Jz n) env (n'.Aa.drop i0) i0 t0.1 t0.2.1 t0.2.2 = some s0) (fun (t0, aJ, aK) => s0 = Fl.go t0) (fun i0 => n'.Aa.length - i0) 0 ((_, _, _), _, _) aL (And.intro qe (And.intro ?_ ?_))
   clear aL
   rintro i0 ⟨⟨ab, bf, bv⟩, aX, aW⟩ ⟨aU, _⟩ aL j0
   dsimp only at aL ⊢
   refine qad rfl ?_
   refine qag ?_ ?_ <;> intro w0
   obtain ⟨e0, aQ, bn⟩ := ltx w0
   rw [bn, JF.eq_2] at aL
   refine qak rfl ?_
   refine RStep.ofN (qac rfl rfl (qdc ah.rd aQ) (nn _) (qbs aQ) ?_)
   obtain ⟨bj, bt, aR, aS, aT⟩ := LiR.get ah.rd aQ
   obtain ⟨aY, ba, rfl, a6⟩ := Ja.out aT
   refine ro (qan i0 _ aR rfl aS rfl ?_)
   refine qal rfl fun b9 => ?_
   refine qab r0 rfl ⟨rfl, rfl, (nl rfl), ?_⟩
   refine ro (qae r0 rfl (nl rfl) ?_)
   refine cb aL fun aZ bm aL => cgx (ih bm :) ?_
   refine bsO (len := 1) (enc := eN) (l := [aZ.1]) (cl := [.int .i64 aZ.1]) qqh rfl rfl (fun _ _ => rfl) rfl rfl rfl ?_ fun bB => ?_
   · conv => whnf
     refine cT ?_
     first | done | rfl
   obtain ⟨bo, aL⟩ := qa7 aL
   refine apE rfl r3 qqh (qa6 rfl r0 rfl (fun _ => rfl) (fun _ => rfl)) bo ?_
   intro bJ bF bD
   refine qah (fa rfl (ro (ld r2 rfl rfl (qbg rfl ?_))))
   refine cs rfl rfl aL ?_ ?_ <;> intro bG aL
   exact eE (er aL hm)
   refine qat (qcl aQ bp) ?_
   exact eR aL (_, (_, _, _), _, _)
   rw [lty w0, JF.eq_1] at aL
   refine cT ?_
   exact eM aL (_, _, _)
   rintro ⟨t0, aJ, aK⟩ ⟨a8, _⟩ rfl j0
   replace hm := elg hm
   refine fa rfl (ro (ld r2 rfl rfl ?_))
   refine qak rfl ?_
   refine qaf (cs rfl rfl hm ?_ ?_) <;> intro bH hm
   exact eE hm
   refine qaf (cs rfl rfl hm ?_ ?_) <;> intro bP hm
   exact eE hm
   refine qaf (cs rfl rfl hm ?_ ?_) <;> intro bM hm
   exact eE hm
   refine qaf (cs rfl rfl hm ?_ ?_) <;> intro bN hm
   refine fa rfl (ro (ld r2 rfl rfl ?_))
   refine cb hm fun bK bu hm => cgx (JcJ bu :) ?_
   refine qaf (cs rfl rfl hm ?_ ?_) <;> intro bR hm
   refine ro (qae r2 rfl (nl rfl) ?_)
   refine qa3 rfl ?_
   refine cb hm fun bC bw hm => cgx (JU bw :) ?_
   exact eE hm
   exact eE hm
   refine qaf (cs rfl rfl hm ?_ ?_) <;> intro bL hm
   refine ro (qae r2 rfl (nl rfl) ?_)
   refine cb hm fun bA bh hm => ck0 (Fn.lend Tryz.call138 (fun aV aP aO => (Jc0 (c := (⟨t0.2.1, t0.2.2⟩ : Jl)) (n' := n') bh ⟨(LiC.mono Ja.R_ok aP ah), aO, rfl⟩)) (by exact fun _ _ _ _ h => h)) ?_
   rintro _ _ _ ⟨_, rfl, rfl, rfl⟩
   exact eE hm
   refine ro (qae r2 rfl (nl rfl) ?_)
   refine cb hm fun bO bz hm => ck0 (Fn.lend Tryz.call139 (fun bb aM aN => (JdC (n' := n') bz ⟨(LiC.mono Ja.R_ok aM ah), aN, rfl⟩)) (by exact fun _ _ _ _ h => h)) ?_
   rintro _ _ _ ⟨_, rfl, rfl, rfl⟩
   refine qaf (cs rfl rfl hm ?_ ?_) <;> intro bI hm
   refine ro (qae r2 rfl (nl rfl) ?_)
   refine qa3 rfl ?_
   refine cb hm fun bQ bg hm => cgx (JU bg :) ?_
   exact eE hm
   exact eE hm

def Jbq (n' : Ja) : Option (Int) :=
  if decide (n'.Ab = 2) then
  some 3
  else
  if decide (n'.Ab = 4) then
  some 1
  else
  if decide (n'.Ab = 5) then
  some 1
  else
  if decide (n'.Ab = 7) then
  some 1
  else
  if decide (n'.Ab = 8) then
  some 2
  else
  if decide (n'.Ab = 9) then
  some 2
  else
  some 0
theorem Jef {n' : Ja} {aa : Option Addr} {ac : Nat} {K : Hp} {r : Int}
    (hm : Jbq n' = some r) (ae : LiC Ja.R K aa ac 4 n'.Aa) :
    Fn Tryz.prog 127 [.agg #[.int .i64 n'.Ab, str n'.Ac, .slice aa n'.Aa.length ac, .int .i64 n'.Ad]] K [] (fun v K' H' => v = .int .i64 r ∧ H' = []) := by
 refine Fn.enter Tryz.func127 Tryz.call127 rfl fun F => ?_
 unfold Jbq at hm
 refine qas ?_
 intro b1
 refine fa rfl (ro (ld r0 rfl rfl ?_))
 refine qak rfl ?_
 refine qaf (cs rfl rfl hm ?_ ?_) <;> intro w5 hm
 exact eE hm
 refine qaf (cs rfl rfl hm ?_ ?_) <;> intro w7 hm
 refine qad rfl (ct w7 ?_)
 exact eE hm
 refine qaf (cs rfl rfl hm ?_ ?_) <;> intro w7 hm
 refine qad rfl (ct w7 ?_)
 exact eE hm
 refine qaf (cs rfl rfl hm ?_ ?_) <;> intro w7 hm
 exact eE hm
 refine qaf (cs rfl rfl hm ?_ ?_) <;> intro aJ hm
 refine qad rfl (ct aJ ?_)
 exact eE hm
 refine qaf (cs rfl rfl hm ?_ ?_) <;> intro aJ hm
 exact eE hm
 exact eE hm

def JaC (n : Nat) (name : Str) (env : (List Jk)) : Option (Bool) :=
  (JaF n name env).bind fun x7 =>
  some (decide (x7 ≠ 0))
theorem Jct {n : Nat} {name : Str} {env : (List Jk)} {af : Option Addr} {ag : Nat} {n1 : Nat} {K : Hp} {r : Bool}
    (hm : JaC n name env = some r) (hX : RdC Jk.enc K af ag 2 env ∧ n1 = env.length) :
    Fn Tryz.prog 129 [str name, .slice af n1 ag] K [] (fun v K' H' => v = .bool r ∧ H' = []) := by
 obtain ⟨ah, aJ⟩ := hX
 subst aJ
 refine Fn.enter Tryz.func129 Tryz.call129 rfl fun F => ?_
 unfold JaC at hm
 refine cb hm fun x7 q7 hm => cgx (JcJ q7 :) ?_
 refine qbf ?_
 exact eE hm

def J2 (env : (List Jk)) (name : Str) (t : Int) : Option ((List Jk)) :=
  (chk (InI ((env.length : Int) + 1))).bind fun _ =>
  (chk ((0 : Int) ≤ ((env.length : Int) + 1) ∧ ((env.length : Int) + 1) ≤ (lim : Int))).bind fun _ =>
  (chk (([] : List Jk).length + env.length ≤ lim)).bind fun _ =>
  (chk ((([] : List Jk) ++ env).length + [(⟨name, t⟩ : Jk)].length ≤ lim)).bind fun _ =>
  some ((([] : List Jk) ++ env) ++ [(⟨name, t⟩ : Jk)])
theorem Jbr {env : (List Jk)} {name : Str} {t : Int} {aa : Option Addr} {ac : Nat} {n0 : Nat} {K : Hp} {r : (List Jk)}
    (hm : J2 env name t = some r) (hX : RdC Jk.enc K aa ac 2 env ∧ n0 = env.length) :
    Fn Tryz.prog 98 [.slice aa n0 ac, str name, .int .i64 t] K [] (fun v K' H' => ∃ ar_0 : Option Addr, ∃ cr_0 : Nat, v = .slice ar_0 r.length cr_0 ∧ (0 < r.length → Has ar_0) ∧ H' = [OwnL Jk.enc ar_0 233 2 cr_0 r]) := by
 obtain ⟨ae, aM⟩ := hX
 subst aM
 refine Fn.enter Tryz.func98 Tryz.call98 rfl fun F => ?_
 unfold J2 at hm
 refine ro (qai rfl ?_)
 refine ci hm fun hm => ?_
 obtain ⟨aL, hm⟩ := qa7 hm
 refine qr6 (enc := Jk.enc) qj4 rfl aL fun aQ => ?_
 obtain ⟨aK, hm⟩ := qa7 hm
 refine apE rfl r0 qj4 (qu7 rfl ae.rd rfl) aK ?_
 intro aN aU aT
 refine qam rfl rfl (cT (cT ?_))
 refine bsO (len := 1) (enc := Jk.enc) (l := [(⟨name, t⟩ : Jk)]) (cl := [str name, .int .i64 t]) qj4 rfl rfl (fun _ _ => rfl) rfl rfl rfl ?_ fun aO => ?_
 · conv => whnf
   refine cT ?_
   first | done | rfl
 obtain ⟨aJ, hm⟩ := qa7 hm
 refine apE rfl r1 qj4 (qa6 rfl r0 rfl (fun _ => rfl) (fun _ => rfl)) aJ ?_
 intro aP aR aS
 exact eE hm

def Jax (n' : Ja) : Option ((List Ja)) :=
  if decide (n'.Ab = 12) then
  some n'.Aa
  else
  some [n']
theorem JcK {n' : Ja} {aa : Option Addr} {ac : Nat} {K : Hp} {r : (List Ja)}
    (hm : Jax n' = some r) (ae : LiC Ja.R K aa ac 4 n'.Aa) :
    Fn Tryz.prog 99 [.agg #[.int .i64 n'.Ab, str n'.Ac, .slice aa n'.Aa.length ac, .int .i64 n'.Ad]] K [] (fun v K' H' => ∃ ar_0 : Option Addr, ∃ cr_0 : Nat, v = .slice ar_0 r.length cr_0 ∧ LiC Ja.R K' ar_0 cr_0 4 r ∧ H' = []) := by
 refine Fn.enter Tryz.func99 Tryz.call99 rfl fun F => ?_
 unfold Jax at hm
 refine qas ?_
 intro b1
 refine fa rfl (ro (ld r0 rfl rfl (qaf ?_)))
 refine cs rfl rfl hm ?_ ?_ <;> intro w5 hm
 refine fa rfl (ro (ld r0 rfl rfl ?_))
 exact eE hm
 refine ro (qae r0 rfl (nl rfl) ?_)
 refine qv1 (R := Ja.R) (len := 1) (l := [n']) (css := [[.int .i64 n'.Ab, str n'.Ac, .slice aa n'.Aa.length ac, .int .i64 n'.Ad]]) (cl := [.int .i64 n'.Ab, str n'.Ac, .slice aa n'.Aa.length ac, .int .i64 n'.Ad]) Ja.R_ok qrn rfl rfl (LR.snoc LR.nil (Ja.of (x := n') ⟨aa, ac, rfl, ae⟩)) rfl rfl rfl ?_ fun b9 => ?_
 · conv => whnf
   refine cT ?_
   first | done | rfl
 refine qwb Ja.R_ok r0 (show LR Ja.R _ [[.int .i64 n'.Ab, str n'.Ac, .slice aa n'.Aa.length ac, .int .i64 n'.Ad]] [n'] from (LR.snoc LR.nil (Ja.of (x := n') ⟨aa, ac, rfl, ae⟩))) fun aK aJ aL => ?_
 exact eE hm

def Ju (rec_ : (Jl → (List Ja) → (List Jk) → Option (Jl))) (ab : (List Jk)) : List Ja → Nat → Int → Err → Option (Int × Err)
  | [], _, aJ, aK => some (aJ, aK)
  | e3 :: aN, i3, aJ, aK =>
    (Jax e3).bind fun aM =>
    (rec_ (⟨aJ, aK⟩ : Jl) aM ab).bind fun aL =>
    Ju rec_ ab aN (i3 + 1) aL.line aL.err
def Jp (n : Nat) (rec_ : (Jl → (List Ja) → (List Jk) → Option (Jl))) : List Ja → Nat → (List Jk) → Int → Err → Option (Fl (Jl) ((List Jk) × Int × Err))
  | [], _, ab, aO, aM => some (Fl.go (ab, aO, aM))
  | e0 :: aN, i0, ab, aO, aM =>
    if decide ((e0.Aa.length : Int) = 0) then
    Jp n rec_ aN (i0 + 1) ab aO aM
    else
    (ix e0.Aa 0).bind fun aS =>
    (Jz n (⟨aO, aM⟩ : Jl) aS ab).bind fun aJ =>
    (Jbq e0).bind fun aR =>
    if ((aJ.2.err.isNone && decide (aR ≠ 0)) && decide (aJ.1 ≠ aR)) then
    (JD aJ.2 e0 (some 9)).bind fun aK =>
    if aK.err.isSome then
    some (Fl.ret aK)
    else
    if decide (e0.Ab = 3) then
    (JaC n e0.Ac ab).bind fun aQ =>
    if aQ then
    (JD aK e0 (some 4)).bind fun aL =>
    (J2 ab e0.Ac aJ.1).bind fun aP =>
    if aL.err.isSome then
    some (Fl.ret aL)
    else
    Jp n rec_ aN (i0 + 1) aP aL.line aL.err
    else
    (J2 ab e0.Ac aJ.1).bind fun aP =>
    if aK.err.isSome then
    some (Fl.ret aK)
    else
    Jp n rec_ aN (i0 + 1) aP aK.line aK.err
    else
    if decide (e0.Ab = 2) then
    (chk (0 ≤ (1 : Int) ∧ (1 : Int) ≤ (e0.Aa.length : Int) ∧ (e0.Aa.length : Int) ≤ (e0.Aa.length : Int))).bind fun _ =>
    (chk ((subL e0.Aa (1 : Int) (e0.Aa.length : Int)).length ≤ qav)).bind fun _ =>
    (Ju rec_ ab (subL e0.Aa (1 : Int) (e0.Aa.length : Int)) 0 aK.line aK.err).bind fun t3 =>
    if t3.2.isSome then
    some (Fl.ret (⟨t3.1, t3.2⟩ : Jl))
    else
    Jp n rec_ aN (i0 + 1) ab t3.1 t3.2
    else
    if aK.err.isSome then
    some (Fl.ret aK)
    else
    Jp n rec_ aN (i0 + 1) ab aK.line aK.err
    else
    if aJ.2.err.isSome then
    some (Fl.ret aJ.2)
    else
    if decide (e0.Ab = 3) then
    (JaC n e0.Ac ab).bind fun aQ =>
    if aQ then
    (JD aJ.2 e0 (some 4)).bind fun aL =>
    (J2 ab e0.Ac aJ.1).bind fun aP =>
    if aL.err.isSome then
    some (Fl.ret aL)
    else
    Jp n rec_ aN (i0 + 1) aP aL.line aL.err
    else
    (J2 ab e0.Ac aJ.1).bind fun aP =>
    if aJ.2.err.isSome then
    some (Fl.ret aJ.2)
    else
    Jp n rec_ aN (i0 + 1) aP aJ.2.line aJ.2.err
    else
    if decide (e0.Ab = 2) then
    (chk (0 ≤ (1 : Int) ∧ (1 : Int) ≤ (e0.Aa.length : Int) ∧ (e0.Aa.length : Int) ≤ (e0.Aa.length : Int))).bind fun _ =>
    (chk ((subL e0.Aa (1 : Int) (e0.Aa.length : Int)).length ≤ qav)).bind fun _ =>
    (Ju rec_ ab (subL e0.Aa (1 : Int) (e0.Aa.length : Int)) 0 aJ.2.line aJ.2.err).bind fun t3 =>
    if t3.2.isSome then
    some (Fl.ret (⟨t3.1, t3.2⟩ : Jl))
    else
    Jp n rec_ aN (i0 + 1) ab t3.1 t3.2
    else
    if aJ.2.err.isSome then
    some (Fl.ret aJ.2)
    else
    Jp n rec_ aN (i0 + 1) ab aJ.2.line aJ.2.err
def Jt : Nat → Jl → (List Ja) → (List Jk) → Option (Jl)
  | 0, _, _, _ => none
  | n + 1, c, list, env =>
    (chk (list.length ≤ qav)).bind fun _ =>
    (Jp n (Jt n) list 0 env c.line c.err).bind fun s0 => s0.el some fun t0 =>
    some (⟨t0.2.1, t0.2.2⟩ : Jl)
theorem JcQ : ∀ {n : Nat} {c : Jl} {list : (List Ja)} {env : (List Jk)} {b0 : Nat} {af : Option Addr} {ag : Nat} {n1 : Nat} {ao : Option Addr} {aq : Nat} {n2 : Nat} {K : Hp} {r : Jl}
    (hm : Jt n c list env = some r) (hX : LiC Ja.R K af ag 4 list ∧ n1 = list.length ∧ RdC Jk.enc K ao aq 2 env ∧ n2 = env.length),
    Fn Tryz.prog 85 [.pointer (some ⟨b0, 0, none⟩), .slice af n1 ag, .slice ao n2 aq] K [Cells b0 171 [.int .i64 c.line, qcu 87 c.err]] (fun v K' H' => v = .tuple #[] ∧ H' = [Cells b0 171 [.int .i64 r.line, qcu 87 r.err]]) := by
 intro n
 induction n with
 | zero =>
   intro c list env b0 af ag n1 ao aq n2 K r hm hX
   rw [Jt.eq_1] at hm; cases hm
 | succ n ih =>
   intro c list env b0 af ag n1 ao aq n2 K r hm hX
   obtain ⟨ah, cM, bV, cB⟩ := hX
   subst cM
   subst cB
   refine Fn.enter Tryz.func85 Tryz.call85 rfl fun F => ?_
   rw [Jt.eq_2] at hm
   refine ro (qai rfl ?_)
   obtain ⟨aZ, hm⟩ := qa7 hm
   obtain ⟨s0, aJ, hm⟩ := bnd hm
   refine lC (σ := ((List Jk) × Int × Err) × Option Addr × Nat) ([2,7,8,9,11] ++ rg 14 79) [1] (fun i0 => [(14, .int .i64 (i0 : Int))]) (fun (t0, aN, aO) => [(2, .slice aN t0.1.length aO)]) (fun (t0, aN, aO) => [Cells b0 171 [.int .i64 t0.2.1, qcu 87 t0.2.2]]) (fun zz K1 => match zz with | (t0, aN, aO) => RdC Jk.enc K1 aN aO 2 t0.1 ∧ True) (fun i0 (t0, aN, aO) => Jp n (Jt n) (list.drop i0) i0 t0.1 t0.2.1 t0.2.2 = some s0) (fun (t0, aN, aO) => s0 = Fl.go t0) (fun i0 => list.length - i0) 0 ((_, _, _), _, _) aJ (And.intro qe (And.intro ?_ ?_))
   clear aJ
   rintro i0 ⟨⟨ab, cd, cI⟩, bS, bP⟩ cO bY ⟨bO, _⟩ aJ j0
   dsimp only at aJ ⊢
   refine qad rfl ?_
   refine qag ?_ ?_ <;> intro w0
   obtain ⟨e0, aQ, cp⟩ := ltx w0
   rw [cp, Jp.eq_2] at aJ
   refine qak rfl ?_
   refine RStep.ofN (qac rfl rfl (qdc (LiC.mono Ja.R_ok bY ah).rd aQ) (nn _) (qbs aQ) ?_)
   obtain ⟨cJ, cH, bA, bw, br⟩ := LiR.get (LiC.mono Ja.R_ok bY ah).rd aQ
   obtain ⟨bR, bX, rfl, aP⟩ := Ja.out br
   refine ro (qan i0 _ bA rfl bw rfl ?_)
   refine qal rfl fun b7 => ?_
   refine qab r0 rfl ⟨rfl, rfl, (nl rfl), ?_⟩
   refine fa rfl (ro (ld r0 rfl rfl (ro (qai rfl (qaf ?_)))))
   refine cs rfl rfl aJ ?_ ?_ <;> intro cP aJ
   refine cT (qat (qcl aQ aZ) ?_)
   exact eR aJ (_, (_, _, _), _, _)
   refine fa rfl (ro (ld r0 rfl rfl ?_))
   obtain ⟨cR, bZ, bp, aJ⟩ := ixb aJ
   refine RStep.ofN (qac rfl rfl (qdc aP.rd bp) bZ (qay rfl bZ bp) ?_)
   obtain ⟨cq, cu, bF, bJ, bu⟩ := LiR.get aP.rd bp
   obtain ⟨bT, bQ, rfl, bW⟩ := Ja.out bu
   refine ro (qan ((0 : Int).toNat) _ bF rfl bJ rfl ?_)
   refine cb aJ fun bz co aJ => cgx (Jc1 co :) ?_
   refine ro (qae r1 rfl (nl rfl) ?_)
   refine cb aJ fun bK cm aJ => cgx (Jef cm :) ?_
   refine jR (σ := Unit) (rg 31 14) (fun _ => [(44, .bool ((bz.2.err.isNone && decide (bK ≠ 0)) && decide (bz.1 ≠ bK)))]) (fun cK => True) ?_ ?_
   refine qaj rfl ?_
   refine qah (fa rfl (ro (ld r0 rfl rfl (qf0 rfl ?_))))
   refine qag ?_ ?_ <;> intro aM
   refine ct aM (qbf (ct aM ?_))
   refine qag ?_ ?_ <;> intro aK
   refine ct aK (ct aK (qbf (ct aK ?_)))
   exact eMt () ⟨bq (qdh (b := decide (bz.1 ≠ bK)) (qb5 aM aK)), trivial⟩
   refine cf aK (cf aK (cf aK ?_))
   exact eMt () ⟨bq (((qa0 (qcs aM aK))).symm), trivial⟩
   refine cf aM (cf aM (cF (cF (cF (cF ?_)))))
   exact eMt () ⟨bq (((qa0 (qa0 aM))).symm), trivial⟩
   rintro _ _ cn
   refine cs rfl rfl aJ ?_ ?_ <;> intro cU aJ
   refine ro (qae r1 rfl (nl rfl) ?_)
   refine qa3 rfl ?_
   refine cb aJ fun cV cG aJ => cgx (JU cG :) ?_
   refine qah (fa rfl (ro (ld r0 rfl rfl (qbg rfl ?_))))
   refine cs rfl rfl aJ ?_ ?_ <;> intro cw aJ
   exact eE (er aJ hm)
   refine fa rfl (ro (ld r1 rfl rfl ?_))
   refine qak rfl ?_
   refine qaf (cs rfl rfl aJ ?_ ?_) <;> intro ca aJ
   refine fa rfl (ro (ld r1 rfl rfl ?_))
   refine cb aJ fun cD bN aJ => cgx (Jct bN :) ?_
   refine cs rfl rfl aJ ?_ ?_ <;> intro cA aJ
   refine ro (qae r1 rfl (nl rfl) ?_)
   refine qa3 rfl ?_
   refine cb aJ fun cE bH aJ => cgx (JU bH :) ?_
   refine fa rfl (ro (ld r1 rfl rfl ?_))
   refine cb aJ fun bt a8 aJ => ckx (Jbr a8 :) ?_
   rintro _ _ _ ⟨aU, aS, rfl, aW, rfl⟩
   refine qah (fa rfl (ro (ld r1 rfl rfl (qbg rfl ?_))))
   refine cs rfl rfl aJ ?_ ?_ <;> intro ba aJ
   exact eE (er aJ hm)
   refine qat (qcl aQ aZ) ?_
   refine fRo r0 fun aX aR aV => ?_
   exact eR aJ (_, (_, _, _), _, _)
   refine fa rfl (ro (ld r1 rfl rfl ?_))
   refine cb aJ fun bt a8 aJ => ckx (Jbr a8 :) ?_
   rintro _ _ _ ⟨aU, aS, rfl, aW, rfl⟩
   refine qah (fa rfl (ro (ld r1 rfl rfl (qbg rfl ?_))))
   refine cs rfl rfl aJ ?_ ?_ <;> intro ba aJ
   exact eE (er aJ hm)
   refine qat (qcl aQ aZ) ?_
   refine fRo r0 fun aX aR aV => ?_
   exact eR aJ (_, (_, _, _), _, _)
   refine qaf (cs rfl rfl aJ ?_ ?_) <;> intro cj aJ
   refine fa rfl (ro (ld r1 rfl rfl ?_))
   obtain ⟨bf, aJ⟩ := qa7 aJ
   have aT := aP.subC bf
   refine RStep.ofN (qm3 (l := e0.Aa) (lo := (some 1)) (hi := none) (lo' := (1 : Int)) (hi' := (e0.Aa.length : Int)) rfl rfl rfl rfl rfl aP.le bf (ro (qai rfl ?_)))
   obtain ⟨bC, aJ⟩ := qa7 aJ
   obtain ⟨s3, aL, aJ⟩ := bnd aJ
   refine lD (σ := (Int × Err)) ([11] ++ rg 77 10) [1, 2] (fun i3 => [(77, .int .i64 (i3 : Int))]) (fun _ => []) (fun t3 => [Cells b0 171 [.int .i64 t3.1, qcu 87 t3.2]]) (fun _ => True) (fun i3 t3 => Ju (Jt n) ab ((subL e0.Aa (1 : Int) (e0.Aa.length : Int)).drop i3) i3 t3.1 t3.2 = some s3) (fun t3 => t3 = s3) (fun i3 => (subL e0.Aa (1 : Int) (e0.Aa.length : Int)).length - i3) 0 (_, _) aL (And.intro qe (And.intro ?_ ?_))
   clear aL
   rintro i3 ⟨bM, bB⟩ _ aL j3
   dsimp only at aL ⊢
   refine qad rfl ?_
   refine qag ?_ ?_ <;> intro w3
   obtain ⟨e3, aY, bv⟩ := ltx w3
   rw [bv, Ju.eq_2] at aL
   refine qak rfl ?_
   refine RStep.ofN (qac rfl rfl (qdc aT.rd aY) (nn _) (qbs aY) ?_)
   obtain ⟨bG, bL, bc, bb, a6⟩ := LiR.get aT.rd aY
   obtain ⟨bn, bm, rfl, bo⟩ := Ja.out a6
   refine ro (qan i3 _ bc rfl bb rfl ?_)
   refine qal rfl fun cr => ?_
   refine qab r0 rfl ⟨rfl, rfl, (nl rfl), ?_⟩
   refine ro (qae r0 rfl (nl rfl) ?_)
   refine cb aL fun cC bI aL => cfx (JcK bI :) ?_
   rintro _ cL _ cz ⟨bj, bh, rfl, bg, rfl⟩
   refine cb aL fun ce bD aL => cgx (ih bD :) ?_
   refine qat (qcl aY bC) ?_
   exact eR aL (_, (_, _))
   rw [lty w3, Ju.eq_1] at aL
   refine cT ?_
   exact eM aL _
   rintro t3 _ rfl j3
   refine qah (fa rfl (ro (ld r0 rfl rfl (qbg rfl ?_))))
   refine cs rfl rfl aJ ?_ ?_ <;> intro ba aJ
   exact eE (er aJ hm)
   refine qat (qcl aQ aZ) ?_
   exact eR aJ (_, (_, _, _), _, _)
   refine qah (fa rfl (ro (ld r0 rfl rfl (qbg rfl ?_))))
   refine cs rfl rfl aJ ?_ ?_ <;> intro ba aJ
   exact eE (er aJ hm)
   refine qat (qcl aQ aZ) ?_
   exact eR aJ (_, (_, _, _), _, _)
   refine qah (fa rfl (ro (ld r0 rfl rfl (qbg rfl ?_))))
   refine cs rfl rfl aJ ?_ ?_ <;> intro cw aJ
   exact eE (er aJ hm)
   refine fa rfl (ro (ld r1 rfl rfl ?_))
   refine qak rfl ?_
   refine qaf (cs rfl rfl aJ ?_ ?_) <;> intro ca aJ
   refine fa rfl (ro (ld r1 rfl rfl ?_))
   refine cb aJ fun cD bN aJ => cgx (Jct bN :) ?_
   refine cs rfl rfl aJ ?_ ?_ <;> intro cA aJ
   refine ro (qae r1 rfl (nl rfl) ?_)
   refine qa3 rfl ?_
   refine cb aJ fun cE bH aJ => cgx (JU bH :) ?_
   refine fa rfl (ro (ld r1 rfl rfl ?_))
   refine cb aJ fun bt a8 aJ => ckx (Jbr a8 :) ?_
   rintro _ _ _ ⟨aU, aS, rfl, aW, rfl⟩
   refine qah (fa rfl (ro (ld r1 rfl rfl (qbg rfl ?_))))
   refine cs rfl rfl aJ ?_ ?_ <;> intro ba aJ
   exact eE (er aJ hm)
   refine qat (qcl aQ aZ) ?_
   refine fRo r0 fun aX aR aV => ?_
   exact eR aJ (_, (_, _, _), _, _)
   refine fa rfl (ro (ld r1 rfl rfl ?_))
   refine cb aJ fun bt a8 aJ => ckx (Jbr a8 :) ?_
   rintro _ _ _ ⟨aU, aS, rfl, aW, rfl⟩
   refine qah (fa rfl (ro (ld r1 rfl rfl (qbg rfl ?_))))
   refine cs rfl rfl aJ ?_ ?_ <;> intro ba aJ
   exact eE (er aJ hm)
   refine qat (qcl aQ aZ) ?_
   refine fRo r0 fun aX aR aV => ?_
   exact eR aJ (_, (_, _, _), _, _)
   refine qaf (cs rfl rfl aJ ?_ ?_) <;> intro cj aJ
   refine fa rfl (ro (ld r1 rfl rfl ?_))
   obtain ⟨bf, aJ⟩ := qa7 aJ
   have aT := aP.subC bf
   refine RStep.ofN (qm3 (l := e0.Aa) (lo := (some 1)) (hi := none) (lo' := (1 : Int)) (hi' := (e0.Aa.length : Int)) rfl rfl rfl rfl rfl aP.le bf (ro (qai rfl ?_)))
   obtain ⟨bC, aJ⟩ := qa7 aJ
   obtain ⟨s3, aL, aJ⟩ := bnd aJ
   refine lD (σ := (Int × Err)) ([11] ++ rg 77 10) [1, 2] (fun i3 => [(77, .int .i64 (i3 : Int))]) (fun _ => []) (fun t3 => [Cells b0 171 [.int .i64 t3.1, qcu 87 t3.2]]) (fun _ => True) (fun i3 t3 => Ju (Jt n) ab ((subL e0.Aa (1 : Int) (e0.Aa.length : Int)).drop i3) i3 t3.1 t3.2 = some s3) (fun t3 => t3 = s3) (fun i3 => (subL e0.Aa (1 : Int) (e0.Aa.length : Int)).length - i3) 0 (_, _) aL (And.intro qe (And.intro ?_ ?_))
   clear aL
   rintro i3 ⟨bM, bB⟩ _ aL j3
   dsimp only at aL ⊢
   refine qad rfl ?_
   refine qag ?_ ?_ <;> intro w3
   obtain ⟨e3, aY, bv⟩ := ltx w3
   rw [bv, Ju.eq_2] at aL
   refine qak rfl ?_
   refine RStep.ofN (qac rfl rfl (qdc aT.rd aY) (nn _) (qbs aY) ?_)
   obtain ⟨bG, bL, bc, bb, a6⟩ := LiR.get aT.rd aY
   obtain ⟨bn, bm, rfl, bo⟩ := Ja.out a6
   refine ro (qan i3 _ bc rfl bb rfl ?_)
   refine qal rfl fun cr => ?_
   refine qab r0 rfl ⟨rfl, rfl, (nl rfl), ?_⟩
   refine ro (qae r0 rfl (nl rfl) ?_)
   refine cb aL fun cC bI aL => cfx (JcK bI :) ?_
   rintro _ cL _ cz ⟨bj, bh, rfl, bg, rfl⟩
   refine cb aL fun ce bD aL => cgx (ih bD :) ?_
   refine qat (qcl aY bC) ?_
   exact eR aL (_, (_, _))
   rw [lty w3, Ju.eq_1] at aL
   refine cT ?_
   exact eM aL _
   rintro t3 _ rfl j3
   refine qah (fa rfl (ro (ld r0 rfl rfl (qbg rfl ?_))))
   refine cs rfl rfl aJ ?_ ?_ <;> intro ba aJ
   exact eE (er aJ hm)
   refine qat (qcl aQ aZ) ?_
   exact eR aJ (_, (_, _, _), _, _)
   refine qah (fa rfl (ro (ld r0 rfl rfl (qbg rfl ?_))))
   refine cs rfl rfl aJ ?_ ?_ <;> intro ba aJ
   exact eE (er aJ hm)
   refine qat (qcl aQ aZ) ?_
   exact eR aJ (_, (_, _, _), _, _)
   rw [lty w0, Jp.eq_1] at aJ
   refine cT ?_
   exact eM aJ (_, _, _)
   rintro ⟨t0, aN, aO⟩ cQ cN ⟨bU, _⟩ rfl j0
   replace hm := elg hm
   exact eE hm

def Ja5 (n : Nat) (program : Ja) : Option (Int × Err) :=
  (Jaw n program).bind fun x6 =>
  if (!x6) then
  some (0, (some 2))
  else
  (Jt n (⟨0, none⟩ : Jl) program.Aa []).bind fun aJ =>
  some (aJ.line, aJ.err)
theorem Jeg {n : Nat} {program : Ja} {aa : Option Addr} {ac : Nat} {K : Hp} {r : Int × Err}
    (hm : Ja5 n program = some r) (hX : LiC Ja.R K aa ac 4 program.Aa ∧ GG K) :
    Fn Tryz.prog 51 [.agg #[.int .i64 program.Ab, str program.Ac, .slice aa program.Aa.length ac, .int .i64 program.Ad]] K [] (fun v K' H' => v = .tuple #[.int .i64 r.1, qcu 87 r.2] ∧ H' = []) := by
 obtain ⟨ae, hG⟩ := hX
 refine Fn.enter Tryz.func51 Tryz.call51 rfl fun F => ?_
 unfold Ja5 at hm
 refine qas ?_
 intro b1
 refine ro (qae r0 rfl (nl rfl) ?_)
 refine cb hm fun x6 q6 hm => cgx (Jee q6 :) ?_
 refine qax ?_
 refine cs rfl rfl hm ?_ ?_ <;> intro w7 hm
 refine qa3 rfl ?_
 exact eE hm
 refine qam rfl rfl ?_
 refine qas ?_
 intro aL
 refine fa rfl (ro (ld r1 rfl rfl ?_))
 refine cb hm fun aK aJ hm => cgx (JcQ aJ :) ?_
 refine qa4 ⟨⟨[], false⟩, _, [(_, _)], []⟩ (by kernel_rfl) ⟨Hp.Le.refl _, (pf rfl), ci0⟩ ?_
 refine qah (fa rfl (qao m0 rfl rfl (qah (fa rfl (qao m0 rfl rfl ?_)))))
 exact eE hm
