/- Functions of the program: mirrors, and that a call returns what the mirror says. Printed by gen.py. -/
import Derived.Test.YtmpdebfckeahmaaGreatDoorG2
set_option linter.unusedVariables false
set_option linter.unusedSimpArgs false
open Go Go.SL Go.Proofs
noncomputable section
set_option maxRecDepth 1000000
set_option maxHeartbeats 8000000
def JaG (s : Str) : Nat → Int → Option (Int)
  | 0, _ => none
  | aU + 1, aS =>
    if decide (aS < (s.length : Int)) then
    (ix s aS).bind fun aT =>
    (Jba aT).bind fun aV =>
    (if aV then some true else (ix s aS).bind fun aY =>
    (JaS aY).bind fun aW =>
    some aW).bind fun aX =>
    if aX then
    (chk (InI (aS + 1))).bind fun _ =>
    JaG s aU (aS + 1)
    else
    some aS
    else
    some aS
def Jbj (s : Str) : Nat → Int → Option (Int)
  | 0, _ => none
  | aT + 1, aS =>
    (if decide (aS < (s.length : Int)) then (ix s aS).bind fun aW =>
    (JaS aW).bind fun aV =>
    some aV else some false).bind fun aU =>
    if aU then
    (chk (InI (aS + 1))).bind fun _ =>
    Jbj s aT (aS + 1)
    else
    some aS
def JaH (s : Str) : Nat → Nat → Option (Fl (Int × Int × Str) (Unit))
  | 0, _ => some (Fl.go ())
  | aT + 1, i5 =>
    (ix ([([61, 61] : Str), ([33, 61] : Str), ([60, 61] : Str), ([60] : Str), ([43] : Str), ([45] : Str), ([42] : Str), ([40] : Str), ([41] : Str), ([123] : Str), ([125] : Str), ([44] : Str), ([59] : Str), ([61] : Str)]) (i5 : Int)).bind fun aS =>
    (J2 s aS).bind fun aU =>
    if aU then
    some (Fl.ret (4, (aS.length : Int), aS))
    else
    JaH s aT (i5 + 1)
def Jbq (n : Nat) (s : Str) : Option (Int × Int × Str) :=
  (ix s 0).bind fun aS =>
  (Jba aS).bind fun aU =>
  if aU then
  (JaG s n 1).bind fun t1 =>
  (chk (0 ≤ (0 : Int) ∧ (0 : Int) ≤ t1 ∧ t1 ≤ (s.length : Int))).bind fun _ =>
  some (1, t1, (subL s (0 : Int) t1))
  else
  (JaS aS).bind fun aV =>
  if aV then
  (Jbj s n 1).bind fun t3 =>
  if decide (t3 > 9) then
  some (0, 0, ([] : Str))
  else
  (chk (0 ≤ (0 : Int) ∧ (0 : Int) ≤ t3 ∧ t3 ≤ (s.length : Int))).bind fun _ =>
  some (2, t3, (subL s (0 : Int) t3))
  else
  if decide ((aS.toNat : Int) = 34) then
  (Jdm n s).bind fun aT =>
  some (3, aT.1, aT.2)
  else
  (chk (InI (14 : Int))).bind fun _ =>
  (JaH s (14 : Int).toNat 0).bind fun s5 => s5.el some fun t5 =>
  some (0, 0, ([] : Str))
theorem Jfp {n : Nat} {s : Str} {K : Hp} {r : Int × Int × Str}
    (hm : Jbq n s = some r)  :
    Fn Tryz.prog 224 [str s] K [] (fun v K' H' => v = .tuple #[.int .i64 r.1, .int .i64 r.2.1, str r.2.2] ∧ H' = []) := by
 refine Fn.enter Tryz.func224 Tryz.call224 rfl fun F => ?_
 unfold Jbq at hm
 obtain ⟨bN, bf, bw, hm⟩ := ixb hm
 refine qaz rfl bf bw ?_
 refine qai rfl ?_
 refine cb hm fun bI bh hm => cg0 (Jd1 bh :) ?_
 refine cs rfl rfl hm ?_ ?_ <;> intro bO hm
 obtain ⟨s1, aT, hm⟩ := bnd hm
 refine lD (σ := (Int)) ([5] ++ rg 16 18) [0] (fun _ => []) (fun t1 => [(5, .int .i64 t1)]) (fun _ => []) (fun _ => True) (fun i1 t1 => JaG s i1 t1 = some s1) (fun t1 => t1 = s1) (fun i1 => i1) n _ aT (And.intro qe (And.intro ?_ ?_))
 clear aT
 rintro i1 bn _ aT j1
 conv at aT => whnf
 cases i1 with
 | zero => rw [JaG.eq_1] at aT; cases aT
 | succ i1 =>
  rw [JaG.eq_2] at aT
  refine qah rfl ?_
  refine ro (qat rfl ?_)
  refine cS aT (fun aS aT => ?_) fun aS aT => ?_
  refine ct aS (ct aS ?_)
  obtain ⟨bG, br, bz, aT⟩ := ixb aT
  refine qaz rfl br bz (ct aS ?_)
  refine cb aT fun bY bm aT => cg0 (Jd1 bm :) ?_
  refine ct aS ?_
  obtain ⟨bK, aY, aT⟩ := bnd aT
  refine cS aY (fun aU aY => ?_) fun aU aY => ?_
  refine ct aU (ct aU (ct aU (ct aS (ct aU (ct aS (qaf rfl (cT ?_)))))))
  replace aT := ift (si aY).symm aT
  refine qai rfl ?_
  refine ci aT fun aT => ?_
  exact eR aT (_, _)
  refine cf aU (cf aU ?_)
  obtain ⟨bM, bF, bc, aY⟩ := ixb aY
  refine qaz rfl bF bc (cf aU ?_)
  refine cb aY fun bP bo aY => cg0 (Jdt bo :) ?_
  refine ct aS (cf aU (ct aS (qaf rfl ?_)))
  refine qag ?_ ?_ <;> intro ba
  replace aT := ift ((si aY).symm.trans ba) aT
  refine qai rfl ?_
  refine ci aT fun aT => ?_
  exact eR aT (_, _)
  replace aT := qa6 ((si aY).symm.trans ba) aT
  refine cT ?_
  exact eM aT _
  refine cf aS (cf aS (cf aS (cf aS (cf aS (cf aS (qaf rfl (cF ?_)))))))
  refine cT ?_
  exact eM aT _
 rintro t1 _ rfl j1
 refine qau ⟨⟨[], false⟩, _, [], []⟩ (by kernel_rfl) ⟨Hp.Le.refl _, (pf rfl), ci0⟩ ?_
 obtain ⟨bB, hm⟩ := qay hm
 refine qbn (lo := none) (hi := (some t1)) rfl bB ?_
 exact eE hm
 refine cb hm fun bQ bu hm => cg0 (Jdt bu :) ?_
 refine cs rfl rfl hm ?_ ?_ <;> intro bJ hm
 obtain ⟨s3, aW, hm⟩ := bnd hm
 refine lD (σ := (Int)) ([5] ++ rg 41 12) [0] (fun _ => []) (fun t3 => [(5, .int .i64 t3)]) (fun _ => []) (fun _ => True) (fun i3 t3 => Jbj s i3 t3 = some s3) (fun t3 => t3 = s3) (fun i3 => i3) n _ aW (And.intro qe (And.intro ?_ ?_))
 clear aW
 rintro i3 bt _ aW j3
 conv at aW => whnf
 cases i3 with
 | zero => rw [Jbj.eq_1] at aW; cases aW
 | succ i3 =>
  rw [Jbj.eq_2] at aW
  refine qah rfl ?_
  refine ro (qat rfl ?_)
  obtain ⟨bR, aZ, aW⟩ := bnd aW
  refine cS aZ (fun aV aZ => ?_) fun aV aZ => ?_
  refine ct aV (ct aV ?_)
  obtain ⟨bW, bp, bD, aZ⟩ := ixb aZ
  refine qaz rfl bp bD (ct aV ?_)
  refine cb aZ fun bU bg aZ => cg0 (Jdt bg :) ?_
  refine ct aV (qaf rfl ?_)
  refine qag ?_ ?_ <;> intro bb
  replace aW := ift ((si aZ).symm.trans bb) aW
  refine qai rfl ?_
  refine ci aW fun aW => ?_
  exact eR aW (_, _)
  replace aW := qa6 ((si aZ).symm.trans bb) aW
  refine cT ?_
  exact eM aW _
  refine cf aV (cf aV (cf aV (cf aV (qaf rfl (cF ?_)))))
  replace aW := qa6 (si aZ).symm aW
  refine cT ?_
  exact eM aW _
 rintro t3 _ rfl j3
 refine cs rfl rfl hm ?_ ?_ <;> intro bS hm
 exact eE hm
 refine qau ⟨⟨[], false⟩, _, [], []⟩ (by kernel_rfl) ⟨Hp.Le.refl _, (pf rfl), ci0⟩ ?_
 obtain ⟨bA, hm⟩ := qay hm
 refine qbn (lo := none) (hi := (some t3)) rfl bA ?_
 exact eE hm
 refine qad (cs rfl rfl hm ?_ ?_) <;> intro bT hm
 refine cb hm fun bH bd hm => cg0 (Je4 bd :) ?_
 exact eE hm
 refine bsO (len := 14) (enc := eS) (l := [([61, 61] : Str), ([33, 61] : Str), ([60, 61] : Str), ([60] : Str), ([43] : Str), ([45] : Str), ([42] : Str), ([40] : Str), ([41] : Str), ([123] : Str), ([125] : Str), ([44] : Str), ([59] : Str), ([61] : Str)]) (cl := [str ([61, 61] : Str), str ([33, 61] : Str), str ([60, 61] : Str), str ([60] : Str), str ([43] : Str), str ([45] : Str), str ([42] : Str), str ([40] : Str), str ([41] : Str), str ([123] : Str), str ([125] : Str), str ([44] : Str), str ([59] : Str), str ([61] : Str)]) qdf rfl rfl (fun _ _ => rfl) rfl rfl rfl ?_ fun bV => ?_
 · conv => whnf
   refine cT (cT (cT (cT (cT (cT (cT (cT ?_)))))))
   refine cT (cT (cT (cT (cT (cT ?_)))))
   first | done | rfl
 refine ro (qaj rfl ?_)
 obtain ⟨bj, hm⟩ := qay hm
 obtain ⟨s5, aX, hm⟩ := bnd hm
 refine lD (σ := (Unit)) ([2,3,4,10] ++ rg 71 11) [0, 1] (fun i5 => [(71, .int .i64 (i5 : Int))]) (fun _ => []) (fun _ => []) (fun _ => True) (fun i5 _ => JaH s ((14 : Int).toNat - i5) i5 = some s5) (fun t5 => s5 = Fl.go t5) (fun i5 => (14 : Int).toNat - i5) 0 () aX (And.intro qe (And.intro ?_ ?_))
 clear aX
 rintro i5 _ _ aX j5
 conv at aX => whnf
 refine qaf rfl ?_
 refine qag ?_ ?_ <;> intro w5
 rw [ltn (n := (14 : Int)) w5, JaH.eq_2] at aX
 refine qai rfl ?_
 obtain ⟨bL, a8, a6, aX⟩ := ixb aX
 refine RStep.ofN (qac rfl rfl (qcp (fun _ => ⟨_, _, rfl⟩) a6) a8 (qas rfl a8 a6) (ro (qbq (i := ((i5 : Int)).toNat) (o := 0) r0 rfl a6 rfl rfl ?_)))
 refine cb aX fun bX bC aX => cg0 (Jbn bC :) ?_
 refine cs rfl rfl aX ?_ ?_ <;> intro bZ aX
 refine ro (qat rfl ?_)
 exact eE (er aX hm)
 refine qar (qn1 w5 bj) ?_
 exact eR aX (_, ())
 rw [lto (n := (14 : Int)) w5, JaH.eq_1] at aX
 refine cT ?_
 exact eM aX _
 rintro t5 _ rfl j5
 replace hm := elg hm
 exact eE hm

def Jbk (text : Str) : Nat → Int → Option (Int)
  | 0, _ => none
  | aT + 1, aS =>
    (if decide (aS < (text.length : Int)) then (ix text aS).bind fun aU =>
    some (decide ((aU.toNat : Int) ≠ 10)) else some false).bind fun aV =>
    if aV then
    (chk (InI (aS + 1))).bind fun _ =>
    Jbk text aT (aS + 1)
    else
    some aS
def JR (text : Str) (n : Nat) : Nat → (List JB) → Int → Int → Int → Option (Fl ((List JB) × Err) ((List JB) × Int × Int × Int))
  | 0, _, _, _, _ => none
  | aV + 1, ac, aT, aS, al =>
    if decide (al < (text.length : Int)) then
    (ix text al).bind fun aW =>
    if decide ((aW.toNat : Int) = 10) then
    (chk (InI (al + 1))).bind fun _ =>
    (chk (InI (aT + 1))).bind fun _ =>
    JR text n aV ac (aT + 1) (al + 1) (al + 1)
    else
    if decide ((aW.toNat : Int) = 32) then
    (chk (InI (al + 1))).bind fun _ =>
    JR text n aV ac aT aS (al + 1)
    else
    if decide ((aW.toNat : Int) = 9) then
    (chk (InI (al + 1))).bind fun _ =>
    JR text n aV ac aT aS (al + 1)
    else
    if decide ((aW.toNat : Int) = 13) then
    (chk (InI (al + 1))).bind fun _ =>
    JR text n aV ac aT aS (al + 1)
    else
    if decide ((aW.toNat : Int) = 35) then
    (Jbk text n al).bind fun t3 =>
    JR text n aV ac aT aS t3
    else
    (chk (0 ≤ al ∧ al ≤ (text.length : Int) ∧ (text.length : Int) ≤ (text.length : Int))).bind fun _ =>
    (Jbq n (subL text al (text.length : Int))).bind fun aU =>
    if decide (aU.2.1 = 0) then
    some (Fl.ret ([], (some 2)))
    else
    (chk (InI (al - aS))).bind fun _ =>
    (chk (InI ((al - aS) + 1))).bind fun _ =>
    (chk (ac.length + [(⟨aU.1, aU.2.2, aT, ((al - aS) + 1)⟩ : JB)].length ≤ lim)).bind fun _ =>
    (chk (InI (al + aU.2.1))).bind fun _ =>
    JR text n aV (ac ++ [(⟨aU.1, aU.2.2, aT, ((al - aS) + 1)⟩ : JB)]) aT aS (al + aU.2.1)
    else
    some (Fl.go (ac, aT, aS, al))
def Jbr (n : Nat) (text : Str) : Option ((List JB) × Err) :=
  if decide ((text.length : Int) > 4096) then
  some ([], (some 5))
  else
  (JR text n n [] 1 0 0).bind fun s0 => s0.el some fun t0 =>
  (chk (InI ((text.length : Int) - t0.2.2.1))).bind fun _ =>
  (chk (InI (((text.length : Int) - t0.2.2.1) + 1))).bind fun _ =>
  (chk (t0.1.length + ([(⟨5, ([] : Str), t0.2.1, (((text.length : Int) - t0.2.2.1) + 1)⟩ : JB)]).length ≤ lim)).bind fun _ =>
  some ((t0.1 ++ [(⟨5, ([] : Str), t0.2.1, (((text.length : Int) - t0.2.2.1) + 1)⟩ : JB)]), none)
theorem Jfq {n : Nat} {text : Str} {K : Hp} {r : (List JB) × Err}
    (hm : Jbr n text = some r)  :
    Fn Tryz.prog 192 [str text] K [] (fun v K' H' => ∃ ar_0 : Option Addr, ∃ cr_0 : Nat, v = .tuple #[.slice ar_0 r.1.length cr_0, qde 87 r.2] ∧ (0 < r.1.length → Has ar_0) ∧ H' = [OwnL JB.enc ar_0 269 4 cr_0 r.1]) := by
 refine Fn.enter Tryz.func192 Tryz.call192 rfl fun F => ?_
 unfold Jbr at hm
 refine ro (qat rfl ?_)
 refine cs rfl rfl hm ?_ ?_ <;> intro bI hm
 refine qa7 rfl ?_
 refine qhp JB.enc 269 4 ?_
 exact eE hm
 obtain ⟨s0, aS, hm⟩ := bnd hm
 refine qkc JB.enc 269 4 ?_
 refine lD (σ := ((List JB) × Int × Int × Int) × Option Addr × Nat) (rg 2 9 ++ rg 15 59) [1] (fun _ => []) (fun (t0, aU, aV) => [(4, .slice aU t0.1.length aV), (5, .int .i64 t0.2.1), (6, .int .i64 t0.2.2.1), (7, .int .i64 t0.2.2.2)]) (fun (t0, aU, aV) => [OwnL JB.enc aU 269 4 aV t0.1]) (fun (t0, aU, aV) => (0 < t0.1.length → Has aU) ∧ True) (fun i0 (t0, aU, aV) => JR text n i0 t0.1 t0.2.1 t0.2.2.1 t0.2.2.2 = some s0) (fun (t0, aU, aV) => s0 = Fl.go t0) (fun i0 => i0) n ((_, _, _, _), _, _) aS (And.intro qe (And.intro ?_ ?_))
 clear aS
 rintro i0 ⟨⟨ac, aY, aZ, al⟩, bg, bf⟩ ⟨bb, _⟩ aS j0
 dsimp only at aS ⊢
 cases i0 with
 | zero => rw [JR.eq_1] at aS; cases aS
 | succ i0 =>
  rw [JR.eq_2] at aS
  refine ro (qat rfl ?_)
  refine cs rfl rfl aS ?_ ?_ <;> intro bQ aS
  refine qai rfl ?_
  obtain ⟨bH, bp, bw, aS⟩ := ixb aS
  refine qaz rfl bp bw ?_
  refine qai rfl ?_
  refine qad (cs rfl rfl aS ?_ ?_) <;> intro bO aS
  refine ci aS fun aS => ?_
  obtain ⟨bn, aS⟩ := qay aS
  refine qar bn (cF (cT ?_))
  exact eR aS (_, (_, _, _, _), _, _)
  refine qad (cs rfl rfl aS ?_ ?_) <;> intro a8 aS
  refine qaf rfl (ct a8 ?_)
  obtain ⟨a6, aS⟩ := qay aS
  refine qar a6 (cF (cT ?_))
  exact eR aS (_, (_, _, _, _), _, _)
  refine qad (cs rfl rfl aS ?_ ?_) <;> intro a8 aS
  refine qaf rfl (ct a8 ?_)
  obtain ⟨a6, aS⟩ := qay aS
  refine qar a6 (cF (cT ?_))
  exact eR aS (_, (_, _, _, _), _, _)
  refine qad (cs rfl rfl aS ?_ ?_) <;> intro a8 aS
  obtain ⟨a6, aS⟩ := qay aS
  refine qar a6 (cF (cT ?_))
  exact eR aS (_, (_, _, _, _), _, _)
  refine qad (cs rfl rfl aS ?_ ?_) <;> intro bR aS
  obtain ⟨s3, aW, aS⟩ := bnd aS
  refine lD (σ := (Int)) ([7] ++ rg 37 12) [0, 1] (fun _ => []) (fun t3 => [(7, .int .i64 t3)]) (fun _ => []) (fun _ => True) (fun i3 t3 => Jbk text i3 t3 = some s3) (fun t3 => t3 = s3) (fun i3 => i3) n _ aW (And.intro qe (And.intro ?_ ?_))
  clear aW
  rintro i3 bu _ aW j3
  conv at aW => whnf
  cases i3 with
  | zero => rw [Jbk.eq_1] at aW; cases aW
  | succ i3 =>
   rw [Jbk.eq_2] at aW
   refine qah rfl ?_
   refine ro (qat rfl ?_)
   obtain ⟨bC, aX, aW⟩ := bnd aW
   refine cS aX (fun aT aX => ?_) fun aT aX => ?_
   refine ct aT (ct aT ?_)
   obtain ⟨bL, br, bz, aX⟩ := ixb aX
   refine qaz rfl br bz (ct aT (qa2 (ct aT (qaf rfl ?_))))
   refine qag ?_ ?_ <;> intro bd
   replace aW := ift ((si aX).symm.trans bd) aW
   refine qai rfl ?_
   refine ci aW fun aW => ?_
   exact eR aW (_, _)
   replace aW := qa6 ((si aX).symm.trans bd) aW
   refine cT ?_
   exact eM aW _
   refine cf aT (cf aT (cf aT (cf aT (qaf rfl (cF ?_)))))
   replace aW := qa6 (si aX).symm aW
   refine cT ?_
   exact eM aW _
  rintro t3 _ rfl j3
  refine cF (cT ?_)
  exact eR aS (_, (_, _, _, _), _, _)
  obtain ⟨bA, aS⟩ := qay aS
  refine RStep.ofN (qbn (lo := (some al)) (hi := none) rfl bA ?_)
  refine cb aS fun ba bj aS => cg0 (Jfp bj :) ?_
  refine qad (cs rfl rfl aS ?_ ?_) <;> intro bG aS
  refine qa7 rfl ?_
  refine qhp JB.enc 269 4 ?_
  exact eE (er aS hm)
  refine ci aS fun aS => ?_
  obtain ⟨bo, aS⟩ := qay aS
  refine qar bo (qak rfl rfl (cT (cT (cT (cT ?_)))))
  refine bsO (len := 1) (enc := JB.enc) (l := [(⟨ba.1, ba.2.2, aY, ((al - aZ) + 1)⟩ : JB)]) (cl := [.int .i64 ba.1, str ba.2.2, .int .i64 aY, .int .i64 ((al - aZ) + 1)]) qlj rfl rfl (fun _ _ => rfl) rfl rfl rfl ?_ fun bN => ?_
  · conv => whnf
    refine cT ?_
    first | done | rfl
  obtain ⟨bh, aS⟩ := qay aS
  refine apE rfl r1 qlj (qa4 rfl r0 rfl (fun _ => rfl) (fun _ => rfl)) bh ?_
  intro bF bM bD
  refine ci aS fun aS => ?_
  exact eR aS (_, (_, _, _, _), _, _)
  refine cT ?_
  exact eM aS (_, _, _)
 rintro ⟨t0, aU, aV⟩ ⟨bc, _⟩ rfl j0
 replace hm := elg hm
 refine ro (qat rfl ?_)
 refine ci hm fun hm => ?_
 obtain ⟨bm, hm⟩ := qay hm
 refine qar bm (qak rfl rfl (cT (cT (cT (cT ?_)))))
 refine bsO (len := 1) (enc := JB.enc) (l := [(⟨5, ([] : Str), t0.2.1, (((text.length : Int) - t0.2.2.1) + 1)⟩ : JB)]) (cl := [.int .i64 5, str ([] : Str), .int .i64 t0.2.1, .int .i64 (((text.length : Int) - t0.2.2.1) + 1)]) qlj rfl rfl (fun _ _ => rfl) rfl rfl rfl ?_ fun bP => ?_
 · conv => whnf
   refine cT ?_
   first | done | rfl
 obtain ⟨bt, hm⟩ := qay hm
 refine apE rfl r1 qlj (qa4 rfl r0 rfl (fun _ => rfl) (fun _ => rfl)) bt ?_
 intro bK bJ bB
 exact eE hm

def Jcv (s : Str) : Option (Bool) :=
  (JP gkw0 s).bind fun x5 =>
  some x5
theorem JeU {s : Str} {K : Hp} {r : Bool}
    (hm : Jcv s = some r) (hG : GG K) :
    Fn Tryz.prog 193 [str s] K [] (fun v K' H' => v = .bool r ∧ H' = []) := by
 obtain ⟨aW, aT, aV, gn_, aS, aU⟩ := gg4 hG
 subst gn_
 refine Fn.enter Tryz.func193 Tryz.call193 rfl fun F => ?_
 unfold Jcv at hm
 refine ro (ql1 aS rfl ?_)
 refine cb hm fun x5 q5 hm => cgx (Jai q5 :) ?_
 exact eE hm

def JbY (n : Nat) (s : Str) : Option (Bool) :=
  (Jbr n s).bind fun x7 =>
  (if (x7.2.isNone && decide ((x7.1.length : Int) = 2)) then (ix x7.1 0).bind fun aV =>
  some (decide (aV.Ab = 1)) else some false).bind fun aS =>
  (if aS then (ix x7.1 0).bind fun aU =>
  some (decide (aU.Ac = s)) else some false).bind fun aX =>
  (if aX then (Jcv s).bind fun aW =>
  some (!aW) else some false).bind fun aT =>
  some aT
theorem Jdh {n : Nat} {s : Str} {K : Hp} {r : Bool}
    (hm : JbY n s = some r) (hG : GG K) :
    Fn Tryz.prog 159 [str s] K [] (fun v K' H' => v = .bool r ∧ H' = []) := by
 refine Fn.enter Tryz.func159 Tryz.call159 rfl fun F => ?_
 unfold JbY at hm
 refine cb hm fun x7 q7 hm => ck0 (Jfq q7 :) ?_
 rintro _ _ _ ⟨bg, bh, rfl, aZ, rfl⟩
 refine qah rfl ?_
 refine qgn rfl ?_
 refine qag ?_ ?_ <;> intro aU
 refine ct aU (ro (qaj rfl (ct aU (qad (ct aU ?_)))))
 obtain ⟨bf, aY, hm⟩ := bnd hm
 refine qag ?_ ?_ <;> intro aT
 replace aY := ift (qby aU aT) aY
 refine ct aT ?_
 obtain ⟨bm, bc, a6, aY⟩ := ixb aY
 refine RStep.ofN (qac rfl rfl (qcp aZ a6) bc (qas rfl bc a6) (ct aT (qaw rfl (qcp aZ a6) (ct aT (ro (qbq (i := (0 : Int).toNat) (o := 0) r0 rfl a6 rfl rfl (ct aT (qad (ct aT ?_)))))))))
 obtain ⟨bb, aX, hm⟩ := bnd hm
 refine qag ?_ ?_ <;> intro aS
 replace aX := ift ((si aY).symm.trans aS) aX
 refine ct aS ?_
 obtain ⟨bo, bd, a8, aX⟩ := ixb aX
 refine RStep.ofN (qac rfl rfl (qcp aZ a8) bd (qas rfl bd a8) (ct aS (qaw rfl (qcp aZ a8) (ct aS (ro (qbq (i := (0 : Int).toNat) (o := 1) r0 rfl a8 rfl rfl (ct aS (ct aS (qam ?_)))))))))
 refine ct aS ?_
 obtain ⟨ba, aW, hm⟩ := bnd hm
 refine qag ?_ ?_ <;> intro aV
 replace aW := ift ((si aX).symm.trans aV) aW
 refine ct aV ?_
 refine cb aW fun bn bj aW => cgx (JeU bj :) ?_
 refine ct aV (qa1 (ct aV ?_))
 exact bE (si aW) (eE hm)
 replace aW := qa6 ((si aX).symm.trans aV) aW
 refine cf aV (cf aV (cf aV ?_))
 exact bE (si aW) (eE hm)
 replace aX := qa6 ((si aY).symm.trans aS) aX
 refine cf aS (cf aS (cf aS (cf aS (cf aS (cf aS ?_)))))
 obtain ⟨ba, aW, hm⟩ := bnd hm
 replace aW := qa6 (si aX).symm aW
 refine cF (cF (cF (cF ?_)))
 exact bE (si aW) (eE hm)
 replace aY := qa6 (qb8 aU aT) aY
 refine cf aT (cf aT (cf aT (cf aT (cf aT ?_))))
 obtain ⟨bb, aX, hm⟩ := bnd hm
 replace aX := qa6 (si aY).symm aX
 refine cF (cF (cF (cF (cF (cF (cF ?_))))))
 obtain ⟨ba, aW, hm⟩ := bnd hm
 replace aW := qa6 (si aX).symm aW
 refine cF (cF (cF (cF ?_)))
 exact bE (si aW) (eE hm)
 refine cf aU (cf aU (cf aU ?_))
 obtain ⟨bf, aY, hm⟩ := bnd hm
 replace aY := qa6 (qa0 aU) aY
 refine cF (cF (cF (cF (cF (cF ?_)))))
 obtain ⟨bb, aX, hm⟩ := bnd hm
 replace aX := qa6 (si aY).symm aX
 refine cF (cF (cF (cF (cF (cF (cF ?_))))))
 obtain ⟨ba, aW, hm⟩ := bnd hm
 replace aW := qa6 (si aX).symm aW
 refine cF (cF (cF (cF ?_)))
 exact bE (si aW) (eE hm)

def Jv (n : Nat) (n' : Ja) : Option (Int) :=
  if decide (n'.Ab = 13) then
  if (!decide (n'.Ac = ([] : Str))) then
  some (-2)
  else
  some 2
  else
  if decide (n'.Ab = 14) then
  if (!decide (n'.Ac = ([] : Str))) then
  some (-2)
  else
  some 2
  else
  if decide (n'.Ab = 17) then
  if (!decide (n'.Ac = ([] : Str))) then
  some (-2)
  else
  some 2
  else
  if decide (n'.Ab = 18) then
  if (!decide (n'.Ac = ([] : Str))) then
  some (-2)
  else
  some 2
  else
  if decide (n'.Ab = 19) then
  if (!decide (n'.Ac = ([] : Str))) then
  some (-2)
  else
  some 2
  else
  if decide (n'.Ab = 15) then
  if (!decide (n'.Ac = ([] : Str))) then
  some (-2)
  else
  some 1
  else
  if decide (n'.Ab = 16) then
  (JaK 4 n'.Ac).bind fun aW =>
  (if aW then some true else (JaK 1 n'.Ac).bind fun aY =>
  some aY).bind fun aV =>
  if (!aV) then
  some (-2)
  else
  some 2
  else
  if decide (n'.Ab = 20) then
  (Jct n'.Ac).bind fun aX =>
  if (!aX) then
  some (-2)
  else
  some 0
  else
  if decide (n'.Ab = 21) then
  (JaR n'.Ac).bind fun aS =>
  if (!aS) then
  some (-2)
  else
  some 0
  else
  if decide (n'.Ab = 22) then
  if (!(decide (n'.Ac = ([116, 114, 117, 101] : Str)) || decide (n'.Ac = ([102, 97, 108, 115, 101] : Str)))) then
  some (-2)
  else
  some 0
  else
  if decide (n'.Ab = 23) then
  (JbY n n'.Ac).bind fun aT =>
  if (!aT) then
  some (-2)
  else
  some 0
  else
  if decide (n'.Ab = 24) then
  (JbY n n'.Ac).bind fun aU =>
  if (!aU) then
  some (-2)
  else
  some (-1)
  else
  some (-2)
theorem JeF {n : Nat} {n' : Ja} {aa : Option Addr} {ab : Nat} {K : Hp} {r : Int}
    (hm : Jv n n' = some r) (hX : LiC Ja.R K aa ab 4 n'.Aa ∧ GG K) :
    Fn Tryz.prog 191 [.agg #[.int .i64 n'.Ab, str n'.Ac, .slice aa n'.Aa.length ab, .int .i64 n'.Ad]] K [] (fun v K' H' => v = .int .i64 r ∧ H' = []) := by
 obtain ⟨ae, hG⟩ := hX
 refine Fn.enter Tryz.func191 Tryz.call191 rfl fun F => ?_
 unfold Jv at hm
 refine qaq ?_
 intro b1
 refine fa rfl (ro (ld r0 rfl rfl (qam (fa rfl (ro (ld r0 rfl rfl ?_))))))
 refine qai rfl ?_
 refine qad (cs rfl rfl hm ?_ ?_) <;> intro aW hm
 refine qaf rfl (ct aW (qa1 ?_))
 refine cs rfl rfl hm ?_ ?_ <;> intro aU hm
 exact eE hm
 exact eE hm
 refine qad (cs rfl rfl hm ?_ ?_) <;> intro aW hm
 refine qaf rfl (ct aW (qa1 ?_))
 refine cs rfl rfl hm ?_ ?_ <;> intro aU hm
 exact eE hm
 exact eE hm
 refine qad (cs rfl rfl hm ?_ ?_) <;> intro aW hm
 refine qaf rfl (ct aW (qa1 ?_))
 refine cs rfl rfl hm ?_ ?_ <;> intro aU hm
 exact eE hm
 exact eE hm
 refine qad (cs rfl rfl hm ?_ ?_) <;> intro aW hm
 refine qaf rfl (ct aW (qa1 ?_))
 refine cs rfl rfl hm ?_ ?_ <;> intro aU hm
 exact eE hm
 exact eE hm
 refine qad (cs rfl rfl hm ?_ ?_) <;> intro aW hm
 refine qa1 ?_
 refine cs rfl rfl hm ?_ ?_ <;> intro aU hm
 exact eE hm
 exact eE hm
 refine qad (cs rfl rfl hm ?_ ?_) <;> intro bb hm
 refine qa1 ?_
 refine cs rfl rfl hm ?_ ?_ <;> intro aU hm
 exact eE hm
 exact eE hm
 refine qad (cs rfl rfl hm ?_ ?_) <;> intro bt hm
 refine qah rfl ?_
 refine fa rfl (ro (ld r0 rfl rfl ?_))
 refine cb hm fun bc a6 hm => cg0 (Jdv a6 :) ?_
 obtain ⟨bh, aV, hm⟩ := bnd hm
 refine cS aV (fun aT aV => ?_) fun aT aV => ?_
 refine ct aT (ct aT (ct aT (qa1 (qaf rfl (cF ?_)))))
 replace hm := qa6 (qeb (si aV).symm) hm
 exact eE hm
 refine fa rfl (cf aT (ro (ld r0 rfl rfl (cf aT ?_))))
 refine cb aV fun br aY aV => cg0 (Jdv aY :) ?_
 refine cf aT (qa1 (qaf rfl ?_))
 refine qag ?_ ?_ <;> intro aU
 replace hm := ift (qii ((si aV).symm.trans (qra aU))) hm
 exact eE hm
 replace hm := qa6 (qeb ((si aV).symm.trans (qlu aU))) hm
 exact eE hm
 refine qad (cs rfl rfl hm ?_ ?_) <;> intro bu hm
 refine fa rfl (ro (ld r0 rfl rfl ?_))
 refine cb hm fun bf aZ hm => cg0 (JeT aZ :) ?_
 refine qa1 ?_
 refine cs rfl rfl hm ?_ ?_ <;> intro aU hm
 exact eE hm
 exact eE hm
 refine qad (cs rfl rfl hm ?_ ?_) <;> intro bm hm
 refine fa rfl (ro (ld r0 rfl rfl ?_))
 refine cb hm fun bg ba hm => cg0 (Jcu ba :) ?_
 refine qa1 ?_
 refine cs rfl rfl hm ?_ ?_ <;> intro aU hm
 exact eE hm
 exact eE hm
 refine qad (cs rfl rfl hm ?_ ?_) <;> intro bn hm
 refine qah rfl ?_
 refine fa rfl (ro (ld r0 rfl rfl (qam ?_)))
 refine qag ?_ ?_ <;> intro aS
 refine ct aS (ct aS (ct aS (qa1 (qaf rfl (cF ?_)))))
 replace hm := qa6 (qeb (qcj aS)) hm
 exact eE hm
 refine fa rfl (cf aS (ro (ld r0 rfl rfl (cf aS (qam (cf aS (qa1 (qaf rfl ?_))))))))
 refine qag ?_ ?_ <;> intro aU
 replace hm := ift (qii (qee aS (qra aU))) hm
 exact eE hm
 replace hm := qa6 (qeb (qf0 aS (qlu aU))) hm
 exact eE hm
 refine qad (cs rfl rfl hm ?_ ?_) <;> intro bd hm
 refine fa rfl (ro (ld r0 rfl rfl ?_))
 refine cb hm fun bo a8 hm => cgx (Jdh a8 :) ?_
 refine qa1 ?_
 refine cs rfl rfl hm ?_ ?_ <;> intro aU hm
 exact eE hm
 exact eE hm
 refine qad (cs rfl rfl hm ?_ ?_) <;> intro bj hm
 refine fa rfl (ro (ld r0 rfl rfl ?_))
 refine cb hm fun bp aX hm => cgx (Jdh aX :) ?_
 refine qa1 ?_
 refine cs rfl rfl hm ?_ ?_ <;> intro aU hm
 exact eE hm
 exact eE hm
 exact eE hm

def JJ (rec_ : (Ja → Option (Bool))) : List Ja → Nat → Option (Fl (Bool) (Unit))
  | [], _ => some (Fl.go ())
  | e0 :: aT, i0 =>
    (rec_ e0).bind fun aS =>
    if (!aS) then
    some (Fl.ret false)
    else
    JJ rec_ aT (i0 + 1)
def Jr : Nat → Ja → Option (Bool)
  | 0, _ => none
  | n + 1, n' =>
    (Jv n n').bind fun x7 =>
    if decide (x7 = (-2)) then
    some false
    else
    if (decide (x7 ≥ 0) && decide ((n'.Aa.length : Int) ≠ x7)) then
    some false
    else
    (chk (n'.Aa.length ≤ qax)).bind fun _ =>
    (JJ (Jr n) n'.Aa 0).bind fun s0 => s0.el some fun t0 =>
    some true
theorem J8 : ∀ {n : Nat} {n' : Ja} {aa : Option Addr} {ab : Nat} {K : Hp} {r : Bool}
    (hm : Jr n n' = some r) (hX : LiC Ja.R K aa ab 4 n'.Aa ∧ GG K),
    Fn Tryz.prog 156 [.agg #[.int .i64 n'.Ab, str n'.Ac, .slice aa n'.Aa.length ab, .int .i64 n'.Ad]] K [] (fun v K' H' => v = .bool r ∧ H' = []) := by
 intro n
 induction n with
 | zero =>
   intro n' aa ab K r hm hX
   rw [Jr.eq_1] at hm; cases hm
 | succ n ih =>
   intro n' aa ab K r hm hX
   obtain ⟨ae, hG⟩ := hX
   refine Fn.enter Tryz.func156 Tryz.call156 rfl fun F => ?_
   rw [Jr.eq_2] at hm
   refine qaq ?_
   intro b1
   refine ro (qae r0 rfl (nl rfl) ?_)
   refine cb hm fun x7 q7 hm => cgx (JeF q7 :) ?_
   refine qah rfl ?_
   refine qad ?_
   refine cS hm (fun aT hm => ?_) fun aT hm => ?_
   refine ct aT (ct aT (ct aT (ct aT (qaf rfl (cT ?_)))))
   exact eE hm
   refine cf aT (cf aT ?_)
   refine qag ?_ ?_ <;> intro aS
   refine fa rfl (ct aS (ro (ld r0 rfl rfl (ct aS (ro (qaj rfl (ct aS (ct aS (qa2 ?_)))))))))
   refine cf aT (ct aS (cf aT (qaf rfl ?_)))
   refine qag ?_ ?_ <;> intro bg
   replace hm := ift (qby aS bg) hm
   exact eE hm
   replace hm := qa6 (qb8 aS bg) hm
   refine fa rfl (ro (ld r0 rfl rfl (ro (qaj rfl ?_))))
   obtain ⟨bb, hm⟩ := qay hm
   obtain ⟨s0, aU, hm⟩ := bnd hm
   refine lD (σ := (Unit)) ([2,5] ++ rg 24 8) [0, 1] (fun i0 => [(24, .int .i64 (i0 : Int))]) (fun _ => []) (fun _ => []) (fun _ => True) (fun i0 _ => JJ (Jr n) (n'.Aa.drop i0) i0 = some s0) (fun t0 => s0 = Fl.go t0) (fun i0 => n'.Aa.length - i0) 0 () aU (And.intro qe (And.intro ?_ ?_))
   clear aU
   rintro i0 _ _ aU j0
   conv at aU => whnf
   refine qaf rfl ?_
   refine qag ?_ ?_ <;> intro w0
   obtain ⟨e0, aV, bf⟩ := ltx w0
   rw [bf, JJ.eq_2] at aU
   refine qai rfl ?_
   refine RStep.ofN (qac rfl rfl (qcf ae.rd aV) (nn _) (qbg aV) ?_)
   obtain ⟨bc, ba, aW, aY, aX⟩ := LiR.get ae.rd aV
   obtain ⟨a6, a8, rfl, aZ⟩ := Ja.out aX
   refine ro (qap i0 _ aW rfl aY rfl ?_)
   refine qal rfl fun b5 => ?_
   refine qaa r0 rfl ⟨rfl, rfl, (nl rfl), ?_⟩
   refine ro (qae r0 rfl (nl rfl) ?_)
   refine cb aU fun bj bd aU => cgx (ih bd :) ?_
   refine qa1 ?_
   refine cs rfl rfl aU ?_ ?_ <;> intro bh aU
   exact eE (er aU hm)
   refine qar (qbu aV bb) ?_
   exact eR aU (_, ())
   rw [lty w0, JJ.eq_1] at aU
   refine cT ?_
   exact eM aU _
   rintro t0 _ rfl j0
   replace hm := elg hm
   exact eE hm
   refine cf aS (cf aS (cf aS (cf aS (cf aT (cf aS (cf aT (qaf rfl ?_)))))))
   refine cF ?_
   replace hm := qa6 (qa0 aS) hm
   refine fa rfl (ro (ld r0 rfl rfl (ro (qaj rfl ?_))))
   obtain ⟨bb, hm⟩ := qay hm
   obtain ⟨s0, aU, hm⟩ := bnd hm
   refine lD (σ := (Unit)) ([2,5] ++ rg 24 8) [0, 1] (fun i0 => [(24, .int .i64 (i0 : Int))]) (fun _ => []) (fun _ => []) (fun _ => True) (fun i0 _ => JJ (Jr n) (n'.Aa.drop i0) i0 = some s0) (fun t0 => s0 = Fl.go t0) (fun i0 => n'.Aa.length - i0) 0 () aU (And.intro qe (And.intro ?_ ?_))
   clear aU
   rintro i0 _ _ aU j0
   conv at aU => whnf
   refine qaf rfl ?_
   refine qag ?_ ?_ <;> intro w0
   obtain ⟨e0, aV, bf⟩ := ltx w0
   rw [bf, JJ.eq_2] at aU
   refine qai rfl ?_
   refine RStep.ofN (qac rfl rfl (qcf ae.rd aV) (nn _) (qbg aV) ?_)
   obtain ⟨bc, ba, aW, aY, aX⟩ := LiR.get ae.rd aV
   obtain ⟨a6, a8, rfl, aZ⟩ := Ja.out aX
   refine ro (qap i0 _ aW rfl aY rfl ?_)
   refine qal rfl fun b5 => ?_
   refine qaa r0 rfl ⟨rfl, rfl, (nl rfl), ?_⟩
   refine ro (qae r0 rfl (nl rfl) ?_)
   refine cb aU fun bj bd aU => cgx (ih bd :) ?_
   refine qa1 ?_
   refine cs rfl rfl aU ?_ ?_ <;> intro bh aU
   exact eE (er aU hm)
   refine qar (qbu aV bb) ?_
   exact eR aU (_, ())
   rw [lty w0, JJ.eq_1] at aU
   refine cT ?_
   exact eM aU _
   rintro t0 _ rfl j0
   replace hm := elg hm
   exact eE hm

def JW (az : (Ja → Option (Bool))) : List Ja → Nat → Option (Fl (Bool) (Unit))
  | [], _ => some (Fl.go ())
  | e0 :: aS, i0 =>
    (az e0).bind fun aT =>
    if (!aT) then
    some (Fl.ret false)
    else
    JW az aS (i0 + 1)
def JaI (az : (Ja → Option (Bool))) (n : Nat) (n' : Ja) : Option (Bool) :=
  if (decide (n'.Ab ≠ 12) || decide (n'.Ac ≠ ([] : Str))) then
  some false
  else
  (chk (n'.Aa.length ≤ qax)).bind fun _ =>
  (JW az n'.Aa 0).bind fun s0 => s0.el some fun t0 =>
  some true
theorem JdE {az : (Ja → Option (Bool))} (ihrec0_0 : ∀ {n' : Ja} {aa : Option Addr} {ab : Nat} {K : Hp} {r : Bool} (hm : az n' = some r) (hX : LiC Ja.R K aa ab 4 n'.Aa ∧ GG K), Fn Tryz.prog 125 [.agg #[.int .i64 n'.Ab, str n'.Ac, .slice aa n'.Aa.length ab, .int .i64 n'.Ad]] K [] (fun v K' H' => v = .bool r ∧ H' = [])) {n : Nat} {n' : Ja} {aa : Option Addr} {ab : Nat} {K : Hp} {r : Bool}
    (hm : JaI az n n' = some r) (hX : LiC Ja.R K aa ab 4 n'.Aa ∧ GG K) :
    Fn Tryz.prog 157 [.agg #[.int .i64 n'.Ab, str n'.Ac, .slice aa n'.Aa.length ab, .int .i64 n'.Ad]] K [] (fun v K' H' => v = .bool r ∧ H' = []) := by
 obtain ⟨ae, hG⟩ := hX
 refine Fn.enter Tryz.func157 Tryz.call157 rfl fun F => ?_
 unfold JaI at hm
 refine qaq ?_
 intro b1
 refine jR (σ := Unit) (rg 5 8) (fun _ => [(12, .bool (decide (n'.Ab ≠ 12) || decide (n'.Ac ≠ ([] : Str))))]) (fun bc => True) ?_ ?_
 refine qah rfl ?_
 refine fa rfl (ro (ld r0 rfl rfl (qa2 ?_)))
 refine qag ?_ ?_ <;> intro aS
 refine ct aS (ct aS (ct aS ?_))
 exact eMt () ⟨bq (((qcj aS)).symm), trivial⟩
 refine fa rfl (cf aS (ro (ld r0 rfl rfl (cf aS (qb4 (cf aS ?_))))))
 exact eMt () ⟨bq (qhe (b := decide (n'.Ac ≠ ([] : Str))) aS), trivial⟩
 rintro _ _ bg
 refine cs rfl rfl hm ?_ ?_ <;> intro bm hm
 exact eE hm
 refine fa rfl (ro (ld r0 rfl rfl (ro (qaj rfl ?_))))
 obtain ⟨a8, hm⟩ := qay hm
 obtain ⟨s0, aT, hm⟩ := bnd hm
 refine lD (σ := (Unit)) ([2,4] ++ rg 16 8) [0, 1] (fun i0 => [(16, .int .i64 (i0 : Int))]) (fun _ => []) (fun _ => []) (fun _ => True) (fun i0 _ => JW az (n'.Aa.drop i0) i0 = some s0) (fun t0 => s0 = Fl.go t0) (fun i0 => n'.Aa.length - i0) 0 () aT (And.intro qe (And.intro ?_ ?_))
 clear aT
 rintro i0 _ _ aT j0
 conv at aT => whnf
 refine qaf rfl ?_
 refine qag ?_ ?_ <;> intro w0
 obtain ⟨e0, aU, bf⟩ := ltx w0
 rw [bf, JW.eq_2] at aT
 refine qai rfl ?_
 refine RStep.ofN (qac rfl rfl (qcf ae.rd aU) (nn _) (qbg aU) ?_)
 obtain ⟨ba, bb, aX, aW, aV⟩ := LiR.get ae.rd aU
 obtain ⟨aY, a6, rfl, aZ⟩ := Ja.out aV
 refine ro (qap i0 _ aX rfl aW rfl ?_)
 refine qal rfl fun b4 => ?_
 refine qaa r0 rfl ⟨rfl, rfl, (nl rfl), ?_⟩
 refine ro (qae r0 rfl (nl rfl) ?_)
 refine cb aT fun bh bd aT => cgx (ihrec0_0 bd :) ?_
 refine qa1 ?_
 refine cs rfl rfl aT ?_ ?_ <;> intro bj aT
 exact eE (er aT hm)
 refine qar (qbu aU a8) ?_
 exact eR aT (_, ())
 rw [lty w0, JW.eq_1] at aT
 refine cT ?_
 exact eM aT _
 rintro t0 _ rfl j0
 replace hm := elg hm
 exact eE hm

def Js : Nat → Ja → Option (Bool)
  | 0, _ => none
  | n + 1, n' =>
    if decide (n'.Ab = 2) then
    (if ((decide (n'.Ac ≠ ([] : Str)) || decide ((n'.Aa.length : Int) < 2)) || decide ((n'.Aa.length : Int) > 3)) then some true else (ix n'.Aa 0).bind fun aX =>
    (Jr n aX).bind fun bd =>
    some (!bd)).bind fun a8 =>
    (if a8 then some true else (ix n'.Aa 1).bind fun bm =>
    (JaI (Js n) n bm).bind fun bj =>
    some (!bj)).bind fun aY =>
    if aY then
    some false
    else
    (if decide ((n'.Aa.length : Int) = 2) then some true else (ix n'.Aa 2).bind fun bf =>
    (JaI (Js n) n bf).bind fun bc =>
    some bc).bind fun aZ =>
    if aZ then
    some true
    else
    (ix n'.Aa 2).bind fun bb =>
    (if decide (bb.Ab = 2) then (ix n'.Aa 2).bind fun bg =>
    ((Js n) bg).bind fun ba =>
    some ba else some false).bind fun a6 =>
    some a6
    else
    if decide (n'.Ab = 6) then
    (JaR n'.Ac).bind fun bh =>
    some (bh && decide ((n'.Aa.length : Int) = 0))
    else
    if decide (n'.Ab = 10) then
    some (decide (n'.Ac = ([] : Str)) && decide ((n'.Aa.length : Int) = 0))
    else
    if decide (n'.Ab = 11) then
    some (decide (n'.Ac = ([] : Str)) && decide ((n'.Aa.length : Int) = 0))
    else
    if decide (n'.Ab = 3) then
    (JbY n n'.Ac).bind fun aW =>
    if (!aW) then
    some false
    else
    (if decide ((n'.Aa.length : Int) = 1) then (ix n'.Aa 0).bind fun aS =>
    (Jr n aS).bind fun aT =>
    some aT else some false).bind fun aU =>
    some aU
    else
    if decide (n'.Ab = 4) then
    if (decide (n'.Ac ≠ ([112, 97, 116, 104] : Str)) && decide (n'.Ac ≠ ([113, 117, 101, 114, 121] : Str))) then
    some false
    else
    (if decide ((n'.Aa.length : Int) = 1) then (ix n'.Aa 0).bind fun aS =>
    (Jr n aS).bind fun aT =>
    some aT else some false).bind fun aU =>
    some aU
    else
    if decide (n'.Ab = 5) then
    (JaR n'.Ac).bind fun aV =>
    if (!aV) then
    some false
    else
    (if decide ((n'.Aa.length : Int) = 1) then (ix n'.Aa 0).bind fun aS =>
    (Jr n aS).bind fun aT =>
    some aT else some false).bind fun aU =>
    some aU
    else
    if decide (n'.Ab = 7) then
    if decide (n'.Ac ≠ ([] : Str)) then
    some false
    else
    (if decide ((n'.Aa.length : Int) = 1) then (ix n'.Aa 0).bind fun aS =>
    (Jr n aS).bind fun aT =>
    some aT else some false).bind fun aU =>
    some aU
    else
    if decide (n'.Ab = 8) then
    if decide (n'.Ac ≠ ([] : Str)) then
    some false
    else
    (if decide ((n'.Aa.length : Int) = 1) then (ix n'.Aa 0).bind fun aS =>
    (Jr n aS).bind fun aT =>
    some aT else some false).bind fun aU =>
    some aU
    else
    if decide (n'.Ab = 9) then
    if decide (n'.Ac ≠ ([] : Str)) then
    some false
    else
    (if decide ((n'.Aa.length : Int) = 1) then (ix n'.Aa 0).bind fun aS =>
    (Jr n aS).bind fun aT =>
    some aT else some false).bind fun aU =>
    some aU
    else
    some false
theorem JeV : ∀ {n : Nat} {n' : Ja} {aa : Option Addr} {ab : Nat} {K : Hp} {r : Bool}
    (hm : Js n n' = some r) (hX : LiC Ja.R K aa ab 4 n'.Aa ∧ GG K),
    Fn Tryz.prog 125 [.agg #[.int .i64 n'.Ab, str n'.Ac, .slice aa n'.Aa.length ab, .int .i64 n'.Ad]] K [] (fun v K' H' => v = .bool r ∧ H' = []) := by
 intro n
 induction n with
 | zero =>
   intro n' aa ab K r hm hX
   rw [Js.eq_1] at hm; cases hm
 | succ n ih =>
   intro n' aa ab K r hm hX
   obtain ⟨ae, hG⟩ := hX
   refine Fn.enter Tryz.func125 Tryz.call125 rfl fun F => ?_
   rw [Js.eq_2] at hm
   refine qaq ?_
   intro b1
   refine fa rfl (ro (ld r0 rfl rfl ?_))
   refine qai rfl ?_
   refine qad (cs rfl rfl hm ?_ ?_) <;> intro w6 hm
   refine fa rfl (ro (ld r0 rfl rfl (ro (qaj rfl ?_))))
   refine qah rfl ?_
   refine fa rfl (ro (ld r0 rfl rfl (qb4 ?_)))
   refine qag ?_ ?_ <;> intro bn
   refine ct bn (ct bn (cT (cT (cT ?_))))
   obtain ⟨cz, bu, hm⟩ := bnd hm
   replace bu := ift (qcj (qcj bn)) bu
   refine cT (cT (cT (cT (cT (cT (cT ?_))))))
   obtain ⟨bZ, bp, hm⟩ := bnd hm
   replace bp := ift (si bu).symm bp
   refine cT (cT (cT (cT (cT (cT (cT (qaf rfl ?_)))))))
   refine cT ?_
   replace hm := ift (si bp).symm hm
   exact eE hm
   refine cf bn (cf bn ?_)
   refine qag ?_ ?_ <;> intro bo
   refine ct bo (ct bo ?_)
   obtain ⟨cz, bu, hm⟩ := bnd hm
   replace bu := ift (qcj (qf0 bn bo)) bu
   refine cT (cT (cT (cT (cT (cT (cT ?_))))))
   obtain ⟨bZ, bp, hm⟩ := bnd hm
   replace bp := ift (si bu).symm bp
   refine cT (cT (cT (cT (cT (cT (cT (qaf rfl ?_)))))))
   refine cT ?_
   replace hm := ift (si bp).symm hm
   exact eE hm
   refine cf bo (cf bo ?_)
   obtain ⟨cz, bu, hm⟩ := bnd hm
   refine qag ?_ ?_ <;> intro aX
   replace bu := ift (qf0 (qee bn bo) aX) bu
   refine ct aX (ct aX (ct aX (ct aX (ct aX (ct aX ?_)))))
   obtain ⟨bZ, bp, hm⟩ := bnd hm
   replace bp := ift (si bu).symm bp
   refine cT (cT (cT (cT (cT (cT (cT (qaf rfl ?_)))))))
   refine cT ?_
   replace hm := ift (si bp).symm hm
   exact eE hm
   replace bu := qa6 (qee (qee bn bo) aX) bu
   refine fa rfl (cf aX (ro (ld r0 rfl rfl (cf aX ?_))))
   obtain ⟨dB, cM, bI, bu⟩ := ixb bu
   refine RStep.ofN (qac rfl rfl (qcf ae.rd bI) cM (qas rfl cM bI) (cf aX ?_))
   obtain ⟨cZ, da, bR, bT, bK⟩ := LiR.get ae.rd bI
   obtain ⟨cA, cu, rfl, cK⟩ := Ja.out bK
   refine ro (qap ((0 : Int).toNat) _ bR rfl bT rfl (cf aX ?_))
   refine cb bu fun dt dh bu => cgx (J8 dh :) ?_
   refine cf aX (qa1 (cf aX ?_))
   obtain ⟨bZ, bp, hm⟩ := bnd hm
   refine qag ?_ ?_ <;> intro aY
   replace bp := ift ((si bu).symm.trans (qii (qra aY))) bp
   refine ct aY (ct aY (ct aY (ct aY (ct aY (ct aY (qaf rfl (cT ?_)))))))
   replace hm := ift (si bp).symm hm
   exact eE hm
   replace bp := qa6 ((si bu).symm.trans (qeb (qlu aY))) bp
   refine fa rfl (cf aY (ro (ld r0 rfl rfl (cf aY ?_))))
   obtain ⟨dA, cG, ca, bp⟩ := ixb bp
   refine RStep.ofN (qac rfl rfl (qcf ae.rd ca) cG (qas rfl cG ca) (cf aY ?_))
   obtain ⟨cV, cQ, bP, ce, cd⟩ := LiR.get ae.rd ca
   obtain ⟨co, cD, rfl, cB⟩ := Ja.out cd
   refine ro (qap ((1 : Int).toNat) _ bP rfl ce rfl (cf aY ?_))
   refine cb bp fun dp cR bp => cgx (JdE ih cR :) ?_
   refine cf aY (qa1 (cf aY (qaf rfl ?_)))
   refine qag ?_ ?_ <;> intro cI
   replace hm := ift ((si bp).symm.trans (qii (qra cI))) hm
   exact eE hm
   replace hm := qa6 ((si bp).symm.trans (qeb (qlu cI))) hm
   refine qah rfl ?_
   refine qad ?_
   obtain ⟨dx, bB, hm⟩ := bnd hm
   refine cS bB (fun bd bB => ?_) fun bd bB => ?_
   refine ct bd (ct bd (ct bd (ct bd (ct bd ?_))))
   replace hm := ift (si bB).symm hm
   refine cT (cT (cT (cT (cT (cT (cT (cT ?_)))))))
   refine cT ?_
   exact eE hm
   refine fa rfl (cf bd (ro (ld r0 rfl rfl (cf bd ?_))))
   obtain ⟨dD, cp, bW, bB⟩ := ixb bB
   refine RStep.ofN (qac rfl rfl (qcf ae.rd bW) cp (qas rfl cp bW) (cf bd ?_))
   obtain ⟨cW, dj, bV, bX, bO⟩ := LiR.get ae.rd bW
   obtain ⟨cC, cw, rfl, cr⟩ := Ja.out bO
   refine ro (qap ((2 : Int).toNat) _ bV rfl bX rfl (cf bd ?_))
   refine cb bB fun dy dc bB => cgx (JdE ih dc :) ?_
   refine cf bd ?_
   refine qag ?_ ?_ <;> intro aV
   replace hm := ift ((si bB).symm.trans aV) hm
   refine ct aV (ct aV (ct aV (ct aV (ct aV (ct aV (ct aV (ct aV ?_)))))))
   exact eE hm
   replace hm := qa6 ((si bB).symm.trans aV) hm
   refine fa rfl (cf aV (ro (ld r0 rfl rfl (cf aV ?_))))
   obtain ⟨du, cO, bH, hm⟩ := ixb hm
   refine RStep.ofN (qac rfl rfl (qcf ae.rd bH) cO (qas rfl cO bH) (cf aV (qaw rfl (qcf ae.rd bH) (cf aV ?_))))
   obtain ⟨de, cY, bY, bQ, bN⟩ := LiR.get ae.rd bH
   obtain ⟨cm, cn, rfl, cE⟩ := Ja.out bN
   refine ro (qbd ((2 : Int).toNat) 0 _ _ bY rfl bQ rfl rfl (cf aV (qad (cf aV ?_))))
   obtain ⟨dq, bD, hm⟩ := bnd hm
   refine cS bD (fun bc bD => ?_) fun bc bD => ?_
   refine fa rfl (ct bc (ro (ld r0 rfl rfl (ct bc ?_))))
   obtain ⟨dl, cH, bL, bD⟩ := ixb bD
   refine RStep.ofN (qac rfl rfl (qcf ae.rd bL) cH (qas rfl cH bL) (ct bc ?_))
   obtain ⟨df, c8, bM, bJ, bS⟩ := LiR.get ae.rd bL
   obtain ⟨cq, cJ, rfl, cj⟩ := Ja.out bS
   refine ro (qap ((2 : Int).toNat) _ bM rfl bJ rfl (ct bc ?_))
   refine cb bD fun dk cP bD => cgx (ih cP :) ?_
   refine cf aV (ct bc (cf aV ?_))
   exact bE (si bD) (eE hm)
   refine cf bc (cf bc (cf bc (cf bc (cf aV (cf bc (cf aV ?_))))))
   exact bE (si bD) (eE hm)
   refine qad (cs rfl rfl hm ?_ ?_) <;> intro dE hm
   refine qah rfl ?_
   refine fa rfl (ro (ld r0 rfl rfl ?_))
   refine cb hm fun dz db hm => cg0 (Jcu db :) ?_
   refine qag ?_ ?_ <;> intro bf
   refine fa rfl (ct bf (ro (ld r0 rfl rfl (ct bf (ro (qaj rfl (ct bf (qad (ct bf ?_)))))))))
   exact bE (qbw (b := decide ((n'.Aa.length : Int) = 0)) bf) (eE hm)
   refine cf bf (cf bf (cf bf (cf bf ?_)))
   exact bE (((qa0 bf)).symm) (eE hm)
   refine qad (cs rfl rfl hm ?_ ?_) <;> intro cL hm
   refine qaf rfl (ct cL ?_)
   refine qah rfl ?_
   refine fa rfl (ro (ld r0 rfl rfl (qam ?_)))
   refine qag ?_ ?_ <;> intro aU
   refine fa rfl (ct aU (ro (ld r0 rfl rfl (ct aU (ro (qaj rfl (ct aU (qad (ct aU ?_)))))))))
   exact bE (qbw (b := decide ((n'.Aa.length : Int) = 0)) aU) (eE hm)
   refine cf aU (cf aU (cf aU (cf aU ?_)))
   exact bE (((qa0 aU)).symm) (eE hm)
   refine qad (cs rfl rfl hm ?_ ?_) <;> intro cL hm
   refine qah rfl ?_
   refine fa rfl (ro (ld r0 rfl rfl (qam ?_)))
   refine qag ?_ ?_ <;> intro aU
   refine fa rfl (ct aU (ro (ld r0 rfl rfl (ct aU (ro (qaj rfl (ct aU (qad (ct aU ?_)))))))))
   exact bE (qbw (b := decide ((n'.Aa.length : Int) = 0)) aU) (eE hm)
   refine cf aU (cf aU (cf aU (cf aU ?_)))
   exact bE (((qa0 aU)).symm) (eE hm)
   refine qad (cs rfl rfl hm ?_ ?_) <;> intro dm hm
   refine fa rfl (ro (ld r0 rfl rfl ?_))
   refine cb hm fun dv di hm => cgx (Jdh di :) ?_
   refine qa1 ?_
   refine cs rfl rfl hm ?_ ?_ <;> intro dw hm
   exact eE hm
   refine qah rfl ?_
   refine fa rfl (ro (ld r0 rfl rfl (ro (qaj rfl (qad ?_)))))
   obtain ⟨bz, aT, hm⟩ := bnd hm
   refine cS aT (fun aS aT => ?_) fun aS aT => ?_
   refine fa rfl (ct aS (ro (ld r0 rfl rfl (ct aS ?_))))
   obtain ⟨bA, ba, aW, aT⟩ := ixb aT
   refine RStep.ofN (qac rfl rfl (qcf ae.rd aW) ba (qas rfl ba aW) (ct aS ?_))
   obtain ⟨bt, br, aZ, a6, a8⟩ := LiR.get ae.rd aW
   obtain ⟨bm, bg, rfl, bh⟩ := Ja.out a8
   refine ro (qap ((0 : Int).toNat) _ aZ rfl a6 rfl (ct aS ?_))
   refine cb aT fun bw bj aT => cgx (J8 bj :) ?_
   refine ct aS ?_
   exact bE (si aT) (eE hm)
   refine cf aS (cf aS (cf aS (cf aS (cf aS ?_))))
   exact bE (si aT) (eE hm)
   refine qad (cs rfl rfl hm ?_ ?_) <;> intro dC hm
   refine qah rfl ?_
   refine fa rfl (ro (ld r0 rfl rfl (qb4 ?_)))
   refine qag ?_ ?_ <;> intro bb
   refine fa rfl (ct bb (ro (ld r0 rfl rfl (ct bb (qb4 (ct bb (qaf rfl ?_)))))))
   refine qag ?_ ?_ <;> intro bF
   replace hm := ift (qby bb bF) hm
   exact eE hm
   replace hm := qa6 (qb8 bb bF) hm
   refine qah rfl ?_
   refine fa rfl (ro (ld r0 rfl rfl (ro (qaj rfl (qad ?_)))))
   obtain ⟨bz, aT, hm⟩ := bnd hm
   refine cS aT (fun aS aT => ?_) fun aS aT => ?_
   refine fa rfl (ct aS (ro (ld r0 rfl rfl (ct aS ?_))))
   obtain ⟨bA, ba, aW, aT⟩ := ixb aT
   refine RStep.ofN (qac rfl rfl (qcf ae.rd aW) ba (qas rfl ba aW) (ct aS ?_))
   obtain ⟨bt, br, aZ, a6, a8⟩ := LiR.get ae.rd aW
   obtain ⟨bm, bg, rfl, bh⟩ := Ja.out a8
   refine ro (qap ((0 : Int).toNat) _ aZ rfl a6 rfl (ct aS ?_))
   refine cb aT fun bw bj aT => cgx (J8 bj :) ?_
   refine ct aS ?_
   exact bE (si aT) (eE hm)
   refine cf aS (cf aS (cf aS (cf aS (cf aS ?_))))
   exact bE (si aT) (eE hm)
   refine cf bb (cf bb (cf bb (qaf rfl (cF ?_))))
   replace hm := qa6 (qa0 bb) hm
   refine qah rfl ?_
   refine fa rfl (ro (ld r0 rfl rfl (ro (qaj rfl (qad ?_)))))
   obtain ⟨bz, aT, hm⟩ := bnd hm
   refine cS aT (fun aS aT => ?_) fun aS aT => ?_
   refine fa rfl (ct aS (ro (ld r0 rfl rfl (ct aS ?_))))
   obtain ⟨bA, ba, aW, aT⟩ := ixb aT
   refine RStep.ofN (qac rfl rfl (qcf ae.rd aW) ba (qas rfl ba aW) (ct aS ?_))
   obtain ⟨bt, br, aZ, a6, a8⟩ := LiR.get ae.rd aW
   obtain ⟨bm, bg, rfl, bh⟩ := Ja.out a8
   refine ro (qap ((0 : Int).toNat) _ aZ rfl a6 rfl (ct aS ?_))
   refine cb aT fun bw bj aT => cgx (J8 bj :) ?_
   refine ct aS ?_
   exact bE (si aT) (eE hm)
   refine cf aS (cf aS (cf aS (cf aS (cf aS ?_))))
   exact bE (si aT) (eE hm)
   refine qad (cs rfl rfl hm ?_ ?_) <;> intro cX hm
   refine fa rfl (ro (ld r0 rfl rfl ?_))
   refine cb hm fun cU bU hm => cg0 (Jcu bU :) ?_
   refine qa1 ?_
   refine cs rfl rfl hm ?_ ?_ <;> intro dg hm
   exact eE hm
   refine qah rfl ?_
   refine fa rfl (ro (ld r0 rfl rfl (ro (qaj rfl (qad ?_)))))
   obtain ⟨bz, aT, hm⟩ := bnd hm
   refine cS aT (fun aS aT => ?_) fun aS aT => ?_
   refine fa rfl (ct aS (ro (ld r0 rfl rfl (ct aS ?_))))
   obtain ⟨bA, ba, aW, aT⟩ := ixb aT
   refine RStep.ofN (qac rfl rfl (qcf ae.rd aW) ba (qas rfl ba aW) (ct aS ?_))
   obtain ⟨bt, br, aZ, a6, a8⟩ := LiR.get ae.rd aW
   obtain ⟨bm, bg, rfl, bh⟩ := Ja.out a8
   refine ro (qap ((0 : Int).toNat) _ aZ rfl a6 rfl (ct aS ?_))
   refine cb aT fun bw bj aT => cgx (J8 bj :) ?_
   refine ct aS ?_
   exact bE (si aT) (eE hm)
   refine cf aS (cf aS (cf aS (cf aS (cf aS ?_))))
   exact bE (si aT) (eE hm)
   refine qad (cs rfl rfl hm ?_ ?_) <;> intro bC hm
   refine qaf rfl (ct bC (fa rfl (ro (ld r0 rfl rfl (qb4 ?_)))))
   refine cs rfl rfl hm ?_ ?_ <;> intro bG hm
   exact eE hm
   refine qah rfl ?_
   refine fa rfl (ro (ld r0 rfl rfl (ro (qaj rfl (qad ?_)))))
   obtain ⟨bz, aT, hm⟩ := bnd hm
   refine cS aT (fun aS aT => ?_) fun aS aT => ?_
   refine fa rfl (ct aS (ro (ld r0 rfl rfl (ct aS ?_))))
   obtain ⟨bA, ba, aW, aT⟩ := ixb aT
   refine RStep.ofN (qac rfl rfl (qcf ae.rd aW) ba (qas rfl ba aW) (ct aS ?_))
   obtain ⟨bt, br, aZ, a6, a8⟩ := LiR.get ae.rd aW
   obtain ⟨bm, bg, rfl, bh⟩ := Ja.out a8
   refine ro (qap ((0 : Int).toNat) _ aZ rfl a6 rfl (ct aS ?_))
   refine cb aT fun bw bj aT => cgx (J8 bj :) ?_
   refine ct aS ?_
   exact bE (si aT) (eE hm)
   refine cf aS (cf aS (cf aS (cf aS (cf aS ?_))))
   exact bE (si aT) (eE hm)
   refine qad (cs rfl rfl hm ?_ ?_) <;> intro bC hm
   refine qaf rfl (ct bC (fa rfl (ro (ld r0 rfl rfl (qb4 ?_)))))
   refine cs rfl rfl hm ?_ ?_ <;> intro bG hm
   exact eE hm
   refine qah rfl ?_
   refine fa rfl (ro (ld r0 rfl rfl (ro (qaj rfl (qad ?_)))))
   obtain ⟨bz, aT, hm⟩ := bnd hm
   refine cS aT (fun aS aT => ?_) fun aS aT => ?_
   refine fa rfl (ct aS (ro (ld r0 rfl rfl (ct aS ?_))))
   obtain ⟨bA, ba, aW, aT⟩ := ixb aT
   refine RStep.ofN (qac rfl rfl (qcf ae.rd aW) ba (qas rfl ba aW) (ct aS ?_))
   obtain ⟨bt, br, aZ, a6, a8⟩ := LiR.get ae.rd aW
   obtain ⟨bm, bg, rfl, bh⟩ := Ja.out a8
   refine ro (qap ((0 : Int).toNat) _ aZ rfl a6 rfl (ct aS ?_))
   refine cb aT fun bw bj aT => cgx (J8 bj :) ?_
   refine ct aS ?_
   exact bE (si aT) (eE hm)
   refine cf aS (cf aS (cf aS (cf aS (cf aS ?_))))
   exact bE (si aT) (eE hm)
   refine qad (cs rfl rfl hm ?_ ?_) <;> intro bC hm
   refine fa rfl (ro (ld r0 rfl rfl (qb4 ?_)))
   refine cs rfl rfl hm ?_ ?_ <;> intro bG hm
   exact eE hm
   refine qah rfl ?_
   refine fa rfl (ro (ld r0 rfl rfl (ro (qaj rfl (qad ?_)))))
   obtain ⟨bz, aT, hm⟩ := bnd hm
   refine cS aT (fun aS aT => ?_) fun aS aT => ?_
   refine fa rfl (ct aS (ro (ld r0 rfl rfl (ct aS ?_))))
   obtain ⟨bA, ba, aW, aT⟩ := ixb aT
   refine RStep.ofN (qac rfl rfl (qcf ae.rd aW) ba (qas rfl ba aW) (ct aS ?_))
   obtain ⟨bt, br, aZ, a6, a8⟩ := LiR.get ae.rd aW
   obtain ⟨bm, bg, rfl, bh⟩ := Ja.out a8
   refine ro (qap ((0 : Int).toNat) _ aZ rfl a6 rfl (ct aS ?_))
   refine cb aT fun bw bj aT => cgx (J8 bj :) ?_
   refine ct aS ?_
   exact bE (si aT) (eE hm)
   refine cf aS (cf aS (cf aS (cf aS (cf aS ?_))))
   exact bE (si aT) (eE hm)
   exact eE hm

def Jaz (n : Nat) : List Ja → Nat → Option (Fl (Bool) (Unit))
  | [], _ => some (Fl.go ())
  | e0 :: aS, i0 =>
    (Js n e0).bind fun aT =>
    if (!aT) then
    some (Fl.ret false)
    else
    Jaz n aS (i0 + 1)
def Jau (n : Nat) (n' : Ja) : Option (Bool) :=
  if (decide (n'.Ab ≠ 1) || decide (n'.Ac ≠ ([] : Str))) then
  some false
  else
  (Jat n n' 512 32).bind fun aS =>
  if (!aS.1) then
  some false
  else
  (chk (n'.Aa.length ≤ qax)).bind fun _ =>
  (Jaz n n'.Aa 0).bind fun s0 => s0.el some fun t0 =>
  some true
theorem Je5 {n : Nat} {n' : Ja} {aa : Option Addr} {ab : Nat} {K : Hp} {r : Bool}
    (hm : Jau n n' = some r) (hX : LiC Ja.R K aa ab 4 n'.Aa ∧ GG K) :
    Fn Tryz.prog 84 [.agg #[.int .i64 n'.Ab, str n'.Ac, .slice aa n'.Aa.length ab, .int .i64 n'.Ad]] K [] (fun v K' H' => v = .bool r ∧ H' = []) := by
 obtain ⟨ae, hG⟩ := hX
 refine Fn.enter Tryz.func84 Tryz.call84 rfl fun F => ?_
 unfold Jau at hm
 refine qaq ?_
 intro b1
 refine qal rfl fun b3 => ?_
 refine qaa r0 rfl ⟨rfl, rfl, (nl rfl), ?_⟩
 refine qah rfl ?_
 refine fa rfl (ro (ld r1 rfl rfl (qa2 ?_)))
 refine qag ?_ ?_ <;> intro aT
 refine ct aT (ct aT (ct aT ?_))
 replace hm := ift (qcj aT) hm
 refine cT (cT (cT (cT (qaf rfl (cT ?_)))))
 exact eE hm
 refine fa rfl (cf aT (ro (ld r1 rfl rfl (cf aT (qb4 (cf aT ?_))))))
 refine qag ?_ ?_ <;> intro aS
 replace hm := ift (qf0 aT aS) hm
 refine ct aS (ct aS (ct aS (qaf rfl (cT ?_))))
 exact eE hm
 replace hm := qa6 (qee aT aS) hm
 refine ro (qae r1 rfl (nl rfl) (cf aS ?_))
 refine cb hm fun bj bg hm => cgx (Je3 bg :) ?_
 refine cf aS (qa1 (cf aS ?_))
 refine cs rfl rfl hm ?_ ?_ <;> intro bm hm
 exact eE hm
 refine fa rfl (ro (ld r1 rfl rfl (ro (qaj rfl ?_))))
 obtain ⟨bb, hm⟩ := qay hm
 obtain ⟨s0, aU, hm⟩ := bnd hm
 refine lD (σ := (Unit)) ([2,5] ++ rg 22 8) [0, 1, 2] (fun i0 => [(22, .int .i64 (i0 : Int))]) (fun _ => []) (fun _ => []) (fun _ => True) (fun i0 _ => Jaz n (n'.Aa.drop i0) i0 = some s0) (fun t0 => s0 = Fl.go t0) (fun i0 => n'.Aa.length - i0) 0 () aU (And.intro qe (And.intro ?_ ?_))
 clear aU
 rintro i0 _ _ aU j0
 conv at aU => whnf
 refine qaf rfl ?_
 refine qag ?_ ?_ <;> intro w0
 obtain ⟨e0, aV, bf⟩ := ltx w0
 rw [bf, Jaz.eq_2] at aU
 refine qai rfl ?_
 refine RStep.ofN (qac rfl rfl (qcf ae.rd aV) (nn _) (qbg aV) ?_)
 obtain ⟨ba, bc, aY, aW, aX⟩ := LiR.get ae.rd aV
 obtain ⟨aZ, a8, rfl, a6⟩ := Ja.out aX
 refine ro (qap i0 _ aY rfl aW rfl ?_)
 refine qal rfl fun b5 => ?_
 refine qaa r0 rfl ⟨rfl, rfl, (nl rfl), ?_⟩
 refine ro (qae r0 rfl (nl rfl) ?_)
 refine cb aU fun bh bd aU => cgx (JeV bd :) ?_
 refine qa1 ?_
 refine cs rfl rfl aU ?_ ?_ <;> intro bn aU
 exact eE (er aU hm)
 refine qar (qbu aV bb) ?_
 exact eR aU (_, ())
 rw [lty w0, Jaz.eq_1] at aU
 refine cT ?_
 exact eM aU _
 rintro t0 _ rfl j0
 replace hm := elg hm
 exact eE hm

def JcK (name : Str) : Option (Bool) :=
  some (((decide (name = ([109, 101, 116, 104, 111, 100] : Str)) || decide (name = ([104, 111, 115, 116] : Str))) || decide (name = ([112, 97, 116, 104] : Str))) || decide (name = ([113, 117, 101, 114, 121] : Str)))
theorem Jed {name : Str} {K : Hp} {r : Bool}
    (hm : JcK name = some r)  :
    Fn Tryz.prog 170 [str name] K [] (fun v K' H' => v = .bool r ∧ H' = []) := by
 refine Fn.enter Tryz.func170 Tryz.call170 rfl fun F => ?_
 unfold JcK at hm
 refine qah rfl ?_
 refine qam ?_
 refine qag ?_ ?_ <;> intro aT
 refine ct aT (ct aT (cT (cT (cT (cT (cT (cT ?_)))))))
 exact bE (((qcj (qcj (qcj aT)))).symm) (eE hm)
 refine cf aT (qam (cf aT ?_))
 refine qag ?_ ?_ <;> intro aU
 refine ct aU (ct aU (cT (cT (cT ?_))))
 exact bE (((qcj (qcj (qf0 aT aU)))).symm) (eE hm)
 refine cf aU (qam (cf aU ?_))
 refine qag ?_ ?_ <;> intro aS
 refine ct aS (ct aS ?_)
 exact bE (((qcj (qf0 (qee aT aU) aS))).symm) (eE hm)
 refine cf aS (qam (cf aS ?_))
 exact bE (qhe (b := decide (name = ([113, 117, 101, 114, 121] : Str))) (qee (qee aT aU) aS)) (eE hm)

def Jac (env : (List Jk)) (name : Str) : Nat → Int → Option (Fl (Int) (Int))
  | 0, _ => none
  | aS + 1, ac =>
    if decide (ac ≥ 0) then
    (ix env ac).bind fun aU =>
    if decide (aU.Name = name) then
    (ix env ac).bind fun aT =>
    some (Fl.ret aT.As)
    else
    (chk (InI (ac - 1))).bind fun _ =>
    Jac env name aS (ac - 1)
    else
    some (Fl.go ac)
def JaT (n : Nat) (name : Str) (env : (List Jk)) : Option (Int) :=
  (chk (InI ((env.length : Int) - 1))).bind fun _ =>
  (Jac env name n ((env.length : Int) - 1)).bind fun s0 => s0.el some fun t0 =>
  (JcK name).bind fun aS =>
  if aS then
  some 1
  else
  some 0
theorem JdN {n : Nat} {name : Str} {env : (List Jk)} {ag : Option Addr} {ah : Nat} {n1 : Nat} {K : Hp} {r : Int}
    (hm : JaT n name env = some r) (hX : RdC Jk.enc K ag ah 2 env ∧ n1 = env.length) :
    Fn Tryz.prog 137 [str name, .slice ag n1 ah] K [] (fun v K' H' => v = .int .i64 r ∧ H' = []) := by
 obtain ⟨af, aY⟩ := hX
 subst aY
 refine Fn.enter Tryz.func137 Tryz.call137 rfl fun F => ?_
 unfold JaT at hm
 refine ro (qaj rfl ?_)
 refine ci hm fun hm => ?_
 obtain ⟨s0, aS, hm⟩ := bnd hm
 refine lD (σ := (Int)) ([4,5] ++ rg 9 16) [0] (fun _ => []) (fun t0 => [(5, .int .i64 t0)]) (fun _ => []) (fun _ => True) (fun i0 t0 => Jac env name i0 t0 = some s0) (fun t0 => s0 = Fl.go t0) (fun i0 => i0) n _ aS (And.intro qe (And.intro ?_ ?_))
 clear aS
 rintro i0 ac _ aS j0
 conv at aS => whnf
 cases i0 with
 | zero => rw [Jac.eq_1] at aS; cases aS
 | succ i0 =>
  rw [Jac.eq_2] at aS
  refine cs rfl rfl aS ?_ ?_ <;> intro bc aS
  refine qai rfl ?_
  obtain ⟨a6, aV, aU, aS⟩ := ixb aS
  refine RStep.ofN (qac rfl rfl (qcc af.rd aU) aV (qas rfl aV aU) (qaw rfl (qcc af.rd aU) (ro (qbd ((ac).toNat) 0 _ _ af.rd rfl (mp aU) rfl rfl (qam ?_)))))
  refine cs rfl rfl aS ?_ ?_ <;> intro ba aS
  obtain ⟨aZ, aW, aT, aS⟩ := ixb aS
  refine RStep.ofN (qac rfl rfl (qcc af.rd aT) aW (qas rfl aW aT) (qaw rfl (qcc af.rd aT) (ro (qbd ((ac).toNat) 1 _ _ af.rd rfl (mp aT) rfl rfl ?_))))
  exact eE (er aS hm)
  refine ci aS fun aS => ?_
  exact eR aS (_, _)
  refine cT ?_
  exact eM aS _
 rintro t0 _ rfl j0
 replace hm := elg hm
 refine cb hm fun a8 aX hm => cg0 (Jed aX :) ?_
 refine cs rfl rfl hm ?_ ?_ <;> intro bb hm
 exact eE hm
 exact eE hm

def JI (c : Jm) (n' : Ja) (err : Err) : Option (Jm) :=
  if c.err.isNone then
  some (⟨n'.Ad, err⟩ : Jm)
  else
  some c
theorem J1 {c : Jm} {n' : Ja} {err : Err} {b0 : Nat} {ag : Option Addr} {ah : Nat} {K : Hp} {r : Jm}
    (hm : JI c n' err = some r) (af : LiC Ja.R K ag ah 4 n'.Aa) :
    Fn Tryz.prog 128 [.pointer (some ⟨b0, 0, none⟩), .agg #[.int .i64 n'.Ab, str n'.Ac, .slice ag n'.Aa.length ah, .int .i64 n'.Ad], qde 87 err] K [Cells b0 171 [.int .i64 c.line, qde 87 c.err]] (fun v K' H' => v = .tuple #[] ∧ H' = [Cells b0 171 [.int .i64 r.line, qde 87 r.err]]) := by
 refine Fn.enter Tryz.func128 Tryz.call128 rfl fun F => ?_
 unfold JI at hm
 refine qaq ?_
 intro b4
 refine qao (fa rfl (ro (ld r1 rfl rfl (qgn rfl ?_))))
 refine cs rfl rfl hm ?_ ?_ <;> intro aS hm
 refine fa rfl (ro (ld r0 rfl rfl (qao (fa rfl ?_))))
 refine qaa r1 rfl ⟨rfl, rfl, (nl rfl), ?_⟩
 refine qao (fa rfl ?_)
 refine qox r0 rfl rfl ?_
 exact eE hm
 exact eE hm

def J3 (name : Str) : Option (Int × Int) :=
  if decide (name = ([104, 101, 97, 100, 101, 114] : Str)) then
  some (1, 1)
  else
  if decide (name = ([97, 114, 103] : Str)) then
  some (1, 1)
  else
  if decide (name = ([108, 111, 119, 101, 114] : Str)) then
  some (1, 1)
  else
  if decide (name = ([104, 97, 115] : Str)) then
  some (1, 3)
  else
  if decide (name = ([108, 101, 110] : Str)) then
  some (1, 2)
  else
  if decide (name = ([110, 117, 109, 98, 101, 114] : Str)) then
  some (1, 2)
  else
  if decide (name = ([112, 97, 114, 116] : Str)) then
  some (2, 1)
  else
  if decide (name = ([116, 101, 120, 116] : Str)) then
  some (2, 1)
  else
  some (0, 0)
theorem JeG {name : Str} {K : Hp} {r : Int × Int}
    (hm : J3 name = some r)  :
    Fn Tryz.prog 171 [str name] K [] (fun v K' H' => v = .tuple #[.int .i64 r.1, .int .i64 r.2] ∧ H' = []) := by
 refine Fn.enter Tryz.func171 Tryz.call171 rfl fun F => ?_
 unfold J3 at hm
 refine qai rfl ?_
 refine qam (cs rfl rfl hm ?_ ?_) <;> intro w5 hm
 refine qaf rfl (ct w5 ?_)
 exact eE hm
 refine qam (cs rfl rfl hm ?_ ?_) <;> intro w5 hm
 refine qaf rfl (ct w5 ?_)
 exact eE hm
 refine qam (cs rfl rfl hm ?_ ?_) <;> intro w5 hm
 exact eE hm
 refine qam (cs rfl rfl hm ?_ ?_) <;> intro w9 hm
 exact eE hm
 refine qam (cs rfl rfl hm ?_ ?_) <;> intro aT hm
 refine qaf rfl (ct aT ?_)
 exact eE hm
 refine qam (cs rfl rfl hm ?_ ?_) <;> intro aT hm
 exact eE hm
 refine qam (cs rfl rfl hm ?_ ?_) <;> intro aS hm
 refine qaf rfl (ct aS ?_)
 exact eE hm
 refine qam (cs rfl rfl hm ?_ ?_) <;> intro aS hm
 exact eE hm
 exact eE hm

def JX (c : Jm) (n' : Ja) (args : (List Int)) : Option (Int × Jm) :=
  (J3 n'.Ac).bind fun aS =>
  if decide (aS.2 = 0) then
  (JI c n' (some 8)).bind fun aT =>
  some (aS.2, aT)
  else
  (if decide ((args.length : Int) ≠ 1) then some true else (ix args 0).bind fun aV =>
  some (decide (aV ≠ aS.1))).bind fun aU =>
  if aU then
  (JI c n' (some 9)).bind fun aW =>
  some (aS.2, aW)
  else
  some (aS.2, c)
theorem Jd2 {c : Jm} {n' : Ja} {args : (List Int)} {b0 : Nat} {ag : Option Addr} {ah : Nat} {ao : Option Addr} {aq : Nat} {n2 : Nat} {K : Hp} {r : Int × Jm}
    (hm : JX c n' args = some r) (hX : LiC Ja.R K ag ah 4 n'.Aa ∧ RdC eN K ao aq 1 args ∧ n2 = args.length) :
    Fn Tryz.prog 138 [.pointer (some ⟨b0, 0, none⟩), .agg #[.int .i64 n'.Ab, str n'.Ac, .slice ag n'.Aa.length ah, .int .i64 n'.Ad], .slice ao n2 aq] K [Cells b0 171 [.int .i64 c.line, qde 87 c.err]] (fun v K' H' => v = .int .i64 r.1 ∧ H' = [Cells b0 171 [.int .i64 r.2.line, qde 87 r.2.err]]) := by
 obtain ⟨af, av, a8⟩ := hX
 subst a8
 refine Fn.enter Tryz.func138 Tryz.call138 rfl fun F => ?_
 unfold JX at hm
 refine qaq ?_
 intro b4
 refine fa rfl (ro (ld r0 rfl rfl ?_))
 refine cb hm fun ba aY hm => cg0 (JeG aY :) ?_
 refine qad (cs rfl rfl hm ?_ ?_) <;> intro bb hm
 refine ro (qae r0 rfl (nl rfl) ?_)
 refine qa7 rfl ?_
 refine cb hm fun bc a6 hm => cgx (J1 a6 :) ?_
 exact eE hm
 refine qah rfl ?_
 refine ro (qaj rfl (qa2 ?_))
 obtain ⟨bf, aT, hm⟩ := bnd hm
 refine cS aT (fun aS aT => ?_) fun aS aT => ?_
 refine ct aS (ct aS (ct aS (ct aS (ct aS (qaf rfl (cT ?_))))))
 replace hm := ift (si aT).symm hm
 refine ro (qae r0 rfl (nl rfl) ?_)
 refine qa7 rfl ?_
 refine cb hm fun aZ aU hm => cgx (J1 aU :) ?_
 exact eE hm
 refine cf aS ?_
 obtain ⟨bd, aX, aV, aT⟩ := ixb aT
 refine RStep.ofN (qac rfl rfl (qcc av.rd aV) aX (qas rfl aX aV) (cf aS (ro (qbd ((0 : Int).toNat) 0 _ _ av.rd rfl (mp aV) rfl rfl (cf aS (cf aS (qa2 (cf aS (qaf rfl ?_)))))))))
 refine qag ?_ ?_ <;> intro aW
 replace hm := ift ((si aT).symm.trans aW) hm
 refine ro (qae r0 rfl (nl rfl) ?_)
 refine qa7 rfl ?_
 refine cb hm fun aZ aU hm => cgx (J1 aU :) ?_
 exact eE hm
 replace hm := qa6 ((si aT).symm.trans aW) hm
 exact eE hm

def JK (t : Int) : List Int → Nat → Option (Fl (Bool) (Unit))
  | [], _ => some (Fl.go ())
  | e0 :: aS, i0 =>
    if decide (e0 ≠ t) then
    some (Fl.ret false)
    else
    JK t aS (i0 + 1)
def Jw (t : Int) (aJ : (List Int)) : Option (Bool) :=
  (chk (aJ.length ≤ qax)).bind fun _ =>
  (JK t aJ 0).bind fun s0 => s0.el some fun t0 =>
  some true
theorem JV {t : Int} {aJ : (List Int)} {b1 : Nat} {ag : Option Addr} {ah : Nat} {K : Hp} {r : Bool}
    (hm : Jw t aJ = some r) (af : RdC eN K ag ah 1 aJ) :
    Fn Tryz.prog 172 [.int .i64 t, .pointer (some ⟨b1, 0, none⟩)] K [Cells b1 150 [.slice ag aJ.length ah]] (fun v K' H' => v = .bool r ∧ H' = [Cells b1 150 [.slice ag aJ.length ah]]) := by
 refine Fn.enter Tryz.func172 Tryz.call172 rfl fun F => ?_
 unfold Jw at hm
 refine ro (ld r0 rfl rfl (ro (qaj rfl ?_)))
 obtain ⟨aU, hm⟩ := qay hm
 obtain ⟨s0, aS, hm⟩ := bnd hm
 refine lD (σ := (Unit)) ([3,5] ++ rg 8 8) [0, 1] (fun i0 => [(8, .int .i64 (i0 : Int))]) (fun _ => []) (fun _ => []) (fun _ => True) (fun i0 _ => JK t (aJ.drop i0) i0 = some s0) (fun t0 => s0 = Fl.go t0) (fun i0 => aJ.length - i0) 0 () aS (And.intro qe (And.intro ?_ ?_))
 clear aS
 rintro i0 _ _ aS j0
 conv at aS => whnf
 refine qaf rfl ?_
 refine qag ?_ ?_ <;> intro w0
 obtain ⟨e0, aT, aV⟩ := ltx w0
 rw [aV, JK.eq_2] at aS
 refine qai rfl ?_
 refine RStep.ofN (qac rfl rfl (qcc af.rd aT) (nn _) (qbg aT) (ro (qbd i0 0 _ _ af.rd rfl (mp aT) rfl rfl (qa2 ?_))))
 refine cs rfl rfl aS ?_ ?_ <;> intro aW aS
 exact eE (er aS hm)
 refine qar (qbu aT aU) ?_
 exact eR aS (_, ())
 rw [lty w0, JK.eq_1] at aS
 refine cT ?_
 exact eM aS _
 rintro t0 _ rfl j0
 replace hm := elg hm
 exact eE hm

def JM (n' : Ja) (args : (List Int)) : Option (Int) :=
  if decide (n'.Ab = 17) then
  (Jw 1 args).bind fun aX =>
  if aX then
  some 1
  else
  (Jw 2 args).bind fun aY =>
  if aY then
  some 2
  else
  some 0
  else
  if decide (n'.Ab = 18) then
  (Jw 2 args).bind fun aV =>
  if aV then
  some 2
  else
  some 0
  else
  if decide (n'.Ab = 19) then
  (Jw 2 args).bind fun aV =>
  if aV then
  some 2
  else
  some 0
  else
  if decide (n'.Ab = 13) then
  (Jw 3 args).bind fun aS =>
  if aS then
  some 3
  else
  some 0
  else
  if decide (n'.Ab = 14) then
  (Jw 3 args).bind fun aS =>
  if aS then
  some 3
  else
  some 0
  else
  if decide (n'.Ab = 15) then
  (Jw 3 args).bind fun aS =>
  if aS then
  some 3
  else
  some 0
  else
  if decide (n'.Ab = 16) then
  if decide (n'.Ac = ([61, 61] : Str)) then
  (ix args 0).bind fun aU =>
  (ix args 1).bind fun aT =>
  if decide (aU = aT) then
  some 3
  else
  some 0
  else
  if decide (n'.Ac = ([33, 61] : Str)) then
  (ix args 0).bind fun aU =>
  (ix args 1).bind fun aT =>
  if decide (aU = aT) then
  some 3
  else
  some 0
  else
  if decide (n'.Ac = ([60] : Str)) then
  (Jw 2 args).bind fun aW =>
  if aW then
  some 3
  else
  some 0
  else
  if decide (n'.Ac = ([60, 61] : Str)) then
  (Jw 2 args).bind fun aW =>
  if aW then
  some 3
  else
  some 0
  else
  (Jw 1 args).bind fun aZ =>
  if aZ then
  some 3
  else
  some 0
  else
  some 0
theorem JeH {n' : Ja} {args : (List Int)} {aa : Option Addr} {ab : Nat} {ag : Option Addr} {ah : Nat} {n1 : Nat} {K : Hp} {r : Int}
    (hm : JM n' args = some r) (hX : LiC Ja.R K aa ab 4 n'.Aa ∧ RdC eN K ag ah 1 args ∧ n1 = args.length) :
    Fn Tryz.prog 139 [.agg #[.int .i64 n'.Ab, str n'.Ac, .slice aa n'.Aa.length ab, .int .i64 n'.Ad], .slice ag n1 ah] K [] (fun v K' H' => v = .int .i64 r ∧ H' = []) := by
 obtain ⟨ae, af, bt⟩ := hX
 subst bt
 refine Fn.enter Tryz.func139 Tryz.call139 rfl fun F => ?_
 unfold JM at hm
 refine qaq ?_
 intro b2
 refine qaq ?_
 intro b3
 refine mkFunc ?_
 refine fa rfl (ro (ld r1 rfl rfl ?_))
 refine qai rfl ?_
 refine qad (cs rfl rfl hm ?_ ?_) <;> intro w9 hm
 refine cb hm fun bA bn hm => cgx (JV bn :) ?_
 refine cs rfl rfl hm ?_ ?_ <;> intro bD hm
 exact eE hm
 refine cb hm fun bC bm hm => cgx (JV bm :) ?_
 refine cs rfl rfl hm ?_ ?_ <;> intro bB hm
 exact eE hm
 exact eE hm
 refine qad (cs rfl rfl hm ?_ ?_) <;> intro ba hm
 refine qaf rfl (ct ba ?_)
 refine cb hm fun bf aZ hm => cgx (JV aZ :) ?_
 refine cs rfl rfl hm ?_ ?_ <;> intro br hm
 exact eE hm
 exact eE hm
 refine qad (cs rfl rfl hm ?_ ?_) <;> intro ba hm
 refine cb hm fun bf aZ hm => cgx (JV aZ :) ?_
 refine cs rfl rfl hm ?_ ?_ <;> intro br hm
 exact eE hm
 exact eE hm
 refine qad (cs rfl rfl hm ?_ ?_) <;> intro aX hm
 refine qaf rfl (ct aX ?_)
 refine cb hm fun a8 aW hm => cgx (JV aW :) ?_
 refine cs rfl rfl hm ?_ ?_ <;> intro a6 hm
 exact eE hm
 exact eE hm
 refine qad (cs rfl rfl hm ?_ ?_) <;> intro aX hm
 refine qaf rfl (ct aX ?_)
 refine cb hm fun a8 aW hm => cgx (JV aW :) ?_
 refine cs rfl rfl hm ?_ ?_ <;> intro a6 hm
 exact eE hm
 exact eE hm
 refine qad (cs rfl rfl hm ?_ ?_) <;> intro aX hm
 refine cb hm fun a8 aW hm => cgx (JV aW :) ?_
 refine cs rfl rfl hm ?_ ?_ <;> intro a6 hm
 exact eE hm
 exact eE hm
 refine qad (cs rfl rfl hm ?_ ?_) <;> intro bz hm
 refine fa rfl (ro (ld r1 rfl rfl ?_))
 refine qai rfl ?_
 refine qam (cs rfl rfl hm ?_ ?_) <;> intro bb hm
 refine qaf rfl (ct bb ?_)
 refine qau ⟨⟨[], false⟩, _, [(_, _)], []⟩ (by kernel_rfl) ⟨Hp.Le.refl _, (pf rfl), ci0⟩ ?_
 refine qan m0 rfl rfl ?_
 obtain ⟨bp, aU, aS, hm⟩ := ixb hm
 refine qac rfl rfl (qcc af.rd aS) aU (qas rfl aU aS) (qbj ((0 : Int).toNat) 0 _ _ af.rd rfl (mp aS) rfl rfl (qan m0 rfl rfl ?_))
 obtain ⟨bd, aV, aT, hm⟩ := ixb hm
 refine qac rfl rfl (qcc af.rd aT) aV (qas rfl aV aT) (qbj ((1 : Int).toNat) 0 _ _ af.rd rfl (mp aT) rfl rfl (qad ?_))
 refine cs rfl rfl hm ?_ ?_ <;> intro bo hm
 exact eE hm
 exact eE hm
 refine qam (cs rfl rfl hm ?_ ?_) <;> intro bb hm
 refine qau ⟨⟨[], false⟩, _, [(_, _)], []⟩ (by kernel_rfl) ⟨Hp.Le.refl _, (pf rfl), ci0⟩ ?_
 refine qan m0 rfl rfl ?_
 obtain ⟨bp, aU, aS, hm⟩ := ixb hm
 refine qac rfl rfl (qcc af.rd aS) aU (qas rfl aU aS) (qbj ((0 : Int).toNat) 0 _ _ af.rd rfl (mp aS) rfl rfl (qan m0 rfl rfl ?_))
 obtain ⟨bd, aV, aT, hm⟩ := ixb hm
 refine qac rfl rfl (qcc af.rd aT) aV (qas rfl aV aT) (qbj ((1 : Int).toNat) 0 _ _ af.rd rfl (mp aT) rfl rfl (qad ?_))
 refine cs rfl rfl hm ?_ ?_ <;> intro bo hm
 exact eE hm
 exact eE hm
 refine qam (cs rfl rfl hm ?_ ?_) <;> intro bc hm
 refine qaf rfl (ct bc ?_)
 refine cb hm fun bg aY hm => cgx (JV aY :) ?_
 refine cs rfl rfl hm ?_ ?_ <;> intro bj hm
 exact eE hm
 exact eE hm
 refine qam (cs rfl rfl hm ?_ ?_) <;> intro bc hm
 refine cb hm fun bg aY hm => cgx (JV aY :) ?_
 refine cs rfl rfl hm ?_ ?_ <;> intro bj hm
 exact eE hm
 exact eE hm
 refine cb hm fun bw bh hm => cgx (JV bh :) ?_
 refine cs rfl rfl hm ?_ ?_ <;> intro bu hm
 exact eE hm
 exact eE hm
 exact eE hm

def JN (rec_ : (Jm → Ja → (List Jk) → Option (Int × Jm))) (env : (List Jk)) : List Ja → Nat → (List Int) → Int → Err → Option (Fl (Int × Jm) ((List Int) × Int × Err))
  | [], _, ac, aT, aS => some (Fl.go (ac, aT, aS))
  | e0 :: aV, i0, ac, aT, aS =>
    (rec_ (⟨aT, aS⟩ : Jm) e0 env).bind fun aU =>
    (chk (ac.length + [aU.1].length ≤ lim)).bind fun _ =>
    if aU.2.err.isSome then
    some (Fl.ret (0, aU.2))
    else
    JN rec_ env aV (i0 + 1) (ac ++ [aU.1]) aU.2.line aU.2.err
def JF : Nat → Jm → Ja → (List Jk) → Option (Int × Jm)
  | 0, _, _, _ => none
  | n + 1, c, n', env =>
    (chk (n'.Aa.length ≤ qax)).bind fun _ =>
    (JN (JF n) env n'.Aa 0 [] c.line c.err).bind fun s0 => s0.el some fun t0 =>
    if decide (n'.Ab = 20) then
    some (2, (⟨t0.2.1, t0.2.2⟩ : Jm))
    else
    if decide (n'.Ab = 21) then
    some (1, (⟨t0.2.1, t0.2.2⟩ : Jm))
    else
    if decide (n'.Ab = 22) then
    some (3, (⟨t0.2.1, t0.2.2⟩ : Jm))
    else
    if decide (n'.Ab = 23) then
    (JaT n n'.Ac env).bind fun aS =>
    if decide (aS = 0) then
    (JI (⟨t0.2.1, t0.2.2⟩ : Jm) n' (some 8)).bind fun aW =>
    some (aS, aW)
    else
    some (aS, (⟨t0.2.1, t0.2.2⟩ : Jm))
    else
    if decide (n'.Ab = 24) then
    (JX (⟨t0.2.1, t0.2.2⟩ : Jm) n' t0.1).bind fun aU =>
    some (aU.1, aU.2)
    else
    (JM n' t0.1).bind fun aT =>
    if decide (aT = 0) then
    (JI (⟨t0.2.1, t0.2.2⟩ : Jm) n' (some 9)).bind fun aV =>
    some (aT, aV)
    else
    some (aT, (⟨t0.2.1, t0.2.2⟩ : Jm))
theorem Jd3 : ∀ {n : Nat} {c : Jm} {n' : Ja} {env : (List Jk)} {b0 : Nat} {ag : Option Addr} {ah : Nat} {ao : Option Addr} {aq : Nat} {n2 : Nat} {K : Hp} {r : Int × Jm}
    (hm : JF n c n' env = some r) (hX : LiC Ja.R K ag ah 4 n'.Aa ∧ RdC Jk.enc K ao aq 2 env ∧ n2 = env.length),
    Fn Tryz.prog 126 [.pointer (some ⟨b0, 0, none⟩), .agg #[.int .i64 n'.Ab, str n'.Ac, .slice ag n'.Aa.length ah, .int .i64 n'.Ad], .slice ao n2 aq] K [Cells b0 171 [.int .i64 c.line, qde 87 c.err]] (fun v K' H' => v = .int .i64 r.1 ∧ H' = [Cells b0 171 [.int .i64 r.2.line, qde 87 r.2.err]]) := by
 intro n
 induction n with
 | zero =>
   intro c n' env b0 ag ah ao aq n2 K r hm hX
   rw [JF.eq_1] at hm; cases hm
 | succ n ih =>
   intro c n' env b0 ag ah ao aq n2 K r hm hX
   obtain ⟨af, av, bC⟩ := hX
   subst bC
   refine Fn.enter Tryz.func126 Tryz.call126 rfl fun F => ?_
   rw [JF.eq_2] at hm
   refine qaq ?_
   intro b4
   refine fa rfl (ro (ld r0 rfl rfl (ro (qaj rfl ?_))))
   obtain ⟨bB, hm⟩ := qay hm
   obtain ⟨s0, aU, hm⟩ := bnd hm
   refine qkc eN 3 1 ?_
   refine lD (σ := ((List Int) × Int × Err) × Option Addr × Nat) ([6,7,9] ++ rg 15 17) [1, 3] (fun i0 => [(15, .int .i64 (i0 : Int))]) (fun (t0, aS, aT) => [(7, .slice aS t0.1.length aT)]) (fun (t0, aS, aT) => [OwnL eN aS 3 1 aT t0.1, Cells b0 171 [.int .i64 t0.2.1, qde 87 t0.2.2]]) (fun (t0, aS, aT) => (0 < t0.1.length → Has aS) ∧ True) (fun i0 (t0, aS, aT) => JN (JF n) env (n'.Aa.drop i0) i0 t0.1 t0.2.1 t0.2.2 = some s0) (fun (t0, aS, aT) => s0 = Fl.go t0) (fun i0 => n'.Aa.length - i0) 0 ((_, _, _), _, _) aU (And.intro qe (And.intro ?_ ?_))
   clear aU
   rintro i0 ⟨⟨ac, bp, bG⟩, bf, bd⟩ ⟨bb, _⟩ aU j0
   dsimp only at aU ⊢
   refine qaf rfl ?_
   refine qag ?_ ?_ <;> intro w0
   obtain ⟨e0, aZ, bz⟩ := ltx w0
   rw [bz, JN.eq_2] at aU
   refine qai rfl ?_
   refine RStep.ofN (qac rfl rfl (qcf af.rd aZ) (nn _) (qbg aZ) ?_)
   obtain ⟨bu, bD, a6, a8, ba⟩ := LiR.get af.rd aZ
   obtain ⟨bg, bn, rfl, bj⟩ := Ja.out ba
   refine ro (qap i0 _ a6 rfl a8 rfl ?_)
   refine qal rfl fun b9 => ?_
   refine qaa r0 rfl ⟨rfl, rfl, (nl rfl), ?_⟩
   refine ro (qae r0 rfl (nl rfl) ?_)
   refine cb aU fun bh bw aU => cgx (ih bw :) ?_
   refine bsO (len := 1) (enc := eN) (l := [bh.1]) (cl := [.int .i64 bh.1]) qlk rfl rfl (fun _ _ => rfl) rfl rfl rfl ?_ fun bK => ?_
   · conv => whnf
     refine cT ?_
     first | done | rfl
   obtain ⟨bA, aU⟩ := qay aU
   refine apE rfl r3 qlk (qa4 rfl r0 rfl (fun _ => rfl) (fun _ => rfl)) bA ?_
   intro bR bN bM
   refine qao (fa rfl (ro (ld r2 rfl rfl (qbo rfl ?_))))
   refine cs rfl rfl aU ?_ ?_ <;> intro bO aU
   exact eE (er aU hm)
   refine qar (qbu aZ bB) ?_
   exact eR aU (_, (_, _, _), _, _)
   rw [lty w0, JN.eq_1] at aU
   refine cT ?_
   exact eM aU (_, _, _)
   rintro ⟨t0, aS, aT⟩ ⟨bm, _⟩ rfl j0
   replace hm := elg hm
   refine fa rfl (ro (ld r2 rfl rfl ?_))
   refine qai rfl ?_
   refine qad (cs rfl rfl hm ?_ ?_) <;> intro bP hm
   exact eE hm
   refine qad (cs rfl rfl hm ?_ ?_) <;> intro bX hm
   exact eE hm
   refine qad (cs rfl rfl hm ?_ ?_) <;> intro bU hm
   exact eE hm
   refine qad (cs rfl rfl hm ?_ ?_) <;> intro bV hm
   refine fa rfl (ro (ld r2 rfl rfl ?_))
   refine cb hm fun bS bF hm => cgx (JdN bF :) ?_
   refine qad (cs rfl rfl hm ?_ ?_) <;> intro bZ hm
   refine ro (qae r2 rfl (nl rfl) ?_)
   refine qa7 rfl ?_
   refine cb hm fun bL bH hm => cgx (J1 bH :) ?_
   exact eE hm
   exact eE hm
   refine qad (cs rfl rfl hm ?_ ?_) <;> intro bT hm
   refine ro (qae r2 rfl (nl rfl) ?_)
   refine cb hm fun bJ bt hm => ck0 (Fn.lend Tryz.call138 (fun bc aY aX => (Jd2 (c := (⟨t0.2.1, t0.2.2⟩ : Jm)) (n' := n') bt ⟨(LiC.mono Ja.R_ok aY af), aX, rfl⟩)) (by exact fun _ _ _ _ h => h)) ?_
   rintro _ _ _ ⟨_, rfl, rfl, rfl⟩
   exact eE hm
   refine ro (qae r2 rfl (nl rfl) ?_)
   refine cb hm fun bW bI hm => ck0 (Fn.lend Tryz.call139 (fun bo aV aW => (JeH (n' := n') bI ⟨(LiC.mono Ja.R_ok aV af), aW, rfl⟩)) (by exact fun _ _ _ _ h => h)) ?_
   rintro _ _ _ ⟨_, rfl, rfl, rfl⟩
   refine qad (cs rfl rfl hm ?_ ?_) <;> intro bQ hm
   refine ro (qae r2 rfl (nl rfl) ?_)
   refine qa7 rfl ?_
   refine cb hm fun bY br hm => cgx (J1 br :) ?_
   exact eE hm
   exact eE hm

def JbZ (n' : Ja) : Option (Int) :=
  if decide (n'.Ab = 2) then
  some 3
  else
  if decide (n'.Ab = 4) then
  some 1
  else
  if decide (n'.Ab = 5) then
  some 1
  else
  if decide (n'.Ab = 7) then
  some 1
  else
  if decide (n'.Ab = 8) then
  some 2
  else
  if decide (n'.Ab = 9) then
  some 2
  else
  some 0
theorem Je6 {n' : Ja} {aa : Option Addr} {ab : Nat} {K : Hp} {r : Int}
    (hm : JbZ n' = some r) (ae : LiC Ja.R K aa ab 4 n'.Aa) :
    Fn Tryz.prog 127 [.agg #[.int .i64 n'.Ab, str n'.Ac, .slice aa n'.Aa.length ab, .int .i64 n'.Ad]] K [] (fun v K' H' => v = .int .i64 r ∧ H' = []) := by
 refine Fn.enter Tryz.func127 Tryz.call127 rfl fun F => ?_
 unfold JbZ at hm
 refine qaq ?_
 intro b1
 refine fa rfl (ro (ld r0 rfl rfl ?_))
 refine qai rfl ?_
 refine qad (cs rfl rfl hm ?_ ?_) <;> intro w5 hm
 exact eE hm
 refine qad (cs rfl rfl hm ?_ ?_) <;> intro w7 hm
 refine qaf rfl (ct w7 ?_)
 exact eE hm
 refine qad (cs rfl rfl hm ?_ ?_) <;> intro w7 hm
 refine qaf rfl (ct w7 ?_)
 exact eE hm
 refine qad (cs rfl rfl hm ?_ ?_) <;> intro w7 hm
 exact eE hm
 refine qad (cs rfl rfl hm ?_ ?_) <;> intro aS hm
 refine qaf rfl (ct aS ?_)
 exact eE hm
 refine qad (cs rfl rfl hm ?_ ?_) <;> intro aS hm
 exact eE hm
 exact eE hm

def JaM (n : Nat) (name : Str) (env : (List Jk)) : Option (Bool) :=
  (JaT n name env).bind fun x7 =>
  some (decide (x7 ≠ 0))
theorem Jdw {n : Nat} {name : Str} {env : (List Jk)} {ag : Option Addr} {ah : Nat} {n1 : Nat} {K : Hp} {r : Bool}
    (hm : JaM n name env = some r) (hX : RdC Jk.enc K ag ah 2 env ∧ n1 = env.length) :
    Fn Tryz.prog 129 [str name, .slice ag n1 ah] K [] (fun v K' H' => v = .bool r ∧ H' = []) := by
 obtain ⟨af, aS⟩ := hX
 subst aS
 refine Fn.enter Tryz.func129 Tryz.call129 rfl fun F => ?_
 unfold JaM at hm
 refine cb hm fun x7 q7 hm => cgx (JdN q7 :) ?_
 refine qa2 ?_
 exact eE hm

def Jab (env : (List Jk)) (name : Str) (t : Int) : Option ((List Jk)) :=
  (chk (InI ((env.length : Int) + 1))).bind fun _ =>
  (chk ((0 : Int) ≤ ((env.length : Int) + 1) ∧ ((env.length : Int) + 1) ≤ (lim : Int))).bind fun _ =>
  (chk (([] : List Jk).length + env.length ≤ lim)).bind fun _ =>
  (chk ((([] : List Jk) ++ env).length + [(⟨name, t⟩ : Jk)].length ≤ lim)).bind fun _ =>
  some ((([] : List Jk) ++ env) ++ [(⟨name, t⟩ : Jk)])
theorem Jb5 {env : (List Jk)} {name : Str} {t : Int} {aa : Option Addr} {ab : Nat} {n0 : Nat} {K : Hp} {r : (List Jk)}
    (hm : Jab env name t = some r) (hX : RdC Jk.enc K aa ab 2 env ∧ n0 = env.length) :
    Fn Tryz.prog 98 [.slice aa n0 ab, str name, .int .i64 t] K [] (fun v K' H' => ∃ ar_0 : Option Addr, ∃ cr_0 : Nat, v = .slice ar_0 r.length cr_0 ∧ (0 < r.length → Has ar_0) ∧ H' = [OwnL Jk.enc ar_0 233 2 cr_0 r]) := by
 obtain ⟨ae, aV⟩ := hX
 subst aV
 refine Fn.enter Tryz.func98 Tryz.call98 rfl fun F => ?_
 unfold Jab at hm
 refine ro (qaj rfl ?_)
 refine ci hm fun hm => ?_
 obtain ⟨aU, hm⟩ := qay hm
 refine qun (enc := Jk.enc) qll rfl aU fun aZ => ?_
 obtain ⟨aT, hm⟩ := qay hm
 refine apE rfl r0 qll (qom rfl ae.rd rfl) aT ?_
 intro aW bb ba
 refine qak rfl rfl (cT (cT ?_))
 refine bsO (len := 1) (enc := Jk.enc) (l := [(⟨name, t⟩ : Jk)]) (cl := [str name, .int .i64 t]) qll rfl rfl (fun _ _ => rfl) rfl rfl rfl ?_ fun aX => ?_
 · conv => whnf
   refine cT ?_
   first | done | rfl
 obtain ⟨aS, hm⟩ := qay hm
 refine apE rfl r1 qll (qa4 rfl r0 rfl (fun _ => rfl) (fun _ => rfl)) aS ?_
 intro aY a6 a8
 exact eE hm

def JaF (n' : Ja) : Option ((List Ja)) :=
  if decide (n'.Ab = 12) then
  some n'.Aa
  else
  some [n']
theorem JdO {n' : Ja} {aa : Option Addr} {ab : Nat} {K : Hp} {r : (List Ja)}
    (hm : JaF n' = some r) (ae : LiC Ja.R K aa ab 4 n'.Aa) :
    Fn Tryz.prog 99 [.agg #[.int .i64 n'.Ab, str n'.Ac, .slice aa n'.Aa.length ab, .int .i64 n'.Ad]] K [] (fun v K' H' => ∃ ar_0 : Option Addr, ∃ cr_0 : Nat, v = .slice ar_0 r.length cr_0 ∧ LiC Ja.R K' ar_0 cr_0 4 r ∧ H' = []) := by
 refine Fn.enter Tryz.func99 Tryz.call99 rfl fun F => ?_
 unfold JaF at hm
 refine qaq ?_
 intro b1
 refine fa rfl (ro (ld r0 rfl rfl (qad ?_)))
 refine cs rfl rfl hm ?_ ?_ <;> intro w5 hm
 refine fa rfl (ro (ld r0 rfl rfl ?_))
 exact eE hm
 refine ro (qae r0 rfl (nl rfl) ?_)
 refine qx7 (R := Ja.R) (len := 1) (l := [n']) (css := [[.int .i64 n'.Ab, str n'.Ac, .slice aa n'.Aa.length ab, .int .i64 n'.Ad]]) (cl := [.int .i64 n'.Ab, str n'.Ac, .slice aa n'.Aa.length ab, .int .i64 n'.Ad]) Ja.R_ok qt7 rfl rfl (LR.snoc LR.nil (Ja.of (x := n') ⟨aa, ab, rfl, ae⟩)) rfl rfl rfl ?_ fun b9 => ?_
 · conv => whnf
   refine cT ?_
   first | done | rfl
 refine qy7 Ja.R_ok r0 (show LR Ja.R _ [[.int .i64 n'.Ab, str n'.Ac, .slice aa n'.Aa.length ab, .int .i64 n'.Ad]] [n'] from (LR.snoc LR.nil (Ja.of (x := n') ⟨aa, ab, rfl, ae⟩))) fun aT aS aU => ?_
 exact eE hm

def Jy (rec_ : (Jm → (List Ja) → (List Jk) → Option (Jm))) (ac : (List Jk)) : List Ja → Nat → Int → Err → Option (Int × Err)
  | [], _, aS, aT => some (aS, aT)
  | e3 :: aW, i3, aS, aT =>
    (JaF e3).bind fun aV =>
    (rec_ (⟨aS, aT⟩ : Jm) aV ac).bind fun aU =>
    Jy rec_ ac aW (i3 + 1) aU.line aU.err
def Jq (n : Nat) (rec_ : (Jm → (List Ja) → (List Jk) → Option (Jm))) : List Ja → Nat → (List Jk) → Int → Err → Option (Fl (Jm) ((List Jk) × Int × Err))
  | [], _, ac, aX, aV => some (Fl.go (ac, aX, aV))
  | e0 :: aW, i0, ac, aX, aV =>
    if decide ((e0.Aa.length : Int) = 0) then
    Jq n rec_ aW (i0 + 1) ac aX aV
    else
    (ix e0.Aa 0).bind fun a8 =>
    (JF n (⟨aX, aV⟩ : Jm) a8 ac).bind fun aS =>
    (JbZ e0).bind fun a6 =>
    if ((aS.2.err.isNone && decide (a6 ≠ 0)) && decide (aS.1 ≠ a6)) then
    (JI aS.2 e0 (some 9)).bind fun aT =>
    if aT.err.isSome then
    some (Fl.ret aT)
    else
    if decide (e0.Ab = 3) then
    (JaM n e0.Ac ac).bind fun aZ =>
    if aZ then
    (JI aT e0 (some 4)).bind fun aU =>
    (Jab ac e0.Ac aS.1).bind fun aY =>
    if aU.err.isSome then
    some (Fl.ret aU)
    else
    Jq n rec_ aW (i0 + 1) aY aU.line aU.err
    else
    (Jab ac e0.Ac aS.1).bind fun aY =>
    if aT.err.isSome then
    some (Fl.ret aT)
    else
    Jq n rec_ aW (i0 + 1) aY aT.line aT.err
    else
    if decide (e0.Ab = 2) then
    (chk (0 ≤ (1 : Int) ∧ (1 : Int) ≤ (e0.Aa.length : Int) ∧ (e0.Aa.length : Int) ≤ (e0.Aa.length : Int))).bind fun _ =>
    (chk ((subL e0.Aa (1 : Int) (e0.Aa.length : Int)).length ≤ qax)).bind fun _ =>
    (Jy rec_ ac (subL e0.Aa (1 : Int) (e0.Aa.length : Int)) 0 aT.line aT.err).bind fun t3 =>
    if t3.2.isSome then
    some (Fl.ret (⟨t3.1, t3.2⟩ : Jm))
    else
    Jq n rec_ aW (i0 + 1) ac t3.1 t3.2
    else
    if aT.err.isSome then
    some (Fl.ret aT)
    else
    Jq n rec_ aW (i0 + 1) ac aT.line aT.err
    else
    if aS.2.err.isSome then
    some (Fl.ret aS.2)
    else
    if decide (e0.Ab = 3) then
    (JaM n e0.Ac ac).bind fun aZ =>
    if aZ then
    (JI aS.2 e0 (some 4)).bind fun aU =>
    (Jab ac e0.Ac aS.1).bind fun aY =>
    if aU.err.isSome then
    some (Fl.ret aU)
    else
    Jq n rec_ aW (i0 + 1) aY aU.line aU.err
    else
    (Jab ac e0.Ac aS.1).bind fun aY =>
    if aS.2.err.isSome then
    some (Fl.ret aS.2)
    else
    Jq n rec_ aW (i0 + 1) aY aS.2.line aS.2.err
    else
    if decide (e0.Ab = 2) then
    (chk (0 ≤ (1 : Int) ∧ (1 : Int) ≤ (e0.Aa.length : Int) ∧ (e0.Aa.length : Int) ≤ (e0.Aa.length : Int))).bind fun _ =>
    (chk ((subL e0.Aa (1 : Int) (e0.Aa.length : Int)).length ≤ qax)).bind fun _ =>
    (Jy rec_ ac (subL e0.Aa (1 : Int) (e0.Aa.length : Int)) 0 aS.2.line aS.2.err).bind fun t3 =>
    if t3.2.isSome then
    some (Fl.ret (⟨t3.1, t3.2⟩ : Jm))
    else
    Jq n rec_ aW (i0 + 1) ac t3.1 t3.2
    else
    if aS.2.err.isSome then
    some (Fl.ret aS.2)
    else
    Jq n rec_ aW (i0 + 1) ac aS.2.line aS.2.err
def Jx : Nat → Jm → (List Ja) → (List Jk) → Option (Jm)
  | 0, _, _, _ => none
  | n + 1, c, list, env =>
    (chk (list.length ≤ qax)).bind fun _ =>
    (Jq n (Jx n) list 0 env c.line c.err).bind fun s0 => s0.el some fun t0 =>
    some (⟨t0.2.1, t0.2.2⟩ : Jm)
theorem JdU : ∀ {n : Nat} {c : Jm} {list : (List Ja)} {env : (List Jk)} {b0 : Nat} {ag : Option Addr} {ah : Nat} {n1 : Nat} {ao : Option Addr} {aq : Nat} {n2 : Nat} {K : Hp} {r : Jm}
    (hm : Jx n c list env = some r) (hX : LiC Ja.R K ag ah 4 list ∧ n1 = list.length ∧ RdC Jk.enc K ao aq 2 env ∧ n2 = env.length),
    Fn Tryz.prog 85 [.pointer (some ⟨b0, 0, none⟩), .slice ag n1 ah, .slice ao n2 aq] K [Cells b0 171 [.int .i64 c.line, qde 87 c.err]] (fun v K' H' => v = .tuple #[] ∧ H' = [Cells b0 171 [.int .i64 r.line, qde 87 r.err]]) := by
 intro n
 induction n with
 | zero =>
   intro c list env b0 ag ah n1 ao aq n2 K r hm hX
   rw [Jx.eq_1] at hm; cases hm
 | succ n ih =>
   intro c list env b0 ag ah n1 ao aq n2 K r hm hX
   obtain ⟨af, cX, av, cK⟩ := hX
   subst cX
   subst cK
   refine Fn.enter Tryz.func85 Tryz.call85 rfl fun F => ?_
   rw [Jx.eq_2] at hm
   refine ro (qaj rfl ?_)
   obtain ⟨bh, hm⟩ := qay hm
   obtain ⟨s0, aS, hm⟩ := bnd hm
   refine lC (σ := ((List Jk) × Int × Err) × Option Addr × Nat) ([2,7,8,9,11] ++ rg 14 79) [1] (fun i0 => [(14, .int .i64 (i0 : Int))]) (fun (t0, aW, aX) => [(2, .slice aW t0.1.length aX)]) (fun (t0, aW, aX) => [Cells b0 171 [.int .i64 t0.2.1, qde 87 t0.2.2]]) (fun zz K1 => match zz with | (t0, aW, aX) => RdC Jk.enc K1 aW aX 2 t0.1 ∧ True) (fun i0 (t0, aW, aX) => Jq n (Jx n) (list.drop i0) i0 t0.1 t0.2.1 t0.2.2 = some s0) (fun (t0, aW, aX) => s0 = Fl.go t0) (fun i0 => list.length - i0) 0 ((_, _, _), _, _) aS (And.intro qe (And.intro ?_ ?_))
   clear aS
   rintro i0 ⟨⟨ac, cr, cR⟩, cd, bY⟩ cZ co ⟨bX, _⟩ aS j0
   dsimp only at aS ⊢
   refine qaf rfl ?_
   refine qag ?_ ?_ <;> intro w0
   obtain ⟨e0, aZ, cC⟩ := ltx w0
   rw [cC, Jq.eq_2] at aS
   refine qai rfl ?_
   refine RStep.ofN (qac rfl rfl (qcf (LiC.mono Ja.R_ok co af).rd aZ) (nn _) (qbg aZ) ?_)
   obtain ⟨cU, cQ, bK, bI, bD⟩ := LiR.get (LiC.mono Ja.R_ok co af).rd aZ
   obtain ⟨ca, cn, rfl, aY⟩ := Ja.out bD
   refine ro (qap i0 _ bK rfl bI rfl ?_)
   refine qal rfl fun b7 => ?_
   refine qaa r0 rfl ⟨rfl, rfl, (nl rfl), ?_⟩
   refine fa rfl (ro (ld r0 rfl rfl (ro (qaj rfl (qad ?_)))))
   refine cs rfl rfl aS ?_ ?_ <;> intro c8 aS
   refine cT (qar (qbu aZ bh) ?_)
   exact eR aS (_, (_, _, _), _, _)
   refine fa rfl (ro (ld r0 rfl rfl ?_))
   obtain ⟨db, cp, bC, aS⟩ := ixb aS
   refine RStep.ofN (qac rfl rfl (qcf aY.rd bC) cp (qas rfl cp bC) ?_)
   obtain ⟨cD, cG, bO, bS, bG⟩ := LiR.get aY.rd bC
   obtain ⟨ce, bZ, rfl, cm⟩ := Ja.out bG
   refine ro (qap ((0 : Int).toNat) _ bO rfl bS rfl ?_)
   refine cb aS fun bJ cB aS => cgx (Jd3 cB :) ?_
   refine ro (qae r1 rfl (nl rfl) ?_)
   refine cb aS fun bT cz aS => cgx (Je6 cz :) ?_
   refine jR (σ := Unit) (rg 31 14) (fun _ => [(44, .bool ((bJ.2.err.isNone && decide (bT ≠ 0)) && decide (bJ.1 ≠ bT)))]) (fun cV => True) ?_ ?_
   refine qah rfl ?_
   refine qao (fa rfl (ro (ld r0 rfl rfl (qgn rfl ?_))))
   refine qag ?_ ?_ <;> intro aV
   refine ct aV (qa2 (ct aV ?_))
   refine qag ?_ ?_ <;> intro aT
   refine ct aT (ct aT (qa2 (ct aT ?_)))
   exact eMt () ⟨bq (qbw (b := decide (bJ.1 ≠ bT)) (qby aV aT)), trivial⟩
   refine cf aT (cf aT (cf aT ?_))
   exact eMt () ⟨bq (((qa0 (qb8 aV aT))).symm), trivial⟩
   refine cf aV (cf aV (cF (cF (cF (cF ?_)))))
   exact eMt () ⟨bq (((qa0 (qa0 aV))).symm), trivial⟩
   rintro _ _ cA
   refine cs rfl rfl aS ?_ ?_ <;> intro dc aS
   refine ro (qae r1 rfl (nl rfl) ?_)
   refine qa7 rfl ?_
   refine cb aS fun de cP aS => cgx (J1 cP :) ?_
   refine qao (fa rfl (ro (ld r0 rfl rfl (qbo rfl ?_))))
   refine cs rfl rfl aS ?_ ?_ <;> intro cH aS
   exact eE (er aS hm)
   refine fa rfl (ro (ld r1 rfl rfl ?_))
   refine qai rfl ?_
   refine qad (cs rfl rfl aS ?_ ?_) <;> intro cq aS
   refine fa rfl (ro (ld r1 rfl rfl ?_))
   refine cb aS fun cM bW aS => cgx (Jdw bW :) ?_
   refine cs rfl rfl aS ?_ ?_ <;> intro cJ aS
   refine ro (qae r1 rfl (nl rfl) ?_)
   refine qa7 rfl ?_
   refine cb aS fun cO bQ aS => cgx (J1 bQ :) ?_
   refine fa rfl (ro (ld r1 rfl rfl ?_))
   refine cb aS fun bF bm aS => ckx (Jb5 bm :) ?_
   rintro _ _ _ ⟨bb, a8, rfl, bc, rfl⟩
   refine qao (fa rfl (ro (ld r1 rfl rfl (qbo rfl ?_))))
   refine cs rfl rfl aS ?_ ?_ <;> intro bn aS
   exact eE (er aS hm)
   refine qar (qbu aZ bh) ?_
   refine fRo r0 fun bf a6 bd => ?_
   exact eR aS (_, (_, _, _), _, _)
   refine fa rfl (ro (ld r1 rfl rfl ?_))
   refine cb aS fun bF bm aS => ckx (Jb5 bm :) ?_
   rintro _ _ _ ⟨bb, a8, rfl, bc, rfl⟩
   refine qao (fa rfl (ro (ld r1 rfl rfl (qbo rfl ?_))))
   refine cs rfl rfl aS ?_ ?_ <;> intro bn aS
   exact eE (er aS hm)
   refine qar (qbu aZ bh) ?_
   refine fRo r0 fun bf a6 bd => ?_
   exact eR aS (_, (_, _, _), _, _)
   refine qad (cs rfl rfl aS ?_ ?_) <;> intro cw aS
   refine fa rfl (ro (ld r1 rfl rfl ?_))
   obtain ⟨br, aS⟩ := qay aS
   have ba := aY.subC br
   refine RStep.ofN (qgt (l := e0.Aa) (lo := (some 1)) (hi := none) (lo' := (1 : Int)) (hi' := (e0.Aa.length : Int)) rfl rfl rfl rfl rfl aY.le br (ro (qaj rfl ?_)))
   obtain ⟨bM, aS⟩ := qay aS
   obtain ⟨s3, aU, aS⟩ := bnd aS
   refine lD (σ := (Int × Err)) ([11] ++ rg 77 10) [1, 2] (fun i3 => [(77, .int .i64 (i3 : Int))]) (fun _ => []) (fun t3 => [Cells b0 171 [.int .i64 t3.1, qde 87 t3.2]]) (fun _ => True) (fun i3 t3 => Jy (Jx n) ac ((subL e0.Aa (1 : Int) (e0.Aa.length : Int)).drop i3) i3 t3.1 t3.2 = some s3) (fun t3 => t3 = s3) (fun i3 => (subL e0.Aa (1 : Int) (e0.Aa.length : Int)).length - i3) 0 (_, _) aU (And.intro qe (And.intro ?_ ?_))
   clear aU
   rintro i3 ⟨bV, bL⟩ _ aU j3
   dsimp only at aU ⊢
   refine qaf rfl ?_
   refine qag ?_ ?_ <;> intro w3
   obtain ⟨e3, bg, bH⟩ := ltx w3
   rw [bH, Jy.eq_2] at aU
   refine qai rfl ?_
   refine RStep.ofN (qac rfl rfl (qcf ba.rd bg) (nn _) (qbg bg) ?_)
   obtain ⟨bP, bU, bp, bo, bj⟩ := LiR.get ba.rd bg
   obtain ⟨bA, bz, rfl, bB⟩ := Ja.out bj
   refine ro (qap i3 _ bp rfl bo rfl ?_)
   refine qal rfl fun cE => ?_
   refine qaa r0 rfl ⟨rfl, rfl, (nl rfl), ?_⟩
   refine ro (qae r0 rfl (nl rfl) ?_)
   refine cb aU fun cL bR aU => cfx (JdO bR :) ?_
   rintro _ cW _ cI ⟨bw, bu, rfl, bt, rfl⟩
   refine cb aU fun cu bN aU => cgx (ih bN :) ?_
   refine qar (qbu bg bM) ?_
   exact eR aU (_, (_, _))
   rw [lty w3, Jy.eq_1] at aU
   refine cT ?_
   exact eM aU _
   rintro t3 _ rfl j3
   refine qao (fa rfl (ro (ld r0 rfl rfl (qbo rfl ?_))))
   refine cs rfl rfl aS ?_ ?_ <;> intro bn aS
   exact eE (er aS hm)
   refine qar (qbu aZ bh) ?_
   exact eR aS (_, (_, _, _), _, _)
   refine qao (fa rfl (ro (ld r0 rfl rfl (qbo rfl ?_))))
   refine cs rfl rfl aS ?_ ?_ <;> intro bn aS
   exact eE (er aS hm)
   refine qar (qbu aZ bh) ?_
   exact eR aS (_, (_, _, _), _, _)
   refine qao (fa rfl (ro (ld r0 rfl rfl (qbo rfl ?_))))
   refine cs rfl rfl aS ?_ ?_ <;> intro cH aS
   exact eE (er aS hm)
   refine fa rfl (ro (ld r1 rfl rfl ?_))
   refine qai rfl ?_
   refine qad (cs rfl rfl aS ?_ ?_) <;> intro cq aS
   refine fa rfl (ro (ld r1 rfl rfl ?_))
   refine cb aS fun cM bW aS => cgx (Jdw bW :) ?_
   refine cs rfl rfl aS ?_ ?_ <;> intro cJ aS
   refine ro (qae r1 rfl (nl rfl) ?_)
   refine qa7 rfl ?_
   refine cb aS fun cO bQ aS => cgx (J1 bQ :) ?_
   refine fa rfl (ro (ld r1 rfl rfl ?_))
   refine cb aS fun bF bm aS => ckx (Jb5 bm :) ?_
   rintro _ _ _ ⟨bb, a8, rfl, bc, rfl⟩
   refine qao (fa rfl (ro (ld r1 rfl rfl (qbo rfl ?_))))
   refine cs rfl rfl aS ?_ ?_ <;> intro bn aS
   exact eE (er aS hm)
   refine qar (qbu aZ bh) ?_
   refine fRo r0 fun bf a6 bd => ?_
   exact eR aS (_, (_, _, _), _, _)
   refine fa rfl (ro (ld r1 rfl rfl ?_))
   refine cb aS fun bF bm aS => ckx (Jb5 bm :) ?_
   rintro _ _ _ ⟨bb, a8, rfl, bc, rfl⟩
   refine qao (fa rfl (ro (ld r1 rfl rfl (qbo rfl ?_))))
   refine cs rfl rfl aS ?_ ?_ <;> intro bn aS
   exact eE (er aS hm)
   refine qar (qbu aZ bh) ?_
   refine fRo r0 fun bf a6 bd => ?_
   exact eR aS (_, (_, _, _), _, _)
   refine qad (cs rfl rfl aS ?_ ?_) <;> intro cw aS
   refine fa rfl (ro (ld r1 rfl rfl ?_))
   obtain ⟨br, aS⟩ := qay aS
   have ba := aY.subC br
   refine RStep.ofN (qgt (l := e0.Aa) (lo := (some 1)) (hi := none) (lo' := (1 : Int)) (hi' := (e0.Aa.length : Int)) rfl rfl rfl rfl rfl aY.le br (ro (qaj rfl ?_)))
   obtain ⟨bM, aS⟩ := qay aS
   obtain ⟨s3, aU, aS⟩ := bnd aS
   refine lD (σ := (Int × Err)) ([11] ++ rg 77 10) [1, 2] (fun i3 => [(77, .int .i64 (i3 : Int))]) (fun _ => []) (fun t3 => [Cells b0 171 [.int .i64 t3.1, qde 87 t3.2]]) (fun _ => True) (fun i3 t3 => Jy (Jx n) ac ((subL e0.Aa (1 : Int) (e0.Aa.length : Int)).drop i3) i3 t3.1 t3.2 = some s3) (fun t3 => t3 = s3) (fun i3 => (subL e0.Aa (1 : Int) (e0.Aa.length : Int)).length - i3) 0 (_, _) aU (And.intro qe (And.intro ?_ ?_))
   clear aU
   rintro i3 ⟨bV, bL⟩ _ aU j3
   dsimp only at aU ⊢
   refine qaf rfl ?_
   refine qag ?_ ?_ <;> intro w3
   obtain ⟨e3, bg, bH⟩ := ltx w3
   rw [bH, Jy.eq_2] at aU
   refine qai rfl ?_
   refine RStep.ofN (qac rfl rfl (qcf ba.rd bg) (nn _) (qbg bg) ?_)
   obtain ⟨bP, bU, bp, bo, bj⟩ := LiR.get ba.rd bg
   obtain ⟨bA, bz, rfl, bB⟩ := Ja.out bj
   refine ro (qap i3 _ bp rfl bo rfl ?_)
   refine qal rfl fun cE => ?_
   refine qaa r0 rfl ⟨rfl, rfl, (nl rfl), ?_⟩
   refine ro (qae r0 rfl (nl rfl) ?_)
   refine cb aU fun cL bR aU => cfx (JdO bR :) ?_
   rintro _ cW _ cI ⟨bw, bu, rfl, bt, rfl⟩
   refine cb aU fun cu bN aU => cgx (ih bN :) ?_
   refine qar (qbu bg bM) ?_
   exact eR aU (_, (_, _))
   rw [lty w3, Jy.eq_1] at aU
   refine cT ?_
   exact eM aU _
   rintro t3 _ rfl j3
   refine qao (fa rfl (ro (ld r0 rfl rfl (qbo rfl ?_))))
   refine cs rfl rfl aS ?_ ?_ <;> intro bn aS
   exact eE (er aS hm)
   refine qar (qbu aZ bh) ?_
   exact eR aS (_, (_, _, _), _, _)
   refine qao (fa rfl (ro (ld r0 rfl rfl (qbo rfl ?_))))
   refine cs rfl rfl aS ?_ ?_ <;> intro bn aS
   exact eE (er aS hm)
   refine qar (qbu aZ bh) ?_
   exact eR aS (_, (_, _, _), _, _)
   rw [lty w0, Jq.eq_1] at aS
   refine cT ?_
   exact eM aS (_, _, _)
   rintro ⟨t0, aW, aX⟩ da cY ⟨cj, _⟩ rfl j0
   replace hm := elg hm
   exact eE hm

def Jbu (n : Nat) (program : Ja) : Option (Int × Err) :=
  (Jau n program).bind fun x6 =>
  if (!x6) then
  some (0, (some 2))
  else
  (Jx n (⟨0, none⟩ : Jm) program.Aa []).bind fun aS =>
  some (aS.line, aS.err)
theorem Je7 {n : Nat} {program : Ja} {aa : Option Addr} {ab : Nat} {K : Hp} {r : Int × Err}
    (hm : Jbu n program = some r) (hX : LiC Ja.R K aa ab 4 program.Aa ∧ GG K) :
    Fn Tryz.prog 51 [.agg #[.int .i64 program.Ab, str program.Ac, .slice aa program.Aa.length ab, .int .i64 program.Ad]] K [] (fun v K' H' => v = .tuple #[.int .i64 r.1, qde 87 r.2] ∧ H' = []) := by
 obtain ⟨ae, hG⟩ := hX
 refine Fn.enter Tryz.func51 Tryz.call51 rfl fun F => ?_
 unfold Jbu at hm
 refine qaq ?_
 intro b1
 refine ro (qae r0 rfl (nl rfl) ?_)
 refine cb hm fun x6 q6 hm => cgx (Je5 q6 :) ?_
 refine qa1 ?_
 refine cs rfl rfl hm ?_ ?_ <;> intro w7 hm
 refine qa7 rfl ?_
 exact eE hm
 refine qak rfl rfl ?_
 refine qaq ?_
 intro aU
 refine fa rfl (ro (ld r1 rfl rfl ?_))
 refine cb hm fun aT aS hm => cgx (JdU aS :) ?_
 refine qau ⟨⟨[], false⟩, _, [(_, _)], []⟩ (by kernel_rfl) ⟨Hp.Le.refl _, (pf rfl), ci0⟩ ?_
 refine qao (fa rfl (qan m0 rfl rfl (qao (fa rfl (qan m0 rfl rfl ?_)))))
 exact eE hm
