/- Functions of the program: mirrors, and that a call returns what the mirror says. Printed by gen.py. -/
import Derived.Test.YtiaaooopklhobaaGreatDoorG4
set_option linter.unusedVariables false
set_option linter.unusedSimpArgs false
open Go Go.SL Go.Proofs
noncomputable section
set_option maxRecDepth 1000000
set_option maxHeartbeats 8000000
def Jds (x : Jf) : Option (Int × Int × Bool) :=
  if decide (x.Op = 1) then
  some (0, 1, ((decide (x.S = ([] : Str)) && decide (x.N ≥ 0)) && decide (x.N ≤ 999999999)))
  else
  if decide (x.Op = 2) then
  (if decide (x.N = 0) then (Jbp x.S).bind fun aW =>
  some aW else some false).bind fun aX =>
  some (0, 1, aX)
  else
  if decide (x.Op = 3) then
  some (0, 1, ((decide (x.S = ([] : Str)) && decide (x.N ≥ 0)) && decide (x.N ≤ 511)))
  else
  if decide (x.Op = 4) then
  some (1, 0, ((decide (x.S = ([] : Str)) && decide (x.N ≥ 0)) && decide (x.N ≤ 511)))
  else
  if decide (x.Op = 5) then
  (if decide (x.N = 0) then (JE Jax x.S).bind fun a6 =>
  some a6 else some false).bind fun aC =>
  some (0, 1, aC)
  else
  if decide (x.Op = 6) then
  (if decide (x.N = 0) then (JE Ja1 x.S).bind fun a8 =>
  some a8 else some false).bind fun aZ =>
  some (1, 1, aZ)
  else
  if decide (x.Op = 7) then
  (if decide (x.N = 0) then (JE Ja2 x.S).bind fun aY =>
  some aY else some false).bind fun aV =>
  some (2, 1, aV)
  else
  if decide (x.Op = 8) then
  some (1, 1, (decide (x.N = 0) && decide (x.S = ([] : Str))))
  else
  if decide (x.Op = 9) then
  some (0, 0, decide (x.S = ([] : Str)))
  else
  if decide (x.Op = 10) then
  some (1, 0, decide (x.S = ([] : Str)))
  else
  if decide (x.Op = 11) then
  (JdT x.S).bind fun aU =>
  some (aU.1, 0, (decide (x.N = 0) && aU.2))
  else
  if decide (x.Op = 12) then
  some (0, 0, (decide (x.N = 0) && decide (x.S = ([] : Str))))
  else
  some (0, 0, false)
theorem Jek {x : Jf} {K : Hp} {r : Int × Int × Bool}
    (hm : Jds x = some r) (hG : GG K) :
    Fn Tryz.prog 153 [.agg #[.int .i64 x.Op, .int .i64 x.N, str x.S]] K [] (fun v K' H' => v = .tuple #[.int .i64 r.1, .int .i64 r.2.1, .bool r.2.2] ∧ H' = []) := by
 obtain ⟨bX, ca, bI, gn_, bj, bA⟩ := gg1 hG
 subst gn_
 obtain ⟨cm, bR, bQ, gn_, bo, bZ⟩ := gg2 hG
 subst gn_
 obtain ⟨cj, bP, bB, gn_, bu, bV⟩ := gg3 hG
 subst gn_
 refine Fn.enter Tryz.func153 Tryz.call153 rfl fun F => ?_
 unfold Jds at hm
 refine qar ?_
 intro b1
 refine fa rfl (ro (ld r0 rfl rfl (qag (fa rfl (ro (ld r0 rfl rfl (qaq ?_)))))))
 refine jR (σ := Unit) ([7] ++ rg 14 11) (fun _ => [(7, .bool ((decide (x.S = ([] : Str)) && decide (x.N ≥ 0)) && decide (x.N ≤ 511)))]) (fun bp => True) ?_ ?_
 refine qaj rfl ?_
 refine qae ?_ ?_ <;> intro aY
 refine fa rfl (ct aY (ro (ld r0 rfl rfl (ct aY (ct aY ?_)))))
 refine qae ?_ ?_ <;> intro aZ
 refine fa rfl (ct aZ (ro (ld r0 rfl rfl (ct aZ (ct aZ ?_)))))
 exact eMt () ⟨bq (qc1 (b := decide (x.N ≤ 511)) (qcy aY aZ)), trivial⟩
 refine cf aZ (cf aZ (cf aZ ?_))
 exact eMt () ⟨bq (((qbc (qcz aY aZ))).symm), trivial⟩
 refine cf aY (cf aY (cf aY (cF (cF (cF (cF ?_))))))
 exact eMt () ⟨bq (((qbc (qbc aY))).symm), trivial⟩
 rintro _ _ bz
 refine fa rfl (ro (ld r0 rfl rfl ?_))
 refine qal rfl ?_
 refine qag (cs rfl rfl hm ?_ ?_) <;> intro bH hm
 refine qa6 ⟨⟨[], false⟩, _, [(_, _)], []⟩ (by kernel_rfl) ⟨Hp.Le.refl _, (pf rfl), ci0⟩ ?_
 refine qae ?_ ?_ <;> intro aX
 refine fa rfl (ct aX (qao m0 rfl rfl (ct aX (ct aX ?_))))
 refine qae ?_ ?_ <;> intro a6
 refine fa rfl (ct a6 (qao m0 rfl rfl (ct a6 (ct a6 ?_))))
 cases hm
 exact en lr ⟨(by rw [← (qc1 (b := decide (x.N ≤ 999999999)) (qcy aX a6))] <;> rfl), rfl⟩ (sc [1] rfl)
 refine cf a6 (cf a6 (cf a6 ?_))
 cases hm
 exact en lr ⟨(by rw [← ((qbc (qcz aX a6))).symm] <;> rfl), rfl⟩ (sc [1] rfl)
 refine cf aX (cf aX (cf aX (cF (cF (cF (cF ?_))))))
 cases hm
 exact en lr ⟨(by rw [← ((qbc (qbc aX))).symm] <;> rfl), rfl⟩ (sc [1] rfl)
 refine qag (cs rfl rfl hm ?_ ?_) <;> intro bN hm
 refine qaj rfl ?_
 obtain ⟨bL, bf, hm⟩ := bnd hm
 refine cS bf (fun bb bf => ?_) fun bb bf => ?_
 refine fa rfl (ct bb (ro (ld r0 rfl rfl (ct bb ?_))))
 refine cb bf fun bG bm bf => cg0 (Jb8 bm :) ?_
 refine ct bb ?_
 cases hm
 exact en lr ⟨(by rw [← (si bf)] <;> rfl), rfl⟩ (sc [1] rfl)
 refine cf bb (cf bb (cf bb ?_))
 cases hm
 exact en lr ⟨(by rw [← ((si bf).symm).symm] <;> rfl), rfl⟩ (sc [1] rfl)
 refine qag (cs rfl rfl hm ?_ ?_) <;> intro bD hm
 exact eE hm
 refine qag (cs rfl rfl hm ?_ ?_) <;> intro cn hm
 exact eE hm
 refine qag (cs rfl rfl hm ?_ ?_) <;> intro bS hm
 refine qaj rfl ?_
 obtain ⟨aC, bh, hm⟩ := bnd hm
 refine cS bh (fun aV bh => ?_) fun aV bh => ?_
 refine ro (qkt bj rfl (ct aV (fa rfl (ct aV (ro (ld r0 rfl rfl (ct aV ?_)))))))
 refine cb bh fun bO bv bh => cgx (JP bv :) ?_
 refine ct aV ?_
 cases hm
 exact en lr ⟨(by rw [← (si bh)] <;> rfl), rfl⟩ (sc [1] rfl)
 refine cf aV (cf aV (cf aV (cf aV ?_)))
 cases hm
 exact en lr ⟨(by rw [← ((si bh).symm).symm] <;> rfl), rfl⟩ (sc [1] rfl)
 refine qag (cs rfl rfl hm ?_ ?_) <;> intro ce hm
 refine qaj rfl ?_
 obtain ⟨bJ, bg, hm⟩ := bnd hm
 refine cS bg (fun aU bg => ?_) fun aU bg => ?_
 refine ro (qkt bo rfl (ct aU (fa rfl (ct aU (ro (ld r0 rfl rfl (ct aU ?_)))))))
 refine cb bg fun bK bn bg => cgx (JP bn :) ?_
 refine ct aU ?_
 cases hm
 exact en lr ⟨(by rw [← (si bg)] <;> rfl), rfl⟩ (sc [1] rfl)
 refine cf aU (cf aU (cf aU (cf aU ?_)))
 cases hm
 exact en lr ⟨(by rw [← ((si bg).symm).symm] <;> rfl), rfl⟩ (sc [1] rfl)
 refine qag (cs rfl rfl hm ?_ ?_) <;> intro bT hm
 refine qaj rfl ?_
 obtain ⟨bY, bd, hm⟩ := bnd hm
 refine cS bd (fun aW bd => ?_) fun aW bd => ?_
 refine ro (qkt bu rfl (ct aW (fa rfl (ct aW (ro (ld r0 rfl rfl (ct aW ?_)))))))
 refine cb bd fun bM bw bd => cgx (JP bw :) ?_
 refine ct aW ?_
 cases hm
 exact en lr ⟨(by rw [← (si bd)] <;> rfl), rfl⟩ (sc [1] rfl)
 refine cf aW (cf aW (cf aW (cf aW ?_)))
 cases hm
 exact en lr ⟨(by rw [← ((si bd).symm).symm] <;> rfl), rfl⟩ (sc [1] rfl)
 refine qag (cs rfl rfl hm ?_ ?_) <;> intro bC hm
 refine qaj rfl ?_
 refine qae ?_ ?_ <;> intro bc
 refine ct bc ?_
 cases hm
 exact en lr ⟨(by rw [← (qc1 (b := decide (x.S = ([] : Str))) bc)] <;> rfl), rfl⟩ (sc [1] rfl)
 refine cf bc ?_
 cases hm
 exact en lr ⟨(by rw [← ((qbc bc)).symm] <;> rfl), rfl⟩ (sc [1] rfl)
 refine qag (cs rfl rfl hm ?_ ?_) <;> intro bU hm
 exact eE hm
 refine qag (cs rfl rfl hm ?_ ?_) <;> intro bF hm
 exact eE hm
 refine qag (cs rfl rfl hm ?_ ?_) <;> intro bW hm
 refine fa rfl (ro (ld r0 rfl rfl ?_))
 refine cb hm fun bl br hm => cg0 (Jev br :) ?_
 refine qaj rfl ?_
 refine qae ?_ ?_ <;> intro a8
 refine ct a8 ?_
 cases hm
 exact en lr ⟨(by rw [← (qc1 (b := bl.2) a8)] <;> rfl), rfl⟩ (sc [1] rfl)
 refine cf a8 ?_
 cases hm
 exact en lr ⟨(by rw [← ((qbc a8)).symm] <;> rfl), rfl⟩ (sc [1] rfl)
 refine qag (cs rfl rfl hm ?_ ?_) <;> intro bt hm
 refine qaj rfl ?_
 refine qae ?_ ?_ <;> intro ba
 refine ct ba ?_
 cases hm
 exact en lr ⟨(by rw [← (qc1 (b := decide (x.S = ([] : Str))) ba)] <;> rfl), rfl⟩ (sc [1] rfl)
 refine cf ba ?_
 cases hm
 exact en lr ⟨(by rw [← ((qbc ba)).symm] <;> rfl), rfl⟩ (sc [1] rfl)
 exact eE hm

def JcC (s : Jo) (slot : Int) : Option (Bool) :=
  (chk ((64 : Int) ≠ 0 ∧ InI (Int.tdiv slot 64))).bind fun _ =>
  (chk (0 ≤ (Int.tdiv slot 64) ∧ (Int.tdiv slot 64) < 8)).bind fun _ =>
  (chk (0 ≤ (Int.tmod slot 64))).bind fun _ =>
  some (decide ((u64and (qov (List.getD [s.At.f0, s.At.f1, s.At.f2, s.At.f3, s.At.f4, s.At.f5, s.At.f6, s.At.f7] (Int.toNat (Int.tdiv slot 64)) 0) (Int.tmod slot 64)) 1) = 1))
theorem JdU {s : Jo} {slot : Int} {K : Hp} {r : Bool}
    (hm : JcC s slot = some r)  :
    Fn Tryz.prog 154 [.agg #[.bool s.Au, .int .i64 s.depth, .int .u64 s.At.f0, .int .u64 s.At.f1, .int .u64 s.At.f2, .int .u64 s.At.f3, .int .u64 s.At.f4, .int .u64 s.At.f5, .int .u64 s.At.f6, .int .u64 s.At.f7], .int .i64 slot] K [] (fun v K' H' => v = .bool r ∧ H' = []) := by
 refine Fn.enter Tryz.func154 Tryz.call154 rfl fun F => ?_
 unfold JcC at hm
 refine qar ?_
 intro b2
 obtain ⟨h6, hm⟩ := qaw hm
 refine ql6 h6.1 h6.2 (fa rfl ?_)
 obtain ⟨h8, hm⟩ := qaw hm
 refine RStep.ofN (qbu (sz := 1) rfl rfl h8.1 h8.2 (ro (qox (L := [s.At.f0, s.At.f1, s.At.f2, s.At.f3, s.At.f4, s.At.f5, s.At.f6, s.At.f7]) (pre := [.bool s.Au, .int .i64 s.depth]) (post := []) r0 rfl (by simp) rfl h8.1 h8.2 (qpt (by decide) ?_))))
 obtain ⟨aU, hm⟩ := qaw hm
 refine qp7 aU ?_
 refine qjy ?_
 refine qag ?_
 exact eE hm

def JaI (t : Jo) : Nat → Nat → Int → Int → Int → Int → Int → Int → Int → Int → Option (Int × Int × Int × Int × Int × Int × Int × Int)
  | 0, _, ac, aY, aX, aZ, aV, a8, aW, a6 => some (ac, aY, aX, aZ, aV, a8, aW, a6)
  | ba + 1, i0, ac, aY, aX, aZ, aV, a8, aW, a6 =>
    (chk (0 ≤ (i0 : Int) ∧ (i0 : Int) < 8)).bind fun _ =>
    (chk (0 ≤ (i0 : Int) ∧ (i0 : Int) < 8)).bind fun _ =>
    (chk (0 ≤ (i0 : Int) ∧ (i0 : Int) < 8)).bind fun _ =>
    (some (List.set [ac, aY, aX, aZ, aV, a8, aW, a6] (Int.toNat (i0 : Int)) (u64and (List.getD [ac, aY, aX, aZ, aV, a8, aW, a6] (Int.toNat (i0 : Int)) 0) (List.getD [t.At.f0, t.At.f1, t.At.f2, t.At.f3, t.At.f4, t.At.f5, t.At.f6, t.At.f7] (Int.toNat (i0 : Int)) 0)))).bind fun aU =>
    JaI t ba (i0 + 1) (List.getD aU 0 0) (List.getD aU 1 0) (List.getD aU 2 0) (List.getD aU 3 0) (List.getD aU 4 0) (List.getD aU 5 0) (List.getD aU 6 0) (List.getD aU 7 0)
def Jdg (s : Jo) (t : Jo) : Option (Bool × Jo) :=
  if (!s.Au) then
  some (true, t)
  else
  (chk (InI (8 : Int))).bind fun _ =>
  (JaI t (8 : Int).toNat 0 s.At.f0 s.At.f1 s.At.f2 s.At.f3 s.At.f4 s.At.f5 s.At.f6 s.At.f7).bind fun t0 =>
  some (decide (s.depth = t.depth), (⟨s.Au, s.depth, (⟨t0.1, t0.2.1, t0.2.2.1, t0.2.2.2.1, t0.2.2.2.2.1, t0.2.2.2.2.2.1, t0.2.2.2.2.2.2.1, t0.2.2.2.2.2.2.2⟩ : JaJ)⟩ : Jo))
theorem JeJ {s : Jo} {t : Jo} {b0 : Nat} {K : Hp} {r : Bool × Jo}
    (hm : Jdg s t = some r)  :
    Fn Tryz.prog 155 [.pointer (some ⟨b0, 0, none⟩), .agg #[.bool t.Au, .int .i64 t.depth, .int .u64 t.At.f0, .int .u64 t.At.f1, .int .u64 t.At.f2, .int .u64 t.At.f3, .int .u64 t.At.f4, .int .u64 t.At.f5, .int .u64 t.At.f6, .int .u64 t.At.f7]] K [Cells b0 228 [.bool s.Au, .int .i64 s.depth, .int .u64 s.At.f0, .int .u64 s.At.f1, .int .u64 s.At.f2, .int .u64 s.At.f3, .int .u64 s.At.f4, .int .u64 s.At.f5, .int .u64 s.At.f6, .int .u64 s.At.f7]] (fun v K' H' => v = .bool r.1 ∧ H' = [Cells b0 228 [.bool r.2.Au, .int .i64 r.2.depth, .int .u64 r.2.At.f0, .int .u64 r.2.At.f1, .int .u64 r.2.At.f2, .int .u64 r.2.At.f3, .int .u64 r.2.At.f4, .int .u64 r.2.At.f5, .int .u64 r.2.At.f6, .int .u64 r.2.At.f7]]) := by
 refine Fn.enter Tryz.func155 Tryz.call155 rfl fun F => ?_
 unfold Jdg at hm
 refine qar ?_
 intro b3
 refine qah (fa rfl (ro (ld r1 rfl rfl (qau ?_))))
 refine cs rfl rfl hm ?_ ?_ <;> intro bj hm
 refine ro (qab r0 rfl (nl rfl) (qah ?_))
 refine qaa r1 rfl ⟨rfl, rfl, (nl rfl), ?_⟩
 exact eE hm
 obtain ⟨bh, hm⟩ := qaw hm
 obtain ⟨s0, aV, hm⟩ := bnd hm
 refine lD (σ := (Int × Int × Int × Int × Int × Int × Int × Int)) ([5] ++ rg 14 18) [0, 2] (fun i0 => [(14, .int .i64 (i0 : Int))]) (fun _ => []) (fun t0 => [Cells b0 228 [.bool s.Au, .int .i64 s.depth, .int .u64 t0.1, .int .u64 t0.2.1, .int .u64 t0.2.2.1, .int .u64 t0.2.2.2.1, .int .u64 t0.2.2.2.2.1, .int .u64 t0.2.2.2.2.2.1, .int .u64 t0.2.2.2.2.2.2.1, .int .u64 t0.2.2.2.2.2.2.2]]) (fun _ => True) (fun i0 t0 => JaI t ((8 : Int).toNat - i0) i0 t0.1 t0.2.1 t0.2.2.1 t0.2.2.2.1 t0.2.2.2.2.1 t0.2.2.2.2.2.1 t0.2.2.2.2.2.2.1 t0.2.2.2.2.2.2.2 = some s0) (fun t0 => t0 = s0) (fun i0 => (8 : Int).toNat - i0) 0 (_, _, _, _, _, _, _, _) aV (And.intro qe (And.intro ?_ ?_))
 clear aV
 rintro i0 ⟨ac, a6, bc, a8, aY, bb, aZ, ba⟩ _ aV j0
 dsimp only at aV ⊢
 refine qac rfl ?_
 refine qae ?_ ?_ <;> intro w0
 rw [ltn (n := (8 : Int)) w0, JaI.eq_2] at aV
 refine qal rfl ?_
 refine qa2 ⟨⟨[], false⟩, _, [(_, _), (_, _)], []⟩ 13 rfl (by kernel_rfl) ⟨Hp.Le.refl _, (pf rfl), ci0⟩ ?_
 refine qah (fa rfl ?_)
 obtain ⟨bd, aV⟩ := qaw aV
 refine qbu (sz := 1) rfl rfl bd.1 bd.2 ?_
 refine qf0 (L := [ac, a6, bc, a8, aY, bb, aZ, ba]) (pre := [.bool s.Au, .int .i64 s.depth]) (post := []) m0 rfl (by simp) rfl bd.1 bd.2 ?_
 refine fa rfl ?_
 obtain ⟨bf, aV⟩ := qaw aV
 refine qbu (sz := 1) rfl rfl bf.1 bf.2 ?_
 refine qf0 (L := [t.At.f0, t.At.f1, t.At.f2, t.At.f3, t.At.f4, t.At.f5, t.At.f6, t.At.f7]) (pre := [.bool t.Au, .int .i64 t.depth]) (post := []) m1 rfl (by simp) rfl bf.1 bf.2 ?_
 refine qjy ?_
 refine qah (fa rfl ?_)
 obtain ⟨bg, aV⟩ := qaw aV
 refine qbu (sz := 1) rfl rfl bg.1 bg.2 ?_
 obtain ⟨aU, aW, aV⟩ := bnd aV
 replace aW := Option.some.inj aW
 have aX : aU.length = 8 := by rw [← aW]; simp
 refine qmj (L := [ac, a6, bc, a8, aY, bb, aZ, ba]) (pre := [.bool s.Au, .int .i64 s.depth]) (post := []) (cs' := [.bool s.Au, .int .i64 s.depth, .int .u64 (List.getD aU 0 0), .int .u64 (List.getD aU 1 0), .int .u64 (List.getD aU 2 0), .int .u64 (List.getD aU 3 0), .int .u64 (List.getD aU 4 0), .int .u64 (List.getD aU 5 0), .int .u64 (List.getD aU 6 0), .int .u64 (List.getD aU 7 0)]) r0 rfl (by simp) rfl bg.1 bg.2 aW (by rw [qrw aX]; rfl) ?_
 refine ⟨⟨Hp.emp_le _, (pf rfl), ci0⟩, ?_⟩
 refine qam (qij w0 bh) ?_
 exact eR aV (_, (_, _, _, _, _, _, _, _))
 rw [lto (n := (8 : Int)) w0, JaI.eq_1] at aV
 refine cT ?_
 exact eM aV _
 rintro t0 _ rfl j0
 refine qa6 ⟨⟨[], false⟩, _, [(_, _), (_, _)], []⟩ (by kernel_rfl) ⟨Hp.Le.refl _, (pf rfl), ci0⟩ ?_
 refine qah (fa rfl (qao m0 rfl rfl (fa rfl (qao m1 rfl rfl (qag ?_)))))
 exact eE hm

def Jas (s_i : Nat) (t : Jo) : Nat → Nat → (List Jo) → Option ((List Jo))
  | 0, _, ac => some ac
  | aW + 1, i0, ac =>
    (chk (0 ≤ (i0 : Int) ∧ (i0 : Int) < 8)).bind fun _ =>
    (ac[s_i]?).bind fun aU =>
    (chk (0 ≤ (i0 : Int) ∧ (i0 : Int) < 8)).bind fun _ =>
    (chk (0 ≤ (i0 : Int) ∧ (i0 : Int) < 8)).bind fun _ =>
    (some (List.set [aU.At.f0, aU.At.f1, aU.At.f2, aU.At.f3, aU.At.f4, aU.At.f5, aU.At.f6, aU.At.f7] (Int.toNat (i0 : Int)) (u64and (List.getD [aU.At.f0, aU.At.f1, aU.At.f2, aU.At.f3, aU.At.f4, aU.At.f5, aU.At.f6, aU.At.f7] (Int.toNat (i0 : Int)) 0) (List.getD [t.At.f0, t.At.f1, t.At.f2, t.At.f3, t.At.f4, t.At.f5, t.At.f6, t.At.f7] (Int.toNat (i0 : Int)) 0)))).bind fun aV =>
    Jas s_i t aW (i0 + 1) (ac.set s_i (⟨aU.Au, aU.depth, (⟨(List.getD aV 0 0), (List.getD aV 1 0), (List.getD aV 2 0), (List.getD aV 3 0), (List.getD aV 4 0), (List.getD aV 5 0), (List.getD aV 6 0), (List.getD aV 7 0)⟩ : JaJ)⟩ : Jo))
def Jbd (s : (List Jo)) (s_i : Nat) (t : Jo) : Option (Bool × (List Jo)) :=
  (s[s_i]?).bind fun aV =>
  if (!aV.Au) then
  some (true, (s.set s_i t))
  else
  (chk (InI (8 : Int))).bind fun _ =>
  (Jas s_i t (8 : Int).toNat 0 s).bind fun t0 =>
  (t0[s_i]?).bind fun aU =>
  some (decide (aU.depth = t.depth), t0)
theorem JaQ {s : (List Jo)} {s_i : Nat} {t : Jo} {aQ : Option Addr} {aT : Nat} {K : Hp} {r : Bool × (List Jo)}
    (hm : Jbd s s_i t = some r) (aJ : 0 < s.length → Has aQ) :
    Fn Tryz.prog 155 [(qjc aQ (s_i * 10)), .agg #[.bool t.Au, .int .i64 t.depth, .int .u64 t.At.f0, .int .u64 t.At.f1, .int .u64 t.At.f2, .int .u64 t.At.f3, .int .u64 t.At.f4, .int .u64 t.At.f5, .int .u64 t.At.f6, .int .u64 t.At.f7]] K [qat Jo.enc aQ 228 10 aT s] (fun v K' H' => v = .bool r.1 ∧ (0 < r.2.length → Has aQ) ∧ s.length = r.2.length ∧ H' = [qat Jo.enc aQ 228 10 aT r.2]) := by
 refine Fn.enter Tryz.func155 Tryz.call155 rfl fun F => ?_
 unfold Jbd at hm
 obtain ⟨bh, aX, hm⟩ := bnd hm
 refine qar ?_
 intro b3
 refine qdq (qco aJ aX) (qba rfl (qco aJ aX) (ro (qbv (i := s_i) (o := 0) r1 rfl aX rfl rfl (qau ?_))))
 refine cs rfl rfl hm ?_ ?_ <;> intro bn hm
 refine ro (qab r0 rfl (nl rfl) (qdq (qco aJ aX) ?_))
 refine qex (o := 0) (y := t) bh r1 rfl aX rfl (by (conv => whnf); exact ⟨rfl, rfl, (nl rfl), rfl, rfl, rfl⟩) ?_
 cases hm
 exact en lr ⟨rfl, (by first | simpa using aJ | exact fun _ => ⟨_, _, rfl⟩), ((rfl).trans List.length_set.symm), rfl⟩ (sc [0,1] rfl)
 obtain ⟨bj, hm⟩ := qaw hm
 obtain ⟨s0, aV, hm⟩ := bnd hm
 refine lD (σ := ((List Jo))) ([5] ++ rg 14 18) [0, 2] (fun i0 => [(14, .int .i64 (i0 : Int))]) (fun _ => []) (fun t0 => [qat Jo.enc aQ 228 10 aT t0]) (fun t0 => (0 < t0.length → Has aQ) ∧ s.length = t0.length) (fun i0 t0 => Jas s_i t ((8 : Int).toNat - i0) i0 t0 = some s0) (fun t0 => t0 = s0) (fun i0 => (8 : Int).toNat - i0) 0 _ aV (And.intro qe (And.intro ?_ ?_))
 clear aV
 rintro i0 ac ⟨aZ, a8⟩ aV j0
 conv at aV => whnf
 refine qac rfl ?_
 refine qae ?_ ?_ <;> intro w0
 rw [ltn (n := (8 : Int)) w0, Jas.eq_2] at aV
 refine qal rfl ?_
 refine qa6 ⟨⟨[], true⟩, _, [], []⟩ (by kernel_rfl) ⟨Hp.Le.refl _, (pf rfl), ci0⟩ ?_
 refine qdq (qco aJ aX) (qba rfl (qco aJ aX) ?_)
 obtain ⟨ba, aV⟩ := qaw aV
 refine qi2 (sz := 1) rfl rfl (qco aJ aX) ba.1 ba.2 ?_
 obtain ⟨aU, bf, aV⟩ := bnd aV
 refine qbv (i := s_i) (o := 2 + (Int.toNat (i0 : Int))) r0 rfl bf (qjz (L := [aU.At.f0, aU.At.f1, aU.At.f2, aU.At.f3, aU.At.f4, aU.At.f5, aU.At.f6, aU.At.f7]) (pre := [.bool aU.Au, .int .i64 aU.depth]) (post := []) rfl ba.1 ba.2) (by omega) ?_
 refine fa rfl ?_
 obtain ⟨bb, aV⟩ := qaw aV
 refine qbu (sz := 1) rfl rfl bb.1 bb.2 ?_
 refine qox (L := [t.At.f0, t.At.f1, t.At.f2, t.At.f3, t.At.f4, t.At.f5, t.At.f6, t.At.f7]) (pre := [.bool t.Au, .int .i64 t.depth]) (post := []) r1 rfl (by simp) rfl bb.1 bb.2 ?_
 refine qjy ?_
 refine qdq (qco aJ aX) (qba rfl (qco aJ aX) ?_)
 obtain ⟨bc, aV⟩ := qaw aV
 refine qi2 (sz := 1) rfl rfl (qco aJ aX) bc.1 bc.2 ?_
 obtain ⟨aW, aY, aV⟩ := bnd aV
 replace aY := Option.some.inj aY
 have a6 : aW.length = 8 := by rw [← aY]; simp
 refine qex (n := 1) (o := 2 + (Int.toNat (i0 : Int))) (y := (⟨aU.Au, aU.depth, (⟨(List.getD aW 0 0), (List.getD aW 1 0), (List.getD aW 2 0), (List.getD aW 3 0), (List.getD aW 4 0), (List.getD aW 5 0), (List.getD aW 6 0), (List.getD aW 7 0)⟩ : JaJ)⟩ : Jo)) aU r0 rfl bf (by omega) (by rw [qbt]; exact ⟨rfl, rfl, by omega, (qhn (L := [aU.At.f0, aU.At.f1, aU.At.f2, aU.At.f3, aU.At.f4, aU.At.f5, aU.At.f6, aU.At.f7]) (pre := [.bool aU.Au, .int .i64 aU.depth]) (post := []) bc.1 bc.2).trans (by rw [aY, qrw a6]; rfl), rfl, rfl⟩) ?_
 refine qk (pf rfl) ?_
 refine qam (qij w0 bj) ?_
 exact rd (i0 + 1, (ac.set s_i (⟨aU.Au, aU.depth, (⟨(List.getD aW 0 0), (List.getD aW 1 0), (List.getD aW 2 0), (List.getD aW 3 0), (List.getD aW 4 0), (List.getD aW 5 0), (List.getD aW 6 0), (List.getD aW 7 0)⟩ : JaJ)⟩ : Jo))) ⟨rfl, trivial⟩ rfl (pf rfl) lr (qqk w0) ⟨⟨(by first | simpa using aZ | exact fun _ => ⟨_, _, rfl⟩), ((a8).trans List.length_set.symm)⟩, aV⟩
 rw [lto (n := (8 : Int)) w0, Jas.eq_1] at aV
 refine cT ?_
 exact eM aV _
 rintro t0 ⟨bd, bg⟩ rfl j0
 refine qa6 ⟨⟨[], true⟩, _, [], []⟩ (by kernel_rfl) ⟨Hp.Le.refl _, (pf rfl), ci0⟩ ?_
 refine qdq (qco aJ aX) (qba rfl (qco aJ aX) ?_)
 obtain ⟨bm, bl, hm⟩ := bnd hm
 refine qbv (i := s_i) (o := 1) r0 rfl bl rfl rfl ?_
 refine fa rfl ?_
 refine ld r1 rfl rfl ?_
 refine qag ?_
 exact eE hm

def Jbg (code : (List Jf)) : List Jf → Nat → Int → (List Jo) → Option (Fl (Int × Bool) (Int × (List Jo)))
  | [], _, ac, aX => some (Fl.go (ac, aX))
  | e0 :: ba, i0, ac, aX =>
    (ix aX (i0 : Int)).bind fun aU =>
    (Jds e0).bind fun ao =>
    (chk (InI ((code.length : Int) - 1))).bind fun _ =>
    if ((((!ao.2.2) || (!aU.Au)) || decide (aU.depth < ao.1)) || (!((decide (e0.Op = 12)) == (decide ((i0 : Int) = ((code.length : Int) - 1)))))) then
    some (Fl.ret (0, false))
    else
    (if decide (e0.Op = 3) then (JcC aU e0.N).bind fun bd =>
    some (!bd) else some false).bind fun bf =>
    if bf then
    some (Fl.ret (0, false))
    else
    (chk (InI (ao.2.1 - ao.1))).bind fun _ =>
    (chk (InI (aU.depth + (ao.2.1 - ao.1)))).bind fun _ =>
    ((if decide (e0.Op = 4) then
    (chk ((64 : Int) ≠ 0 ∧ InI (Int.tdiv e0.N 64))).bind fun _ =>
    (chk (0 ≤ (Int.tdiv e0.N 64) ∧ (Int.tdiv e0.N 64) < 8)).bind fun _ =>
    (chk (0 ≤ (Int.tmod e0.N 64))).bind fun _ =>
    (chk (0 ≤ (Int.tdiv e0.N 64) ∧ (Int.tdiv e0.N 64) < 8)).bind fun _ =>
    (some (List.set [aU.At.f0, aU.At.f1, aU.At.f2, aU.At.f3, aU.At.f4, aU.At.f5, aU.At.f6, aU.At.f7] (Int.toNat (Int.tdiv e0.N 64)) (u64or (List.getD [aU.At.f0, aU.At.f1, aU.At.f2, aU.At.f3, aU.At.f4, aU.At.f5, aU.At.f6, aU.At.f7] (Int.toNat (Int.tdiv e0.N 64)) 0) (qou 1 (Int.tmod e0.N 64))))).bind fun aW =>
    some ((List.getD aW 0 0), (List.getD aW 1 0), (List.getD aW 2 0), (List.getD aW 3 0), (List.getD aW 4 0), (List.getD aW 5 0), (List.getD aW 6 0), (List.getD aW 7 0))
    else
    some (aU.At.f0, aU.At.f1, aU.At.f2, aU.At.f3, aU.At.f4, aU.At.f5, aU.At.f6, aU.At.f7) : Option (Int × Int × Int × Int × Int × Int × Int × Int))).bind fun aV =>
    ((if (decide (e0.Op = 9) || decide (e0.Op = 10)) then
    if (decide (e0.N ≤ (i0 : Int)) || decide (e0.N ≥ (code.length : Int))) then
    some (Fl.ret (0, false))
    else
    (ix aX e0.N).bind fun bb =>
    (Jbd aX ((e0.N).toNat) (⟨aU.Au, (aU.depth + (ao.2.1 - ao.1)), (⟨aV.1, aV.2.1, aV.2.2.1, aV.2.2.2.1, aV.2.2.2.2.1, aV.2.2.2.2.2.1, aV.2.2.2.2.2.2.1, aV.2.2.2.2.2.2.2⟩ : JaJ)⟩ : Jo)).bind fun aZ =>
    if (!aZ.1) then
    some (Fl.ret (0, false))
    else
    some (Fl.go aZ.2)
    else
    some (Fl.go aX) : Option (Fl (Int × Bool) ((List Jo))))).bind fun a8 => a8.el (fun r => some (Fl.ret r)) fun aY =>
    if decide ((i0 : Int) = ((code.length : Int) - 1)) then
    some (Fl.ret ((max (max ac aU.depth) (aU.depth + (ao.2.1 - ao.1))), decide ((aU.depth + (ao.2.1 - ao.1)) = 0)))
    else
    if decide (e0.Op ≠ 9) then
    (ix aY ((i0 : Int) + 1)).bind fun bc =>
    (Jbd aY ((((i0 : Int) + 1)).toNat) (⟨aU.Au, (aU.depth + (ao.2.1 - ao.1)), (⟨aV.1, aV.2.1, aV.2.2.1, aV.2.2.2.1, aV.2.2.2.2.1, aV.2.2.2.2.2.1, aV.2.2.2.2.2.2.1, aV.2.2.2.2.2.2.2⟩ : JaJ)⟩ : Jo)).bind fun a6 =>
    if (!a6.1) then
    some (Fl.ret (0, false))
    else
    Jbg code ba (i0 + 1) (max (max ac aU.depth) (aU.depth + (ao.2.1 - ao.1))) a6.2
    else
    Jbg code ba (i0 + 1) (max (max ac aU.depth) (aU.depth + (ao.2.1 - ao.1))) aY
def JdG (code : (List Jf)) : Option (Int × Bool) :=
  if (decide ((code.length : Int) < 1) || decide ((code.length : Int) > 2048)) then
  some (0, false)
  else
  (chk ((0 : Int) ≤ (code.length : Int) ∧ (code.length : Int) ≤ (lim : Int))).bind fun _ =>
  (ix (List.replicate (Int.toNat (code.length : Int)) ((⟨false, 0, (⟨0, 0, 0, 0, 0, 0, 0, 0⟩ : JaJ)⟩ : Jo) : Jo)) 0).bind fun aU =>
  (chk (code.length ≤ qa3)).bind fun _ =>
  (Jbg code code 0 0 ((List.replicate (Int.toNat (code.length : Int)) ((⟨false, 0, (⟨0, 0, 0, 0, 0, 0, 0, 0⟩ : JaJ)⟩ : Jo) : Jo)).set ((0 : Int).toNat) (⟨true, aU.depth, aU.At⟩ : Jo))).bind fun s0 => s0.el some fun t0 =>
  some (0, false)
theorem Jes {code : (List Jf)} {aa : Option Addr} {ab : Nat} {n0 : Nat} {K : Hp} {r : Int × Bool}
    (hm : JdG code = some r) (hX : RdC Jf.enc K aa ab 3 code ∧ n0 = code.length ∧ GG K) :
    Fn Tryz.prog 106 [.slice aa n0 ab] K [] (fun v K' H' => v = .tuple #[.int .i64 r.1, .bool r.2] ∧ H' = []) := by
 obtain ⟨ae, cO, hG⟩ := hX
 subst cO
 refine Fn.enter Tryz.func106 Tryz.call106 rfl fun F => ?_
 unfold JdG at hm
 refine jR (σ := Unit) (rg 13 8) (fun _ => [(20, .bool (decide ((code.length : Int) < 1) || decide ((code.length : Int) > 2048)))]) (fun cY => True) ?_ ?_
 refine qaj rfl ?_
 refine ro (qak rfl ?_)
 refine qae ?_ ?_ <;> intro bj
 refine ct bj (ct bj (ct bj ?_))
 exact eMt () ⟨bq (((qcn bj)).symm), trivial⟩
 refine cf bj (ro (qak rfl (cf bj (cf bj ?_))))
 exact eMt () ⟨bq (qg2 (b := decide ((code.length : Int) > 2048)) bj), trivial⟩
 rintro _ _ c6
 refine cs rfl rfl hm ?_ ?_ <;> intro c9 hm
 exact eE hm
 refine ro (qak rfl ?_)
 obtain ⟨cU, hm⟩ := qaw hm
 refine qno (enc := Jo.enc) ((⟨false, 0, (⟨0, 0, 0, 0, 0, 0, 0, 0⟩ : JaJ)⟩ : Jo) : Jo) qqo rfl rfl rfl cU fun bZ => ?_
 obtain ⟨ca, cH, ce, hm⟩ := ixb hm
 refine RStep.ofN (qad rfl rfl (qco (fun _ => ⟨_, _, rfl⟩) ce) cH (qax List.length_replicate.symm cH ce) (qba rfl (qco (fun _ => ⟨_, _, rfl⟩) ce) ?_))
 refine qex (o := 0) (y := (⟨true, ca.depth, ca.At⟩ : Jo)) ca r0 rfl ce rfl (by (conv => whnf); exact ⟨rfl, rfl, (nl rfl), rfl, rfl, rfl⟩) ?_
 refine ro (qak rfl ?_)
 obtain ⟨bY, hm⟩ := qaw hm
 obtain ⟨s0, aX, hm⟩ := bnd hm
 refine lD (σ := (Int × (List Jo))) ([2,3] ++ rg 5 8 ++ rg 29 129) [1] (fun i0 => [(29, .int .i64 (i0 : Int))]) (fun t0 => [(5, .int .i64 t0.1)]) (fun t0 => [qat Jo.enc (some ⟨bZ, 0, none⟩) 228 10 (Int.toNat (code.length : Int)) t0.2]) (fun t0 => (0 < t0.2.length → Has (some ⟨bZ, 0, none⟩)) ∧ (Int.toNat (code.length : Int)) = t0.2.length) (fun i0 t0 => Jbg code (code.drop i0) i0 t0.1 t0.2 = some s0) (fun t0 => s0 = Fl.go t0) (fun i0 => code.length - i0) 0 (0, ((List.replicate (Int.toNat (code.length : Int)) ((⟨false, 0, (⟨0, 0, 0, 0, 0, 0, 0, 0⟩ : JaJ)⟩ : Jo) : Jo)).set ((0 : Int).toNat) (⟨true, ca.depth, ca.At⟩ : Jo))) aX (And.intro ⟨⟨(by first | simpa using (fun _ => ⟨_, _, rfl⟩) | exact fun _ => ⟨_, _, rfl⟩), ((List.length_replicate.symm).trans List.length_set.symm)⟩, ⟨rfl, rfl, trivial⟩, _, (sp rfl)⟩ (And.intro ?_ ?_))
 clear aX
 rintro i0 ⟨ac, cJ⟩ ⟨bI, bt⟩ aX j0
 dsimp only at aX ⊢
 refine qac rfl ?_
 refine qae ?_ ?_ <;> intro w0
 obtain ⟨e0, bJ, cQ⟩ := ltx w0
 rw [cQ, Jbg.eq_2] at aX
 refine qal rfl ?_
 refine RStep.ofN (qad rfl rfl (qff ae.rd bJ) (nn _) (qbl bJ) (ro (qan i0 _ ae.rd rfl (mp bJ) rfl ?_)))
 refine qaf rfl fun b7 => ?_
 refine qaa r0 rfl ⟨rfl, rfl, (nl rfl), ?_⟩
 obtain ⟨bb, cD, co, aX⟩ := ixb aX
 refine RStep.ofN (qad rfl rfl (qco bI co) cD (qax bt cD co) (ro (qfg (i := ((i0 : Int)).toNat) r1 rfl co rfl rfl ?_)))
 refine qaf rfl fun b8 => ?_
 refine qaa r0 rfl ⟨rfl, rfl, (nl rfl), ?_⟩
 refine ro (qab r1 rfl (nl rfl) ?_)
 refine cb aX fun ao c4 aX => cgx (Jek c4 :) ?_
 refine ro (qak rfl ?_)
 obtain ⟨cM, aX⟩ := qaw aX
 refine qam cM (qag ?_)
 refine qaj rfl ?_
 refine qau ?_
 refine qae ?_ ?_ <;> intro bd
 refine ct bd (ct bd (ct bd (cT (cT (cT (cT (cT ?_)))))))
 refine cT (cT (cT (cT (cT (cT ?_)))))
 replace aX := ift (qcn (qcn (qcn (qdw (qik bd))))) aX
 refine cT (cT (cT (cT (cT (cT (qac rfl (cT ?_)))))))
 exact eE (er aX hm)
 refine fa rfl (cf bd (ro (ld r0 rfl rfl (cf bd (qau (cf bd ?_))))))
 refine qae ?_ ?_ <;> intro bc
 refine ct bc (ct bc (ct bc (ct bc (cT (cT (cT (cT ?_)))))))
 refine cT (cT ?_)
 replace aX := ift (qcn (qcn (qg1 (qc0 (qgn bd)) (qdw (qik bc))))) aX
 refine cT (cT (cT (cT (cT (cT (qac rfl (cT ?_)))))))
 exact eE (er aX hm)
 refine fa rfl (cf bc (ro (ld r0 rfl rfl (cf bc (cf bc (cf bc ?_))))))
 refine qae ?_ ?_ <;> intro ba
 refine ct ba (ct ba (ct ba (ct ba (ct ba ?_))))
 replace aX := ift (qcn (qg1 (qew (qc0 (qgn bd)) (qc0 (qgn bc))) ba)) aX
 refine cT (cT (cT (cT (cT (cT (qac rfl (cT ?_)))))))
 exact eE (er aX hm)
 refine fa rfl (cf ba (ro (ld r1 rfl rfl (cf ba (qag (cf ba (cf ba (qko rfl ?_))))))))
 refine cf ba ?_
 refine qae ?_ ?_ <;> intro a6
 replace aX := ift (qg1 (qew (qew (qc0 (qgn bd)) (qc0 (qgn bc))) ba) a6) aX
 refine ct a6 (ct a6 (ct a6 (ct a6 (ct a6 (qac rfl (cT ?_))))))
 exact eE (er aX hm)
 replace aX := qa9 (qew (qew (qew (qc0 (qgn bd)) (qc0 (qgn bc))) ba) a6) aX
 refine fa rfl (cf a6 (ro (ld r1 rfl rfl (cf a6 (qag (cf a6 ?_))))))
 obtain ⟨c8, bQ, aX⟩ := bnd aX
 refine cS bQ (fun bf bQ => ?_) fun bf bQ => ?_
 refine ro (qab r0 rfl (nl rfl) (ct bf (fa rfl (ct bf (ro (ld r1 rfl rfl (ct bf ?_)))))))
 refine cb bQ fun dc c5 bQ => cg0 (JdU c5 :) ?_
 refine ct bf (qau (cf a6 (ct bf (cf a6 (qac rfl ?_)))))
 refine qae ?_ ?_ <;> intro cG
 replace aX := ift ((si bQ).symm.trans (qdw (qik cG))) aX
 exact eE (er aX hm)
 replace aX := qa9 ((si bQ).symm.trans (qc0 (qgn cG))) aX
 refine fa rfl (ro (ld r0 rfl rfl (ro (qch (fa rfl (ro (ld r0 rfl rfl ?_)))))))
 refine ci aX fun aX => ?_
 obtain ⟨cC, aX⟩ := qaw aX
 refine qam cC (fa rfl ?_)
 refine qaa r0 rfl ⟨rfl, rfl, (nl rfl), ?_⟩
 refine fa rfl (ro (ld r0 rfl rfl (ro (qch (fa rfl (ro (ld r1 rfl rfl (qag ?_))))))))
 obtain ⟨cB, bh, aX⟩ := bnd aX
 refine jD (σ := (Int × Int × Int × Int × Int × Int × Int × Int)) (rg 99 13) [1, 2, 3] (fun bm => []) (fun bm => [Cells b8 228 [.bool bb.Au, .int .i64 (bb.depth + (ao.2.1 - ao.1)), .int .u64 bm.1, .int .u64 bm.2.1, .int .u64 bm.2.2.1, .int .u64 bm.2.2.2.1, .int .u64 bm.2.2.2.2.1, .int .u64 bm.2.2.2.2.2.1, .int .u64 bm.2.2.2.2.2.2.1, .int .u64 bm.2.2.2.2.2.2.2]]) (fun bm => bm = cB) (And.intro ?_ ?_)
 refine cs rfl rfl bh ?_ ?_ <;> intro cX bh
 refine qa2 ⟨⟨[], false⟩, _, [(_, _), (_, _)], []⟩ 12 rfl (by kernel_rfl) ⟨Hp.Le.refl _, (sc [1,0] rfl), ci0⟩ ?_
 refine fa rfl (qao m0 rfl rfl ?_)
 obtain ⟨bL, bh⟩ := qaw bh
 refine ql6 bL.1 bL.2 (fa rfl ?_)
 obtain ⟨bo, bh⟩ := qaw bh
 refine qbu (sz := 1) rfl rfl bo.1 bo.2 ?_
 refine qf0 (L := [bb.At.f0, bb.At.f1, bb.At.f2, bb.At.f3, bb.At.f4, bb.At.f5, bb.At.f6, bb.At.f7]) (pre := [.bool bb.Au, .int .i64 (bb.depth + (ao.2.1 - ao.1))]) (post := []) m1 rfl (by simp) rfl bo.1 bo.2 ?_
 refine fa rfl (qao m0 rfl rfl (qpt (by decide) ?_))
 obtain ⟨bS, bh⟩ := qaw bh
 refine qmi bS ?_
 refine qow ?_
 refine fa rfl ?_
 obtain ⟨bn, bh⟩ := qaw bh
 refine qbu (sz := 1) rfl rfl bn.1 bn.2 ?_
 obtain ⟨bp, bD, bh⟩ := bnd bh
 replace bD := Option.some.inj bD
 have bX : bp.length = 8 := by rw [← bD]; simp
 refine qmj (L := [bb.At.f0, bb.At.f1, bb.At.f2, bb.At.f3, bb.At.f4, bb.At.f5, bb.At.f6, bb.At.f7]) (pre := [.bool bb.Au, .int .i64 (bb.depth + (ao.2.1 - ao.1))]) (post := []) (cs' := [.bool bb.Au, .int .i64 (bb.depth + (ao.2.1 - ao.1)), .int .u64 (List.getD bp 0 0), .int .u64 (List.getD bp 1 0), .int .u64 (List.getD bp 2 0), .int .u64 (List.getD bp 3 0), .int .u64 (List.getD bp 4 0), .int .u64 (List.getD bp 5 0), .int .u64 (List.getD bp 6 0), .int .u64 (List.getD bp 7 0)]) r0 rfl (by simp) rfl bn.1 bn.2 bD (by rw [qrw bX]; rfl) ?_
 refine ⟨⟨Hp.emp_le _, (pf rfl), ci0⟩, ?_⟩
 exact eM bh _
 exact eM bh _
 rintro bm rfl cP
 refine jR (σ := Unit) (rg 112 8) (fun _ => [(119, .bool (decide (e0.Op = 9) || decide (e0.Op = 10)))]) (fun cV => True) ?_ ?_
 refine qaj rfl ?_
 refine fa rfl (ro (ld r1 rfl rfl (qag ?_)))
 refine qae ?_ ?_ <;> intro aY
 refine ct aY (ct aY (ct aY ?_))
 exact eMt () ⟨bq (((qcn aY)).symm), trivial⟩
 refine fa rfl (cf aY (ro (ld r1 rfl rfl (cf aY (qag (cf aY ?_))))))
 exact eMt () ⟨bq (qg2 (b := decide (e0.Op = 10)) aY), trivial⟩
 rintro _ _ cK
 obtain ⟨cm, a8, aX⟩ := bnd aX
 refine jD (σ := ((List Jo))) ([2,3] ++ rg 120 20) [0, 1, 3] (fun bB => []) (fun bB => [qat Jo.enc (some ⟨bZ, 0, none⟩) 228 10 (Int.toNat (code.length : Int)) bB]) (fun bB => (0 < bB.length → Has (some ⟨bZ, 0, none⟩)) ∧ (Int.toNat (code.length : Int)) = bB.length ∧ cm = Fl.go bB) (And.intro ?_ ?_)
 refine cs rfl rfl a8 ?_ ?_ <;> intro cz a8
 refine qa6 ⟨⟨[], false⟩, _, [(_, _), (_, _)], []⟩ (by kernel_rfl) ⟨Hp.Le.refl _, (sc [1,0] rfl), ci0⟩ ?_
 refine fa rfl (qao m0 rfl rfl ?_)
 refine qae ?_ ?_ <;> intro aW
 refine ct aW (ct aW (ct aW (ct aW (ct aW ?_))))
 replace a8 := ift (qcn aW) a8
 refine cT (cT (cT (cT (cT (cT (cT (cT ?_)))))))
 refine qac rfl (cT ?_)
 exact eE (er (er a8 aX :) hm)
 refine fa rfl (cf aW (qao m0 rfl rfl (cf aW (cf aW (qce rfl (cf aW (cf aW ?_)))))))
 refine qae ?_ ?_ <;> intro aU
 replace a8 := ift (qg1 aW aU) a8
 refine ct aU (ct aU (ct aU (ct aU (ct aU (ct aU (ct aU (qac rfl ?_)))))))
 refine cT ?_
 exact eE (er (er a8 aX :) hm)
 replace a8 := qa9 (qew aW aU) a8
 refine cf aU (fa rfl (cf aU (qao m0 rfl rfl (cf aU ?_))))
 obtain ⟨cn, bN, bH, a8⟩ := ixb a8
 refine qad rfl rfl (qco bI bH) bN (qax bt bN bH) (cf aU (qcb m1 rfl (nl rfl) (cf aU ?_)))
 refine cb a8 fun bT bR a8 => ckx (JaQ bR :) ?_
 rintro _ _ _ ⟨rfl, bv, bA, rfl⟩
 refine qk (sc [2,1] rfl) ?_
 refine cf aU (qau (cf aU ?_))
 refine cs rfl rfl a8 ?_ ?_ <;> intro cA a8
 exact eE (er (er a8 aX :) hm)
 exact mt (bT.2) trivial rfl (pf rfl) lr ⟨bv, ((bt).trans bA), (si a8).symm⟩
 exact eM a8 _
 rintro bB ⟨bO, bC, rfl⟩ cW
 replace aX := elg aX
 refine cs rfl rfl aX ?_ ?_ <;> intro cj aX
 refine qa6 ⟨⟨[], false⟩, _, [(_, _)], []⟩ (by kernel_rfl) ⟨Hp.Le.refl _, (sc [1] rfl), ci0⟩ ?_
 refine fa rfl (qao m0 rfl rfl (qag ?_))
 exact eE (er aX hm)
 refine qa6 ⟨⟨[], false⟩, _, [(_, _), (_, _)], []⟩ (by kernel_rfl) ⟨Hp.Le.refl _, (sc [2,1] rfl), ci0⟩ ?_
 refine fa rfl (qao m0 rfl rfl (qa8 ?_))
 refine cS aX (fun aV aX => ?_) fun aV aX => ?_
 refine ct aV (ct aV (qam (qbn bJ bY) (ct aV ?_)))
 obtain ⟨cr, bM, bK, aX⟩ := ixb aX
 refine qad rfl rfl (qco bO bK) bM (qax bC bM bK) (ct aV (qcb m1 rfl (nl rfl) (ct aV ?_)))
 refine cb aX fun bV bW aX => ckx (JaQ bW :) ?_
 rintro _ _ _ ⟨rfl, bu, bz, rfl⟩
 refine qk (sc [2,1] rfl) ?_
 refine ct aV (qau (ct aV ?_))
 refine cs rfl rfl aX ?_ ?_ <;> intro cw aX
 exact eE (er aX hm)
 refine qam (qbn bJ bY) ?_
 exact rd (i0 + 1, ((max (max ac bb.depth) (bb.depth + (ao.2.1 - ao.1))), bV.2)) ⟨rfl, rfl, trivial⟩ rfl (sc [0,2] rfl) lr (ltm bJ) ⟨⟨bu, ((bC).trans bz)⟩, aX⟩
 refine cf aV (cf aV (cf aV (cf aV (cf aV (cf aV (cf aV (qac rfl ?_)))))))
 refine cF (qam (qbn bJ bY) ?_)
 exact eR aX (_, (_, _))
 refine cf bf (cf bf (cf bf (cf bf (cf a6 (cf bf (cf a6 (qac rfl ?_)))))))
 refine cF ?_
 replace aX := qa9 (si bQ).symm aX
 refine fa rfl (ro (ld r0 rfl rfl (ro (qch (fa rfl (ro (ld r0 rfl rfl ?_)))))))
 refine ci aX fun aX => ?_
 obtain ⟨cC, aX⟩ := qaw aX
 refine qam cC (fa rfl ?_)
 refine qaa r0 rfl ⟨rfl, rfl, (nl rfl), ?_⟩
 refine fa rfl (ro (ld r0 rfl rfl (ro (qch (fa rfl (ro (ld r1 rfl rfl (qag ?_))))))))
 obtain ⟨cu, bg, aX⟩ := bnd aX
 refine jD (σ := (Int × Int × Int × Int × Int × Int × Int × Int)) (rg 99 13) [1, 2, 3] (fun bl => []) (fun bl => [Cells b8 228 [.bool bb.Au, .int .i64 (bb.depth + (ao.2.1 - ao.1)), .int .u64 bl.1, .int .u64 bl.2.1, .int .u64 bl.2.2.1, .int .u64 bl.2.2.2.1, .int .u64 bl.2.2.2.2.1, .int .u64 bl.2.2.2.2.2.1, .int .u64 bl.2.2.2.2.2.2.1, .int .u64 bl.2.2.2.2.2.2.2]]) (fun bl => bl = cu) (And.intro ?_ ?_)
 refine cs rfl rfl bg ?_ ?_ <;> intro cX bg
 refine qa2 ⟨⟨[], false⟩, _, [(_, _), (_, _)], []⟩ 12 rfl (by kernel_rfl) ⟨Hp.Le.refl _, (sc [1,0] rfl), ci0⟩ ?_
 refine fa rfl (qao m0 rfl rfl ?_)
 obtain ⟨bL, bg⟩ := qaw bg
 refine ql6 bL.1 bL.2 (fa rfl ?_)
 obtain ⟨bo, bg⟩ := qaw bg
 refine qbu (sz := 1) rfl rfl bo.1 bo.2 ?_
 refine qf0 (L := [bb.At.f0, bb.At.f1, bb.At.f2, bb.At.f3, bb.At.f4, bb.At.f5, bb.At.f6, bb.At.f7]) (pre := [.bool bb.Au, .int .i64 (bb.depth + (ao.2.1 - ao.1))]) (post := []) m1 rfl (by simp) rfl bo.1 bo.2 ?_
 refine fa rfl (qao m0 rfl rfl (qpt (by decide) ?_))
 obtain ⟨bS, bg⟩ := qaw bg
 refine qmi bS ?_
 refine qow ?_
 refine fa rfl ?_
 obtain ⟨bn, bg⟩ := qaw bg
 refine qbu (sz := 1) rfl rfl bn.1 bn.2 ?_
 obtain ⟨br, bF, bg⟩ := bnd bg
 replace bF := Option.some.inj bF
 have bU : br.length = 8 := by rw [← bF]; simp
 refine qmj (L := [bb.At.f0, bb.At.f1, bb.At.f2, bb.At.f3, bb.At.f4, bb.At.f5, bb.At.f6, bb.At.f7]) (pre := [.bool bb.Au, .int .i64 (bb.depth + (ao.2.1 - ao.1))]) (post := []) (cs' := [.bool bb.Au, .int .i64 (bb.depth + (ao.2.1 - ao.1)), .int .u64 (List.getD br 0 0), .int .u64 (List.getD br 1 0), .int .u64 (List.getD br 2 0), .int .u64 (List.getD br 3 0), .int .u64 (List.getD br 4 0), .int .u64 (List.getD br 5 0), .int .u64 (List.getD br 6 0), .int .u64 (List.getD br 7 0)]) r0 rfl (by simp) rfl bn.1 bn.2 bF (by rw [qrw bU]; rfl) ?_
 refine ⟨⟨Hp.emp_le _, (pf rfl), ci0⟩, ?_⟩
 exact eM bg _
 exact eM bg _
 rintro bl rfl cR
 refine jR (σ := Unit) (rg 112 8) (fun _ => [(119, .bool (decide (e0.Op = 9) || decide (e0.Op = 10)))]) (fun cZ => True) ?_ ?_
 refine qaj rfl ?_
 refine fa rfl (ro (ld r1 rfl rfl (qag ?_)))
 refine qae ?_ ?_ <;> intro aY
 refine ct aY (ct aY (ct aY ?_))
 exact eMt () ⟨bq (((qcn aY)).symm), trivial⟩
 refine fa rfl (cf aY (ro (ld r1 rfl rfl (cf aY (qag (cf aY ?_))))))
 exact eMt () ⟨bq (qg2 (b := decide (e0.Op = 10)) aY), trivial⟩
 rintro _ _ cL
 obtain ⟨cy, aZ, aX⟩ := bnd aX
 refine jD (σ := ((List Jo))) ([2,3] ++ rg 120 20) [0, 1, 3] (fun bw => []) (fun bw => [qat Jo.enc (some ⟨bZ, 0, none⟩) 228 10 (Int.toNat (code.length : Int)) bw]) (fun bw => (0 < bw.length → Has (some ⟨bZ, 0, none⟩)) ∧ (Int.toNat (code.length : Int)) = bw.length ∧ cy = Fl.go bw) (And.intro ?_ ?_)
 refine cs rfl rfl aZ ?_ ?_ <;> intro cz aZ
 refine qa6 ⟨⟨[], false⟩, _, [(_, _), (_, _)], []⟩ (by kernel_rfl) ⟨Hp.Le.refl _, (sc [1,0] rfl), ci0⟩ ?_
 refine fa rfl (qao m0 rfl rfl ?_)
 refine qae ?_ ?_ <;> intro aW
 refine ct aW (ct aW (ct aW (ct aW (ct aW ?_))))
 replace aZ := ift (qcn aW) aZ
 refine cT (cT (cT (cT (cT (cT (cT (cT ?_)))))))
 refine qac rfl (cT ?_)
 exact eE (er (er aZ aX :) hm)
 refine fa rfl (cf aW (qao m0 rfl rfl (cf aW (cf aW (qce rfl (cf aW (cf aW ?_)))))))
 refine qae ?_ ?_ <;> intro aU
 replace aZ := ift (qg1 aW aU) aZ
 refine ct aU (ct aU (ct aU (ct aU (ct aU (ct aU (ct aU (qac rfl ?_)))))))
 refine cT ?_
 exact eE (er (er aZ aX :) hm)
 replace aZ := qa9 (qew aW aU) aZ
 refine cf aU (fa rfl (cf aU (qao m0 rfl rfl (cf aU ?_))))
 obtain ⟨cn, bN, bH, aZ⟩ := ixb aZ
 refine qad rfl rfl (qco bI bH) bN (qax bt bN bH) (cf aU (qcb m1 rfl (nl rfl) (cf aU ?_)))
 refine cb aZ fun bT bR aZ => ckx (JaQ bR :) ?_
 rintro _ _ _ ⟨rfl, bv, bA, rfl⟩
 refine qk (sc [2,1] rfl) ?_
 refine cf aU (qau (cf aU ?_))
 refine cs rfl rfl aZ ?_ ?_ <;> intro cA aZ
 exact eE (er (er aZ aX :) hm)
 exact mt (bT.2) trivial rfl (pf rfl) lr ⟨bv, ((bt).trans bA), (si aZ).symm⟩
 exact eM aZ _
 rintro bw ⟨bP, bG, rfl⟩ cN
 replace aX := elg aX
 refine cs rfl rfl aX ?_ ?_ <;> intro cj aX
 refine qa6 ⟨⟨[], false⟩, _, [(_, _)], []⟩ (by kernel_rfl) ⟨Hp.Le.refl _, (sc [1] rfl), ci0⟩ ?_
 refine fa rfl (qao m0 rfl rfl (qag ?_))
 exact eE (er aX hm)
 refine qa6 ⟨⟨[], false⟩, _, [(_, _), (_, _)], []⟩ (by kernel_rfl) ⟨Hp.Le.refl _, (sc [2,1] rfl), ci0⟩ ?_
 refine fa rfl (qao m0 rfl rfl (qa8 ?_))
 refine cS aX (fun aV aX => ?_) fun aV aX => ?_
 refine ct aV (ct aV (qam (qbn bJ bY) (ct aV ?_)))
 obtain ⟨cr, bM, bK, aX⟩ := ixb aX
 refine qad rfl rfl (qco bP bK) bM (qax bG bM bK) (ct aV (qcb m1 rfl (nl rfl) (ct aV ?_)))
 refine cb aX fun bV bW aX => ckx (JaQ bW :) ?_
 rintro _ _ _ ⟨rfl, bu, bz, rfl⟩
 refine qk (sc [2,1] rfl) ?_
 refine ct aV (qau (ct aV ?_))
 refine cs rfl rfl aX ?_ ?_ <;> intro cw aX
 exact eE (er aX hm)
 refine qam (qbn bJ bY) ?_
 exact rd (i0 + 1, ((max (max ac bb.depth) (bb.depth + (ao.2.1 - ao.1))), bV.2)) ⟨rfl, rfl, trivial⟩ rfl (sc [0,2] rfl) lr (ltm bJ) ⟨⟨bu, ((bG).trans bz)⟩, aX⟩
 refine cf aV (cf aV (cf aV (cf aV (cf aV (cf aV (cf aV (qac rfl ?_)))))))
 refine cF (qam (qbn bJ bY) ?_)
 exact eR aX (_, (_, _))
 rw [lty w0, Jbg.eq_1] at aX
 refine cT ?_
 exact eM aX _
 rintro t0 ⟨cI, cE⟩ rfl j0
 replace hm := elg hm
 exact eE hm

def Jdt (code : (List Jf)) : Option (Err) :=
  (JdG code).bind fun x7 =>
  if (!x7.2) then
  some (some 2)
  else
  some none
theorem Jel {code : (List Jf)} {aa : Option Addr} {ab : Nat} {n0 : Nat} {K : Hp} {r : Err}
    (hm : Jdt code = some r) (hX : RdC Jf.enc K aa ab 3 code ∧ n0 = code.length ∧ GG K) :
    Fn Tryz.prog 68 [.slice aa n0 ab] K [] (fun v K' H' => v = qcp 48 r ∧ H' = []) := by
 obtain ⟨ae, aU, hG⟩ := hX
 subst aU
 refine Fn.enter Tryz.func68 Tryz.call68 rfl fun F => ?_
 unfold Jdt at hm
 refine cb hm fun x7 q7 hm => cgx (Jes q7 :) ?_
 refine qau ?_
 refine cs rfl rfl hm ?_ ?_ <;> intro aV hm
 refine qas rfl ?_
 exact eE hm
 exact eE hm

def JbY (n' : Int) : Option (Ji) :=
  some (⟨2, (max (-1099511627776) (min n' 1099511627776)), ([] : Str), false⟩ : Ji)
theorem Jbq {n' : Int} {K : Hp} {r : Ji}
    (hm : JbY n' = some r)  :
    Fn Tryz.prog 108 [.int .i64 n'] K [] (fun v K' H' => v = .agg #[.int .i64 r.kind, .int .i64 r.n, str r.s, .bool r.As] ∧ H' = []) := by
 refine Fn.enter Tryz.func108 Tryz.call108 rfl fun F => ?_
 unfold JbY at hm
 refine qaf rfl fun b2 => ?_
 refine ro (qpo (ro (qch (qai rfl rfl (cT (cT ?_))))))
 refine qaa r0 rfl ⟨rfl, rfl, (nl rfl), ?_⟩
 exact ro (qab r0 rfl (nl rfl) (eE hm))

def Jac (m : Jh) (x : Ji) (operation : Bool) : Option (Err × Jh) :=
  if decide ((x.s.length : Int) > 2048) then
  some ((some 5), m)
  else
  ((if (operation && decide (x.kind = 1)) then
  (chk ((64 : Int) ≠ 0 ∧ InI (Int.tdiv (x.s.length : Int) 64))).bind fun _ =>
  (chk (InI (m.result.Aj + (Int.tdiv (x.s.length : Int) 64)))).bind fun _ =>
  if decide ((m.result.Aj + (Int.tdiv (x.s.length : Int) 64)) > m.most) then
  some (Fl.ret ((some 13), (⟨m.Aq, m.most, (⟨m.result.Ae, m.result.Af, m.result.Ag, m.result.Vary, m.result.Ah, m.result.TTL, m.result.Ai, (m.result.Aj + (Int.tdiv (x.s.length : Int) 64)), m.result.Ak, m.result.Al⟩ : Jp), m.stack, m.Ap⟩ : Jh)))
  else
  some (Fl.go (⟨m.Aq, m.most, (⟨m.result.Ae, m.result.Af, m.result.Ag, m.result.Vary, m.result.Ah, m.result.TTL, m.result.Ai, (m.result.Aj + (Int.tdiv (x.s.length : Int) 64)), m.result.Ak, m.result.Al⟩ : Jp), m.stack, m.Ap⟩ : Jh))
  else
  some (Fl.go m) : Option (Fl (Err × Jh) (Jh)))).bind fun aV => aV.el some fun aU =>
  (chk (aU.stack.length + [x].length ≤ lim)).bind fun _ =>
  some (none, (⟨m.Aq, aU.most, aU.result, (aU.stack ++ [x]), aU.Ap⟩ : Jh))
theorem Jae {m : Jh} {x : Ji} {operation : Bool} {b0 : Nat} {aa : Option Addr} {ab : Nat} {ai : Option Addr} {ak : Nat} {am : Option Addr} {av : Nat} {ax : Option Addr} {aA : Nat} {ay : Option Addr} {aB : Nat} {K : Hp} {r : Err × Jh}
    (hm : Jac m x operation = some r) (hX : RdC Jc.enc K aa ab 2 m.Aq.Ao ∧ (0 < m.result.Ag.length → Has ai) ∧ (0 < m.result.Vary.length → Has am) ∧ (0 < m.result.Ah.length → Has ax) ∧ (0 < m.stack.length → Has ay) ∧ m.Ap.length = 512) :
    Fn Tryz.prog 107 [.pointer (some ⟨b0, 0, none⟩), .agg #[.int .i64 x.kind, .int .i64 x.n, str x.s, .bool x.As], .bool operation] K [Cells b0 131 ((str m.Aq.Am) :: (str m.Aq.An) :: (str m.Aq.Ae) :: (str m.Aq.Af) :: (.slice aa m.Aq.Ao.length ab) :: (.int .i64 m.most) :: (str m.result.Ae) :: (str m.result.Af) :: (.slice ai m.result.Ag.length ak) :: (.slice am m.result.Vary.length av) :: (.slice ax m.result.Ah.length aA) :: (.int .i64 m.result.TTL) :: (.int .i64 m.result.Ai) :: (.int .i64 m.result.Aj) :: (.bool m.result.Ak) :: (.bool m.result.Al) :: (.slice ay m.stack.length aB) :: (m.Ap.map Ji.enc).flatten), qat Jc.enc ai 41 2 ak m.result.Ag, qat eS am 9 1 av m.result.Vary, qat eS ax 9 1 aA m.result.Ah, qat Ji.enc ay 128 4 aB m.stack] (fun v K' H' => ∃ ar_0 : Option Addr, ∃ cr_0 : Nat, ∃ ar_1 : Option Addr, ∃ cr_1 : Nat, ∃ ar_2 : Option Addr, ∃ cr_2 : Nat, ∃ ar_3 : Option Addr, ∃ cr_3 : Nat, v = qcp 48 r.1 ∧ (0 < r.2.result.Ag.length → Has ar_0) ∧ (0 < r.2.result.Vary.length → Has ar_1) ∧ (0 < r.2.result.Ah.length → Has ar_2) ∧ (0 < r.2.stack.length → Has ar_3) ∧ r.2.Ap.length = 512 ∧ H' = [Cells b0 131 ((str m.Aq.Am) :: (str m.Aq.An) :: (str m.Aq.Ae) :: (str m.Aq.Af) :: (.slice aa m.Aq.Ao.length ab) :: (.int .i64 r.2.most) :: (str r.2.result.Ae) :: (str r.2.result.Af) :: (.slice ar_0 r.2.result.Ag.length cr_0) :: (.slice ar_1 r.2.result.Vary.length cr_1) :: (.slice ar_2 r.2.result.Ah.length cr_2) :: (.int .i64 r.2.result.TTL) :: (.int .i64 r.2.result.Ai) :: (.int .i64 r.2.result.Aj) :: (.bool r.2.result.Ak) :: (.bool r.2.result.Al) :: (.slice ar_3 r.2.stack.length cr_3) :: (r.2.Ap.map Ji.enc).flatten), qat Jc.enc ar_0 41 2 cr_0 r.2.result.Ag, qat eS ar_1 9 1 cr_1 r.2.result.Vary, qat eS ar_2 9 1 cr_2 r.2.result.Ah, qat Ji.enc ar_3 128 4 cr_3 r.2.stack]) := by
 obtain ⟨ae, bt, bm, bn, br, bo⟩ := hX
 refine Fn.enter Tryz.func107 Tryz.call107 rfl fun F => ?_
 unfold Jac at hm
 refine qar ?_
 intro b4
 refine fa rfl (ro (ld r0 rfl rfl (ro (qa0 rfl ?_))))
 refine cs rfl rfl hm ?_ ?_ <;> intro bI hm
 refine qas rfl ?_
 exact eE hm
 refine jR (σ := Unit) (rg 12 6) (fun _ => [(17, .bool (operation && decide (x.kind = 1)))]) (fun bA => True) ?_ ?_
 refine qaj rfl ?_
 refine qae ?_ ?_ <;> intro bc
 refine fa rfl (ct bc (ro (ld r0 rfl rfl (ct bc (qag (ct bc ?_))))))
 exact eMt () ⟨bq (qc1 (b := decide (x.kind = 1)) bc), trivial⟩
 refine cf bc (cf bc (cf bc ?_))
 exact eMt () ⟨bq (((qbc bc)).symm), trivial⟩
 rintro _ _ bw
 obtain ⟨bl, bb, hm⟩ := bnd hm
 refine jD (σ := (Jh) × Option Addr × Nat × Option Addr × Nat × Option Addr × Nat × Option Addr × Nat) ([6] ++ rg 18 24) [0, 6] (fun (aU, aW, a6, aV, aZ, aX, a8, aY, ba) => []) (fun (aU, aW, a6, aV, aZ, aX, a8, aY, ba) => [Cells b0 131 ((str m.Aq.Am) :: (str m.Aq.An) :: (str m.Aq.Ae) :: (str m.Aq.Af) :: (.slice aa m.Aq.Ao.length ab) :: (.int .i64 aU.most) :: (str aU.result.Ae) :: (str aU.result.Af) :: (.slice aW aU.result.Ag.length a6) :: (.slice aV aU.result.Vary.length aZ) :: (.slice aX aU.result.Ah.length a8) :: (.int .i64 aU.result.TTL) :: (.int .i64 aU.result.Ai) :: (.int .i64 aU.result.Aj) :: (.bool aU.result.Ak) :: (.bool aU.result.Al) :: (.slice aY aU.stack.length ba) :: (aU.Ap.map Ji.enc).flatten), qat Jc.enc aW 41 2 a6 aU.result.Ag, qat eS aV 9 1 aZ aU.result.Vary, qat eS aX 9 1 a8 aU.result.Ah, qat Ji.enc aY 128 4 ba aU.stack]) (fun (aU, aW, a6, aV, aZ, aX, a8, aY, ba) => (0 < aU.result.Ag.length → Has aW) ∧ (0 < aU.result.Vary.length → Has aV) ∧ (0 < aU.result.Ah.length → Has aX) ∧ (0 < aU.stack.length → Has aY) ∧ aU.Ap.length = 512 ∧ bl = Fl.go aU) (And.intro ?_ ?_)
 refine cs rfl rfl bb ?_ ?_ <;> intro bG bb
 refine qa2 ⟨⟨[], false⟩, _, [(_, _), (_, _)], []⟩ 9 rfl (by kernel_rfl) ⟨Hp.Le.refl _, (sc [1,0] rfl), ci0⟩ ?_
 refine qah (fa rfl (fa rfl (qao m0 rfl rfl (fa rfl (qao m1 rfl rfl (qh1 rfl ?_))))))
 obtain ⟨bp, bb⟩ := qaw bb
 refine ql6 bp.1 bp.2 ?_
 obtain ⟨bv, bb⟩ := qaw bb
 refine qam bv (qah (fa rfl (fa rfl ?_)))
 refine qmp (cs' := (str m.Aq.Am) :: (str m.Aq.An) :: (str m.Aq.Ae) :: (str m.Aq.Af) :: (.slice aa m.Aq.Ao.length ab) :: (.int .i64 m.most) :: (str m.result.Ae) :: (str m.result.Af) :: (.slice ai m.result.Ag.length ak) :: (.slice am m.result.Vary.length av) :: (.slice ax m.result.Ah.length aA) :: (.int .i64 m.result.TTL) :: (.int .i64 m.result.Ai) :: (.int .i64 (m.result.Aj + (Int.tdiv (x.s.length : Int) 64))) :: (.bool m.result.Ak) :: (.bool m.result.Al) :: (.slice ay m.stack.length aB) :: (m.Ap.map Ji.enc).flatten) r1 rfl rfl (by exact rfl) (by exact nl rfl) (by exact rfl) ?_
 refine ⟨⟨Hp.emp_le _, (pf rfl), ci0⟩, ?_⟩
 refine qa6 ⟨⟨[], false⟩, _, [(_, _)], []⟩ (by kernel_rfl) ⟨Hp.Le.refl _, (pf rfl), ci0⟩ ?_
 refine qah (fa rfl (fa rfl (qao m0 rfl rfl (qah (fa rfl (qao m0 rfl rfl ?_))))))
 refine cs rfl rfl bb ?_ ?_ <;> intro bF bb
 refine qas rfl ?_
 exact eE (er bb hm)
 exact eM bb (_, _, _, _, _, _, _, _, _)
 exact eM bb (_, _, _, _, _, _, _, _, _)
 rintro ⟨aU, aW, a6, aV, aZ, aX, a8, aY, ba⟩ ⟨bj, bf, bd, bh, bg, rfl⟩ bB
 replace hm := elg hm
 refine qa2 ⟨⟨[], false⟩, _, [(_, _), (_, _)], []⟩ 8 rfl (by kernel_rfl) ⟨Hp.Le.refl _, (sc [0,4] rfl), ci0⟩ ?_
 refine qah (fa rfl (qao m0 rfl rfl (qcb m1 rfl (nl rfl) ?_)))
 refine bsO (len := 1) (enc := Ji.enc) (l := [x]) (cl := [.int .i64 x.kind, .int .i64 x.n, str x.s, .bool x.As]) qoi rfl rfl (fun _ _ => rfl) rfl rfl rfl ?_ fun bH => ?_
 · conv => whnf
   refine cT ?_
   first | done | rfl
 refine qk (sc [1,5] rfl) ?_
 obtain ⟨bC, hm⟩ := qaw hm
 refine apE rfl r5 qoi (qay rfl r0 rfl (fun _ => rfl) (fun _ => rfl)) bC ?_
 intro bz bu bD
 refine qk (sc [2,5] rfl) ?_
 refine qah (fa rfl ?_)
 refine qmp (cs' := (str m.Aq.Am) :: (str m.Aq.An) :: (str m.Aq.Ae) :: (str m.Aq.Af) :: (.slice aa m.Aq.Ao.length ab) :: (.int .i64 aU.most) :: (str aU.result.Ae) :: (str aU.result.Af) :: (.slice aW aU.result.Ag.length a6) :: (.slice aV aU.result.Vary.length aZ) :: (.slice aX aU.result.Ah.length a8) :: (.int .i64 aU.result.TTL) :: (.int .i64 aU.result.Ai) :: (.int .i64 aU.result.Aj) :: (.bool aU.result.Ak) :: (.bool aU.result.Al) :: (.slice bz ((aU.stack ++ [x]).length) bu) :: (aU.Ap.map Ji.enc).flatten) r2 rfl rfl (by exact rfl) (by exact nl rfl) (by exact rfl) ?_
 refine ⟨⟨Hp.emp_le _, (pf rfl), ci0⟩, ?_⟩
 exact eE hm

def JaD (s : Str) : Option (Ji) :=
  some (⟨1, 0, s, false⟩ : Ji)
theorem Jaj {s : Str} {K : Hp} {r : Ji}
    (hm : JaD s = some r)  :
    Fn Tryz.prog 109 [str s] K [] (fun v K' H' => v = .agg #[.int .i64 r.kind, .int .i64 r.n, str r.s, .bool r.As] ∧ H' = []) := by
 refine Fn.enter Tryz.func109 Tryz.call109 rfl fun F => ?_
 unfold JaD at hm
 refine qaf rfl fun b2 => ?_
 refine qai rfl rfl (cT (cT ?_))
 refine qaa r0 rfl ⟨rfl, rfl, (nl rfl), ?_⟩
 exact ro (qab r0 rfl (nl rfl) (eE hm))

def JcD (name : Str) (Aq : J0) : Option (Ji) :=
  if decide (name = ([109, 101, 116, 104, 111, 100] : Str)) then
  (JaD Aq.Am).bind fun aV =>
  some aV
  else
  if decide (name = ([104, 111, 115, 116] : Str)) then
  (JaD Aq.An).bind fun aW =>
  some aW
  else
  if decide (name = ([112, 97, 116, 104] : Str)) then
  (JaD Aq.Ae).bind fun aU =>
  some aU
  else
  (JaD Aq.Af).bind fun aX =>
  some aX
theorem JdV {name : Str} {Aq : J0} {af : Option Addr} {ag : Nat} {K : Hp} {r : Ji}
    (hm : JcD name Aq = some r) (ah : RdC Jc.enc K af ag 2 Aq.Ao) :
    Fn Tryz.prog 110 [str name, .agg #[str Aq.Am, str Aq.An, str Aq.Ae, str Aq.Af, .slice af Aq.Ao.length ag]] K [] (fun v K' H' => v = .agg #[.int .i64 r.kind, .int .i64 r.n, str r.s, .bool r.As] ∧ H' = []) := by
 refine Fn.enter Tryz.func110 Tryz.call110 rfl fun F => ?_
 unfold JcD at hm
 refine qar ?_
 intro b3
 refine qaf rfl fun b4 => ?_
 refine qal rfl ?_
 refine qaq (cs rfl rfl hm ?_ ?_) <;> intro w6 hm
 refine fa rfl (ro (ld r1 rfl rfl ?_))
 refine cb hm fun aY aX hm => cg0 (Jaj aX :) ?_
 refine qaa r0 rfl ⟨rfl, rfl, (nl rfl), ?_⟩
 exact ro (qab r0 rfl (nl rfl) (eE hm))
 refine qaq (cs rfl rfl hm ?_ ?_) <;> intro ba hm
 refine fa rfl (ro (ld r1 rfl rfl ?_))
 refine cb hm fun bb aV hm => cg0 (Jaj aV :) ?_
 refine qaa r0 rfl ⟨rfl, rfl, (nl rfl), ?_⟩
 exact ro (qab r0 rfl (nl rfl) (eE hm))
 refine qaq (cs rfl rfl hm ?_ ?_) <;> intro a8 hm
 refine fa rfl (ro (ld r1 rfl rfl ?_))
 refine cb hm fun aZ aU hm => cg0 (Jaj aU :) ?_
 refine qaa r0 rfl ⟨rfl, rfl, (nl rfl), ?_⟩
 exact ro (qab r0 rfl (nl rfl) (eE hm))
 refine fa rfl (ro (ld r1 rfl rfl ?_))
 refine cb hm fun a6 aW hm => cg0 (Jaj aW :) ?_
 refine qaa r0 rfl ⟨rfl, rfl, (nl rfl), ?_⟩
 exact ro (qab r0 rfl (nl rfl) (eE hm))

def Jag (m : Jh) : Option (Ji × Jh) :=
  (chk (InI ((m.stack.length : Int) - 1))).bind fun _ =>
  (ix m.stack ((m.stack.length : Int) - 1)).bind fun aU =>
  (chk (InI ((m.stack.length : Int) - 1))).bind fun _ =>
  (chk (0 ≤ (0 : Int) ∧ (0 : Int) ≤ ((m.stack.length : Int) - 1) ∧ ((m.stack.length : Int) - 1) ≤ (m.stack.length : Int))).bind fun _ =>
  some (aU, (⟨m.Aq, m.most, m.result, (subL m.stack (0 : Int) ((m.stack.length : Int) - 1)), m.Ap⟩ : Jh))
theorem Jah {m : Jh} {b0 : Nat} {aa : Option Addr} {ab : Nat} {ai : Option Addr} {ak : Nat} {am : Option Addr} {av : Nat} {ax : Option Addr} {aA : Nat} {ay : Option Addr} {aB : Nat} {K : Hp} {r : Ji × Jh}
    (hm : Jag m = some r) (hX : RdC Jc.enc K aa ab 2 m.Aq.Ao ∧ (0 < m.result.Ag.length → Has ai) ∧ (0 < m.result.Vary.length → Has am) ∧ (0 < m.result.Ah.length → Has ax) ∧ (0 < m.stack.length → Has ay) ∧ m.Ap.length = 512) :
    Fn Tryz.prog 111 [.pointer (some ⟨b0, 0, none⟩)] K [Cells b0 131 ((str m.Aq.Am) :: (str m.Aq.An) :: (str m.Aq.Ae) :: (str m.Aq.Af) :: (.slice aa m.Aq.Ao.length ab) :: (.int .i64 m.most) :: (str m.result.Ae) :: (str m.result.Af) :: (.slice ai m.result.Ag.length ak) :: (.slice am m.result.Vary.length av) :: (.slice ax m.result.Ah.length aA) :: (.int .i64 m.result.TTL) :: (.int .i64 m.result.Ai) :: (.int .i64 m.result.Aj) :: (.bool m.result.Ak) :: (.bool m.result.Al) :: (.slice ay m.stack.length aB) :: (m.Ap.map Ji.enc).flatten), qat Jc.enc ai 41 2 ak m.result.Ag, qat eS am 9 1 av m.result.Vary, qat eS ax 9 1 aA m.result.Ah, qat Ji.enc ay 128 4 aB m.stack] (fun v K' H' => ∃ ar_0 : Option Addr, ∃ cr_0 : Nat, ∃ ar_1 : Option Addr, ∃ cr_1 : Nat, ∃ ar_2 : Option Addr, ∃ cr_2 : Nat, ∃ ar_3 : Option Addr, ∃ cr_3 : Nat, v = .agg #[.int .i64 r.1.kind, .int .i64 r.1.n, str r.1.s, .bool r.1.As] ∧ (0 < r.2.result.Ag.length → Has ar_0) ∧ (0 < r.2.result.Vary.length → Has ar_1) ∧ (0 < r.2.result.Ah.length → Has ar_2) ∧ (0 < r.2.stack.length → Has ar_3) ∧ r.2.Ap.length = 512 ∧ H' = [Cells b0 131 ((str m.Aq.Am) :: (str m.Aq.An) :: (str m.Aq.Ae) :: (str m.Aq.Af) :: (.slice aa m.Aq.Ao.length ab) :: (.int .i64 r.2.most) :: (str r.2.result.Ae) :: (str r.2.result.Af) :: (.slice ar_0 r.2.result.Ag.length cr_0) :: (.slice ar_1 r.2.result.Vary.length cr_1) :: (.slice ar_2 r.2.result.Ah.length cr_2) :: (.int .i64 r.2.result.TTL) :: (.int .i64 r.2.result.Ai) :: (.int .i64 r.2.result.Aj) :: (.bool r.2.result.Ak) :: (.bool r.2.result.Al) :: (.slice ar_3 r.2.stack.length cr_3) :: (r.2.Ap.map Ji.enc).flatten), qat Jc.enc ar_0 41 2 cr_0 r.2.result.Ag, qat eS ar_1 9 1 cr_1 r.2.result.Vary, qat eS ar_2 9 1 cr_2 r.2.result.Ah, qat Ji.enc ar_3 128 4 cr_3 r.2.stack]) := by
 obtain ⟨ae, aY, aW, aX, aU, aV⟩ := hX
 refine Fn.enter Tryz.func111 Tryz.call111 rfl fun F => ?_
 unfold Jag at hm
 refine qaf rfl fun b2 => ?_
 refine qe1 ⟨⟨[], true⟩, _, [], []⟩ 14 rfl (by kernel_rfl) ⟨Hp.Le.refl _, (pf rfl), ci0⟩ ?_
 refine qah (fa rfl ?_)
 refine ld r1 rfl rfl ?_
 refine qah (fa rfl ?_)
 refine ld r1 rfl rfl ?_
 refine qce rfl ?_
 refine ci hm fun hm => ?_
 obtain ⟨bd, a6, aZ, hm⟩ := ixb hm
 refine qad rfl rfl (qco aU aZ) a6 (qax rfl a6 aZ) ?_
 refine qfg (i := (((m.stack.length : Int) - 1)).toNat) r5 rfl aZ rfl rfl ?_
 refine qks rfl ?_
 intro b3
 intro bb
 refine qaa r0 rfl ⟨rfl, rfl, (nl rfl), ?_⟩
 refine ⟨⟨lr, (pf rfl), ci0⟩, ?_⟩
 refine ⟨_, .cons r8 .nil, ⟨lr, (pf rfl), ci0⟩, ?_⟩
 refine DStep.ownLe r3 fun bg => ?_
 refine DStep.ownLe r4 fun bc => ?_
 refine DStep.ownLe r5 fun bf => ?_
 refine DStep.ownLe r6 fun ba => ?_
 refine qa2 ⟨⟨[], false⟩, _, [(_, _)], []⟩ 12 rfl (by kernel_rfl) ⟨Hp.Le.refl _, (sc [2] rfl), ci0⟩ ?_
 refine qah (fa rfl (qao m0 rfl rfl (qah (fa rfl (qao m0 rfl rfl (qce rfl ?_))))))
 refine ci hm fun hm => ?_
 obtain ⟨a8, hm⟩ := qaw hm
 refine qp3 (l := m.stack) (hi := (some ((m.stack.length : Int) - 1))) rfl rfl rfl ba a8 ?_
 refine qah (fa rfl ?_)
 refine tkW ((m.stack.length : Int) - 1) r6 ?_
 refine qmp (cs' := (str m.Aq.Am) :: (str m.Aq.An) :: (str m.Aq.Ae) :: (str m.Aq.Af) :: (.slice aa m.Aq.Ao.length ab) :: (.int .i64 m.most) :: (str m.result.Ae) :: (str m.result.Af) :: (.slice ai m.result.Ag.length ak) :: (.slice am m.result.Vary.length av) :: (.slice ax m.result.Ah.length aA) :: (.int .i64 m.result.TTL) :: (.int .i64 m.result.Ai) :: (.int .i64 m.result.Aj) :: (.bool m.result.Ak) :: (.bool m.result.Al) :: (.slice ay ((subL m.stack (0 : Int) ((m.stack.length : Int) - 1)).length) aB) :: (m.Ap.map Ji.enc).flatten) r3 rfl rfl (by exact rfl) (by exact nl rfl) (by exact rfl) ?_
 refine ⟨⟨Hp.emp_le _, (pf rfl), ci0⟩, ?_⟩
 refine ro (qab r2 rfl (nl rfl) ?_)
 refine qaa r3 rfl ⟨rfl, rfl, (nl rfl), ?_⟩
 obtain rfl := si hm
 exact ro (qab r0 rfl (nl rfl) (en lr ⟨ai, ak, am, av, ax, aA, ay, aB, rfl, aY, aW, aX, (fun h => aU (qgo a8 h)), aV, rfl⟩ (sc [1,3,3,3,1,2] rfl)))

def JcX (path : Str) : Option ((List Str)) :=
  (qoy path ([47] : Str)).bind fun x8 =>
  if (!x8.2.2) then
  some []
  else
  (qe4 x8.2.1 ([47] : Str)).bind fun aU =>
  some aU
theorem Jd5 {path : Str} {K : Hp} {r : (List Str)}
    (hm : JcX path = some r) (hG : GG K) :
    Fn Tryz.prog 156 [str path] K [] (fun v K' H' => ∃ ar_0 : Option Addr, ∃ cr_0 : Nat, v = .slice ar_0 r.length cr_0 ∧ (0 < r.length → Has ar_0) ∧ H' = [qat eS ar_0 9 1 cr_0 r]) := by
 refine Fn.enter Tryz.func156 Tryz.call156 rfl fun F => ?_
 unfold JcX at hm
 refine cb hm fun x8 q8 hm => cg0 (qm9 q8 (gg0 hG)) ?_
 refine qau ?_
 refine cs rfl rfl hm ?_ ?_ <;> intro aZ hm
 refine qci eS 9 1 ?_
 exact eE hm
 refine cb hm fun aY aX hm => ck0 (qf4 aX (gg0 hG)) ?_
 rintro _ _ _ ⟨aV, aU, rfl, aW, rfl⟩
 exact eE hm

def Jeb (f : (List Jc)) (name : Str) : Option (Str × Bool) :=
  (JbS f name).bind fun x9 =>
  (qi1 x9 ([44, 32] : Str)).bind fun aU =>
  some (aU, decide ((x9.length : Int) > 0))
theorem Jep {f : (List Jc)} {name : Str} {aa : Option Addr} {ab : Nat} {n0 : Nat} {K : Hp} {r : Str × Bool}
    (hm : Jeb f name = some r) (hX : RdC Jc.enc K aa ab 2 f ∧ n0 = f.length) :
    Fn Tryz.prog 157 [.slice aa n0 ab, str name] K [] (fun v K' H' => v = .tuple #[str r.1, .bool r.2] ∧ H' = []) := by
 obtain ⟨ae, aZ⟩ := hX
 subst aZ
 refine Fn.enter Tryz.func157 Tryz.call157 rfl fun F => ?_
 unfold Jeb at hm
 refine cb hm fun x9 q9 hm => ckx (J9 q9 :) ?_
 rintro _ _ _ ⟨a6, aX, rfl, a8, rfl⟩
 refine cb hm fun ba aY hm => ck0 (Fn.lend Tryz.call48 (fun aV aW aU => (qm7 aY aU rfl)) (by exact fun _ _ _ _ h => h)) ?_
 rintro _ _ _ ⟨_, rfl, rfl, rfl⟩
 refine ro (qak rfl ?_)
 exact eE hm

def JaV (As : Bool) : Option (Ji) :=
  some (⟨3, 0, ([] : Str), As⟩ : Ji)
theorem JaE {As : Bool} {K : Hp} {r : Ji}
    (hm : JaV As = some r)  :
    Fn Tryz.prog 114 [.bool As] K [] (fun v K' H' => v = .agg #[.int .i64 r.kind, .int .i64 r.n, str r.s, .bool r.As] ∧ H' = []) := by
 refine Fn.enter Tryz.func114 Tryz.call114 rfl fun F => ?_
 unfold JaV at hm
 refine qaf rfl fun b2 => ?_
 refine qai rfl rfl (cT (cT ?_))
 refine qaa r0 rfl ⟨rfl, rfl, (nl rfl), ?_⟩
 exact ro (qab r0 rfl (nl rfl) (eE hm))

def Jck (name : Str) : List Str → Nat → Option (Fl (Str × Bool) (Unit))
  | [], _ => some (Fl.go ())
  | e0 :: aU, i0 =>
    (chk (name.length + ([61] : Str).length ≤ lim)).bind fun _ =>
    (Jak e0 (name ++ ([61] : Str))).bind fun aV =>
    if aV then
    (chk (InI ((name.length : Int) + 1))).bind fun _ =>
    (chk (0 ≤ ((name.length : Int) + 1) ∧ ((name.length : Int) + 1) ≤ (e0.length : Int) ∧ (e0.length : Int) ≤ (e0.length : Int))).bind fun _ =>
    some (Fl.ret ((subL e0 ((name.length : Int) + 1) (e0.length : Int)), true))
    else
    Jck name aU (i0 + 1)
def Jd6 (a : Jn) (name : Str) : Option (Str × Bool) :=
  if (!a.HasQuery) then
  some (([] : Str), false)
  else
  (qe4 a.Af ([38] : Str)).bind fun aU =>
  (chk (aU.length ≤ qa3)).bind fun _ =>
  (Jck name aU 0).bind fun s0 => s0.el some fun t0 =>
  some (([] : Str), false)
theorem JeD {a : Jn} {name : Str} {K : Hp} {r : Str × Bool}
    (hm : Jd6 a name = some r) (hG : GG K) :
    Fn Tryz.prog 158 [.agg #[str a.An, str a.Ae, str a.Af, .bool a.HasQuery], str name] K [] (fun v K' H' => v = .tuple #[str r.1, .bool r.2] ∧ H' = []) := by
 refine Fn.enter Tryz.func158 Tryz.call158 rfl fun F => ?_
 unfold Jd6 at hm
 refine qar ?_
 intro b2
 refine fa rfl (ro (ld r0 rfl rfl (qau ?_)))
 refine cs rfl rfl hm ?_ ?_ <;> intro bj hm
 exact eE hm
 refine fa rfl (ro (ld r0 rfl rfl ?_))
 refine cb hm fun aX a8 hm => ck0 (qf4 a8 (gg0 hG)) ?_
 rintro _ _ _ ⟨aZ, aY, rfl, aV, rfl⟩
 refine ro (qak rfl ?_)
 obtain ⟨ba, hm⟩ := qaw hm
 obtain ⟨s0, aU, hm⟩ := bnd hm
 refine lD (σ := (Unit)) ([4,5,7] ++ rg 15 14) [0, 1, 2] (fun i0 => [(15, .int .i64 (i0 : Int))]) (fun _ => []) (fun _ => []) (fun _ => True) (fun i0 _ => Jck name (aX.drop i0) i0 = some s0) (fun t0 => s0 = Fl.go t0) (fun i0 => aX.length - i0) 0 () aU (And.intro qe (And.intro ?_ ?_))
 clear aU
 rintro i0 _ _ aU j0
 conv at aU => whnf
 refine qac rfl ?_
 refine qae ?_ ?_ <;> intro w0
 obtain ⟨e0, aW, bc⟩ := ltx w0
 rw [bc, Jck.eq_2] at aU
 refine qal rfl ?_
 refine RStep.ofN (qad rfl rfl (qco aV aW) (nn _) (qd2 rfl aW) (ro (qbv (i := i0) (o := 0) r0 rfl aW rfl rfl ?_)))
 obtain ⟨a6, aU⟩ := qaw aU
 refine qbs a6 ?_
 refine cb aU fun bf bb aU => cg0 (JaG bb :) ?_
 refine CStep.ownLe r0 fun bg => ?_
 refine cs rfl rfl aU ?_ ?_ <;> intro bh aU
 refine ro (qa0 rfl ?_)
 refine ci aU fun aU => ?_
 obtain ⟨bd, aU⟩ := qaw aU
 refine RStep.ofN (qdp (lo := (some ((name.length : Int) + 1))) (hi := none) rfl bd ?_)
 exact eE (er aU hm)
 refine qam (qbn aW ba) ?_
 exact eR aU (_, ())
 rw [lty w0, Jck.eq_1] at aU
 refine cT ?_
 exact eM aU _
 rintro t0 _ rfl j0
 replace hm := elg hm
 exact eE hm

def JbF : Nat → Nat → Str → Option (Str)
  | 0, _, ac => some ac
  | aV + 1, i0, ac =>
    (ix ac (i0 : Int)).bind fun aU =>
    if (decide ((aU.toNat : Int) ≥ 65) && decide ((aU.toNat : Int) ≤ 90)) then
    (ix ac (i0 : Int)).bind fun aW =>
    JbF aV (i0 + 1) (ac.set (((i0 : Int)).toNat) (aU + (32 : UInt8)))
    else
    JbF aV (i0 + 1) ac
def JdW (s : Str) : Option (Str) :=
  (chk (s.length ≤ lim)).bind fun _ =>
  (chk (InI (s.length : Int))).bind fun _ =>
  (JbF (s.length : Int).toNat 0 s).bind fun t0 =>
  some t0
theorem Jew {s : Str} {K : Hp} {r : Str}
    (hm : JdW s = some r)  :
    Fn Tryz.prog 159 [str s] K [] (fun v K' H' => v = str r ∧ H' = []) := by
 refine Fn.enter Tryz.func159 Tryz.call159 rfl fun F => ?_
 unfold JdW at hm
 obtain ⟨h7, hm⟩ := qaw hm
 refine qfz rfl rfl rfl h7 ?_
 intro a7 c7 o7
 refine ro (qak rfl ?_)
 obtain ⟨a8, hm⟩ := qaw hm
 obtain ⟨s0, aV, hm⟩ := bnd hm
 refine lD (σ := (Str)) ([4,5] ++ rg 10 17) [1] (fun i0 => [(10, .int .i64 (i0 : Int))]) (fun _ => []) (fun t0 => [qat eU a7 5 1 c7 t0]) (fun t0 => (0 < t0.length → Has a7) ∧ s.length = t0.length) (fun i0 t0 => JbF ((s.length : Int).toNat - i0) i0 t0 = some s0) (fun t0 => t0 = s0) (fun i0 => (s.length : Int).toNat - i0) 0 _ aV (And.intro qe (And.intro ?_ ?_))
 clear aV
 rintro i0 ac ⟨aW, aX⟩ aV j0
 conv at aV => whnf
 refine qac rfl ?_
 refine qae ?_ ?_ <;> intro w0
 rw [ltn w0, JbF.eq_2] at aV
 refine qal rfl ?_
 obtain ⟨a6, bc, ba, aV⟩ := ixb aV
 refine RStep.ofN (qad rfl rfl (qco aW ba) bc (qax aX bc ba) (ro (qbv (i := ((i0 : Int)).toNat) (o := 0) r0 rfl ba rfl rfl ?_)))
 refine qaj rfl ?_
 refine qae ?_ ?_ <;> intro aU
 refine ct aU (ct aU (qac rfl ?_))
 refine qae ?_ ?_ <;> intro bf
 replace aV := ift (qcy aU bf) aV
 refine qh2 (x := a6) (y := (32 : UInt8)) rfl rfl ?_
 obtain ⟨bg, bd, aZ, aV⟩ := ixb aV
 refine RStep.ofN (qad rfl rfl (qco aW aZ) bd (qax aX bd aZ) ?_)
 refine qex (o := 0) (y := (a6 + (32 : UInt8))) bg r0 rfl aZ rfl (by (conv => whnf); exact ⟨rfl, rfl, (nl rfl), rfl, rfl, rfl⟩) ?_
 refine qam (qij w0 a8) ?_
 exact rd (i0 + 1, (ac.set (((i0 : Int)).toNat) (a6 + (32 : UInt8)))) ⟨rfl, trivial⟩ rfl (pf rfl) lr (qqk w0) ⟨⟨(by first | simpa using aW | exact fun _ => ⟨_, _, rfl⟩), ((aX).trans List.length_set.symm)⟩, aV⟩
 replace aV := qa9 (qcz aU bf) aV
 refine qam (qij w0 a8) ?_
 exact eR aV (_, _)
 refine cf aU (cf aU (qac rfl (cF ?_)))
 replace aV := qa9 (qbc aU) aV
 refine qam (qij w0 a8) ?_
 exact eR aV (_, _)
 rw [lto w0, JbF.eq_1] at aV
 refine cT ?_
 exact eM aV _
 rintro t0 ⟨bb, aY⟩ rfl j0
 refine ro (qeh aY r0 rfl rfl rfl ?_)
 exact eE hm

def JbT : List UInt8 → Nat → Int → Option (Fl (Int) (Int))
  | [], _, ac => some (Fl.go ac)
  | e0 :: aU, i0, ac =>
    (if decide ((e0.toNat : Int) < 48) then some true else some (decide ((e0.toNat : Int) > 57))).bind fun aV =>
    if aV then
    some (Fl.ret 0)
    else
    (chk (InI (10 * ac))).bind fun _ =>
    (chk (InI ((10 * ac) + ((e0 - (48 : UInt8)).toNat : Int)))).bind fun _ =>
    JbT aU (i0 + 1) ((10 * ac) + ((e0 - (48 : UInt8)).toNat : Int))
def JdH (s : Str) : Option (Int) :=
  if (decide ((s.length : Int) < 1) || decide ((s.length : Int) > 15)) then
  some 0
  else
  (chk (s.length ≤ qa3)).bind fun _ =>
  (JbT s 0 0).bind fun s0 => s0.el some fun t0 =>
  some t0
theorem Jet {s : Str} {K : Hp} {r : Int}
    (hm : JdH s = some r)  :
    Fn Tryz.prog 160 [str s] K [] (fun v K' H' => v = .int .i64 r ∧ H' = []) := by
 refine Fn.enter Tryz.func160 Tryz.call160 rfl fun F => ?_
 unfold JdH at hm
 refine jR (σ := Unit) (rg 5 8) (fun _ => [(12, .bool (decide ((s.length : Int) < 1) || decide ((s.length : Int) > 15)))]) (fun ba => True) ?_ ?_
 refine qaj rfl ?_
 refine ro (qa0 rfl ?_)
 refine qae ?_ ?_ <;> intro aW
 refine ct aW (ct aW (ct aW ?_))
 exact eMt () ⟨bq (((qcn aW)).symm), trivial⟩
 refine cf aW (ro (qa0 rfl (cf aW (cf aW ?_))))
 exact eMt () ⟨bq (qg2 (b := decide ((s.length : Int) > 15)) aW), trivial⟩
 rintro _ _ bc
 refine cs rfl rfl hm ?_ ?_ <;> intro bg hm
 exact eE hm
 refine ro (qa0 rfl ?_)
 obtain ⟨bb, hm⟩ := qaw hm
 obtain ⟨s0, aV, hm⟩ := bnd hm
 refine lD (σ := (Int)) ([2,3,4] ++ rg 15 22) [0] (fun i0 => [(15, .int .i64 (i0 : Int))]) (fun t0 => [(3, .int .i64 t0)]) (fun _ => []) (fun _ => True) (fun i0 t0 => JbT (s.drop i0) i0 t0 = some s0) (fun t0 => s0 = Fl.go t0) (fun i0 => s.length - i0) 0 _ aV (And.intro qe (And.intro ?_ ?_))
 clear aV
 rintro i0 ac _ aV j0
 conv at aV => whnf
 refine qac rfl ?_
 refine qae ?_ ?_ <;> intro w0
 obtain ⟨e0, aY, bd⟩ := ltx w0
 rw [bd, JbT.eq_2] at aV
 refine qal rfl ?_
 refine qaj rfl ?_
 refine qaz rfl (nn _) aY ?_
 obtain ⟨bf, aX, aV⟩ := bnd aV
 refine cS aX (fun aU aX => ?_) fun aU aX => ?_
 refine ct aU (ct aU (ct aU (ct aU (qac rfl (cT ?_)))))
 replace aV := ift (si aX).symm aV
 exact eE (er aV hm)
 refine cf aU (cf aU (qaz rfl (nn _) aY (cf aU (cf aU (qac rfl ?_)))))
 refine qae ?_ ?_ <;> intro aZ
 replace aV := ift ((si aX).symm.trans aZ) aV
 exact eE (er aV hm)
 replace aV := qa9 ((si aX).symm.trans aZ) aV
 obtain ⟨a6, aV⟩ := qaw aV
 refine qam a6 (qaz rfl (nn _) aY (qh3 (x := e0) (y := (48 : UInt8)) rfl rfl (qfy rfl rfl (qru (e0 - (48 : UInt8))) ?_)))
 obtain ⟨a8, aV⟩ := qaw aV
 refine qam a8 (qam (qbn aY bb) ?_)
 exact eR aV (_, _)
 rw [lty w0, JbT.eq_1] at aV
 refine cT ?_
 exact eM aV _
 rintro t0 _ rfl j0
 replace hm := elg hm
 exact eE hm

def Jd7 (name : Str) (x : Ji) (Aq : J0) : Option (Ji × Bool) :=
  if (decide (name = ([112, 97, 114, 116] : Str)) || decide (name = ([116, 101, 120, 116] : Str))) then
  if decide (x.kind ≠ 2) then
  some ((⟨0, 0, ([] : Str), false⟩ : Ji), false)
  else
  if decide (name = ([116, 101, 120, 116] : Str)) then
  (qll x.n).bind fun bh =>
  (JaD bh).bind fun bj =>
  some (bj, true)
  else
  (JcX Aq.Ae).bind fun aY =>
  if (decide (x.n < 0) || decide (x.n ≥ (aY.length : Int))) then
  (JaD ([] : Str)).bind fun a6 =>
  some (a6, true)
  else
  (ix aY x.n).bind fun bc =>
  (JaD bc).bind fun bl =>
  some (bl, true)
  else
  if decide (x.kind ≠ 1) then
  some ((⟨0, 0, ([] : Str), false⟩ : Ji), false)
  else
  if decide (name = ([104, 101, 97, 100, 101, 114] : Str)) then
  (Jeb Aq.Ao x.s).bind fun aZ =>
  (JaD aZ.1).bind fun a8 =>
  some (a8, true)
  else
  if decide (name = ([104, 97, 115] : Str)) then
  (Jeb Aq.Ao x.s).bind fun bd =>
  (JaV bd.2).bind fun bg =>
  some (bg, true)
  else
  if decide (name = ([97, 114, 103] : Str)) then
  (Jd6 (⟨([] : Str), ([] : Str), Aq.Af, true⟩ : Jn) x.s).bind fun bf =>
  (JaD bf.1).bind fun bb =>
  some (bb, true)
  else
  if decide (name = ([108, 101, 110] : Str)) then
  (JbY (x.s.length : Int)).bind fun ba =>
  some (ba, true)
  else
  if decide (name = ([108, 111, 119, 101, 114] : Str)) then
  (JdW x.s).bind fun aV =>
  (JaD aV).bind fun aW =>
  some (aW, true)
  else
  (JdH x.s).bind fun aU =>
  (JbY aU).bind fun aX =>
  some (aX, true)
theorem JeE {name : Str} {x : Ji} {Aq : J0} {ar : Option Addr} {au : Nat} {K : Hp} {r : Ji × Bool}
    (hm : Jd7 name x Aq = some r) (hX : RdC Jc.enc K ar au 2 Aq.Ao ∧ GG K) :
    Fn Tryz.prog 112 [str name, .agg #[.int .i64 x.kind, .int .i64 x.n, str x.s, .bool x.As], .agg #[str Aq.Am, str Aq.An, str Aq.Ae, str Aq.Af, .slice ar Aq.Ao.length au]] K [] (fun v K' H' => v = .tuple #[.agg #[.int .i64 r.1.kind, .int .i64 r.1.n, str r.1.s, .bool r.1.As], .bool r.2] ∧ H' = []) := by
 obtain ⟨bf, hG⟩ := hX
 refine Fn.enter Tryz.func112 Tryz.call112 rfl fun F => ?_
 unfold Jd7 at hm
 refine qar ?_
 intro b4
 refine qar ?_
 intro b5
 refine qaf rfl fun b6 => ?_
 refine jR (σ := Unit) (rg 15 6) (fun _ => [(20, .bool (decide (name = ([112, 97, 114, 116] : Str)) || decide (name = ([116, 101, 120, 116] : Str))))]) (fun bw => True) ?_ ?_
 refine qaj rfl ?_
 refine qaq ?_
 refine qae ?_ ?_ <;> intro aV
 refine ct aV (ct aV ?_)
 exact eMt () ⟨bq (((qcn aV)).symm), trivial⟩
 refine cf aV (qaq (cf aV ?_))
 exact eMt () ⟨bq (qg2 (b := decide (name = ([116, 101, 120, 116] : Str))) aV), trivial⟩
 rintro _ _ bC
 refine cs rfl rfl hm ?_ ?_ <;> intro bS hm
 refine fa rfl (ro (ld r2 rfl rfl (qa8 ?_)))
 refine cs rfl rfl hm ?_ ?_ <;> intro bN hm
 refine qai rfl rfl ?_
 refine qaa r0 rfl ⟨rfl, rfl, (nl rfl), ?_⟩
 exact ro (qab r0 rfl (nl rfl) (eE hm))
 refine qaq (cs rfl rfl hm ?_ ?_) <;> intro bR hm
 refine fa rfl (ro (ld r2 rfl rfl ?_))
 refine cb hm fun bV bo hm => cg0 (qkf bo (gg4 hG)) ?_
 refine cb hm fun bQ br hm => cg0 (Jaj br :) ?_
 refine qaa r0 rfl ⟨rfl, rfl, (nl rfl), ?_⟩
 exact ro (qab r0 rfl (nl rfl) (eE hm))
 refine fa rfl (ro (ld r1 rfl rfl ?_))
 refine cb hm fun bb bG hm => ckx (Jd5 bG :) ?_
 rintro _ _ _ ⟨ba, bd, rfl, aW, rfl⟩
 refine jR (σ := Unit) (rg 34 10) (fun _ => [(43, .bool (decide (x.n < 0) || decide (x.n ≥ (bb.length : Int))))]) (fun bl => True) ?_ ?_
 refine qaj rfl ?_
 refine fa rfl (ro (ld r3 rfl rfl ?_))
 refine qae ?_ ?_ <;> intro aU
 refine ct aU (ct aU (ct aU (ct aU (ct aU ?_))))
 exact eMt () ⟨bq (((qcn aU)).symm), trivial⟩
 refine fa rfl (cf aU (ro (ld r3 rfl rfl (cf aU (cf aU (ro (qak rfl (cf aU (cf aU ?_)))))))))
 exact eMt () ⟨bq (qg2 (b := decide (x.n ≥ (bb.length : Int))) aU), trivial⟩
 rintro _ _ bn
 refine cs rfl rfl hm ?_ ?_ <;> intro bK hm
 refine cb hm fun bZ bt hm => cg0 (Jaj bt :) ?_
 refine qaa r1 rfl ⟨rfl, rfl, (nl rfl), ?_⟩
 exact ro (qab r0 rfl (nl rfl) (eE hm))
 refine fa rfl (ro (ld r3 rfl rfl ?_))
 obtain ⟨ce, bc, a6, hm⟩ := ixb hm
 refine RStep.ofN (qad rfl rfl (qco aW a6) bc (qax rfl bc a6) (ro (qbv (i := (x.n).toNat) (o := 0) r0 rfl a6 rfl rfl ?_)))
 refine cb hm fun bW bF hm => cg0 (Jaj bF :) ?_
 refine qaa r1 rfl ⟨rfl, rfl, (nl rfl), ?_⟩
 exact ro (qab r0 rfl (nl rfl) (eE hm))
 refine fa rfl (ro (ld r2 rfl rfl (qa8 ?_)))
 refine cs rfl rfl hm ?_ ?_ <;> intro bM hm
 refine qai rfl rfl ?_
 refine qaa r0 rfl ⟨rfl, rfl, (nl rfl), ?_⟩
 exact ro (qab r0 rfl (nl rfl) (eE hm))
 refine qal rfl ?_
 refine qaq (cs rfl rfl hm ?_ ?_) <;> intro bH hm
 refine fa rfl (ro (ld r1 rfl rfl (fa rfl (ro (ld r2 rfl rfl ?_)))))
 refine cb hm fun bI bg hm => cgx (Jep bg :) ?_
 refine cb hm fun bT bh hm => cg0 (Jaj bh :) ?_
 refine qaa r0 rfl ⟨rfl, rfl, (nl rfl), ?_⟩
 exact ro (qab r0 rfl (nl rfl) (eE hm))
 refine qaq (cs rfl rfl hm ?_ ?_) <;> intro bL hm
 refine fa rfl (ro (ld r1 rfl rfl (fa rfl (ro (ld r2 rfl rfl ?_)))))
 refine cb hm fun bU bu hm => cgx (Jep bu :) ?_
 refine cb hm fun bP bB hm => cg0 (JaE bB :) ?_
 refine qaa r0 rfl ⟨rfl, rfl, (nl rfl), ?_⟩
 exact ro (qab r0 rfl (nl rfl) (eE hm))
 refine qaq (cs rfl rfl hm ?_ ?_) <;> intro bX hm
 refine fa rfl (ro (ld r1 rfl rfl (qai rfl rfl (cT (cT (fa rfl (ro (ld r2 rfl rfl ?_))))))))
 refine cb hm fun cj bj hm => cgx (JeD bj :) ?_
 refine cb hm fun ca bD hm => cg0 (Jaj bD :) ?_
 refine qaa r0 rfl ⟨rfl, rfl, (nl rfl), ?_⟩
 exact ro (qab r0 rfl (nl rfl) (eE hm))
 refine qaq (cs rfl rfl hm ?_ ?_) <;> intro bY hm
 refine fa rfl (ro (ld r2 rfl rfl (ro (qa0 rfl ?_))))
 refine cb hm fun bJ bz hm => cg0 (Jbq bz :) ?_
 refine qaa r0 rfl ⟨rfl, rfl, (nl rfl), ?_⟩
 exact ro (qab r0 rfl (nl rfl) (eE hm))
 refine qaq (cs rfl rfl hm ?_ ?_) <;> intro bO hm
 refine fa rfl (ro (ld r2 rfl rfl ?_))
 refine cb hm fun bm aX hm => cg0 (Jew aX :) ?_
 refine cb hm fun bp a8 hm => cg0 (Jaj a8 :) ?_
 refine qaa r0 rfl ⟨rfl, rfl, (nl rfl), ?_⟩
 exact ro (qab r0 rfl (nl rfl) (eE hm))
 refine fa rfl (ro (ld r2 rfl rfl ?_))
 refine cb hm fun bv aY hm => cg0 (Jet aY :) ?_
 refine cb hm fun bA aZ hm => cg0 (Jbq aZ :) ?_
 refine qaa r0 rfl ⟨rfl, rfl, (nl rfl), ?_⟩
 exact ro (qab r0 rfl (nl rfl) (eE hm))

def Jdu (a : Int) (b : Int) : Option (Ji) :=
  if (decide (a = 0) || decide (b = 0)) then
  (JbY 0).bind fun aW =>
  some aW
  else
  (chk (InI (-a))).bind fun _ =>
  (chk (InI (-b))).bind fun _ =>
  (chk ((max b (-b)) ≠ 0 ∧ InI (Int.tdiv 1099511627776 (max b (-b))))).bind fun _ =>
  ((if decide ((max a (-a)) > (Int.tdiv 1099511627776 (max b (-b)))) then
  some (1099511627776, 1)
  else
  some ((max a (-a)), (max b (-b))) : Option (Int × Int))).bind fun aU =>
  if (!((decide (a < 0)) == (decide (b < 0)))) then
  (chk (InI (-aU.1))).bind fun _ =>
  (chk (InI ((-aU.1) * aU.2))).bind fun _ =>
  (JbY ((-aU.1) * aU.2)).bind fun aX =>
  some aX
  else
  (chk (InI (aU.1 * aU.2))).bind fun _ =>
  (JbY (aU.1 * aU.2)).bind fun aV =>
  some aV
theorem Jem {a : Int} {b : Int} {K : Hp} {r : Ji}
    (hm : Jdu a b = some r)  :
    Fn Tryz.prog 161 [.int .i64 a, .int .i64 b] K [] (fun v K' H' => v = .agg #[.int .i64 r.kind, .int .i64 r.n, str r.s, .bool r.As] ∧ H' = []) := by
 refine Fn.enter Tryz.func161 Tryz.call161 rfl fun F => ?_
 unfold Jdu at hm
 refine qaf rfl fun b4 => ?_
 refine jR (σ := Unit) (rg 8 6) (fun _ => [(13, .bool (decide (a = 0) || decide (b = 0)))]) (fun a8 => True) ?_ ?_
 refine qaj rfl ?_
 refine qag ?_
 refine qae ?_ ?_ <;> intro aU
 refine ct aU (ct aU ?_)
 exact eMt () ⟨bq (((qcn aU)).symm), trivial⟩
 refine cf aU (qag (cf aU ?_))
 exact eMt () ⟨bq (qg2 (b := decide (b = 0)) aU), trivial⟩
 rintro _ _ bd
 refine cs rfl rfl hm ?_ ?_ <;> intro bl hm
 refine cb hm fun bn bf hm => cg0 (Jbq bf :) ?_
 refine qaa r0 rfl ⟨rfl, rfl, (nl rfl), ?_⟩
 exact ro (qab r0 rfl (nl rfl) (eE hm))
 refine qko rfl ?_
 obtain ⟨a6, hm⟩ := qaw hm
 refine qly a6 ?_
 refine ro (qch ?_)
 obtain ⟨ba, hm⟩ := qaw hm
 refine qly ba ?_
 refine ro (qch ?_)
 obtain ⟨aY, hm⟩ := qaw hm
 refine ql6 aY.1 aY.2 ?_
 obtain ⟨aX, aV, hm⟩ := bnd hm
 refine jD (σ := (Int × Int)) [6,7] [0, 1] (fun aW => [(6, .int .i64 aW.1), (7, .int .i64 aW.2)]) (fun aW => []) (fun aW => aW = aX) (And.intro ?_ ?_)
 refine cs rfl rfl aV ?_ ?_ <;> intro bh aV
 exact eM aV _
 exact eM aV _
 rintro aW rfl bb
 refine cs rfl rfl hm ?_ ?_ <;> intro bm hm
 obtain ⟨bc, hm⟩ := qaw hm
 refine qly bc ?_
 refine ci hm fun hm => ?_
 refine cb hm fun bj bg hm => cg0 (Jbq bg :) ?_
 refine qaa r0 rfl ⟨rfl, rfl, (nl rfl), ?_⟩
 exact ro (qab r0 rfl (nl rfl) (eE hm))
 refine ci hm fun hm => ?_
 refine cb hm fun bo aZ hm => cg0 (Jbq aZ :) ?_
 refine qaa r0 rfl ⟨rfl, rfl, (nl rfl), ?_⟩
 exact ro (qab r0 rfl (nl rfl) (eE hm))

def JaW (s : Str) (suffix : Str) : Option (Bool) :=
  (if decide ((s.length : Int) ≥ (suffix.length : Int)) then (chk (InI ((s.length : Int) - (suffix.length : Int)))).bind fun _ =>
  (chk (0 ≤ ((s.length : Int) - (suffix.length : Int)) ∧ ((s.length : Int) - (suffix.length : Int)) ≤ (s.length : Int) ∧ (s.length : Int) ≤ (s.length : Int))).bind fun _ =>
  some (decide ((subL s ((s.length : Int) - (suffix.length : Int)) (s.length : Int)) = suffix)) else some false).bind fun aU =>
  some aU
theorem JcE {s : Str} {suffix : Str} {K : Hp} {r : Bool}
    (hm : JaW s suffix = some r)  :
    Fn Tryz.prog 215 [str s, str suffix] K [] (fun v K' H' => v = .bool r ∧ H' = []) := by
 refine Fn.enter Tryz.func215 Tryz.call215 rfl fun F => ?_
 unfold JaW at hm
 refine qaj rfl ?_
 refine ro (qa0 rfl (ro (qa0 rfl ?_)))
 obtain ⟨aY, aV, hm⟩ := bnd hm
 refine cS aV (fun aU aV => ?_) fun aU aV => ?_
 refine ct aU (ct aU (ro (qa0 rfl (ct aU (ct aU (ro (qa0 rfl (ct aU ?_))))))))
 obtain ⟨aW, aV⟩ := qaw aV
 refine qam aW (ct aU ?_)
 obtain ⟨aX, aV⟩ := qaw aV
 refine RStep.ofN (qdp (lo := (some ((s.length : Int) - (suffix.length : Int)))) (hi := none) rfl aX (ct aU (ct aU (qaq (ct aU ?_)))))
 exact bE (si aV) (eE hm)
 refine cf aU (cf aU (cf aU (cf aU (cf aU (cf aU (cf aU (cf aU ?_)))))))
 refine cf aU ?_
 exact bE (si aV) (eE hm)

def JcO (s : Str) (suffix : Str) : Option (Bool) :=
  (JaW s suffix).bind fun x7 =>
  some x7
theorem Jd1 {s : Str} {suffix : Str} {K : Hp} {r : Bool}
    (hm : JcO s suffix = some r)  :
    Fn Tryz.prog 162 [str s, str suffix] K [] (fun v K' H' => v = .bool r ∧ H' = []) := by
 refine Fn.enter Tryz.func162 Tryz.call162 rfl fun F => ?_
 unfold JcO at hm
 refine cb hm fun x7 q7 hm => cg0 (JcE q7 :) ?_
 exact eE hm

def Jdv (op : Str) (a : Ji) (b : Ji) : Option (Ji × Bool) :=
  if decide (a.kind ≠ b.kind) then
  some ((⟨0, 0, ([] : Str), false⟩ : Ji), false)
  else
  if decide (op = ([43] : Str)) then
  if decide (a.kind = 1) then
  (chk (a.s.length + b.s.length ≤ lim)).bind fun _ =>
  (JaD (a.s ++ b.s)).bind fun bb =>
  some (bb, true)
  else
  (chk (InI (a.n + b.n))).bind fun _ =>
  (JbY (a.n + b.n)).bind fun a6 =>
  some (a6, decide (a.kind = 2))
  else
  if decide (op = ([45] : Str)) then
  (chk (InI (a.n - b.n))).bind fun _ =>
  (JbY (a.n - b.n)).bind fun ba =>
  some (ba, decide (a.kind = 2))
  else
  if decide (op = ([42] : Str)) then
  if (!decide (a.kind = 2)) then
  some ((⟨0, 0, ([] : Str), false⟩ : Ji), false)
  else
  (Jdu a.n b.n).bind fun aZ =>
  some (aZ, true)
  else
  if decide (op = ([61, 61] : Str)) then
  (JaV (decide (a.kind = b.kind) && (decide (a.n = b.n) && (decide (a.s = b.s) && (a.As == b.As))))).bind fun aY =>
  some (aY, true)
  else
  if decide (op = ([33, 61] : Str)) then
  (JaV (!(decide (a.kind = b.kind) && (decide (a.n = b.n) && (decide (a.s = b.s) && (a.As == b.As)))))).bind fun bg =>
  some (bg, true)
  else
  if decide (op = ([60] : Str)) then
  (JaV (decide (a.n < b.n))).bind fun a8 =>
  some (a8, decide (a.kind = 2))
  else
  if decide (op = ([60, 61] : Str)) then
  (JaV (decide (a.n ≤ b.n))).bind fun bc =>
  some (bc, decide (a.kind = 2))
  else
  if decide (op = ([115, 116, 97, 114, 116, 115] : Str)) then
  (Jak a.s b.s).bind fun bd =>
  (JaV bd).bind fun bf =>
  some (bf, decide (a.kind = 1))
  else
  if decide (op = ([101, 110, 100, 115] : Str)) then
  (JcO a.s b.s).bind fun aV =>
  (JaV aV).bind fun aX =>
  some (aX, decide (a.kind = 1))
  else
  (qe3 a.s b.s).bind fun aW =>
  (JaV aW).bind fun aU =>
  some (aU, decide (a.kind = 1))
theorem Jen {op : Str} {a : Ji} {b : Ji} {K : Hp} {r : Ji × Bool}
    (hm : Jdv op a b = some r) (hG : GG K) :
    Fn Tryz.prog 113 [str op, .agg #[.int .i64 a.kind, .int .i64 a.n, str a.s, .bool a.As], .agg #[.int .i64 b.kind, .int .i64 b.n, str b.s, .bool b.As]] K [] (fun v K' H' => v = .tuple #[.agg #[.int .i64 r.1.kind, .int .i64 r.1.n, str r.1.s, .bool r.1.As], .bool r.2] ∧ H' = []) := by
 refine Fn.enter Tryz.func113 Tryz.call113 rfl fun F => ?_
 unfold Jdv at hm
 refine qar ?_
 intro b4
 refine qar ?_
 intro b5
 refine qaf rfl fun b6 => ?_
 refine fa rfl (ro (ld r2 rfl rfl (fa rfl (ro (ld r1 rfl rfl (qa8 ?_))))))
 refine cs rfl rfl hm ?_ ?_ <;> intro bJ hm
 refine qai rfl rfl ?_
 refine qaa r0 rfl ⟨rfl, rfl, (nl rfl), ?_⟩
 exact ro (qab r0 rfl (nl rfl) (eE hm))
 refine qa6 ⟨⟨[], false⟩, _, [(_, _)], []⟩ (by kernel_rfl) ⟨Hp.Le.refl _, (sc [2] rfl), ci0⟩ ?_
 refine fa rfl (qao m0 rfl rfl (qag (fa rfl (qao m0 rfl rfl (qag ?_)))))
 refine qal rfl ?_
 refine qaq (cs rfl rfl hm ?_ ?_) <;> intro bz hm
 refine cs rfl rfl hm ?_ ?_ <;> intro bC hm
 refine fa rfl (ro (ld r2 rfl rfl (fa rfl (ro (ld r1 rfl rfl ?_)))))
 obtain ⟨bf, hm⟩ := qaw hm
 refine qbs bf ?_
 refine cb hm fun bv bc hm => cg0 (Jaj bc :) ?_
 refine qaa r0 rfl ⟨rfl, rfl, (nl rfl), ?_⟩
 exact ro (qab r0 rfl (nl rfl) (eE hm))
 refine fa rfl (ro (ld r2 rfl rfl (fa rfl (ro (ld r1 rfl rfl ?_)))))
 refine ci hm fun hm => ?_
 refine cb hm fun bH bh hm => cg0 (Jbq bh :) ?_
 refine qaa r0 rfl ⟨rfl, rfl, (nl rfl), ?_⟩
 exact ro (qab r0 rfl (nl rfl) (eE hm))
 refine qaq (cs rfl rfl hm ?_ ?_) <;> intro bF hm
 refine fa rfl (ro (ld r2 rfl rfl (fa rfl (ro (ld r1 rfl rfl ?_)))))
 refine ci hm fun hm => ?_
 refine cb hm fun bu bb hm => cg0 (Jbq bb :) ?_
 refine qaa r0 rfl ⟨rfl, rfl, (nl rfl), ?_⟩
 exact ro (qab r0 rfl (nl rfl) (eE hm))
 refine qaq (cs rfl rfl hm ?_ ?_) <;> intro br hm
 refine qau ?_
 refine cs rfl rfl hm ?_ ?_ <;> intro bN hm
 refine qai rfl rfl ?_
 refine qaa r0 rfl ⟨rfl, rfl, (nl rfl), ?_⟩
 exact ro (qab r0 rfl (nl rfl) (eE hm))
 refine fa rfl (ro (ld r2 rfl rfl (fa rfl (ro (ld r1 rfl rfl ?_)))))
 refine cb hm fun bA aY hm => cg0 (Jem aY :) ?_
 refine qaa r0 rfl ⟨rfl, rfl, (nl rfl), ?_⟩
 exact ro (qab r0 rfl (nl rfl) (eE hm))
 refine qaq (cs rfl rfl hm ?_ ?_) <;> intro bG hm
 refine ro (qab r2 rfl (nl rfl) (ro (qab r1 rfl (nl rfl) ?_)))
 refine qmn (b := (decide (a.kind = b.kind) && (decide (a.n = b.n) && (decide (a.s = b.s) && (a.As == b.As))))) rfl (by kernel_rfl) (by kernel_rfl) (by kernel_rfl) rfl ?_
 refine cb hm fun bo ba hm => cg0 (JaE ba :) ?_
 refine qaa r0 rfl ⟨rfl, rfl, (nl rfl), ?_⟩
 exact ro (qab r0 rfl (nl rfl) (eE hm))
 refine qaq (cs rfl rfl hm ?_ ?_) <;> intro bt hm
 refine ro (qab r2 rfl (nl rfl) (ro (qab r1 rfl (nl rfl) ?_)))
 refine qqa (b := (decide (a.kind = b.kind) && (decide (a.n = b.n) && (decide (a.s = b.s) && (a.As == b.As))))) rfl (by kernel_rfl) (by kernel_rfl) (by kernel_rfl) rfl ?_
 refine cb hm fun bK bj hm => cg0 (JaE bj :) ?_
 refine qaa r0 rfl ⟨rfl, rfl, (nl rfl), ?_⟩
 exact ro (qab r0 rfl (nl rfl) (eE hm))
 refine qaq (cs rfl rfl hm ?_ ?_) <;> intro bB hm
 refine fa rfl (ro (ld r2 rfl rfl (fa rfl (ro (ld r1 rfl rfl ?_)))))
 refine cb hm fun bL bl hm => cg0 (JaE bl :) ?_
 refine qaa r0 rfl ⟨rfl, rfl, (nl rfl), ?_⟩
 exact ro (qab r0 rfl (nl rfl) (eE hm))
 refine qaq (cs rfl rfl hm ?_ ?_) <;> intro bp hm
 refine fa rfl (ro (ld r2 rfl rfl (fa rfl (ro (ld r1 rfl rfl ?_)))))
 refine cb hm fun bO bm hm => cg0 (JaE bm :) ?_
 refine qaa r0 rfl ⟨rfl, rfl, (nl rfl), ?_⟩
 exact ro (qab r0 rfl (nl rfl) (eE hm))
 refine qaq (cs rfl rfl hm ?_ ?_) <;> intro bD hm
 refine fa rfl (ro (ld r2 rfl rfl (fa rfl (ro (ld r1 rfl rfl ?_)))))
 refine cb hm fun bI a8 hm => cg0 (JaG a8 :) ?_
 refine cb hm fun bM aZ hm => cg0 (JaE aZ :) ?_
 refine qaa r0 rfl ⟨rfl, rfl, (nl rfl), ?_⟩
 exact ro (qab r0 rfl (nl rfl) (eE hm))
 refine qaq (cs rfl rfl hm ?_ ?_) <;> intro bw hm
 refine fa rfl (ro (ld r2 rfl rfl (fa rfl (ro (ld r1 rfl rfl ?_)))))
 refine cb hm fun bd aU hm => cg0 (Jd1 aU :) ?_
 refine cb hm fun bg aV hm => cg0 (JaE aV :) ?_
 refine qaa r0 rfl ⟨rfl, rfl, (nl rfl), ?_⟩
 exact ro (qab r0 rfl (nl rfl) (eE hm))
 refine fa rfl (ro (ld r2 rfl rfl (fa rfl (ro (ld r1 rfl rfl ?_)))))
 refine cb hm fun bn aW hm => cg0 (qkg aW (gg0 hG)) ?_
 refine cb hm fun a6 aX hm => cg0 (JaE aX :) ?_
 refine qaa r0 rfl ⟨rfl, rfl, (nl rfl), ?_⟩
 exact ro (qab r0 rfl (nl rfl) (eE hm))

def Ja5 (al : Str) (value : Str) : List Jc → Nat → (List Jc) → Bool → Option ((List Jc) × Bool)
  | [], _, ac, aU => some (ac, aU)
  | e0 :: aV, i0, ac, aU =>
    (JaK e0.Name).bind fun aW =>
    if decide (aW ≠ al) then
    (chk (ac.length + [e0].length ≤ lim)).bind fun _ =>
    Ja5 al value aV (i0 + 1) (ac ++ [e0]) aU
    else
    if (!aU) then
    (chk (ac.length + [(⟨al, value⟩ : Jc)].length ≤ lim)).bind fun _ =>
    Ja5 al value aV (i0 + 1) (ac ++ [(⟨al, value⟩ : Jc)]) true
    else
    Ja5 al value aV (i0 + 1) ac aU
def Jdh (f : (List Jc)) (name : Str) (value : Str) : Option ((List Jc)) :=
  (JaK name).bind fun al =>
  (chk (f.length ≤ qa3)).bind fun _ =>
  (Ja5 al value f 0 [] false).bind fun t0 =>
  if (!t0.2) then
  (chk (t0.1.length + [(⟨al, value⟩ : Jc)].length ≤ lim)).bind fun _ =>
  some (t0.1 ++ [(⟨al, value⟩ : Jc)])
  else
  some t0.1
theorem JdX {f : (List Jc)} {name : Str} {value : Str} {aa : Option Addr} {ab : Nat} {n0 : Nat} {K : Hp} {r : (List Jc)}
    (hm : Jdh f name value = some r) (hX : RdC Jc.enc K aa ab 2 f ∧ n0 = f.length) :
    Fn Tryz.prog 21 [.slice aa n0 ab, str name, str value] K [] (fun v K' H' => ∃ ar_0 : Option Addr, ∃ cr_0 : Nat, v = .slice ar_0 r.length cr_0 ∧ (0 < r.length → Has ar_0) ∧ H' = [qat Jc.enc ar_0 41 2 cr_0 r]) := by
 obtain ⟨ae, bh⟩ := hX
 subst bh
 refine Fn.enter Tryz.func21 Tryz.call21 rfl fun F => ?_
 unfold Jdh at hm
 refine cb hm fun al bf hm => cg0 (JaO bf :) ?_
 refine ro (qak rfl ?_)
 obtain ⟨aY, hm⟩ := qaw hm
 obtain ⟨s0, aW, hm⟩ := bnd hm
 refine qhg Jc.enc 41 2 ?_
 refine lD (σ := ((List Jc) × Bool) × Option Addr × Nat) ([7,8,10] ++ rg 15 24) [1] (fun i0 => [(15, .int .i64 (i0 : Int))]) (fun (t0, aU, aV) => [(7, .slice aU t0.1.length aV), (8, .bool t0.2)]) (fun (t0, aU, aV) => [qat Jc.enc aU 41 2 aV t0.1]) (fun (t0, aU, aV) => (0 < t0.1.length → Has aU) ∧ True) (fun i0 (t0, aU, aV) => Ja5 al value (f.drop i0) i0 t0.1 t0.2 = some s0) (fun (t0, aU, aV) => t0 = s0) (fun i0 => f.length - i0) 0 ((_, _), _, _) aW (And.intro qe (And.intro ?_ ?_))
 clear aW
 rintro i0 ⟨⟨ac, bb⟩, ba, a8⟩ ⟨aZ, _⟩ aW j0
 dsimp only at aW ⊢
 refine qac rfl ?_
 refine qae ?_ ?_ <;> intro w0
 obtain ⟨e0, aX, bl⟩ := ltx w0
 rw [bl, Ja5.eq_2] at aW
 refine qal rfl ?_
 refine RStep.ofN (qad rfl rfl (qff ae.rd aX) (nn _) (qbl aX) (ro (qan i0 _ ae.rd rfl (mp aX) rfl ?_)))
 refine qaf rfl fun bn => ?_
 refine qaa r0 rfl ⟨rfl, rfl, (nl rfl), ?_⟩
 refine qal rfl ?_
 refine fa rfl (ro (ld r0 rfl rfl ?_))
 refine cb aW fun bv bc aW => cg0 (JaO bc :) ?_
 refine qbk (cs rfl rfl aW ?_ ?_) <;> intro bD aW
 refine ro (qab r0 rfl (nl rfl) ?_)
 refine bsO (len := 1) (enc := Jc.enc) (l := [e0]) (cl := [str e0.Name, str e0.Value]) qf5 rfl rfl (fun _ _ => rfl) rfl rfl rfl ?_ fun bt => ?_
 · conv => whnf
   refine cT ?_
   first | done | rfl
 obtain ⟨bd, aW⟩ := qaw aW
 refine apE rfl r2 qf5 (qay rfl r0 rfl (fun _ => rfl) (fun _ => rfl)) bd ?_
 intro bu bw bC
 refine qam (qbn aX aY) ?_
 exact eR aW (_, (_, _), _, _)
 refine qau ?_
 refine cs rfl rfl aW ?_ ?_ <;> intro bo aW
 refine qai rfl rfl (cT (cT ?_))
 refine bsO (len := 1) (enc := Jc.enc) (l := [(⟨al, value⟩ : Jc)]) (cl := [str al, str value]) qf5 rfl rfl (fun _ _ => rfl) rfl rfl rfl ?_ fun bp => ?_
 · conv => whnf
   refine cT ?_
   first | done | rfl
 obtain ⟨bj, aW⟩ := qaw aW
 refine apE rfl r2 qf5 (qay rfl r0 rfl (fun _ => rfl) (fun _ => rfl)) bj ?_
 intro bB bz bG
 refine qam (qbn aX aY) ?_
 exact eR aW (_, (_, _), _, _)
 refine qam (qbn aX aY) ?_
 exact eR aW (_, (_, _), _, _)
 rw [lty w0, Ja5.eq_1] at aW
 refine cT ?_
 exact eM aW (_, _, _)
 rintro ⟨t0, aU, aV⟩ ⟨a6, _⟩ rfl j0
 refine qau ?_
 refine cs rfl rfl hm ?_ ?_ <;> intro br hm
 refine qai rfl rfl (cT (cT ?_))
 refine bsO (len := 1) (enc := Jc.enc) (l := [(⟨al, value⟩ : Jc)]) (cl := [str al, str value]) qf5 rfl rfl (fun _ _ => rfl) rfl rfl rfl ?_ fun bA => ?_
 · conv => whnf
   refine cT ?_
   first | done | rfl
 obtain ⟨bg, hm⟩ := qaw hm
 refine apE rfl r1 qf5 (qay rfl r0 rfl (fun _ => rfl) (fun _ => rfl)) bg ?_
 intro bH bm bF
 exact eE hm
 exact eE hm

def Jb9 (r' : Jp) (s : Str) (x : Ji) : Option (Err × Jp) :=
  (qoy s ([58] : Str)).bind fun aV =>
  (Jc7 aV.2.1).bind fun aU =>
  if aU.2.isSome then
  some ((some 8), r')
  else
  if decide (aV.1 = ([118, 97, 114, 121] : Str)) then
  (JE r'.Vary aU.1).bind fun aW =>
  if (!aW) then
  (chk (r'.Vary.length + [aU.1].length ≤ lim)).bind fun _ =>
  some (none, (⟨r'.Ae, r'.Af, r'.Ag, (r'.Vary ++ [aU.1]), r'.Ah, r'.TTL, r'.Ai, r'.Aj, r'.Ak, r'.Al⟩ : Jp))
  else
  some (none, r')
  else
  (JcI x.s).bind fun az =>
  if az.2.isSome then
  some (az.2, r')
  else
  (Jdh r'.Ag aU.1 az.1).bind fun aC =>
  some (none, (⟨r'.Ae, r'.Af, aC, r'.Vary, r'.Ah, r'.TTL, r'.Ai, r'.Aj, r'.Ak, r'.Al⟩ : Jp))
theorem JdB {r' : Jp} {s : Str} {x : Ji} {b0 : Nat} {aa : Option Addr} {ab : Nat} {ai : Option Addr} {ak : Nat} {am : Option Addr} {av : Nat} {aS : TypeId} {aL aR : List Value} {K : Hp} {r : Err × Jp}
    (hm : Jb9 r' s x = some r) (hX : (0 < r'.Ag.length → Has aa) ∧ (0 < r'.Vary.length → Has ai) ∧ (0 < r'.Ah.length → Has am) ∧ GG K) :
    Fn Tryz.prog 164 [.pointer (some ⟨b0, aL.length + 0, none⟩), str s, .agg #[.int .i64 x.kind, .int .i64 x.n, str x.s, .bool x.As]] K [qfh b0 aS aL aR [str r'.Ae, str r'.Af, .slice aa r'.Ag.length ab, .slice ai r'.Vary.length ak, .slice am r'.Ah.length av, .int .i64 r'.TTL, .int .i64 r'.Ai, .int .i64 r'.Aj, .bool r'.Ak, .bool r'.Al], qat Jc.enc aa 41 2 ab r'.Ag, qat eS ai 9 1 ak r'.Vary, qat eS am 9 1 av r'.Ah] (fun v K' H' => ∃ ar_0 : Option Addr, ∃ cr_0 : Nat, ∃ ar_1 : Option Addr, ∃ cr_1 : Nat, ∃ ar_2 : Option Addr, ∃ cr_2 : Nat, v = qcp 48 r.1 ∧ (0 < r.2.Ag.length → Has ar_0) ∧ (0 < r.2.Vary.length → Has ar_1) ∧ (0 < r.2.Ah.length → Has ar_2) ∧ H' = [qfh b0 aS aL aR [str r.2.Ae, str r.2.Af, .slice ar_0 r.2.Ag.length cr_0, .slice ar_1 r.2.Vary.length cr_1, .slice ar_2 r.2.Ah.length cr_2, .int .i64 r.2.TTL, .int .i64 r.2.Ai, .int .i64 r.2.Aj, .bool r.2.Ak, .bool r.2.Al], qat Jc.enc ar_0 41 2 cr_0 r.2.Ag, qat eS ar_1 9 1 cr_1 r.2.Vary, qat eS ar_2 9 1 cr_2 r.2.Ah]) := by
 obtain ⟨ae, bd, a6, hG⟩ := hX
 refine Fn.enter Tryz.func164 Tryz.call164 rfl fun F => ?_
 unfold Jb9 at hm
 refine qar ?_
 intro b5
 refine cb hm fun bn bg hm => cg0 (qm9 bg (gg0 hG)) ?_
 refine cb hm fun aW bl hm => cg0 (Jd8 bl :) ?_
 refine qa5 rfl ?_
 refine cs rfl rfl hm ?_ ?_ <;> intro bt hm
 refine qas rfl ?_
 exact eE hm
 refine qaq (cs rfl rfl hm ?_ ?_) <;> intro bz hm
 refine qah ?_
 refine qc3 (j' := 3) rfl rfl ?_
 refine ro (ld r1 rfl (qi4 rfl) ?_)
 refine cb hm fun bp bh hm => ck0 (Fn.lend Tryz.call53 (fun bb aY aV => (JP (v' := aW.1) bh ⟨aV, rfl⟩)) (by exact fun _ _ _ _ h => h)) ?_
 rintro _ _ _ ⟨_, rfl, rfl, rfl⟩
 refine qau ?_
 refine cs rfl rfl hm ?_ ?_ <;> intro bA hm
 refine qah ?_
 refine qc3 (j' := 3) rfl rfl ?_
 refine ro (ld r2 rfl (qi4 rfl) ?_)
 refine bsO (len := 1) (enc := eS) (l := [aW.1]) (cl := [str aW.1]) qbw rfl rfl (fun _ _ => rfl) rfl rfl rfl ?_ fun bv => ?_
 · conv => whnf
   refine cT ?_
   first | done | rfl
 obtain ⟨bj, hm⟩ := qaw hm
 refine apE rfl r1 qbw (qay rfl r0 rfl (fun _ => rfl) (fun _ => rfl)) bj ?_
 intro bu bw br
 refine qah ?_
 refine qc3 (j' := 3) rfl rfl ?_
 refine qd4 r3 rfl ?_
 refine ⟨rfl, rfl, (nl rfl), ?_⟩
 exact eE hm
 exact eE hm
 refine fa rfl (ro (ld r0 rfl rfl ?_))
 refine cb hm fun az bf hm => cg0 (Jd2 bf :) ?_
 refine qa5 rfl ?_
 refine cs rfl rfl hm ?_ ?_ <;> intro bo hm
 exact eE hm
 refine qah ?_
 refine qc3 (j' := 2) rfl rfl ?_
 refine ro (ld r1 rfl (qi4 rfl) ?_)
 refine cb hm fun aC bm hm => ck0 (Fn.lend Tryz.call21 (fun aX aZ aU => (JdX (name := aW.1) (value := az.1) bm ⟨aU, rfl⟩)) (by exact fun _ _ _ _ h => h)) ?_
 rintro _ _ _ ⟨_, rfl, a8, ba, rfl, bc, rfl⟩
 refine qah ?_
 refine qc3 (j' := 2) rfl rfl ?_
 refine qd4 r3 rfl ?_
 refine ⟨rfl, rfl, (nl rfl), ?_⟩
 exact eE hm
