/- Functions of the program: mirrors, and that a call returns what the mirror says. Printed by gen.py. -/
import Derived.Test.YtiaaooopklhobaaGreatDoorG4
set_option linter.unusedVariables false
set_option linter.unusedSimpArgs false
open Go Go.SL Go.Proofs
noncomputable section
set_option maxRecDepth 1000000
set_option maxHeartbeats 8000000
def JaK (code : (List Jg)) : List Jg → Nat → Int → (List Jo) → Option (Fl (Int × Bool) (Int × (List Jo)))
  | [], _, ac, aX => some (Fl.go (ac, aX))
  | e0 :: ba, i0, ac, aX =>
    (ix aX (i0 : Int)).bind fun aT =>
    (Jae e0).bind fun aV =>
    (chk (InI ((code.length : Int) - 1))).bind fun _ =>
    if ((((!aV.2.2) || (!aT.Au)) || decide (aT.depth < aV.1)) || (!((decide (e0.Op = 12)) == (decide ((i0 : Int) = ((code.length : Int) - 1)))))) then
    some (Fl.ret (0, false))
    else
    (if decide (e0.Op = 3) then (JcM aT e0.N).bind fun bd =>
    some (!bd) else some false).bind fun bf =>
    if bf then
    some (Fl.ret (0, false))
    else
    (chk (InI (aV.2.1 - aV.1))).bind fun _ =>
    (chk (InI (aT.depth + (aV.2.1 - aV.1)))).bind fun _ =>
    ((if decide (e0.Op = 4) then
    (chk ((64 : Int) ≠ 0 ∧ InI (Int.tdiv e0.N 64))).bind fun _ =>
    (chk (0 ≤ (Int.tdiv e0.N 64) ∧ (Int.tdiv e0.N 64) < 8)).bind fun _ =>
    (chk (0 ≤ (Int.tmod e0.N 64))).bind fun _ =>
    (chk (0 ≤ (Int.tdiv e0.N 64) ∧ (Int.tdiv e0.N 64) < 8)).bind fun _ =>
    (some (List.set [aT.At.f0, aT.At.f1, aT.At.f2, aT.At.f3, aT.At.f4, aT.At.f5, aT.At.f6, aT.At.f7] (Int.toNat (Int.tdiv e0.N 64)) (u64or (List.getD [aT.At.f0, aT.At.f1, aT.At.f2, aT.At.f3, aT.At.f4, aT.At.f5, aT.At.f6, aT.At.f7] (Int.toNat (Int.tdiv e0.N 64)) 0) (qpa 1 (Int.tmod e0.N 64))))).bind fun aW =>
    some ((List.getD aW 0 0), (List.getD aW 1 0), (List.getD aW 2 0), (List.getD aW 3 0), (List.getD aW 4 0), (List.getD aW 5 0), (List.getD aW 6 0), (List.getD aW 7 0))
    else
    some (aT.At.f0, aT.At.f1, aT.At.f2, aT.At.f3, aT.At.f4, aT.At.f5, aT.At.f6, aT.At.f7) : Option (Int × Int × Int × Int × Int × Int × Int × Int))).bind fun aU =>
    ((if (decide (e0.Op = 9) || decide (e0.Op = 10)) then
    if (decide (e0.N ≤ (i0 : Int)) || decide (e0.N ≥ (code.length : Int))) then
    some (Fl.ret (0, false))
    else
    (ix aX e0.N).bind fun bb =>
    (Jbw aX ((e0.N).toNat) (⟨aT.Au, (aT.depth + (aV.2.1 - aV.1)), (⟨aU.1, aU.2.1, aU.2.2.1, aU.2.2.2.1, aU.2.2.2.2.1, aU.2.2.2.2.2.1, aU.2.2.2.2.2.2.1, aU.2.2.2.2.2.2.2⟩ : JaS)⟩ : Jo)).bind fun aZ =>
    if (!aZ.1) then
    some (Fl.ret (0, false))
    else
    some (Fl.go aZ.2)
    else
    some (Fl.go aX) : Option (Fl (Int × Bool) ((List Jo))))).bind fun a8 => a8.el (fun r => some (Fl.ret r)) fun aY =>
    if decide ((i0 : Int) = ((code.length : Int) - 1)) then
    some (Fl.ret ((max (max ac aT.depth) (aT.depth + (aV.2.1 - aV.1))), decide ((aT.depth + (aV.2.1 - aV.1)) = 0)))
    else
    if decide (e0.Op ≠ 9) then
    (ix aY ((i0 : Int) + 1)).bind fun bc =>
    (Jbw aY ((((i0 : Int) + 1)).toNat) (⟨aT.Au, (aT.depth + (aV.2.1 - aV.1)), (⟨aU.1, aU.2.1, aU.2.2.1, aU.2.2.2.1, aU.2.2.2.2.1, aU.2.2.2.2.2.1, aU.2.2.2.2.2.2.1, aU.2.2.2.2.2.2.2⟩ : JaS)⟩ : Jo)).bind fun a6 =>
    if (!a6.1) then
    some (Fl.ret (0, false))
    else
    JaK code ba (i0 + 1) (max (max ac aT.depth) (aT.depth + (aV.2.1 - aV.1))) a6.2
    else
    JaK code ba (i0 + 1) (max (max ac aT.depth) (aT.depth + (aV.2.1 - aV.1))) aY
def Jco (code : (List Jg)) : Option (Int × Bool) :=
  if (decide ((code.length : Int) < 1) || decide ((code.length : Int) > 2048)) then
  some (0, false)
  else
  (chk ((0 : Int) ≤ (code.length : Int) ∧ (code.length : Int) ≤ (lim : Int))).bind fun _ =>
  (ix (List.replicate (Int.toNat (code.length : Int)) ((⟨false, 0, (⟨0, 0, 0, 0, 0, 0, 0, 0⟩ : JaS)⟩ : Jo) : Jo)) 0).bind fun aT =>
  (chk (code.length ≤ qa7)).bind fun _ =>
  (JaK code code 0 0 ((List.replicate (Int.toNat (code.length : Int)) ((⟨false, 0, (⟨0, 0, 0, 0, 0, 0, 0, 0⟩ : JaS)⟩ : Jo) : Jo)).set ((0 : Int).toNat) (⟨true, aT.depth, aT.At⟩ : Jo))).bind fun s0 => s0.el some fun t0 =>
  some (0, false)
theorem Jek {code : (List Jg)} {aa : Option Addr} {ab : Nat} {n0 : Nat} {K : Hp} {r : Int × Bool}
    (hm : Jco code = some r) (hX : RdC Jg.enc K aa ab 3 code ∧ n0 = code.length ∧ GG K) :
    Fn Tryz.prog 106 [.slice aa n0 ab] K [] (fun v K' H' => v = .tuple #[.int .i64 r.1, .bool r.2] ∧ H' = []) := by
 obtain ⟨ae, cL, hG⟩ := hX
 subst cL
 refine Fn.enter Tryz.func106 Tryz.call106 rfl fun F => ?_
 unfold Jco at hm
 refine jR (σ := Unit) (rg 13 8) (fun _ => [(20, .bool (decide ((code.length : Int) < 1) || decide ((code.length : Int) > 2048)))]) (fun cV => True) ?_ ?_
 refine qaf rfl ?_
 refine ro (qal rfl ?_)
 refine qah ?_ ?_ <;> intro bh
 refine ct bh (ct bh (ct bh ?_))
 exact eMt () ⟨bq (((qbv bh)).symm), trivial⟩
 refine cf bh (ro (qal rfl (cf bh (cf bh ?_))))
 exact eMt () ⟨bq (qhb (b := decide ((code.length : Int) > 2048)) bh), trivial⟩
 rintro _ _ cZ
 refine cs rfl rfl hm ?_ ?_ <;> intro c5 hm
 exact eE hm
 refine ro (qal rfl ?_)
 obtain ⟨cP, hm⟩ := qaw hm
 refine qn4 (enc := Jo.enc) ((⟨false, 0, (⟨0, 0, 0, 0, 0, 0, 0, 0⟩ : JaS)⟩ : Jo) : Jo) qq4 rfl rfl rfl cP fun bZ => ?_
 obtain ⟨ca, cD, cd, hm⟩ := ixb hm
 refine RStep.ofN (qae rfl rfl (qcv (fun _ => ⟨_, _, rfl⟩) cd) cD (qaz List.length_replicate.symm cD cd) (qbd rfl (qcv (fun _ => ⟨_, _, rfl⟩) cd) ?_))
 refine qe7 (o := 0) (y := (⟨true, ca.depth, ca.At⟩ : Jo)) ca r0 rfl cd rfl (by (conv => whnf); exact ⟨rfl, rfl, (nl rfl), rfl, rfl, rfl⟩) ?_
 refine ro (qal rfl ?_)
 obtain ⟨bY, hm⟩ := qaw hm
 obtain ⟨s0, aW, hm⟩ := bnd hm
 refine lD (σ := (Int × (List Jo))) ([2,3] ++ rg 5 8 ++ rg 29 129) [1] (fun i0 => [(29, .int .i64 (i0 : Int))]) (fun t0 => [(5, .int .i64 t0.1)]) (fun t0 => [qau Jo.enc (some ⟨bZ, 0, none⟩) 228 10 (Int.toNat (code.length : Int)) t0.2]) (fun t0 => (0 < t0.2.length → Has (some ⟨bZ, 0, none⟩)) ∧ (Int.toNat (code.length : Int)) = t0.2.length) (fun i0 t0 => JaK code (code.drop i0) i0 t0.1 t0.2 = some s0) (fun t0 => s0 = Fl.go t0) (fun i0 => code.length - i0) 0 (0, ((List.replicate (Int.toNat (code.length : Int)) ((⟨false, 0, (⟨0, 0, 0, 0, 0, 0, 0, 0⟩ : JaS)⟩ : Jo) : Jo)).set ((0 : Int).toNat) (⟨true, ca.depth, ca.At⟩ : Jo))) aW (And.intro ⟨⟨(by first | simpa using (fun _ => ⟨_, _, rfl⟩) | exact fun _ => ⟨_, _, rfl⟩), ((List.length_replicate.symm).trans List.length_set.symm)⟩, ⟨rfl, rfl, trivial⟩, _, (sp rfl)⟩ (And.intro ?_ ?_))
 clear aW
 rintro i0 ⟨ac, cG⟩ ⟨bI, bt⟩ aW j0
 dsimp only at aW ⊢
 refine qac rfl ?_
 refine qah ?_ ?_ <;> intro w0
 obtain ⟨e0, bJ, cN⟩ := ltx w0
 rw [cN, JaK.eq_2] at aW
 refine qam rfl ?_
 refine RStep.ofN (qae rfl rfl (qf3 ae.rd bJ) (nn _) (qbs bJ) (ro (qao i0 _ ae.rd rfl (mp bJ) rfl ?_)))
 refine qai rfl fun b7 => ?_
 refine qaa r0 rfl ⟨rfl, rfl, (nl rfl), ?_⟩
 obtain ⟨ba, cA, cn, aW⟩ := ixb aW
 refine RStep.ofN (qae rfl rfl (qcv bI cn) cA (qaz bt cA cn) (ro (qia (i := ((i0 : Int)).toNat) r1 rfl cn rfl rfl ?_)))
 refine qai rfl fun b8 => ?_
 refine qaa r0 rfl ⟨rfl, rfl, (nl rfl), ?_⟩
 refine ro (qab r1 rfl (nl rfl) ?_)
 refine cb aW fun bm cX aW => cgx (Jec cX :) ?_
 refine ro (qal rfl ?_)
 obtain ⟨cJ, aW⟩ := qaw aW
 refine qan cJ (qag ?_)
 refine qaf rfl ?_
 refine qax ?_
 refine qah ?_ ?_ <;> intro bc
 refine ct bc (ct bc (ct bc (cT (cT (cT (cT (cT ?_)))))))
 refine cT (cT (cT (cT (cT (cT ?_)))))
 replace aW := ift (qbv (qbv (qbv (qfp (qlg bc))))) aW
 refine cT (cT (cT (cT (cT (cT (qac rfl (cT ?_)))))))
 exact eE (er aW hm)
 refine fa rfl (cf bc (ro (ld r0 rfl rfl (cf bc (qax (cf bc ?_))))))
 refine qah ?_ ?_ <;> intro bb
 refine ct bb (ct bb (ct bb (ct bb (cT (cT (cT (cT ?_)))))))
 refine cT (cT ?_)
 replace aW := ift (qbv (qbv (qf2 (qdo (qio bc)) (qfp (qlg bb))))) aW
 refine cT (cT (cT (cT (cT (cT (qac rfl (cT ?_)))))))
 exact eE (er aW hm)
 refine fa rfl (cf bb (ro (ld r0 rfl rfl (cf bb (cf bb (cf bb ?_))))))
 refine qah ?_ ?_ <;> intro a8
 refine ct a8 (ct a8 (ct a8 (ct a8 (ct a8 ?_))))
 replace aW := ift (qbv (qf2 (qc4 (qdo (qio bc)) (qdo (qio bb))) a8)) aW
 refine cT (cT (cT (cT (cT (cT (qac rfl (cT ?_)))))))
 exact eE (er aW hm)
 refine fa rfl (cf a8 (ro (ld r1 rfl rfl (cf a8 (qag (cf a8 (cf a8 (qf9 rfl ?_))))))))
 refine cf a8 ?_
 refine qah ?_ ?_ <;> intro aZ
 replace aW := ift (qf2 (qc4 (qc4 (qdo (qio bc)) (qdo (qio bb))) a8) aZ) aW
 refine ct aZ (ct aZ (ct aZ (ct aZ (ct aZ (qac rfl (cT ?_))))))
 exact eE (er aW hm)
 replace aW := qbb (qc4 (qc4 (qc4 (qdo (qio bc)) (qdo (qio bb))) a8) aZ) aW
 refine fa rfl (cf aZ (ro (ld r1 rfl rfl (cf aZ (qag (cf aZ ?_))))))
 obtain ⟨c4, bQ, aW⟩ := bnd aW
 refine cS bQ (fun bd bQ => ?_) fun bd bQ => ?_
 refine ro (qab r0 rfl (nl rfl) (ct bd (fa rfl (ct bd (ro (ld r1 rfl rfl (ct bd ?_)))))))
 refine cb bQ fun c6 cY bQ => cg0 (JdO cY :) ?_
 refine ct bd (qax (cf aZ (ct bd (cf aZ (qac rfl ?_)))))
 refine qah ?_ ?_ <;> intro cC
 replace aW := ift ((si bQ).symm.trans (qfp (qlg cC))) aW
 exact eE (er aW hm)
 replace aW := qbb ((si bQ).symm.trans (qdo (qio cC))) aW
 refine fa rfl (ro (ld r0 rfl rfl (ro (qcg (fa rfl (ro (ld r0 rfl rfl ?_)))))))
 refine ci aW fun aW => ?_
 obtain ⟨cz, aW⟩ := qaw aW
 refine qan cz (fa rfl ?_)
 refine qaa r0 rfl ⟨rfl, rfl, (nl rfl), ?_⟩
 refine fa rfl (ro (ld r0 rfl rfl (ro (qcg (fa rfl (ro (ld r1 rfl rfl (qag ?_))))))))
 obtain ⟨cy, bg, aW⟩ := bnd aW
 refine jD (σ := (Int × Int × Int × Int × Int × Int × Int × Int)) (rg 99 13) [1, 2, 3] (fun bl => []) (fun bl => [Cells b8 228 [.bool ba.Au, .int .i64 (ba.depth + (bm.2.1 - bm.1)), .int .u64 bl.1, .int .u64 bl.2.1, .int .u64 bl.2.2.1, .int .u64 bl.2.2.2.1, .int .u64 bl.2.2.2.2.1, .int .u64 bl.2.2.2.2.2.1, .int .u64 bl.2.2.2.2.2.2.1, .int .u64 bl.2.2.2.2.2.2.2]]) (fun bl => bl = cy) (And.intro ?_ ?_)
 refine cs rfl rfl bg ?_ ?_ <;> intro cU bg
 refine qa2 ⟨⟨[], false⟩, _, [(_, _), (_, _)], []⟩ 12 rfl (by kernel_rfl) ⟨Hp.Le.refl _, (sc [1,0] rfl), ci0⟩ ?_
 refine fa rfl (qap m0 rfl rfl ?_)
 obtain ⟨bL, bg⟩ := qaw bg
 refine qi2 bL.1 bL.2 (fa rfl ?_)
 obtain ⟨bo, bg⟩ := qaw bg
 refine qby (sz := 1) rfl rfl bo.1 bo.2 ?_
 refine qgc (L := [ba.At.f0, ba.At.f1, ba.At.f2, ba.At.f3, ba.At.f4, ba.At.f5, ba.At.f6, ba.At.f7]) (pre := [.bool ba.Au, .int .i64 (ba.depth + (bm.2.1 - bm.1))]) (post := []) m1 rfl (by simp) rfl bo.1 bo.2 ?_
 refine fa rfl (qap m0 rfl rfl (qha (by decide) ?_))
 obtain ⟨bS, bg⟩ := qaw bg
 refine qmj bS ?_
 refine qpc ?_
 refine fa rfl ?_
 obtain ⟨bn, bg⟩ := qaw bg
 refine qby (sz := 1) rfl rfl bn.1 bn.2 ?_
 obtain ⟨bp, bD, bg⟩ := bnd bg
 replace bD := Option.some.inj bD
 have bX : bp.length = 8 := by rw [← bD]; simp
 refine qmk (L := [ba.At.f0, ba.At.f1, ba.At.f2, ba.At.f3, ba.At.f4, ba.At.f5, ba.At.f6, ba.At.f7]) (pre := [.bool ba.Au, .int .i64 (ba.depth + (bm.2.1 - bm.1))]) (post := []) (cs' := [.bool ba.Au, .int .i64 (ba.depth + (bm.2.1 - bm.1)), .int .u64 (List.getD bp 0 0), .int .u64 (List.getD bp 1 0), .int .u64 (List.getD bp 2 0), .int .u64 (List.getD bp 3 0), .int .u64 (List.getD bp 4 0), .int .u64 (List.getD bp 5 0), .int .u64 (List.getD bp 6 0), .int .u64 (List.getD bp 7 0)]) r0 rfl (by simp) rfl bn.1 bn.2 bD (by rw [qsn bX]; rfl) ?_
 refine ⟨⟨Hp.emp_le _, (pf rfl), ci0⟩, ?_⟩
 exact eM bg _
 exact eM bg _
 rintro bl rfl cM
 refine jR (σ := Unit) (rg 112 8) (fun _ => [(119, .bool (decide (e0.Op = 9) || decide (e0.Op = 10)))]) (fun cQ => True) ?_ ?_
 refine qaf rfl ?_
 refine fa rfl (ro (ld r1 rfl rfl (qag ?_)))
 refine qah ?_ ?_ <;> intro aX
 refine ct aX (ct aX (ct aX ?_))
 exact eMt () ⟨bq (((qbv aX)).symm), trivial⟩
 refine fa rfl (cf aX (ro (ld r1 rfl rfl (cf aX (qag (cf aX ?_))))))
 exact eMt () ⟨bq (qhb (b := decide (e0.Op = 10)) aX), trivial⟩
 rintro _ _ cH
 obtain ⟨cj, a6, aW⟩ := bnd aW
 refine jD (σ := ((List Jo))) ([2,3] ++ rg 120 20) [0, 1, 3] (fun bB => []) (fun bB => [qau Jo.enc (some ⟨bZ, 0, none⟩) 228 10 (Int.toNat (code.length : Int)) bB]) (fun bB => (0 < bB.length → Has (some ⟨bZ, 0, none⟩)) ∧ (Int.toNat (code.length : Int)) = bB.length ∧ cj = Fl.go bB) (And.intro ?_ ?_)
 refine cs rfl rfl a6 ?_ ?_ <;> intro cu a6
 refine qa4 ⟨⟨[], false⟩, _, [(_, _), (_, _)], []⟩ (by kernel_rfl) ⟨Hp.Le.refl _, (sc [1,0] rfl), ci0⟩ ?_
 refine fa rfl (qap m0 rfl rfl ?_)
 refine qah ?_ ?_ <;> intro aV
 refine ct aV (ct aV (ct aV (ct aV (ct aV ?_))))
 replace a6 := ift (qbv aV) a6
 refine cT (cT (cT (cT (cT (cT (cT (cT ?_)))))))
 refine qac rfl (cT ?_)
 exact eE (er (er a6 aW :) hm)
 refine fa rfl (cf aV (qap m0 rfl rfl (cf aV (cf aV (qce rfl (cf aV (cf aV ?_)))))))
 refine qah ?_ ?_ <;> intro aT
 replace a6 := ift (qf2 aV aT) a6
 refine ct aT (ct aT (ct aT (ct aT (ct aT (ct aT (ct aT (qac rfl ?_)))))))
 refine cT ?_
 exact eE (er (er a6 aW :) hm)
 replace a6 := qbb (qc4 aV aT) a6
 refine cf aT (fa rfl (cf aT (qap m0 rfl rfl (cf aT ?_))))
 obtain ⟨cm, bN, bH, a6⟩ := ixb a6
 refine qae rfl rfl (qcv bI bH) bN (qaz bt bN bH) (cf aT (qcc m1 rfl (nl rfl) (cf aT ?_)))
 refine cb a6 fun bT bR a6 => ckx (Jbe bR :) ?_
 rintro _ _ _ ⟨rfl, bv, bA, rfl⟩
 refine qk (sc [2,1] rfl) ?_
 refine cf aT (qax (cf aT ?_))
 refine cs rfl rfl a6 ?_ ?_ <;> intro cw a6
 exact eE (er (er a6 aW :) hm)
 exact mt (bT.2) trivial rfl (pf rfl) lr ⟨bv, ((bt).trans bA), (si a6).symm⟩
 exact eM a6 _
 rintro bB ⟨bO, bC, rfl⟩ cR
 replace aW := elg aW
 refine cs rfl rfl aW ?_ ?_ <;> intro ce aW
 refine qa4 ⟨⟨[], false⟩, _, [(_, _)], []⟩ (by kernel_rfl) ⟨Hp.Le.refl _, (sc [1] rfl), ci0⟩ ?_
 refine fa rfl (qap m0 rfl rfl (qag ?_))
 exact eE (er aW hm)
 refine qa4 ⟨⟨[], false⟩, _, [(_, _), (_, _)], []⟩ (by kernel_rfl) ⟨Hp.Le.refl _, (sc [2,1] rfl), ci0⟩ ?_
 refine fa rfl (qap m0 rfl rfl (qa8 ?_))
 refine cS aW (fun aU aW => ?_) fun aU aW => ?_
 refine ct aU (ct aU (qan (qbu bJ bY) (ct aU ?_)))
 obtain ⟨co, bM, bK, aW⟩ := ixb aW
 refine qae rfl rfl (qcv bO bK) bM (qaz bC bM bK) (ct aU (qcc m1 rfl (nl rfl) (ct aU ?_)))
 refine cb aW fun bV bW aW => ckx (Jbe bW :) ?_
 rintro _ _ _ ⟨rfl, bu, bz, rfl⟩
 refine qk (sc [2,1] rfl) ?_
 refine ct aU (qax (ct aU ?_))
 refine cs rfl rfl aW ?_ ?_ <;> intro cq aW
 exact eE (er aW hm)
 refine qan (qbu bJ bY) ?_
 exact rd (i0 + 1, ((max (max ac ba.depth) (ba.depth + (bm.2.1 - bm.1))), bV.2)) ⟨rfl, rfl, trivial⟩ rfl (sc [0,2] rfl) lr (ltm bJ) ⟨⟨bu, ((bC).trans bz)⟩, aW⟩
 refine cf aU (cf aU (cf aU (cf aU (cf aU (cf aU (cf aU (qac rfl ?_)))))))
 refine cF (qan (qbu bJ bY) ?_)
 exact eR aW (_, (_, _))
 refine cf bd (cf bd (cf bd (cf bd (cf aZ (cf bd (cf aZ (qac rfl ?_)))))))
 refine cF ?_
 replace aW := qbb (si bQ).symm aW
 refine fa rfl (ro (ld r0 rfl rfl (ro (qcg (fa rfl (ro (ld r0 rfl rfl ?_)))))))
 refine ci aW fun aW => ?_
 obtain ⟨cz, aW⟩ := qaw aW
 refine qan cz (fa rfl ?_)
 refine qaa r0 rfl ⟨rfl, rfl, (nl rfl), ?_⟩
 refine fa rfl (ro (ld r0 rfl rfl (ro (qcg (fa rfl (ro (ld r1 rfl rfl (qag ?_))))))))
 obtain ⟨cp, bf, aW⟩ := bnd aW
 refine jD (σ := (Int × Int × Int × Int × Int × Int × Int × Int)) (rg 99 13) [1, 2, 3] (fun bj => []) (fun bj => [Cells b8 228 [.bool ba.Au, .int .i64 (ba.depth + (bm.2.1 - bm.1)), .int .u64 bj.1, .int .u64 bj.2.1, .int .u64 bj.2.2.1, .int .u64 bj.2.2.2.1, .int .u64 bj.2.2.2.2.1, .int .u64 bj.2.2.2.2.2.1, .int .u64 bj.2.2.2.2.2.2.1, .int .u64 bj.2.2.2.2.2.2.2]]) (fun bj => bj = cp) (And.intro ?_ ?_)
 refine cs rfl rfl bf ?_ ?_ <;> intro cU bf
 refine qa2 ⟨⟨[], false⟩, _, [(_, _), (_, _)], []⟩ 12 rfl (by kernel_rfl) ⟨Hp.Le.refl _, (sc [1,0] rfl), ci0⟩ ?_
 refine fa rfl (qap m0 rfl rfl ?_)
 obtain ⟨bL, bf⟩ := qaw bf
 refine qi2 bL.1 bL.2 (fa rfl ?_)
 obtain ⟨bo, bf⟩ := qaw bf
 refine qby (sz := 1) rfl rfl bo.1 bo.2 ?_
 refine qgc (L := [ba.At.f0, ba.At.f1, ba.At.f2, ba.At.f3, ba.At.f4, ba.At.f5, ba.At.f6, ba.At.f7]) (pre := [.bool ba.Au, .int .i64 (ba.depth + (bm.2.1 - bm.1))]) (post := []) m1 rfl (by simp) rfl bo.1 bo.2 ?_
 refine fa rfl (qap m0 rfl rfl (qha (by decide) ?_))
 obtain ⟨bS, bf⟩ := qaw bf
 refine qmj bS ?_
 refine qpc ?_
 refine fa rfl ?_
 obtain ⟨bn, bf⟩ := qaw bf
 refine qby (sz := 1) rfl rfl bn.1 bn.2 ?_
 obtain ⟨br, bF, bf⟩ := bnd bf
 replace bF := Option.some.inj bF
 have bU : br.length = 8 := by rw [← bF]; simp
 refine qmk (L := [ba.At.f0, ba.At.f1, ba.At.f2, ba.At.f3, ba.At.f4, ba.At.f5, ba.At.f6, ba.At.f7]) (pre := [.bool ba.Au, .int .i64 (ba.depth + (bm.2.1 - bm.1))]) (post := []) (cs' := [.bool ba.Au, .int .i64 (ba.depth + (bm.2.1 - bm.1)), .int .u64 (List.getD br 0 0), .int .u64 (List.getD br 1 0), .int .u64 (List.getD br 2 0), .int .u64 (List.getD br 3 0), .int .u64 (List.getD br 4 0), .int .u64 (List.getD br 5 0), .int .u64 (List.getD br 6 0), .int .u64 (List.getD br 7 0)]) r0 rfl (by simp) rfl bn.1 bn.2 bF (by rw [qsn bU]; rfl) ?_
 refine ⟨⟨Hp.emp_le _, (pf rfl), ci0⟩, ?_⟩
 exact eM bf _
 exact eM bf _
 rintro bj rfl cO
 refine jR (σ := Unit) (rg 112 8) (fun _ => [(119, .bool (decide (e0.Op = 9) || decide (e0.Op = 10)))]) (fun cW => True) ?_ ?_
 refine qaf rfl ?_
 refine fa rfl (ro (ld r1 rfl rfl (qag ?_)))
 refine qah ?_ ?_ <;> intro aX
 refine ct aX (ct aX (ct aX ?_))
 exact eMt () ⟨bq (((qbv aX)).symm), trivial⟩
 refine fa rfl (cf aX (ro (ld r1 rfl rfl (cf aX (qag (cf aX ?_))))))
 exact eMt () ⟨bq (qhb (b := decide (e0.Op = 10)) aX), trivial⟩
 rintro _ _ cI
 obtain ⟨cr, aY, aW⟩ := bnd aW
 refine jD (σ := ((List Jo))) ([2,3] ++ rg 120 20) [0, 1, 3] (fun bw => []) (fun bw => [qau Jo.enc (some ⟨bZ, 0, none⟩) 228 10 (Int.toNat (code.length : Int)) bw]) (fun bw => (0 < bw.length → Has (some ⟨bZ, 0, none⟩)) ∧ (Int.toNat (code.length : Int)) = bw.length ∧ cr = Fl.go bw) (And.intro ?_ ?_)
 refine cs rfl rfl aY ?_ ?_ <;> intro cu aY
 refine qa4 ⟨⟨[], false⟩, _, [(_, _), (_, _)], []⟩ (by kernel_rfl) ⟨Hp.Le.refl _, (sc [1,0] rfl), ci0⟩ ?_
 refine fa rfl (qap m0 rfl rfl ?_)
 refine qah ?_ ?_ <;> intro aV
 refine ct aV (ct aV (ct aV (ct aV (ct aV ?_))))
 replace aY := ift (qbv aV) aY
 refine cT (cT (cT (cT (cT (cT (cT (cT ?_)))))))
 refine qac rfl (cT ?_)
 exact eE (er (er aY aW :) hm)
 refine fa rfl (cf aV (qap m0 rfl rfl (cf aV (cf aV (qce rfl (cf aV (cf aV ?_)))))))
 refine qah ?_ ?_ <;> intro aT
 replace aY := ift (qf2 aV aT) aY
 refine ct aT (ct aT (ct aT (ct aT (ct aT (ct aT (ct aT (qac rfl ?_)))))))
 refine cT ?_
 exact eE (er (er aY aW :) hm)
 replace aY := qbb (qc4 aV aT) aY
 refine cf aT (fa rfl (cf aT (qap m0 rfl rfl (cf aT ?_))))
 obtain ⟨cm, bN, bH, aY⟩ := ixb aY
 refine qae rfl rfl (qcv bI bH) bN (qaz bt bN bH) (cf aT (qcc m1 rfl (nl rfl) (cf aT ?_)))
 refine cb aY fun bT bR aY => ckx (Jbe bR :) ?_
 rintro _ _ _ ⟨rfl, bv, bA, rfl⟩
 refine qk (sc [2,1] rfl) ?_
 refine cf aT (qax (cf aT ?_))
 refine cs rfl rfl aY ?_ ?_ <;> intro cw aY
 exact eE (er (er aY aW :) hm)
 exact mt (bT.2) trivial rfl (pf rfl) lr ⟨bv, ((bt).trans bA), (si aY).symm⟩
 exact eM aY _
 rintro bw ⟨bP, bG, rfl⟩ cK
 replace aW := elg aW
 refine cs rfl rfl aW ?_ ?_ <;> intro ce aW
 refine qa4 ⟨⟨[], false⟩, _, [(_, _)], []⟩ (by kernel_rfl) ⟨Hp.Le.refl _, (sc [1] rfl), ci0⟩ ?_
 refine fa rfl (qap m0 rfl rfl (qag ?_))
 exact eE (er aW hm)
 refine qa4 ⟨⟨[], false⟩, _, [(_, _), (_, _)], []⟩ (by kernel_rfl) ⟨Hp.Le.refl _, (sc [2,1] rfl), ci0⟩ ?_
 refine fa rfl (qap m0 rfl rfl (qa8 ?_))
 refine cS aW (fun aU aW => ?_) fun aU aW => ?_
 refine ct aU (ct aU (qan (qbu bJ bY) (ct aU ?_)))
 obtain ⟨co, bM, bK, aW⟩ := ixb aW
 refine qae rfl rfl (qcv bP bK) bM (qaz bG bM bK) (ct aU (qcc m1 rfl (nl rfl) (ct aU ?_)))
 refine cb aW fun bV bW aW => ckx (Jbe bW :) ?_
 rintro _ _ _ ⟨rfl, bu, bz, rfl⟩
 refine qk (sc [2,1] rfl) ?_
 refine ct aU (qax (ct aU ?_))
 refine cs rfl rfl aW ?_ ?_ <;> intro cq aW
 exact eE (er aW hm)
 refine qan (qbu bJ bY) ?_
 exact rd (i0 + 1, ((max (max ac ba.depth) (ba.depth + (bm.2.1 - bm.1))), bV.2)) ⟨rfl, rfl, trivial⟩ rfl (sc [0,2] rfl) lr (ltm bJ) ⟨⟨bu, ((bG).trans bz)⟩, aW⟩
 refine cf aU (cf aU (cf aU (cf aU (cf aU (cf aU (cf aU (qac rfl ?_)))))))
 refine cF (qan (qbu bJ bY) ?_)
 exact eR aW (_, (_, _))
 rw [lty w0, JaK.eq_1] at aW
 refine cT ?_
 exact eM aW _
 rintro t0 ⟨cE, cB⟩ rfl j0
 replace hm := elg hm
 exact eE hm

def Jat (code : (List Jg)) : Option (Err) :=
  (Jco code).bind fun x7 =>
  if (!x7.2) then
  some (some 2)
  else
  some none
theorem Jed {code : (List Jg)} {aa : Option Addr} {ab : Nat} {n0 : Nat} {K : Hp} {r : Err}
    (hm : Jat code = some r) (hX : RdC Jg.enc K aa ab 3 code ∧ n0 = code.length ∧ GG K) :
    Fn Tryz.prog 68 [.slice aa n0 ab] K [] (fun v K' H' => v = qc5 48 r ∧ H' = []) := by
 obtain ⟨ae, aT, hG⟩ := hX
 subst aT
 refine Fn.enter Tryz.func68 Tryz.call68 rfl fun F => ?_
 unfold Jat at hm
 refine cb hm fun x7 q7 hm => cgx (Jek q7 :) ?_
 refine qax ?_
 refine cs rfl rfl hm ?_ ?_ <;> intro aU hm
 refine qat rfl ?_
 exact eE hm
 exact eE hm

def Jb8 (n' : Int) : Option (Jk) :=
  some (⟨2, (max (-1099511627776) (min n' 1099511627776)), ([] : Str), false⟩ : Jk)
theorem JbD {n' : Int} {K : Hp} {r : Jk}
    (hm : Jb8 n' = some r)  :
    Fn Tryz.prog 108 [.int .i64 n'] K [] (fun v K' H' => v = .agg #[.int .i64 r.kind, .int .i64 r.n, str r.s, .bool r.As] ∧ H' = []) := by
 refine Fn.enter Tryz.func108 Tryz.call108 rfl fun F => ?_
 unfold Jb8 at hm
 refine qai rfl fun b2 => ?_
 refine ro (qp0 (ro (qcg (qad rfl rfl (cT (cT ?_))))))
 refine qaa r0 rfl ⟨rfl, rfl, (nl rfl), ?_⟩
 exact ro (qab r0 rfl (nl rfl) (eE hm))

def J2 (m : Jh) (x : Jk) (operation : Bool) : Option (Err × Jh) :=
  if decide ((x.s.length : Int) > 2048) then
  some ((some 5), m)
  else
  ((if (operation && decide (x.kind = 1)) then
  (chk ((64 : Int) ≠ 0 ∧ InI (Int.tdiv (x.s.length : Int) 64))).bind fun _ =>
  (chk (InI (m.result.Aj + (Int.tdiv (x.s.length : Int) 64)))).bind fun _ =>
  if decide ((m.result.Aj + (Int.tdiv (x.s.length : Int) 64)) > m.most) then
  some (Fl.ret ((some 13), (⟨m.Aq, m.most, (⟨m.result.Ae, m.result.Af, m.result.Ag, m.result.Vary, m.result.Ah, m.result.TTL, m.result.Ai, (m.result.Aj + (Int.tdiv (x.s.length : Int) 64)), m.result.Ak, m.result.Al⟩ : Jp), m.stack, m.Ap⟩ : Jh)))
  else
  some (Fl.go (⟨m.Aq, m.most, (⟨m.result.Ae, m.result.Af, m.result.Ag, m.result.Vary, m.result.Ah, m.result.TTL, m.result.Ai, (m.result.Aj + (Int.tdiv (x.s.length : Int) 64)), m.result.Ak, m.result.Al⟩ : Jp), m.stack, m.Ap⟩ : Jh))
  else
  some (Fl.go m) : Option (Fl (Err × Jh) (Jh)))).bind fun aU => aU.el some fun aT =>
  (chk (aT.stack.length + [x].length ≤ lim)).bind fun _ =>
  some (none, (⟨m.Aq, aT.most, aT.result, (aT.stack ++ [x]), aT.Ap⟩ : Jh))
theorem Jau {m : Jh} {x : Jk} {operation : Bool} {b0 : Nat} {aa : Option Addr} {ab : Nat} {ah : Option Addr} {ak : Nat} {am : Option Addr} {au : Nat} {aw : Option Addr} {ay : Nat} {ax : Option Addr} {az : Nat} {K : Hp} {r : Err × Jh}
    (hm : J2 m x operation = some r) (hX : RdC Jc.enc K aa ab 2 m.Aq.Ao ∧ (0 < m.result.Ag.length → Has ah) ∧ (0 < m.result.Vary.length → Has am) ∧ (0 < m.result.Ah.length → Has aw) ∧ (0 < m.stack.length → Has ax) ∧ m.Ap.length = 512) :
    Fn Tryz.prog 107 [.pointer (some ⟨b0, 0, none⟩), .agg #[.int .i64 x.kind, .int .i64 x.n, str x.s, .bool x.As], .bool operation] K [Cells b0 131 ((str m.Aq.Am) :: (str m.Aq.An) :: (str m.Aq.Ae) :: (str m.Aq.Af) :: (.slice aa m.Aq.Ao.length ab) :: (.int .i64 m.most) :: (str m.result.Ae) :: (str m.result.Af) :: (.slice ah m.result.Ag.length ak) :: (.slice am m.result.Vary.length au) :: (.slice aw m.result.Ah.length ay) :: (.int .i64 m.result.TTL) :: (.int .i64 m.result.Ai) :: (.int .i64 m.result.Aj) :: (.bool m.result.Ak) :: (.bool m.result.Al) :: (.slice ax m.stack.length az) :: (m.Ap.map Jk.enc).flatten), qau Jc.enc ah 41 2 ak m.result.Ag, qau eS am 9 1 au m.result.Vary, qau eS aw 9 1 ay m.result.Ah, qau Jk.enc ax 128 4 az m.stack] (fun v K' H' => ∃ ar_0 : Option Addr, ∃ cr_0 : Nat, ∃ ar_1 : Option Addr, ∃ cr_1 : Nat, ∃ ar_2 : Option Addr, ∃ cr_2 : Nat, ∃ ar_3 : Option Addr, ∃ cr_3 : Nat, v = qc5 48 r.1 ∧ (0 < r.2.result.Ag.length → Has ar_0) ∧ (0 < r.2.result.Vary.length → Has ar_1) ∧ (0 < r.2.result.Ah.length → Has ar_2) ∧ (0 < r.2.stack.length → Has ar_3) ∧ r.2.Ap.length = 512 ∧ H' = [Cells b0 131 ((str m.Aq.Am) :: (str m.Aq.An) :: (str m.Aq.Ae) :: (str m.Aq.Af) :: (.slice aa m.Aq.Ao.length ab) :: (.int .i64 r.2.most) :: (str r.2.result.Ae) :: (str r.2.result.Af) :: (.slice ar_0 r.2.result.Ag.length cr_0) :: (.slice ar_1 r.2.result.Vary.length cr_1) :: (.slice ar_2 r.2.result.Ah.length cr_2) :: (.int .i64 r.2.result.TTL) :: (.int .i64 r.2.result.Ai) :: (.int .i64 r.2.result.Aj) :: (.bool r.2.result.Ak) :: (.bool r.2.result.Al) :: (.slice ar_3 r.2.stack.length cr_3) :: (r.2.Ap.map Jk.enc).flatten), qau Jc.enc ar_0 41 2 cr_0 r.2.result.Ag, qau eS ar_1 9 1 cr_1 r.2.result.Vary, qau eS ar_2 9 1 cr_2 r.2.result.Ah, qau Jk.enc ar_3 128 4 cr_3 r.2.stack]) := by
 obtain ⟨ae, br, bl, bm, bp, bn⟩ := hX
 refine Fn.enter Tryz.func107 Tryz.call107 rfl fun F => ?_
 unfold J2 at hm
 refine qas ?_
 intro b4
 refine fa rfl (ro (ld r0 rfl rfl (ro (qa3 rfl ?_))))
 refine cs rfl rfl hm ?_ ?_ <;> intro bH hm
 refine qat rfl ?_
 exact eE hm
 refine jR (σ := Unit) (rg 12 6) (fun _ => [(17, .bool (operation && decide (x.kind = 1)))]) (fun bz => True) ?_ ?_
 refine qaf rfl ?_
 refine qah ?_ ?_ <;> intro bb
 refine fa rfl (ct bb (ro (ld r0 rfl rfl (ct bb (qag (ct bb ?_))))))
 exact eMt () ⟨bq (qcz (b := decide (x.kind = 1)) bb), trivial⟩
 refine cf bb (cf bb (cf bb ?_))
 exact eMt () ⟨bq (((qbe bb)).symm), trivial⟩
 rintro _ _ bv
 obtain ⟨bj, ba, hm⟩ := bnd hm
 refine jD (σ := (Jh) × Option Addr × Nat × Option Addr × Nat × Option Addr × Nat × Option Addr × Nat) ([6] ++ rg 18 24) [0, 6] (fun (aT, aV, aZ, aU, aY, aW, a6, aX, a8) => []) (fun (aT, aV, aZ, aU, aY, aW, a6, aX, a8) => [Cells b0 131 ((str m.Aq.Am) :: (str m.Aq.An) :: (str m.Aq.Ae) :: (str m.Aq.Af) :: (.slice aa m.Aq.Ao.length ab) :: (.int .i64 aT.most) :: (str aT.result.Ae) :: (str aT.result.Af) :: (.slice aV aT.result.Ag.length aZ) :: (.slice aU aT.result.Vary.length aY) :: (.slice aW aT.result.Ah.length a6) :: (.int .i64 aT.result.TTL) :: (.int .i64 aT.result.Ai) :: (.int .i64 aT.result.Aj) :: (.bool aT.result.Ak) :: (.bool aT.result.Al) :: (.slice aX aT.stack.length a8) :: (aT.Ap.map Jk.enc).flatten), qau Jc.enc aV 41 2 aZ aT.result.Ag, qau eS aU 9 1 aY aT.result.Vary, qau eS aW 9 1 a6 aT.result.Ah, qau Jk.enc aX 128 4 a8 aT.stack]) (fun (aT, aV, aZ, aU, aY, aW, a6, aX, a8) => (0 < aT.result.Ag.length → Has aV) ∧ (0 < aT.result.Vary.length → Has aU) ∧ (0 < aT.result.Ah.length → Has aW) ∧ (0 < aT.stack.length → Has aX) ∧ aT.Ap.length = 512 ∧ bj = Fl.go aT) (And.intro ?_ ?_)
 refine cs rfl rfl ba ?_ ?_ <;> intro bF ba
 refine qa2 ⟨⟨[], false⟩, _, [(_, _), (_, _)], []⟩ 9 rfl (by kernel_rfl) ⟨Hp.Le.refl _, (sc [1,0] rfl), ci0⟩ ?_
 refine qaj (fa rfl (fa rfl (qap m0 rfl rfl (fa rfl (qap m1 rfl rfl (qny rfl ?_))))))
 obtain ⟨bo, ba⟩ := qaw ba
 refine qi2 bo.1 bo.2 ?_
 obtain ⟨bu, ba⟩ := qaw ba
 refine qan bu (qaj (fa rfl (fa rfl ?_)))
 refine qmq (cs' := (str m.Aq.Am) :: (str m.Aq.An) :: (str m.Aq.Ae) :: (str m.Aq.Af) :: (.slice aa m.Aq.Ao.length ab) :: (.int .i64 m.most) :: (str m.result.Ae) :: (str m.result.Af) :: (.slice ah m.result.Ag.length ak) :: (.slice am m.result.Vary.length au) :: (.slice aw m.result.Ah.length ay) :: (.int .i64 m.result.TTL) :: (.int .i64 m.result.Ai) :: (.int .i64 (m.result.Aj + (Int.tdiv (x.s.length : Int) 64))) :: (.bool m.result.Ak) :: (.bool m.result.Al) :: (.slice ax m.stack.length az) :: (m.Ap.map Jk.enc).flatten) r1 rfl rfl (by exact rfl) (by exact nl rfl) (by exact rfl) ?_
 refine ⟨⟨Hp.emp_le _, (pf rfl), ci0⟩, ?_⟩
 refine qa4 ⟨⟨[], false⟩, _, [(_, _)], []⟩ (by kernel_rfl) ⟨Hp.Le.refl _, (pf rfl), ci0⟩ ?_
 refine qaj (fa rfl (fa rfl (qap m0 rfl rfl (qaj (fa rfl (qap m0 rfl rfl ?_))))))
 refine cs rfl rfl ba ?_ ?_ <;> intro bD ba
 refine qat rfl ?_
 exact eE (er ba hm)
 exact eM ba (_, _, _, _, _, _, _, _, _)
 exact eM ba (_, _, _, _, _, _, _, _, _)
 rintro ⟨aT, aV, aZ, aU, aY, aW, a6, aX, a8⟩ ⟨bh, bd, bc, bg, bf, rfl⟩ bA
 replace hm := elg hm
 refine qa2 ⟨⟨[], false⟩, _, [(_, _), (_, _)], []⟩ 8 rfl (by kernel_rfl) ⟨Hp.Le.refl _, (sc [0,4] rfl), ci0⟩ ?_
 refine qaj (fa rfl (qap m0 rfl rfl (qcc m1 rfl (nl rfl) ?_)))
 refine bsO (len := 1) (enc := Jk.enc) (l := [x]) (cl := [.int .i64 x.kind, .int .i64 x.n, str x.s, .bool x.As]) qoy rfl rfl (fun _ _ => rfl) rfl rfl rfl ?_ fun bG => ?_
 · conv => whnf
   refine cT ?_
   first | done | rfl
 refine qk (sc [1,5] rfl) ?_
 obtain ⟨bB, hm⟩ := qaw hm
 refine apE rfl r5 qoy (qay rfl r0 rfl (fun _ => rfl) (fun _ => rfl)) bB ?_
 intro bw bt bC
 refine qk (sc [2,5] rfl) ?_
 refine qaj (fa rfl ?_)
 refine qmq (cs' := (str m.Aq.Am) :: (str m.Aq.An) :: (str m.Aq.Ae) :: (str m.Aq.Af) :: (.slice aa m.Aq.Ao.length ab) :: (.int .i64 aT.most) :: (str aT.result.Ae) :: (str aT.result.Af) :: (.slice aV aT.result.Ag.length aZ) :: (.slice aU aT.result.Vary.length aY) :: (.slice aW aT.result.Ah.length a6) :: (.int .i64 aT.result.TTL) :: (.int .i64 aT.result.Ai) :: (.int .i64 aT.result.Aj) :: (.bool aT.result.Ak) :: (.bool aT.result.Al) :: (.slice bw ((aT.stack ++ [x]).length) bt) :: (aT.Ap.map Jk.enc).flatten) r2 rfl rfl (by exact rfl) (by exact nl rfl) (by exact rfl) ?_
 refine ⟨⟨Hp.emp_le _, (pf rfl), ci0⟩, ?_⟩
 exact eE hm

def JaL (s : Str) : Option (Jk) :=
  some (⟨1, 0, s, false⟩ : Jk)
theorem JaA {s : Str} {K : Hp} {r : Jk}
    (hm : JaL s = some r)  :
    Fn Tryz.prog 109 [str s] K [] (fun v K' H' => v = .agg #[.int .i64 r.kind, .int .i64 r.n, str r.s, .bool r.As] ∧ H' = []) := by
 refine Fn.enter Tryz.func109 Tryz.call109 rfl fun F => ?_
 unfold JaL at hm
 refine qai rfl fun b2 => ?_
 refine qad rfl rfl (cT (cT ?_))
 refine qaa r0 rfl ⟨rfl, rfl, (nl rfl), ?_⟩
 exact ro (qab r0 rfl (nl rfl) (eE hm))

def JcN (name : Str) (Aq : JX) : Option (Jk) :=
  if decide (name = ([109, 101, 116, 104, 111, 100] : Str)) then
  (JaL Aq.Am).bind fun aU =>
  some aU
  else
  if decide (name = ([104, 111, 115, 116] : Str)) then
  (JaL Aq.An).bind fun aV =>
  some aV
  else
  if decide (name = ([112, 97, 116, 104] : Str)) then
  (JaL Aq.Ae).bind fun aT =>
  some aT
  else
  (JaL Aq.Af).bind fun aW =>
  some aW
theorem JdP {name : Str} {Aq : JX} {af : Option Addr} {ag : Nat} {K : Hp} {r : Jk}
    (hm : JcN name Aq = some r) (ai : RdC Jc.enc K af ag 2 Aq.Ao) :
    Fn Tryz.prog 110 [str name, .agg #[str Aq.Am, str Aq.An, str Aq.Ae, str Aq.Af, .slice af Aq.Ao.length ag]] K [] (fun v K' H' => v = .agg #[.int .i64 r.kind, .int .i64 r.n, str r.s, .bool r.As] ∧ H' = []) := by
 refine Fn.enter Tryz.func110 Tryz.call110 rfl fun F => ?_
 unfold JcN at hm
 refine qas ?_
 intro b3
 refine qai rfl fun b4 => ?_
 refine qam rfl ?_
 refine qaq (cs rfl rfl hm ?_ ?_) <;> intro w6 hm
 refine fa rfl (ro (ld r1 rfl rfl ?_))
 refine cb hm fun aX aW hm => cg0 (JaA aW :) ?_
 refine qaa r0 rfl ⟨rfl, rfl, (nl rfl), ?_⟩
 exact ro (qab r0 rfl (nl rfl) (eE hm))
 refine qaq (cs rfl rfl hm ?_ ?_) <;> intro a8 hm
 refine fa rfl (ro (ld r1 rfl rfl ?_))
 refine cb hm fun ba aU hm => cg0 (JaA aU :) ?_
 refine qaa r0 rfl ⟨rfl, rfl, (nl rfl), ?_⟩
 exact ro (qab r0 rfl (nl rfl) (eE hm))
 refine qaq (cs rfl rfl hm ?_ ?_) <;> intro a6 hm
 refine fa rfl (ro (ld r1 rfl rfl ?_))
 refine cb hm fun aY aT hm => cg0 (JaA aT :) ?_
 refine qaa r0 rfl ⟨rfl, rfl, (nl rfl), ?_⟩
 exact ro (qab r0 rfl (nl rfl) (eE hm))
 refine fa rfl (ro (ld r1 rfl rfl ?_))
 refine cb hm fun aZ aV hm => cg0 (JaA aV :) ?_
 refine qaa r0 rfl ⟨rfl, rfl, (nl rfl), ?_⟩
 exact ro (qab r0 rfl (nl rfl) (eE hm))

def Jam (m : Jh) : Option (Jk × Jh) :=
  (chk (InI ((m.stack.length : Int) - 1))).bind fun _ =>
  (ix m.stack ((m.stack.length : Int) - 1)).bind fun aT =>
  (chk (InI ((m.stack.length : Int) - 1))).bind fun _ =>
  (chk (0 ≤ (0 : Int) ∧ (0 : Int) ≤ ((m.stack.length : Int) - 1) ∧ ((m.stack.length : Int) - 1) ≤ (m.stack.length : Int))).bind fun _ =>
  some (aT, (⟨m.Aq, m.most, m.result, (subL m.stack (0 : Int) ((m.stack.length : Int) - 1)), m.Ap⟩ : Jh))
theorem Jaw {m : Jh} {b0 : Nat} {aa : Option Addr} {ab : Nat} {ah : Option Addr} {ak : Nat} {am : Option Addr} {au : Nat} {aw : Option Addr} {ay : Nat} {ax : Option Addr} {az : Nat} {K : Hp} {r : Jk × Jh}
    (hm : Jam m = some r) (hX : RdC Jc.enc K aa ab 2 m.Aq.Ao ∧ (0 < m.result.Ag.length → Has ah) ∧ (0 < m.result.Vary.length → Has am) ∧ (0 < m.result.Ah.length → Has aw) ∧ (0 < m.stack.length → Has ax) ∧ m.Ap.length = 512) :
    Fn Tryz.prog 111 [.pointer (some ⟨b0, 0, none⟩)] K [Cells b0 131 ((str m.Aq.Am) :: (str m.Aq.An) :: (str m.Aq.Ae) :: (str m.Aq.Af) :: (.slice aa m.Aq.Ao.length ab) :: (.int .i64 m.most) :: (str m.result.Ae) :: (str m.result.Af) :: (.slice ah m.result.Ag.length ak) :: (.slice am m.result.Vary.length au) :: (.slice aw m.result.Ah.length ay) :: (.int .i64 m.result.TTL) :: (.int .i64 m.result.Ai) :: (.int .i64 m.result.Aj) :: (.bool m.result.Ak) :: (.bool m.result.Al) :: (.slice ax m.stack.length az) :: (m.Ap.map Jk.enc).flatten), qau Jc.enc ah 41 2 ak m.result.Ag, qau eS am 9 1 au m.result.Vary, qau eS aw 9 1 ay m.result.Ah, qau Jk.enc ax 128 4 az m.stack] (fun v K' H' => ∃ ar_0 : Option Addr, ∃ cr_0 : Nat, ∃ ar_1 : Option Addr, ∃ cr_1 : Nat, ∃ ar_2 : Option Addr, ∃ cr_2 : Nat, ∃ ar_3 : Option Addr, ∃ cr_3 : Nat, v = .agg #[.int .i64 r.1.kind, .int .i64 r.1.n, str r.1.s, .bool r.1.As] ∧ (0 < r.2.result.Ag.length → Has ar_0) ∧ (0 < r.2.result.Vary.length → Has ar_1) ∧ (0 < r.2.result.Ah.length → Has ar_2) ∧ (0 < r.2.stack.length → Has ar_3) ∧ r.2.Ap.length = 512 ∧ H' = [Cells b0 131 ((str m.Aq.Am) :: (str m.Aq.An) :: (str m.Aq.Ae) :: (str m.Aq.Af) :: (.slice aa m.Aq.Ao.length ab) :: (.int .i64 r.2.most) :: (str r.2.result.Ae) :: (str r.2.result.Af) :: (.slice ar_0 r.2.result.Ag.length cr_0) :: (.slice ar_1 r.2.result.Vary.length cr_1) :: (.slice ar_2 r.2.result.Ah.length cr_2) :: (.int .i64 r.2.result.TTL) :: (.int .i64 r.2.result.Ai) :: (.int .i64 r.2.result.Aj) :: (.bool r.2.result.Ak) :: (.bool r.2.result.Al) :: (.slice ar_3 r.2.stack.length cr_3) :: (r.2.Ap.map Jk.enc).flatten), qau Jc.enc ar_0 41 2 cr_0 r.2.result.Ag, qau eS ar_1 9 1 cr_1 r.2.result.Vary, qau eS ar_2 9 1 cr_2 r.2.result.Ah, qau Jk.enc ar_3 128 4 cr_3 r.2.stack]) := by
 obtain ⟨ae, aX, aV, aW, aT, aU⟩ := hX
 refine Fn.enter Tryz.func111 Tryz.call111 rfl fun F => ?_
 unfold Jam at hm
 refine qai rfl fun b2 => ?_
 refine qfb ⟨⟨[], true⟩, _, [], []⟩ 14 rfl (by kernel_rfl) ⟨Hp.Le.refl _, (pf rfl), ci0⟩ ?_
 refine qaj (fa rfl ?_)
 refine ld r1 rfl rfl ?_
 refine qaj (fa rfl ?_)
 refine ld r1 rfl rfl ?_
 refine qce rfl ?_
 refine ci hm fun hm => ?_
 obtain ⟨bc, aZ, aY, hm⟩ := ixb hm
 refine qae rfl rfl (qcv aT aY) aZ (qaz rfl aZ aY) ?_
 refine qia (i := (((m.stack.length : Int) - 1)).toNat) r5 rfl aY rfl rfl ?_
 refine qky rfl ?_
 intro b3
 intro ba
 refine qaa r0 rfl ⟨rfl, rfl, (nl rfl), ?_⟩
 refine ⟨⟨lr, (pf rfl), ci0⟩, ?_⟩
 refine ⟨_, .cons r8 .nil, ⟨lr, (pf rfl), ci0⟩, ?_⟩
 refine DStep.ownLe r3 fun bf => ?_
 refine DStep.ownLe r4 fun bb => ?_
 refine DStep.ownLe r5 fun bd => ?_
 refine DStep.ownLe r6 fun a8 => ?_
 refine qa2 ⟨⟨[], false⟩, _, [(_, _)], []⟩ 12 rfl (by kernel_rfl) ⟨Hp.Le.refl _, (sc [2] rfl), ci0⟩ ?_
 refine qaj (fa rfl (qap m0 rfl rfl (qaj (fa rfl (qap m0 rfl rfl (qce rfl ?_))))))
 refine ci hm fun hm => ?_
 obtain ⟨a6, hm⟩ := qaw hm
 refine qqc (l := m.stack) (hi := (some ((m.stack.length : Int) - 1))) rfl rfl rfl a8 a6 ?_
 refine qaj (fa rfl ?_)
 refine tkW ((m.stack.length : Int) - 1) r6 ?_
 refine qmq (cs' := (str m.Aq.Am) :: (str m.Aq.An) :: (str m.Aq.Ae) :: (str m.Aq.Af) :: (.slice aa m.Aq.Ao.length ab) :: (.int .i64 m.most) :: (str m.result.Ae) :: (str m.result.Af) :: (.slice ah m.result.Ag.length ak) :: (.slice am m.result.Vary.length au) :: (.slice aw m.result.Ah.length ay) :: (.int .i64 m.result.TTL) :: (.int .i64 m.result.Ai) :: (.int .i64 m.result.Aj) :: (.bool m.result.Ak) :: (.bool m.result.Al) :: (.slice ax ((subL m.stack (0 : Int) ((m.stack.length : Int) - 1)).length) az) :: (m.Ap.map Jk.enc).flatten) r3 rfl rfl (by exact rfl) (by exact nl rfl) (by exact rfl) ?_
 refine ⟨⟨Hp.emp_le _, (pf rfl), ci0⟩, ?_⟩
 refine ro (qab r2 rfl (nl rfl) ?_)
 refine qaa r3 rfl ⟨rfl, rfl, (nl rfl), ?_⟩
 obtain rfl := si hm
 exact ro (qab r0 rfl (nl rfl) (en lr ⟨ah, ak, am, au, aw, ay, ax, az, rfl, aX, aV, aW, (fun h => aT (qgv a6 h)), aU, rfl⟩ (sc [1,3,3,3,1,2] rfl)))

def Jc9 (path : Str) : Option ((List Str)) :=
  (qnn path ([47] : Str)).bind fun x8 =>
  if (!x8.2.2) then
  some []
  else
  (qd9 x8.2.1 ([47] : Str)).bind fun aT =>
  some aT
theorem JdX {path : Str} {K : Hp} {r : (List Str)}
    (hm : Jc9 path = some r) (hG : GG K) :
    Fn Tryz.prog 156 [str path] K [] (fun v K' H' => ∃ ar_0 : Option Addr, ∃ cr_0 : Nat, v = .slice ar_0 r.length cr_0 ∧ (0 < r.length → Has ar_0) ∧ H' = [qau eS ar_0 9 1 cr_0 r]) := by
 refine Fn.enter Tryz.func156 Tryz.call156 rfl fun F => ?_
 unfold Jc9 at hm
 refine cb hm fun x8 q8 hm => cg0 (qnm q8 (gg0 hG)) ?_
 refine qax ?_
 refine cs rfl rfl hm ?_ ?_ <;> intro aY hm
 refine qci eS 9 1 ?_
 exact eE hm
 refine cb hm fun aX aW hm => ck0 (qge aW (gg0 hG)) ?_
 rintro _ _ _ ⟨aU, aT, rfl, aV, rfl⟩
 exact eE hm

def Jd2 (f : (List Jc)) (name : Str) : Option (Str × Bool) :=
  (Jc2 f name).bind fun x9 =>
  (qi7 x9 ([44, 32] : Str)).bind fun aT =>
  some (aT, decide ((x9.length : Int) > 0))
theorem Jeh {f : (List Jc)} {name : Str} {aa : Option Addr} {ab : Nat} {n0 : Nat} {K : Hp} {r : Str × Bool}
    (hm : Jd2 f name = some r) (hX : RdC Jc.enc K aa ab 2 f ∧ n0 = f.length) :
    Fn Tryz.prog 157 [.slice aa n0 ab, str name] K [] (fun v K' H' => v = .tuple #[str r.1, .bool r.2] ∧ H' = []) := by
 obtain ⟨ae, aY⟩ := hX
 subst aY
 refine Fn.enter Tryz.func157 Tryz.call157 rfl fun F => ?_
 unfold Jd2 at hm
 refine cb hm fun x9 q9 hm => ckx (Jc3 q9 :) ?_
 rintro _ _ _ ⟨aZ, aW, rfl, a6, rfl⟩
 refine cb hm fun a8 aX hm => ck0 (Fn.lend Tryz.call48 (fun aU aV aT => (qnk aX aT rfl)) (by exact fun _ _ _ _ h => h)) ?_
 rintro _ _ _ ⟨_, rfl, rfl, rfl⟩
 refine ro (qal rfl ?_)
 exact eE hm

def Jbh (As : Bool) : Option (Jk) :=
  some (⟨3, 0, ([] : Str), As⟩ : Jk)
theorem Ja0 {As : Bool} {K : Hp} {r : Jk}
    (hm : Jbh As = some r)  :
    Fn Tryz.prog 114 [.bool As] K [] (fun v K' H' => v = .agg #[.int .i64 r.kind, .int .i64 r.n, str r.s, .bool r.As] ∧ H' = []) := by
 refine Fn.enter Tryz.func114 Tryz.call114 rfl fun F => ?_
 unfold Jbh at hm
 refine qai rfl fun b2 => ?_
 refine qad rfl rfl (cT (cT ?_))
 refine qaa r0 rfl ⟨rfl, rfl, (nl rfl), ?_⟩
 exact ro (qab r0 rfl (nl rfl) (eE hm))

def Jcw (name : Str) : List Str → Nat → Option (Fl (Str × Bool) (Unit))
  | [], _ => some (Fl.go ())
  | e0 :: aT, i0 =>
    (chk (name.length + ([61] : Str).length ≤ lim)).bind fun _ =>
    (JA e0 (name ++ ([61] : Str))).bind fun aU =>
    if aU then
    (chk (InI ((name.length : Int) + 1))).bind fun _ =>
    (chk (0 ≤ ((name.length : Int) + 1) ∧ ((name.length : Int) + 1) ≤ (e0.length : Int) ∧ (e0.length : Int) ≤ (e0.length : Int))).bind fun _ =>
    some (Fl.ret ((subL e0 ((name.length : Int) + 1) (e0.length : Int)), true))
    else
    Jcw name aT (i0 + 1)
def JdY (a : Je) (name : Str) : Option (Str × Bool) :=
  if (!a.HasQuery) then
  some (([] : Str), false)
  else
  (qd9 a.Af ([38] : Str)).bind fun aT =>
  (chk (aT.length ≤ qa7)).bind fun _ =>
  (Jcw name aT 0).bind fun s0 => s0.el some fun t0 =>
  some (([] : Str), false)
theorem Jer {a : Je} {name : Str} {K : Hp} {r : Str × Bool}
    (hm : JdY a name = some r) (hG : GG K) :
    Fn Tryz.prog 158 [.agg #[str a.An, str a.Ae, str a.Af, .bool a.HasQuery], str name] K [] (fun v K' H' => v = .tuple #[str r.1, .bool r.2] ∧ H' = []) := by
 refine Fn.enter Tryz.func158 Tryz.call158 rfl fun F => ?_
 unfold JdY at hm
 refine qas ?_
 intro b2
 refine fa rfl (ro (ld r0 rfl rfl (qax ?_)))
 refine cs rfl rfl hm ?_ ?_ <;> intro bh hm
 exact eE hm
 refine fa rfl (ro (ld r0 rfl rfl ?_))
 refine cb hm fun aW a6 hm => ck0 (qge a6 (gg0 hG)) ?_
 rintro _ _ _ ⟨aY, aX, rfl, aU, rfl⟩
 refine ro (qal rfl ?_)
 obtain ⟨a8, hm⟩ := qaw hm
 obtain ⟨s0, aT, hm⟩ := bnd hm
 refine lD (σ := (Unit)) ([4,5,7] ++ rg 15 14) [0, 1, 2] (fun i0 => [(15, .int .i64 (i0 : Int))]) (fun _ => []) (fun _ => []) (fun _ => True) (fun i0 _ => Jcw name (aW.drop i0) i0 = some s0) (fun t0 => s0 = Fl.go t0) (fun i0 => aW.length - i0) 0 () aT (And.intro qe (And.intro ?_ ?_))
 clear aT
 rintro i0 _ _ aT j0
 conv at aT => whnf
 refine qac rfl ?_
 refine qah ?_ ?_ <;> intro w0
 obtain ⟨e0, aV, bb⟩ := ltx w0
 rw [bb, Jcw.eq_2] at aT
 refine qam rfl ?_
 refine RStep.ofN (qae rfl rfl (qcv aU aV) (nn _) (qfq rfl aV) (ro (qb1 (i := i0) (o := 0) r0 rfl aV rfl rfl ?_)))
 obtain ⟨aZ, aT⟩ := qaw aT
 refine qa5 aZ ?_
 refine cb aT fun bd ba aT => cg0 (Ja2 ba :) ?_
 refine CStep.ownLe r0 fun bf => ?_
 refine cs rfl rfl aT ?_ ?_ <;> intro bg aT
 refine ro (qa3 rfl ?_)
 refine ci aT fun aT => ?_
 obtain ⟨bc, aT⟩ := qaw aT
 refine RStep.ofN (qdx (lo := (some ((name.length : Int) + 1))) (hi := none) rfl bc ?_)
 exact eE (er aT hm)
 refine qan (qbu aV a8) ?_
 exact eR aT (_, ())
 rw [lty w0, Jcw.eq_1] at aT
 refine cT ?_
 exact eM aT _
 rintro t0 _ rfl j0
 replace hm := elg hm
 exact eE hm

def JbS : Nat → Nat → Str → Option (Str)
  | 0, _, ac => some ac
  | aU + 1, i0, ac =>
    (ix ac (i0 : Int)).bind fun aT =>
    if (decide ((aT.toNat : Int) ≥ 65) && decide ((aT.toNat : Int) ≤ 90)) then
    (ix ac (i0 : Int)).bind fun aV =>
    JbS aU (i0 + 1) (ac.set (((i0 : Int)).toNat) (aT + (32 : UInt8)))
    else
    JbS aU (i0 + 1) ac
def JdQ (s : Str) : Option (Str) :=
  (chk (s.length ≤ lim)).bind fun _ =>
  (chk (InI (s.length : Int))).bind fun _ =>
  (JbS (s.length : Int).toNat 0 s).bind fun t0 =>
  some t0
theorem Jep {s : Str} {K : Hp} {r : Str}
    (hm : JdQ s = some r)  :
    Fn Tryz.prog 159 [str s] K [] (fun v K' H' => v = str r ∧ H' = []) := by
 refine Fn.enter Tryz.func159 Tryz.call159 rfl fun F => ?_
 unfold JdQ at hm
 obtain ⟨h7, hm⟩ := qaw hm
 refine qga rfl rfl rfl h7 ?_
 intro a7 c7 o7
 refine ro (qal rfl ?_)
 obtain ⟨a6, hm⟩ := qaw hm
 obtain ⟨s0, aU, hm⟩ := bnd hm
 refine lD (σ := (Str)) ([4,5] ++ rg 10 17) [1] (fun i0 => [(10, .int .i64 (i0 : Int))]) (fun _ => []) (fun t0 => [qau eU a7 5 1 c7 t0]) (fun t0 => (0 < t0.length → Has a7) ∧ s.length = t0.length) (fun i0 t0 => JbS ((s.length : Int).toNat - i0) i0 t0 = some s0) (fun t0 => t0 = s0) (fun i0 => (s.length : Int).toNat - i0) 0 _ aU (And.intro qe (And.intro ?_ ?_))
 clear aU
 rintro i0 ac ⟨aV, aW⟩ aU j0
 conv at aU => whnf
 refine qac rfl ?_
 refine qah ?_ ?_ <;> intro w0
 rw [ltn w0, JbS.eq_2] at aU
 refine qam rfl ?_
 obtain ⟨aZ, bb, a8, aU⟩ := ixb aU
 refine RStep.ofN (qae rfl rfl (qcv aV a8) bb (qaz aW bb a8) (ro (qb1 (i := ((i0 : Int)).toNat) (o := 0) r0 rfl a8 rfl rfl ?_)))
 refine qaf rfl ?_
 refine qah ?_ ?_ <;> intro aT
 refine ct aT (ct aT (qac rfl ?_))
 refine qah ?_ ?_ <;> intro bd
 replace aU := ift (qcx aT bd) aU
 refine qh8 (x := aZ) (y := (32 : UInt8)) rfl rfl ?_
 obtain ⟨bf, bc, aY, aU⟩ := ixb aU
 refine RStep.ofN (qae rfl rfl (qcv aV aY) bc (qaz aW bc aY) ?_)
 refine qe7 (o := 0) (y := (aZ + (32 : UInt8))) bf r0 rfl aY rfl (by (conv => whnf); exact ⟨rfl, rfl, (nl rfl), rfl, rfl, rfl⟩) ?_
 refine qan (qjm w0 a6) ?_
 exact rd (i0 + 1, (ac.set (((i0 : Int)).toNat) (aZ + (32 : UInt8)))) ⟨rfl, trivial⟩ rfl (pf rfl) lr (qq1 w0) ⟨⟨(by first | simpa using aV | exact fun _ => ⟨_, _, rfl⟩), ((aW).trans List.length_set.symm)⟩, aU⟩
 replace aU := qbb (qcy aT bd) aU
 refine qan (qjm w0 a6) ?_
 exact eR aU (_, _)
 refine cf aT (cf aT (qac rfl (cF ?_)))
 replace aU := qbb (qbe aT) aU
 refine qan (qjm w0 a6) ?_
 exact eR aU (_, _)
 rw [lto w0, JbS.eq_1] at aU
 refine cT ?_
 exact eM aU _
 rintro t0 ⟨ba, aX⟩ rfl j0
 refine ro (qd7 aX r0 rfl rfl rfl ?_)
 exact eE hm

def Jb5 : List UInt8 → Nat → Int → Option (Fl (Int) (Int))
  | [], _, ac => some (Fl.go ac)
  | e0 :: aT, i0, ac =>
    (if decide ((e0.toNat : Int) < 48) then some true else some (decide ((e0.toNat : Int) > 57))).bind fun aU =>
    if aU then
    some (Fl.ret 0)
    else
    (chk (InI (10 * ac))).bind fun _ =>
    (chk (InI ((10 * ac) + ((e0 - (48 : UInt8)).toNat : Int)))).bind fun _ =>
    Jb5 aT (i0 + 1) ((10 * ac) + ((e0 - (48 : UInt8)).toNat : Int))
def JdA (s : Str) : Option (Int) :=
  if (decide ((s.length : Int) < 1) || decide ((s.length : Int) > 15)) then
  some 0
  else
  (chk (s.length ≤ qa7)).bind fun _ =>
  (Jb5 s 0 0).bind fun s0 => s0.el some fun t0 =>
  some t0
theorem Jel {s : Str} {K : Hp} {r : Int}
    (hm : JdA s = some r)  :
    Fn Tryz.prog 160 [str s] K [] (fun v K' H' => v = .int .i64 r ∧ H' = []) := by
 refine Fn.enter Tryz.func160 Tryz.call160 rfl fun F => ?_
 unfold JdA at hm
 refine jR (σ := Unit) (rg 5 8) (fun _ => [(12, .bool (decide ((s.length : Int) < 1) || decide ((s.length : Int) > 15)))]) (fun a8 => True) ?_ ?_
 refine qaf rfl ?_
 refine ro (qa3 rfl ?_)
 refine qah ?_ ?_ <;> intro aV
 refine ct aV (ct aV (ct aV ?_))
 exact eMt () ⟨bq (((qbv aV)).symm), trivial⟩
 refine cf aV (ro (qa3 rfl (cf aV (cf aV ?_))))
 exact eMt () ⟨bq (qhb (b := decide ((s.length : Int) > 15)) aV), trivial⟩
 rintro _ _ bb
 refine cs rfl rfl hm ?_ ?_ <;> intro bf hm
 exact eE hm
 refine ro (qa3 rfl ?_)
 obtain ⟨ba, hm⟩ := qaw hm
 obtain ⟨s0, aU, hm⟩ := bnd hm
 refine lD (σ := (Int)) ([2,3,4] ++ rg 15 22) [0] (fun i0 => [(15, .int .i64 (i0 : Int))]) (fun t0 => [(3, .int .i64 t0)]) (fun _ => []) (fun _ => True) (fun i0 t0 => Jb5 (s.drop i0) i0 t0 = some s0) (fun t0 => s0 = Fl.go t0) (fun i0 => s.length - i0) 0 _ aU (And.intro qe (And.intro ?_ ?_))
 clear aU
 rintro i0 ac _ aU j0
 conv at aU => whnf
 refine qac rfl ?_
 refine qah ?_ ?_ <;> intro w0
 obtain ⟨e0, aX, bc⟩ := ltx w0
 rw [bc, Jb5.eq_2] at aU
 refine qam rfl ?_
 refine qaf rfl ?_
 refine qa0 rfl (nn _) aX ?_
 obtain ⟨bd, aW, aU⟩ := bnd aU
 refine cS aW (fun aT aW => ?_) fun aT aW => ?_
 refine ct aT (ct aT (ct aT (ct aT (qac rfl (cT ?_)))))
 replace aU := ift (si aW).symm aU
 exact eE (er aU hm)
 refine cf aT (cf aT (qa0 rfl (nn _) aX (cf aT (cf aT (qac rfl ?_)))))
 refine qah ?_ ?_ <;> intro aY
 replace aU := ift ((si aW).symm.trans aY) aU
 exact eE (er aU hm)
 replace aU := qbb ((si aW).symm.trans aY) aU
 obtain ⟨aZ, aU⟩ := qaw aU
 refine qan aZ (qa0 rfl (nn _) aX (qh9 (x := e0) (y := (48 : UInt8)) rfl rfl (qc3 rfl rfl (qq7 (e0 - (48 : UInt8))) ?_)))
 obtain ⟨a6, aU⟩ := qaw aU
 refine qan a6 (qan (qbu aX ba) ?_)
 exact eR aU (_, _)
 rw [lty w0, Jb5.eq_1] at aU
 refine cT ?_
 exact eM aU _
 rintro t0 _ rfl j0
 replace hm := elg hm
 exact eE hm

def JdZ (name : Str) (x : Jk) (Aq : JX) : Option (Jk × Bool) :=
  if (decide (name = ([112, 97, 114, 116] : Str)) || decide (name = ([116, 101, 120, 116] : Str))) then
  if decide (x.kind ≠ 2) then
  some ((⟨0, 0, ([] : Str), false⟩ : Jk), false)
  else
  if decide (name = ([116, 101, 120, 116] : Str)) then
  (qln x.n).bind fun bg =>
  (JaL bg).bind fun bh =>
  some (bh, true)
  else
  (Jc9 Aq.Ae).bind fun aX =>
  if (decide (x.n < 0) || decide (x.n ≥ (aX.length : Int))) then
  (JaL ([] : Str)).bind fun aZ =>
  some (aZ, true)
  else
  (ix aX x.n).bind fun bb =>
  (JaL bb).bind fun bj =>
  some (bj, true)
  else
  if decide (x.kind ≠ 1) then
  some ((⟨0, 0, ([] : Str), false⟩ : Jk), false)
  else
  if decide (name = ([104, 101, 97, 100, 101, 114] : Str)) then
  (Jd2 Aq.Ao x.s).bind fun aY =>
  (JaL aY.1).bind fun a6 =>
  some (a6, true)
  else
  if decide (name = ([104, 97, 115] : Str)) then
  (Jd2 Aq.Ao x.s).bind fun bc =>
  (Jbh bc.2).bind fun bf =>
  some (bf, true)
  else
  if decide (name = ([97, 114, 103] : Str)) then
  (JdY (⟨([] : Str), ([] : Str), Aq.Af, true⟩ : Je) x.s).bind fun bd =>
  (JaL bd.1).bind fun ba =>
  some (ba, true)
  else
  if decide (name = ([108, 101, 110] : Str)) then
  (Jb8 (x.s.length : Int)).bind fun a8 =>
  some (a8, true)
  else
  if decide (name = ([108, 111, 119, 101, 114] : Str)) then
  (JdQ x.s).bind fun aU =>
  (JaL aU).bind fun aV =>
  some (aV, true)
  else
  (JdA x.s).bind fun aT =>
  (Jb8 aT).bind fun aW =>
  some (aW, true)
theorem Jes {name : Str} {x : Jk} {Aq : JX} {aq : Option Addr} {ar : Nat} {K : Hp} {r : Jk × Bool}
    (hm : JdZ name x Aq = some r) (hX : RdC Jc.enc K aq ar 2 Aq.Ao ∧ GG K) :
    Fn Tryz.prog 112 [str name, .agg #[.int .i64 x.kind, .int .i64 x.n, str x.s, .bool x.As], .agg #[str Aq.Am, str Aq.An, str Aq.Ae, str Aq.Af, .slice aq Aq.Ao.length ar]] K [] (fun v K' H' => v = .tuple #[.agg #[.int .i64 r.1.kind, .int .i64 r.1.n, str r.1.s, .bool r.1.As], .bool r.2] ∧ H' = []) := by
 obtain ⟨bd, hG⟩ := hX
 refine Fn.enter Tryz.func112 Tryz.call112 rfl fun F => ?_
 unfold JdZ at hm
 refine qas ?_
 intro b4
 refine qas ?_
 intro b5
 refine qai rfl fun b6 => ?_
 refine jR (σ := Unit) (rg 15 6) (fun _ => [(20, .bool (decide (name = ([112, 97, 114, 116] : Str)) || decide (name = ([116, 101, 120, 116] : Str))))]) (fun bv => True) ?_ ?_
 refine qaf rfl ?_
 refine qaq ?_
 refine qah ?_ ?_ <;> intro aU
 refine ct aU (ct aU ?_)
 exact eMt () ⟨bq (((qbv aU)).symm), trivial⟩
 refine cf aU (qaq (cf aU ?_))
 exact eMt () ⟨bq (qhb (b := decide (name = ([116, 101, 120, 116] : Str))) aU), trivial⟩
 rintro _ _ bB
 refine cs rfl rfl hm ?_ ?_ <;> intro bR hm
 refine fa rfl (ro (ld r2 rfl rfl (qa8 ?_)))
 refine cs rfl rfl hm ?_ ?_ <;> intro bM hm
 refine qad rfl rfl ?_
 refine qaa r0 rfl ⟨rfl, rfl, (nl rfl), ?_⟩
 exact ro (qab r0 rfl (nl rfl) (eE hm))
 refine qaq (cs rfl rfl hm ?_ ?_) <;> intro bQ hm
 refine fa rfl (ro (ld r2 rfl rfl ?_))
 refine cb hm fun bU bn hm => cg0 (qkl bn (gg4 hG)) ?_
 refine cb hm fun bP bp hm => cg0 (JaA bp :) ?_
 refine qaa r0 rfl ⟨rfl, rfl, (nl rfl), ?_⟩
 exact ro (qab r0 rfl (nl rfl) (eE hm))
 refine fa rfl (ro (ld r1 rfl rfl ?_))
 refine cb hm fun ba bF hm => ckx (JdX bF :) ?_
 rintro _ _ _ ⟨a8, bc, rfl, aV, rfl⟩
 refine jR (σ := Unit) (rg 34 10) (fun _ => [(43, .bool (decide (x.n < 0) || decide (x.n ≥ (ba.length : Int))))]) (fun bj => True) ?_ ?_
 refine qaf rfl ?_
 refine fa rfl (ro (ld r3 rfl rfl ?_))
 refine qah ?_ ?_ <;> intro aT
 refine ct aT (ct aT (ct aT (ct aT (ct aT ?_))))
 exact eMt () ⟨bq (((qbv aT)).symm), trivial⟩
 refine fa rfl (cf aT (ro (ld r3 rfl rfl (cf aT (cf aT (ro (qal rfl (cf aT (cf aT ?_)))))))))
 exact eMt () ⟨bq (qhb (b := decide (x.n ≥ (ba.length : Int))) aT), trivial⟩
 rintro _ _ bm
 refine cs rfl rfl hm ?_ ?_ <;> intro bJ hm
 refine cb hm fun bY br hm => cg0 (JaA br :) ?_
 refine qaa r1 rfl ⟨rfl, rfl, (nl rfl), ?_⟩
 exact ro (qab r0 rfl (nl rfl) (eE hm))
 refine fa rfl (ro (ld r3 rfl rfl ?_))
 obtain ⟨ca, bb, aZ, hm⟩ := ixb hm
 refine RStep.ofN (qae rfl rfl (qcv aV aZ) bb (qaz rfl bb aZ) (ro (qb1 (i := (x.n).toNat) (o := 0) r0 rfl aZ rfl rfl ?_)))
 refine cb hm fun bV bD hm => cg0 (JaA bD :) ?_
 refine qaa r1 rfl ⟨rfl, rfl, (nl rfl), ?_⟩
 exact ro (qab r0 rfl (nl rfl) (eE hm))
 refine fa rfl (ro (ld r2 rfl rfl (qa8 ?_)))
 refine cs rfl rfl hm ?_ ?_ <;> intro bL hm
 refine qad rfl rfl ?_
 refine qaa r0 rfl ⟨rfl, rfl, (nl rfl), ?_⟩
 exact ro (qab r0 rfl (nl rfl) (eE hm))
 refine qam rfl ?_
 refine qaq (cs rfl rfl hm ?_ ?_) <;> intro bG hm
 refine fa rfl (ro (ld r1 rfl rfl (fa rfl (ro (ld r2 rfl rfl ?_)))))
 refine cb hm fun bH bf hm => cgx (Jeh bf :) ?_
 refine cb hm fun bS bg hm => cg0 (JaA bg :) ?_
 refine qaa r0 rfl ⟨rfl, rfl, (nl rfl), ?_⟩
 exact ro (qab r0 rfl (nl rfl) (eE hm))
 refine qaq (cs rfl rfl hm ?_ ?_) <;> intro bK hm
 refine fa rfl (ro (ld r1 rfl rfl (fa rfl (ro (ld r2 rfl rfl ?_)))))
 refine cb hm fun bT bt hm => cgx (Jeh bt :) ?_
 refine cb hm fun bO bA hm => cg0 (Ja0 bA :) ?_
 refine qaa r0 rfl ⟨rfl, rfl, (nl rfl), ?_⟩
 exact ro (qab r0 rfl (nl rfl) (eE hm))
 refine qaq (cs rfl rfl hm ?_ ?_) <;> intro bW hm
 refine fa rfl (ro (ld r1 rfl rfl (qad rfl rfl (cT (cT (fa rfl (ro (ld r2 rfl rfl ?_))))))))
 refine cb hm fun cd bh hm => cgx (Jer bh :) ?_
 refine cb hm fun bZ bC hm => cg0 (JaA bC :) ?_
 refine qaa r0 rfl ⟨rfl, rfl, (nl rfl), ?_⟩
 exact ro (qab r0 rfl (nl rfl) (eE hm))
 refine qaq (cs rfl rfl hm ?_ ?_) <;> intro bX hm
 refine fa rfl (ro (ld r2 rfl rfl (ro (qa3 rfl ?_))))
 refine cb hm fun bI bw hm => cg0 (JbD bw :) ?_
 refine qaa r0 rfl ⟨rfl, rfl, (nl rfl), ?_⟩
 exact ro (qab r0 rfl (nl rfl) (eE hm))
 refine qaq (cs rfl rfl hm ?_ ?_) <;> intro bN hm
 refine fa rfl (ro (ld r2 rfl rfl ?_))
 refine cb hm fun bl aW hm => cg0 (Jep aW :) ?_
 refine cb hm fun bo a6 hm => cg0 (JaA a6 :) ?_
 refine qaa r0 rfl ⟨rfl, rfl, (nl rfl), ?_⟩
 exact ro (qab r0 rfl (nl rfl) (eE hm))
 refine fa rfl (ro (ld r2 rfl rfl ?_))
 refine cb hm fun bu aX hm => cg0 (Jel aX :) ?_
 refine cb hm fun bz aY hm => cg0 (JbD aY :) ?_
 refine qaa r0 rfl ⟨rfl, rfl, (nl rfl), ?_⟩
 exact ro (qab r0 rfl (nl rfl) (eE hm))

def Jdq (a : Int) (b : Int) : Option (Jk) :=
  if (decide (a = 0) || decide (b = 0)) then
  (Jb8 0).bind fun aV =>
  some aV
  else
  (chk (InI (-a))).bind fun _ =>
  (chk (InI (-b))).bind fun _ =>
  (chk ((max b (-b)) ≠ 0 ∧ InI (Int.tdiv 1099511627776 (max b (-b))))).bind fun _ =>
  ((if decide ((max a (-a)) > (Int.tdiv 1099511627776 (max b (-b)))) then
  some (1099511627776, 1)
  else
  some ((max a (-a)), (max b (-b))) : Option (Int × Int))).bind fun aT =>
  if (!((decide (a < 0)) == (decide (b < 0)))) then
  (chk (InI (-aT.1))).bind fun _ =>
  (chk (InI ((-aT.1) * aT.2))).bind fun _ =>
  (Jb8 ((-aT.1) * aT.2)).bind fun aW =>
  some aW
  else
  (chk (InI (aT.1 * aT.2))).bind fun _ =>
  (Jb8 (aT.1 * aT.2)).bind fun aU =>
  some aU
theorem Jee {a : Int} {b : Int} {K : Hp} {r : Jk}
    (hm : Jdq a b = some r)  :
    Fn Tryz.prog 161 [.int .i64 a, .int .i64 b] K [] (fun v K' H' => v = .agg #[.int .i64 r.kind, .int .i64 r.n, str r.s, .bool r.As] ∧ H' = []) := by
 refine Fn.enter Tryz.func161 Tryz.call161 rfl fun F => ?_
 unfold Jdq at hm
 refine qai rfl fun b4 => ?_
 refine jR (σ := Unit) (rg 8 6) (fun _ => [(13, .bool (decide (a = 0) || decide (b = 0)))]) (fun a6 => True) ?_ ?_
 refine qaf rfl ?_
 refine qag ?_
 refine qah ?_ ?_ <;> intro aT
 refine ct aT (ct aT ?_)
 exact eMt () ⟨bq (((qbv aT)).symm), trivial⟩
 refine cf aT (qag (cf aT ?_))
 exact eMt () ⟨bq (qhb (b := decide (b = 0)) aT), trivial⟩
 rintro _ _ bc
 refine cs rfl rfl hm ?_ ?_ <;> intro bj hm
 refine cb hm fun bm bd hm => cg0 (JbD bd :) ?_
 refine qaa r0 rfl ⟨rfl, rfl, (nl rfl), ?_⟩
 exact ro (qab r0 rfl (nl rfl) (eE hm))
 refine qf9 rfl ?_
 obtain ⟨aZ, hm⟩ := qaw hm
 refine ql1 aZ ?_
 refine ro (qcg ?_)
 obtain ⟨a8, hm⟩ := qaw hm
 refine ql1 a8 ?_
 refine ro (qcg ?_)
 obtain ⟨aX, hm⟩ := qaw hm
 refine qi2 aX.1 aX.2 ?_
 obtain ⟨aW, aU, hm⟩ := bnd hm
 refine jD (σ := (Int × Int)) [6,7] [0, 1] (fun aV => [(6, .int .i64 aV.1), (7, .int .i64 aV.2)]) (fun aV => []) (fun aV => aV = aW) (And.intro ?_ ?_)
 refine cs rfl rfl aU ?_ ?_ <;> intro bg aU
 exact eM aU _
 exact eM aU _
 rintro aV rfl ba
 refine cs rfl rfl hm ?_ ?_ <;> intro bl hm
 obtain ⟨bb, hm⟩ := qaw hm
 refine ql1 bb ?_
 refine ci hm fun hm => ?_
 refine cb hm fun bh bf hm => cg0 (JbD bf :) ?_
 refine qaa r0 rfl ⟨rfl, rfl, (nl rfl), ?_⟩
 exact ro (qab r0 rfl (nl rfl) (eE hm))
 refine ci hm fun hm => ?_
 refine cb hm fun bn aY hm => cg0 (JbD aY :) ?_
 refine qaa r0 rfl ⟨rfl, rfl, (nl rfl), ?_⟩
 exact ro (qab r0 rfl (nl rfl) (eE hm))

def Jbi (s : Str) (suffix : Str) : Option (Bool) :=
  (if decide ((s.length : Int) ≥ (suffix.length : Int)) then (chk (InI ((s.length : Int) - (suffix.length : Int)))).bind fun _ =>
  (chk (0 ≤ ((s.length : Int) - (suffix.length : Int)) ∧ ((s.length : Int) - (suffix.length : Int)) ≤ (s.length : Int) ∧ (s.length : Int) ≤ (s.length : Int))).bind fun _ =>
  some (decide ((subL s ((s.length : Int) - (suffix.length : Int)) (s.length : Int)) = suffix)) else some false).bind fun aT =>
  some aT
theorem JcO {s : Str} {suffix : Str} {K : Hp} {r : Bool}
    (hm : Jbi s suffix = some r)  :
    Fn Tryz.prog 215 [str s, str suffix] K [] (fun v K' H' => v = .bool r ∧ H' = []) := by
 refine Fn.enter Tryz.func215 Tryz.call215 rfl fun F => ?_
 unfold Jbi at hm
 refine qaf rfl ?_
 refine ro (qa3 rfl (ro (qa3 rfl ?_)))
 obtain ⟨aX, aU, hm⟩ := bnd hm
 refine cS aU (fun aT aU => ?_) fun aT aU => ?_
 refine ct aT (ct aT (ro (qa3 rfl (ct aT (ct aT (ro (qa3 rfl (ct aT ?_))))))))
 obtain ⟨aV, aU⟩ := qaw aU
 refine qan aV (ct aT ?_)
 obtain ⟨aW, aU⟩ := qaw aU
 refine RStep.ofN (qdx (lo := (some ((s.length : Int) - (suffix.length : Int)))) (hi := none) rfl aW (ct aT (ct aT (qaq (ct aT ?_)))))
 exact bE (si aU) (eE hm)
 refine cf aT (cf aT (cf aT (cf aT (cf aT (cf aT (cf aT (cf aT ?_)))))))
 refine cf aT ?_
 exact bE (si aU) (eE hm)

def JcX (s : Str) (suffix : Str) : Option (Bool) :=
  (Jbi s suffix).bind fun x7 =>
  some x7
theorem JdV {s : Str} {suffix : Str} {K : Hp} {r : Bool}
    (hm : JcX s suffix = some r)  :
    Fn Tryz.prog 162 [str s, str suffix] K [] (fun v K' H' => v = .bool r ∧ H' = []) := by
 refine Fn.enter Tryz.func162 Tryz.call162 rfl fun F => ?_
 unfold JcX at hm
 refine cb hm fun x7 q7 hm => cg0 (JcO q7 :) ?_
 exact eE hm

def Jdr (op : Str) (a : Jk) (b : Jk) : Option (Jk × Bool) :=
  if decide (a.kind ≠ b.kind) then
  some ((⟨0, 0, ([] : Str), false⟩ : Jk), false)
  else
  if decide (op = ([43] : Str)) then
  if decide (a.kind = 1) then
  (chk (a.s.length + b.s.length ≤ lim)).bind fun _ =>
  (JaL (a.s ++ b.s)).bind fun ba =>
  some (ba, true)
  else
  (chk (InI (a.n + b.n))).bind fun _ =>
  (Jb8 (a.n + b.n)).bind fun aZ =>
  some (aZ, decide (a.kind = 2))
  else
  if decide (op = ([45] : Str)) then
  (chk (InI (a.n - b.n))).bind fun _ =>
  (Jb8 (a.n - b.n)).bind fun a8 =>
  some (a8, decide (a.kind = 2))
  else
  if decide (op = ([42] : Str)) then
  if (!decide (a.kind = 2)) then
  some ((⟨0, 0, ([] : Str), false⟩ : Jk), false)
  else
  (Jdq a.n b.n).bind fun aY =>
  some (aY, true)
  else
  if decide (op = ([61, 61] : Str)) then
  (Jbh (decide (a.kind = b.kind) && (decide (a.n = b.n) && (decide (a.s = b.s) && (a.As == b.As))))).bind fun aX =>
  some (aX, true)
  else
  if decide (op = ([33, 61] : Str)) then
  (Jbh (!(decide (a.kind = b.kind) && (decide (a.n = b.n) && (decide (a.s = b.s) && (a.As == b.As)))))).bind fun bf =>
  some (bf, true)
  else
  if decide (op = ([60] : Str)) then
  (Jbh (decide (a.n < b.n))).bind fun a6 =>
  some (a6, decide (a.kind = 2))
  else
  if decide (op = ([60, 61] : Str)) then
  (Jbh (decide (a.n ≤ b.n))).bind fun bb =>
  some (bb, decide (a.kind = 2))
  else
  if decide (op = ([115, 116, 97, 114, 116, 115] : Str)) then
  (JA a.s b.s).bind fun bc =>
  (Jbh bc).bind fun bd =>
  some (bd, decide (a.kind = 1))
  else
  if decide (op = ([101, 110, 100, 115] : Str)) then
  (JcX a.s b.s).bind fun aU =>
  (Jbh aU).bind fun aW =>
  some (aW, decide (a.kind = 1))
  else
  (qfd a.s b.s).bind fun aV =>
  (Jbh aV).bind fun aT =>
  some (aT, decide (a.kind = 1))
theorem Jef {op : Str} {a : Jk} {b : Jk} {K : Hp} {r : Jk × Bool}
    (hm : Jdr op a b = some r) (hG : GG K) :
    Fn Tryz.prog 113 [str op, .agg #[.int .i64 a.kind, .int .i64 a.n, str a.s, .bool a.As], .agg #[.int .i64 b.kind, .int .i64 b.n, str b.s, .bool b.As]] K [] (fun v K' H' => v = .tuple #[.agg #[.int .i64 r.1.kind, .int .i64 r.1.n, str r.1.s, .bool r.1.As], .bool r.2] ∧ H' = []) := by
 refine Fn.enter Tryz.func113 Tryz.call113 rfl fun F => ?_
 unfold Jdr at hm
 refine qas ?_
 intro b4
 refine qas ?_
 intro b5
 refine qai rfl fun b6 => ?_
 refine fa rfl (ro (ld r2 rfl rfl (fa rfl (ro (ld r1 rfl rfl (qa8 ?_))))))
 refine cs rfl rfl hm ?_ ?_ <;> intro bI hm
 refine qad rfl rfl ?_
 refine qaa r0 rfl ⟨rfl, rfl, (nl rfl), ?_⟩
 exact ro (qab r0 rfl (nl rfl) (eE hm))
 refine qa4 ⟨⟨[], false⟩, _, [(_, _)], []⟩ (by kernel_rfl) ⟨Hp.Le.refl _, (sc [2] rfl), ci0⟩ ?_
 refine fa rfl (qap m0 rfl rfl (qag (fa rfl (qap m0 rfl rfl (qag ?_)))))
 refine qam rfl ?_
 refine qaq (cs rfl rfl hm ?_ ?_) <;> intro bw hm
 refine cs rfl rfl hm ?_ ?_ <;> intro bB hm
 refine fa rfl (ro (ld r2 rfl rfl (fa rfl (ro (ld r1 rfl rfl ?_)))))
 obtain ⟨bd, hm⟩ := qaw hm
 refine qa5 bd ?_
 refine cb hm fun bu bb hm => cg0 (JaA bb :) ?_
 refine qaa r0 rfl ⟨rfl, rfl, (nl rfl), ?_⟩
 exact ro (qab r0 rfl (nl rfl) (eE hm))
 refine fa rfl (ro (ld r2 rfl rfl (fa rfl (ro (ld r1 rfl rfl ?_)))))
 refine ci hm fun hm => ?_
 refine cb hm fun bG bg hm => cg0 (JbD bg :) ?_
 refine qaa r0 rfl ⟨rfl, rfl, (nl rfl), ?_⟩
 exact ro (qab r0 rfl (nl rfl) (eE hm))
 refine qaq (cs rfl rfl hm ?_ ?_) <;> intro bD hm
 refine fa rfl (ro (ld r2 rfl rfl (fa rfl (ro (ld r1 rfl rfl ?_)))))
 refine ci hm fun hm => ?_
 refine cb hm fun bt ba hm => cg0 (JbD ba :) ?_
 refine qaa r0 rfl ⟨rfl, rfl, (nl rfl), ?_⟩
 exact ro (qab r0 rfl (nl rfl) (eE hm))
 refine qaq (cs rfl rfl hm ?_ ?_) <;> intro bp hm
 refine qax ?_
 refine cs rfl rfl hm ?_ ?_ <;> intro bM hm
 refine qad rfl rfl ?_
 refine qaa r0 rfl ⟨rfl, rfl, (nl rfl), ?_⟩
 exact ro (qab r0 rfl (nl rfl) (eE hm))
 refine fa rfl (ro (ld r2 rfl rfl (fa rfl (ro (ld r1 rfl rfl ?_)))))
 refine cb hm fun bz aX hm => cg0 (Jee aX :) ?_
 refine qaa r0 rfl ⟨rfl, rfl, (nl rfl), ?_⟩
 exact ro (qab r0 rfl (nl rfl) (eE hm))
 refine qaq (cs rfl rfl hm ?_ ?_) <;> intro bF hm
 refine ro (qab r2 rfl (nl rfl) (ro (qab r1 rfl (nl rfl) ?_)))
 refine qmo (b := (decide (a.kind = b.kind) && (decide (a.n = b.n) && (decide (a.s = b.s) && (a.As == b.As))))) rfl (by kernel_rfl) (by kernel_rfl) (by kernel_rfl) rfl ?_
 refine cb hm fun bn a8 hm => cg0 (Ja0 a8 :) ?_
 refine qaa r0 rfl ⟨rfl, rfl, (nl rfl), ?_⟩
 exact ro (qab r0 rfl (nl rfl) (eE hm))
 refine qaq (cs rfl rfl hm ?_ ?_) <;> intro br hm
 refine ro (qab r2 rfl (nl rfl) (ro (qab r1 rfl (nl rfl) ?_)))
 refine qig (b := (decide (a.kind = b.kind) && (decide (a.n = b.n) && (decide (a.s = b.s) && (a.As == b.As))))) rfl (by kernel_rfl) (by kernel_rfl) (by kernel_rfl) rfl ?_
 refine cb hm fun bJ bh hm => cg0 (Ja0 bh :) ?_
 refine qaa r0 rfl ⟨rfl, rfl, (nl rfl), ?_⟩
 exact ro (qab r0 rfl (nl rfl) (eE hm))
 refine qaq (cs rfl rfl hm ?_ ?_) <;> intro bA hm
 refine fa rfl (ro (ld r2 rfl rfl (fa rfl (ro (ld r1 rfl rfl ?_)))))
 refine cb hm fun bK bj hm => cg0 (Ja0 bj :) ?_
 refine qaa r0 rfl ⟨rfl, rfl, (nl rfl), ?_⟩
 exact ro (qab r0 rfl (nl rfl) (eE hm))
 refine qaq (cs rfl rfl hm ?_ ?_) <;> intro bo hm
 refine fa rfl (ro (ld r2 rfl rfl (fa rfl (ro (ld r1 rfl rfl ?_)))))
 refine cb hm fun bN bl hm => cg0 (Ja0 bl :) ?_
 refine qaa r0 rfl ⟨rfl, rfl, (nl rfl), ?_⟩
 exact ro (qab r0 rfl (nl rfl) (eE hm))
 refine qaq (cs rfl rfl hm ?_ ?_) <;> intro bC hm
 refine fa rfl (ro (ld r2 rfl rfl (fa rfl (ro (ld r1 rfl rfl ?_)))))
 refine cb hm fun bH a6 hm => cg0 (Ja2 a6 :) ?_
 refine cb hm fun bL aY hm => cg0 (Ja0 aY :) ?_
 refine qaa r0 rfl ⟨rfl, rfl, (nl rfl), ?_⟩
 exact ro (qab r0 rfl (nl rfl) (eE hm))
 refine qaq (cs rfl rfl hm ?_ ?_) <;> intro bv hm
 refine fa rfl (ro (ld r2 rfl rfl (fa rfl (ro (ld r1 rfl rfl ?_)))))
 refine cb hm fun bc aT hm => cg0 (JdV aT :) ?_
 refine cb hm fun bf aU hm => cg0 (Ja0 aU :) ?_
 refine qaa r0 rfl ⟨rfl, rfl, (nl rfl), ?_⟩
 exact ro (qab r0 rfl (nl rfl) (eE hm))
 refine fa rfl (ro (ld r2 rfl rfl (fa rfl (ro (ld r1 rfl rfl ?_)))))
 refine cb hm fun bm aV hm => cg0 (qkm aV (gg0 hG)) ?_
 refine cb hm fun aZ aW hm => cg0 (Ja0 aW :) ?_
 refine qaa r0 rfl ⟨rfl, rfl, (nl rfl), ?_⟩
 exact ro (qab r0 rfl (nl rfl) (eE hm))

def qco (c : UInt8) : Option (Bool) :=
  if (decide ((c.toNat : Int) ≥ 48) && decide ((c.toNat : Int) ≤ 57)) then
  some true
  else
  if (decide ((c.toNat : Int) ≥ 97) && decide ((c.toNat : Int) ≤ 122)) then
  some true
  else
  if (decide ((c.toNat : Int) ≥ 65) && decide ((c.toNat : Int) ≤ 90)) then
  some true
  else
  (ixByteM ([33, 35, 36, 37, 38, 39, 42, 43, 45, 46, 94, 95, 96, 124, 126] : Str) c).bind fun aT =>
  some (decide (aT ≥ 0))
theorem qgf {c : UInt8} {K : Hp} {r : Bool}
    (hm : qco c = some r)  :
    Fn Tryz.prog 219 [.int .u8 (c.toNat : Int)] K [] (fun v K' H' => v = .bool r ∧ H' = []) := by
 refine Fn.enter Tryz.func219 Tryz.call219 rfl fun F => ?_
 unfold qco at hm
 refine qam rfl ?_
 refine jR (σ := Unit) (rg 3 7) (fun _ => [(3, .bool (decide ((c.toNat : Int) ≥ 48) && decide ((c.toNat : Int) ≤ 57)))]) (fun aY => True) ?_ ?_
 refine qaf rfl ?_
 refine qah ?_ ?_ <;> intro aV
 refine ct aV (ct aV ?_)
 exact eMt () ⟨bq (qcz (b := decide ((c.toNat : Int) ≤ 57)) aV), trivial⟩
 refine cf aV (cf aV ?_)
 exact eMt () ⟨bq (((qbe aV)).symm), trivial⟩
 rintro _ _ aZ
 refine cs rfl rfl hm ?_ ?_ <;> intro w3 hm
 refine qac rfl (ct w3 ?_)
 exact eE hm
 refine qaf rfl ?_
 refine qah ?_ ?_ <;> intro aU
 refine ct aU (ct aU (qac rfl ?_))
 refine qah ?_ ?_ <;> intro w3
 replace hm := ift (qcx aU w3) hm
 refine qac rfl (ct w3 ?_)
 exact eE hm
 replace hm := qbb (qcy aU w3) hm
 refine qaf rfl ?_
 refine qah ?_ ?_ <;> intro aT
 refine ct aT (ct aT (qac rfl ?_))
 refine qah ?_ ?_ <;> intro w3
 replace hm := ift (qcx aT w3) hm
 exact eE hm
 replace hm := qbb (qcy aT w3) hm
 refine cb hm fun aX aW hm => cg0 (qjk aW) ?_
 exact eE hm
 refine cf aT (cf aT (qac rfl (cF ?_)))
 replace hm := qbb (qbe aT) hm
 refine cb hm fun aX aW hm => cg0 (qjk aW) ?_
 exact eE hm
 refine cf aU (cf aU (qac rfl (cF ?_)))
 replace hm := qbb (qbe aU) hm
 refine qaf rfl ?_
 refine qah ?_ ?_ <;> intro aT
 refine ct aT (ct aT (qac rfl ?_))
 refine qah ?_ ?_ <;> intro w3
 replace hm := ift (qcx aT w3) hm
 exact eE hm
 replace hm := qbb (qcy aT w3) hm
 refine cb hm fun aX aW hm => cg0 (qjk aW) ?_
 exact eE hm
 refine cf aT (cf aT (qac rfl (cF ?_)))
 replace hm := qbb (qbe aT) hm
 refine cb hm fun aX aW hm => cg0 (qjk aW) ?_
 exact eE hm

def syntax_Token_L0 : List UInt8 → Nat → Option (Fl (Bool) (Unit))
  | [], _ => some (Fl.go ())
  | e0 :: aT, i0 =>
    (qco e0).bind fun al =>
    if (!al) then
    some (Fl.ret false)
    else
    syntax_Token_L0 aT (i0 + 1)
def qdb (s : Str) : Option (Bool) :=
  (chk (s.length ≤ qa7)).bind fun _ =>
  (syntax_Token_L0 s 0).bind fun s0 => s0.el some fun t0 =>
  some (decide (s ≠ ([] : Str)))
theorem qgg {s : Str} {K : Hp} {r : Bool}
    (hm : qdb s = some r)  :
    Fn Tryz.prog 180 [str s] K [] (fun v K' H' => v = .bool r ∧ H' = []) := by
 refine Fn.enter Tryz.func180 Tryz.call180 rfl fun F => ?_
 unfold qdb at hm
 refine ro (qa3 rfl ?_)
 obtain ⟨aW, hm⟩ := qaw hm
 obtain ⟨s0, aT, hm⟩ := bnd hm
 refine lD (σ := (Unit)) ([2,3] ++ rg 6 9) [0] (fun i0 => [(6, .int .i64 (i0 : Int))]) (fun _ => []) (fun _ => []) (fun _ => True) (fun i0 _ => syntax_Token_L0 (s.drop i0) i0 = some s0) (fun t0 => s0 = Fl.go t0) (fun i0 => s.length - i0) 0 () aT (And.intro qe (And.intro ?_ ?_))
 clear aT
 rintro i0 _ _ aT j0
 conv at aT => whnf
 refine qac rfl ?_
 refine qah ?_ ?_ <;> intro w0
 obtain ⟨e0, aU, aX⟩ := ltx w0
 rw [aX, syntax_Token_L0.eq_2] at aT
 refine qam rfl ?_
 refine qa0 rfl (nn _) aU ?_
 refine cb aT fun al aV aT => cg0 (qgf aV :) ?_
 refine qax ?_
 refine cs rfl rfl aT ?_ ?_ <;> intro aY aT
 exact eE (er aT hm)
 refine qan (qbu aU aW) ?_
 exact eR aT (_, ())
 rw [lty w0, syntax_Token_L0.eq_1] at aT
 refine cT ?_
 exact eM aT _
 rintro t0 _ rfl j0
 replace hm := elg hm
 refine qbr ?_
 exact eE hm

def Jdw (s : Str) : Option (Str × Err) :=
  (qdb s).bind fun x5 =>
  if (!x5) then
  some (([] : Str), (some 8))
  else
  if decide ((s.length : Int) > 64) then
  some (([] : Str), (some 5))
  else
  (JaX s).bind fun aT =>
  some (aT, none)
theorem Jex {s : Str} {K : Hp} {r : Str × Err}
    (hm : Jdw s = some r)  :
    Fn Tryz.prog 137 [str s] K [] (fun v K' H' => v = .tuple #[str r.1, qc5 48 r.2] ∧ H' = []) := by
 refine Fn.enter Tryz.func137 Tryz.call137 rfl fun F => ?_
 unfold Jdw at hm
 refine cb hm fun x5 q5 hm => cg0 (qgg q5 :) ?_
 refine qax ?_
 refine cs rfl rfl hm ?_ ?_ <;> intro w6 hm
 refine qat rfl ?_
 exact eE hm
 refine ro (qa3 rfl ?_)
 refine cs rfl rfl hm ?_ ?_ <;> intro aV hm
 refine qat rfl ?_
 exact eE hm
 refine cb hm fun aU aT hm => cg0 (Jbd aT :) ?_
 exact eE hm

def Jbl : List UInt8 → Nat → Option (Fl (Bool) (Unit))
  | [], _ => some (Fl.go ())
  | e0 :: aV, i0 =>
    (if decide ((e0.toNat : Int) < 32) then some (decide ((e0.toNat : Int) ≠ 9)) else some false).bind fun aT =>
    (if aT then some true else some (decide ((e0.toNat : Int) = 127))).bind fun aU =>
    if aU then
    some (Fl.ret true)
    else
    Jbl aV (i0 + 1)
def Jdg (s : Str) : Option (Bool) :=
  (chk (s.length ≤ qa7)).bind fun _ =>
  (Jbl s 0).bind fun s0 => s0.el some fun t0 =>
  some false
theorem Jem {s : Str} {K : Hp} {r : Bool}
    (hm : Jdg s = some r)  :
    Fn Tryz.prog 181 [str s] K [] (fun v K' H' => v = .bool r ∧ H' = []) := by
 refine Fn.enter Tryz.func181 Tryz.call181 rfl fun F => ?_
 unfold Jdg at hm
 refine ro (qa3 rfl ?_)
 obtain ⟨a6, hm⟩ := qaw hm
 obtain ⟨s0, aV, hm⟩ := bnd hm
 refine lD (σ := (Unit)) ([2,3] ++ rg 6 20) [0] (fun i0 => [(6, .int .i64 (i0 : Int))]) (fun _ => []) (fun _ => []) (fun _ => True) (fun i0 _ => Jbl (s.drop i0) i0 = some s0) (fun t0 => s0 = Fl.go t0) (fun i0 => s.length - i0) 0 () aV (And.intro qe (And.intro ?_ ?_))
 clear aV
 rintro i0 _ _ aV j0
 conv at aV => whnf
 refine qac rfl ?_
 refine qah ?_ ?_ <;> intro w0
 obtain ⟨e0, aY, a8⟩ := ltx w0
 rw [a8, Jbl.eq_2] at aV
 refine qam rfl ?_
 refine qaf rfl ?_
 refine qa0 rfl (nn _) aY ?_
 obtain ⟨bb, aX, aV⟩ := bnd aV
 refine cS aX (fun aU aX => ?_) fun aU aX => ?_
 refine ct aU (ct aU (qa0 rfl (nn _) aY (ct aU (qa8 (ct aU ?_)))))
 obtain ⟨ba, aW, aV⟩ := bnd aV
 refine qah ?_ ?_ <;> intro aT
 replace aW := ift ((si aX).symm.trans aT) aW
 refine ct aT (ct aT (ct aT (ct aT (qac rfl (cT ?_)))))
 replace aV := ift (si aW).symm aV
 exact eE (er aV hm)
 replace aW := qbb ((si aX).symm.trans aT) aW
 refine cf aT (cf aT (qa0 rfl (nn _) aY (cf aT (qag (cf aT (qac rfl ?_))))))
 refine qah ?_ ?_ <;> intro aZ
 replace aV := ift ((si aW).symm.trans aZ) aV
 exact eE (er aV hm)
 replace aV := qbb ((si aW).symm.trans aZ) aV
 refine qan (qbu aY a6) ?_
 exact eR aV (_, ())
 refine cf aU (cf aU (cf aU (cf aU ?_)))
 obtain ⟨ba, aW, aV⟩ := bnd aV
 replace aW := qbb (si aX).symm aW
 refine cF (cF (cF (qa0 rfl (nn _) aY (cF (qag (cF (qac rfl ?_)))))))
 refine qah ?_ ?_ <;> intro aZ
 replace aV := ift ((si aW).symm.trans aZ) aV
 exact eE (er aV hm)
 replace aV := qbb ((si aW).symm.trans aZ) aV
 refine qan (qbu aY a6) ?_
 exact eR aV (_, ())
 rw [lty w0, Jbl.eq_1] at aV
 refine cT ?_
 exact eM aV _
 rintro t0 _ rfl j0
 replace hm := elg hm
 exact eE hm

def JcY (s : Str) : Option (Str × Err) :=
  (Jdg s).bind fun x5 =>
  if x5 then
  some (([] : Str), (some 2))
  else
  (qie s ([32, 9] : Str)).bind fun x8 =>
  if decide ((x8.length : Int) > 2048) then
  some (([] : Str), (some 5))
  else
  some (x8, none)
theorem Jet {s : Str} {K : Hp} {r : Str × Err}
    (hm : JcY s = some r)  :
    Fn Tryz.prog 138 [str s] K [] (fun v K' H' => v = .tuple #[str r.1, qc5 48 r.2] ∧ H' = []) := by
 refine Fn.enter Tryz.func138 Tryz.call138 rfl fun F => ?_
 unfold JcY at hm
 refine cb hm fun x5 q5 hm => cg0 (Jem q5 :) ?_
 refine cs rfl rfl hm ?_ ?_ <;> intro w5 hm
 refine qat rfl ?_
 exact eE hm
 refine cb hm fun x8 q8 hm => cg0 (qkk q8) ?_
 refine ro (qa3 rfl ?_)
 refine cs rfl rfl hm ?_ ?_ <;> intro aT hm
 refine qat rfl ?_
 exact eE hm
 exact eE hm

def Jbr (al : Str) (value : Str) : List Jc → Nat → (List Jc) → Bool → Option ((List Jc) × Bool)
  | [], _, ac, aT => some (ac, aT)
  | e0 :: aU, i0, ac, aT =>
    (JaX e0.Name).bind fun aV =>
    if decide (aV ≠ al) then
    (chk (ac.length + [e0].length ≤ lim)).bind fun _ =>
    Jbr al value aU (i0 + 1) (ac ++ [e0]) aT
    else
    if (!aT) then
    (chk (ac.length + [(⟨al, value⟩ : Jc)].length ≤ lim)).bind fun _ =>
    Jbr al value aU (i0 + 1) (ac ++ [(⟨al, value⟩ : Jc)]) true
    else
    Jbr al value aU (i0 + 1) ac aT
def JcP (f : (List Jc)) (name : Str) (value : Str) : Option ((List Jc)) :=
  (JaX name).bind fun al =>
  (chk (f.length ≤ qa7)).bind fun _ =>
  (Jbr al value f 0 [] false).bind fun t0 =>
  if (!t0.2) then
  (chk (t0.1.length + [(⟨al, value⟩ : Jc)].length ≤ lim)).bind fun _ =>
  some (t0.1 ++ [(⟨al, value⟩ : Jc)])
  else
  some t0.1
theorem Jei {f : (List Jc)} {name : Str} {value : Str} {aa : Option Addr} {ab : Nat} {n0 : Nat} {K : Hp} {r : (List Jc)}
    (hm : JcP f name value = some r) (hX : RdC Jc.enc K aa ab 2 f ∧ n0 = f.length) :
    Fn Tryz.prog 21 [.slice aa n0 ab, str name, str value] K [] (fun v K' H' => ∃ ar_0 : Option Addr, ∃ cr_0 : Nat, v = .slice ar_0 r.length cr_0 ∧ (0 < r.length → Has ar_0) ∧ H' = [qau Jc.enc ar_0 41 2 cr_0 r]) := by
 obtain ⟨ae, bg⟩ := hX
 subst bg
 refine Fn.enter Tryz.func21 Tryz.call21 rfl fun F => ?_
 unfold JcP at hm
 refine cb hm fun al bd hm => cg0 (Jbd bd :) ?_
 refine ro (qal rfl ?_)
 obtain ⟨aX, hm⟩ := qaw hm
 obtain ⟨s0, aV, hm⟩ := bnd hm
 refine qhp Jc.enc 41 2 ?_
 refine lD (σ := ((List Jc) × Bool) × Option Addr × Nat) ([7,8,10] ++ rg 15 24) [1] (fun i0 => [(15, .int .i64 (i0 : Int))]) (fun (t0, aT, aU) => [(7, .slice aT t0.1.length aU), (8, .bool t0.2)]) (fun (t0, aT, aU) => [qau Jc.enc aT 41 2 aU t0.1]) (fun (t0, aT, aU) => (0 < t0.1.length → Has aT) ∧ True) (fun i0 (t0, aT, aU) => Jbr al value (f.drop i0) i0 t0.1 t0.2 = some s0) (fun (t0, aT, aU) => t0 = s0) (fun i0 => f.length - i0) 0 ((_, _), _, _) aV (And.intro qe (And.intro ?_ ?_))
 clear aV
 rintro i0 ⟨⟨ac, ba⟩, a8, a6⟩ ⟨aY, _⟩ aV j0
 dsimp only at aV ⊢
 refine qac rfl ?_
 refine qah ?_ ?_ <;> intro w0
 obtain ⟨e0, aW, bj⟩ := ltx w0
 rw [bj, Jbr.eq_2] at aV
 refine qam rfl ?_
 refine RStep.ofN (qae rfl rfl (qf3 ae.rd aW) (nn _) (qbs aW) (ro (qao i0 _ ae.rd rfl (mp aW) rfl ?_)))
 refine qai rfl fun bm => ?_
 refine qaa r0 rfl ⟨rfl, rfl, (nl rfl), ?_⟩
 refine qam rfl ?_
 refine fa rfl (ro (ld r0 rfl rfl ?_))
 refine cb aV fun bu bb aV => cg0 (Jbd bb :) ?_
 refine qbr (cs rfl rfl aV ?_ ?_) <;> intro bC aV
 refine ro (qab r0 rfl (nl rfl) ?_)
 refine bsO (len := 1) (enc := Jc.enc) (l := [e0]) (cl := [str e0.Name, str e0.Value]) qdr rfl rfl (fun _ _ => rfl) rfl rfl rfl ?_ fun br => ?_
 · conv => whnf
   refine cT ?_
   first | done | rfl
 obtain ⟨bc, aV⟩ := qaw aV
 refine apE rfl r2 qdr (qay rfl r0 rfl (fun _ => rfl) (fun _ => rfl)) bc ?_
 intro bt bv bB
 refine qan (qbu aW aX) ?_
 exact eR aV (_, (_, _), _, _)
 refine qax ?_
 refine cs rfl rfl aV ?_ ?_ <;> intro bn aV
 refine qad rfl rfl (cT (cT ?_))
 refine bsO (len := 1) (enc := Jc.enc) (l := [(⟨al, value⟩ : Jc)]) (cl := [str al, str value]) qdr rfl rfl (fun _ _ => rfl) rfl rfl rfl ?_ fun bo => ?_
 · conv => whnf
   refine cT ?_
   first | done | rfl
 obtain ⟨bh, aV⟩ := qaw aV
 refine apE rfl r2 qdr (qay rfl r0 rfl (fun _ => rfl) (fun _ => rfl)) bh ?_
 intro bA bw bF
 refine qan (qbu aW aX) ?_
 exact eR aV (_, (_, _), _, _)
 refine qan (qbu aW aX) ?_
 exact eR aV (_, (_, _), _, _)
 rw [lty w0, Jbr.eq_1] at aV
 refine cT ?_
 exact eM aV (_, _, _)
 rintro ⟨t0, aT, aU⟩ ⟨aZ, _⟩ rfl j0
 refine qax ?_
 refine cs rfl rfl hm ?_ ?_ <;> intro bp hm
 refine qad rfl rfl (cT (cT ?_))
 refine bsO (len := 1) (enc := Jc.enc) (l := [(⟨al, value⟩ : Jc)]) (cl := [str al, str value]) qdr rfl rfl (fun _ _ => rfl) rfl rfl rfl ?_ fun bz => ?_
 · conv => whnf
   refine cT ?_
   first | done | rfl
 obtain ⟨bf, hm⟩ := qaw hm
 refine apE rfl r1 qdr (qay rfl r0 rfl (fun _ => rfl) (fun _ => rfl)) bf ?_
 intro bG bl bD
 exact eE hm
 exact eE hm

def Jax (r' : Jp) (s : Str) (x : Jk) : Option (Err × Jp) :=
  (qnn s ([58] : Str)).bind fun aV =>
  (Jdw aV.2.1).bind fun aT =>
  if aT.2.isSome then
  some ((some 8), r')
  else
  if decide (aV.1 = ([118, 97, 114, 121] : Str)) then
  (JD r'.Vary aT.1).bind fun aW =>
  if (!aW) then
  (chk (r'.Vary.length + [aT.1].length ≤ lim)).bind fun _ =>
  some (none, (⟨r'.Ae, r'.Af, r'.Ag, (r'.Vary ++ [aT.1]), r'.Ah, r'.TTL, r'.Ai, r'.Aj, r'.Ak, r'.Al⟩ : Jp))
  else
  some (none, r')
  else
  (JcY x.s).bind fun aU =>
  if aU.2.isSome then
  some (aU.2, r')
  else
  (JcP r'.Ag aT.1 aU.1).bind fun aB =>
  some (none, (⟨r'.Ae, r'.Af, aB, r'.Vary, r'.Ah, r'.TTL, r'.Ai, r'.Aj, r'.Ak, r'.Al⟩ : Jp))
theorem Jdx {r' : Jp} {s : Str} {x : Jk} {b0 : Nat} {aa : Option Addr} {ab : Nat} {ah : Option Addr} {ak : Nat} {am : Option Addr} {au : Nat} {aR : TypeId} {aO aQ : List Value} {K : Hp} {r : Err × Jp}
    (hm : Jax r' s x = some r) (hX : (0 < r'.Ag.length → Has aa) ∧ (0 < r'.Vary.length → Has ah) ∧ (0 < r'.Ah.length → Has am) ∧ GG K) :
    Fn Tryz.prog 164 [.pointer (some ⟨b0, aO.length + 0, none⟩), str s, .agg #[.int .i64 x.kind, .int .i64 x.n, str x.s, .bool x.As]] K [qfr b0 aR aO aQ [str r'.Ae, str r'.Af, .slice aa r'.Ag.length ab, .slice ah r'.Vary.length ak, .slice am r'.Ah.length au, .int .i64 r'.TTL, .int .i64 r'.Ai, .int .i64 r'.Aj, .bool r'.Ak, .bool r'.Al], qau Jc.enc aa 41 2 ab r'.Ag, qau eS ah 9 1 ak r'.Vary, qau eS am 9 1 au r'.Ah] (fun v K' H' => ∃ ar_0 : Option Addr, ∃ cr_0 : Nat, ∃ ar_1 : Option Addr, ∃ cr_1 : Nat, ∃ ar_2 : Option Addr, ∃ cr_2 : Nat, v = qc5 48 r.1 ∧ (0 < r.2.Ag.length → Has ar_0) ∧ (0 < r.2.Vary.length → Has ar_1) ∧ (0 < r.2.Ah.length → Has ar_2) ∧ H' = [qfr b0 aR aO aQ [str r.2.Ae, str r.2.Af, .slice ar_0 r.2.Ag.length cr_0, .slice ar_1 r.2.Vary.length cr_1, .slice ar_2 r.2.Ah.length cr_2, .int .i64 r.2.TTL, .int .i64 r.2.Ai, .int .i64 r.2.Aj, .bool r.2.Ak, .bool r.2.Al], qau Jc.enc ar_0 41 2 cr_0 r.2.Ag, qau eS ar_1 9 1 cr_1 r.2.Vary, qau eS ar_2 9 1 cr_2 r.2.Ah]) := by
 obtain ⟨ae, bc, aZ, hG⟩ := hX
 refine Fn.enter Tryz.func164 Tryz.call164 rfl fun F => ?_
 unfold Jax at hm
 refine qas ?_
 intro b5
 refine cb hm fun bn bf hm => cg0 (qnm bf (gg0 hG)) ?_
 refine cb hm fun aV bj hm => cg0 (Jex bj :) ?_
 refine qa9 rfl ?_
 refine cs rfl rfl hm ?_ ?_ <;> intro bt hm
 refine qat rfl ?_
 exact eE hm
 refine qaq (cs rfl rfl hm ?_ ?_) <;> intro bz hm
 refine qaj ?_
 refine qc1 (j' := 3) rfl rfl ?_
 refine ro (ld r1 rfl (qjb rfl) ?_)
 refine cb hm fun bp bg hm => ck0 (Fn.lend Tryz.call53 (fun ba aX aU => (JT (v' := aV.1) bg ⟨aU, rfl⟩)) (by exact fun _ _ _ _ h => h)) ?_
 rintro _ _ _ ⟨_, rfl, rfl, rfl⟩
 refine qax ?_
 refine cs rfl rfl hm ?_ ?_ <;> intro bA hm
 refine qaj ?_
 refine qc1 (j' := 3) rfl rfl ?_
 refine ro (ld r2 rfl (qjb rfl) ?_)
 refine bsO (len := 1) (enc := eS) (l := [aV.1]) (cl := [str aV.1]) qbp rfl rfl (fun _ _ => rfl) rfl rfl rfl ?_ fun bv => ?_
 · conv => whnf
   refine cT ?_
   first | done | rfl
 obtain ⟨bh, hm⟩ := qaw hm
 refine apE rfl r1 qbp (qay rfl r0 rfl (fun _ => rfl) (fun _ => rfl)) bh ?_
 intro bu bw br
 refine qaj ?_
 refine qc1 (j' := 3) rfl rfl ?_
 refine qea r3 rfl ?_
 refine ⟨rfl, rfl, (nl rfl), ?_⟩
 exact eE hm
 exact eE hm
 refine fa rfl (ro (ld r0 rfl rfl ?_))
 refine cb hm fun bm bd hm => cg0 (Jet bd :) ?_
 refine qa9 rfl ?_
 refine cs rfl rfl hm ?_ ?_ <;> intro bo hm
 exact eE hm
 refine qaj ?_
 refine qc1 (j' := 2) rfl rfl ?_
 refine ro (ld r1 rfl (qjb rfl) ?_)
 refine cb hm fun aB bl hm => ck0 (Fn.lend Tryz.call21 (fun aW aY aT => (Jei (name := aV.1) (value := bm.1) bl ⟨aT, rfl⟩)) (by exact fun _ _ _ _ h => h)) ?_
 rintro _ _ _ ⟨_, rfl, a6, a8, rfl, bb, rfl⟩
 refine qaj ?_
 refine qc1 (j' := 2) rfl rfl ?_
 refine qea r3 rfl ?_
 refine ⟨rfl, rfl, (nl rfl), ?_⟩
 exact eE hm

def JG (r' : Jp) (s : Str) (x : Jk) : Option (Err × Jp) :=
  (((if (decide (s = ([112, 97, 115, 115] : Str)) || decide (s = ([116, 111, 107, 101, 110] : Str))) then some true else (JA s ([118, 97, 114, 121, 58] : Str)).bind fun aX =>
  some aX).bind fun aU =>
  if aU then
  some 0
  else
  if (decide (s = ([116, 116, 108] : Str)) || decide (s = ([100, 101, 110, 121] : Str))) then
  some 2
  else
  some 1 : Option (Int))).bind fun aT =>
  if decide (x.kind ≠ aT) then
  some ((some 9), r')
  else
  if decide (s = ([112, 97, 116, 104] : Str)) then
  some (none, (⟨x.s, r'.Af, r'.Ag, r'.Vary, r'.Ah, r'.TTL, r'.Ai, r'.Aj, r'.Ak, r'.Al⟩ : Jp))
  else
  if decide (s = ([113, 117, 101, 114, 121] : Str)) then
  some (none, (⟨r'.Ae, x.s, r'.Ag, r'.Vary, r'.Ah, r'.TTL, r'.Ai, r'.Aj, r'.Ak, r'.Al⟩ : Jp))
  else
  if decide (s = ([116, 97, 103] : Str)) then
  (JD r'.Ah x.s).bind fun aW =>
  if (!aW) then
  (chk (r'.Ah.length + [x.s].length ≤ lim)).bind fun _ =>
  some (none, (⟨r'.Ae, r'.Af, r'.Ag, r'.Vary, (r'.Ah ++ [x.s]), r'.TTL, r'.Ai, r'.Aj, r'.Ak, r'.Al⟩ : Jp))
  else
  some (none, r')
  else
  if decide (s = ([116, 116, 108] : Str)) then
  some (none, (⟨r'.Ae, r'.Af, r'.Ag, r'.Vary, r'.Ah, (max 0 x.n), r'.Ai, r'.Aj, r'.Ak, r'.Al⟩ : Jp))
  else
  if decide (s = ([100, 101, 110, 121] : Str)) then
  if (decide (x.n < 400) || decide (x.n > 499)) then
  some (none, (⟨r'.Ae, r'.Af, r'.Ag, r'.Vary, r'.Ah, r'.TTL, 403, r'.Aj, r'.Ak, r'.Al⟩ : Jp))
  else
  some (none, (⟨r'.Ae, r'.Af, r'.Ag, r'.Vary, r'.Ah, r'.TTL, x.n, r'.Aj, r'.Ak, r'.Al⟩ : Jp))
  else
  if decide (s = ([112, 97, 115, 115] : Str)) then
  some (none, (⟨r'.Ae, r'.Af, r'.Ag, r'.Vary, r'.Ah, r'.TTL, r'.Ai, r'.Aj, true, r'.Al⟩ : Jp))
  else
  if decide (s = ([116, 111, 107, 101, 110] : Str)) then
  some (none, (⟨r'.Ae, r'.Af, r'.Ag, r'.Vary, r'.Ah, r'.TTL, r'.Ai, r'.Aj, r'.Ak, true⟩ : Jp))
  else
  (Jax r' s x).bind fun aV =>
  some (aV.1, aV.2)
theorem JdJ {r' : Jp} {s : Str} {x : Jk} {b0 : Nat} {aa : Option Addr} {ab : Nat} {ah : Option Addr} {ak : Nat} {am : Option Addr} {au : Nat} {aR : TypeId} {aO aQ : List Value} {K : Hp} {r : Err × Jp}
    (hm : JG r' s x = some r) (hX : (0 < r'.Ag.length → Has aa) ∧ (0 < r'.Vary.length → Has ah) ∧ (0 < r'.Ah.length → Has am) ∧ GG K) :
    Fn Tryz.prog 115 [.pointer (some ⟨b0, aO.length + 0, none⟩), str s, .agg #[.int .i64 x.kind, .int .i64 x.n, str x.s, .bool x.As]] K [qfr b0 aR aO aQ [str r'.Ae, str r'.Af, .slice aa r'.Ag.length ab, .slice ah r'.Vary.length ak, .slice am r'.Ah.length au, .int .i64 r'.TTL, .int .i64 r'.Ai, .int .i64 r'.Aj, .bool r'.Ak, .bool r'.Al], qau Jc.enc aa 41 2 ab r'.Ag, qau eS ah 9 1 ak r'.Vary, qau eS am 9 1 au r'.Ah] (fun v K' H' => ∃ ar_0 : Option Addr, ∃ cr_0 : Nat, ∃ ar_1 : Option Addr, ∃ cr_1 : Nat, ∃ ar_2 : Option Addr, ∃ cr_2 : Nat, v = qc5 48 r.1 ∧ (0 < r.2.Ag.length → Has ar_0) ∧ (0 < r.2.Vary.length → Has ar_1) ∧ (0 < r.2.Ah.length → Has ar_2) ∧ H' = [qfr b0 aR aO aQ [str r.2.Ae, str r.2.Af, .slice ar_0 r.2.Ag.length cr_0, .slice ar_1 r.2.Vary.length cr_1, .slice ar_2 r.2.Ah.length cr_2, .int .i64 r.2.TTL, .int .i64 r.2.Ai, .int .i64 r.2.Aj, .bool r.2.Ak, .bool r.2.Al], qau Jc.enc ar_0 41 2 cr_0 r.2.Ag, qau eS ar_1 9 1 cr_1 r.2.Vary, qau eS ar_2 9 1 cr_2 r.2.Ah]) := by
 obtain ⟨ae, bt, bj, hG⟩ := hX
 refine Fn.enter Tryz.func115 Tryz.call115 rfl fun F => ?_
 unfold JG at hm
 refine qas ?_
 intro b5
 obtain ⟨bb, aT, hm⟩ := bnd hm
 refine jD (σ := (Int)) (rg 7 19) [0, 1, 2, 3, 4, 5] (fun a6 => [(7, .int .i64 a6)]) (fun a6 => []) (fun a6 => a6 = bb) (And.intro ?_ ?_)
 refine qam rfl ?_
 obtain ⟨bc, aV, aT⟩ := bnd aT
 refine jR (σ := Bool) (rg 8 11) (fun a8 => [(8, .bool a8)]) (fun a8 => a8 = bc) ?_ ?_
 replace aV := bsm aV
 refine qaf rfl ?_
 refine qaq ?_
 refine qah ?_ ?_ <;> intro aW
 refine ct aW (ct aW ?_)
 obtain ⟨bF, aZ, aV⟩ := bnd aV
 replace aZ := ift (qbv aW) aZ
 refine cT (cT (cT ?_))
 exact eMq aV _ ⟨bq (si aZ), trivial⟩
 refine cf aW (qaq (cf aW ?_))
 obtain ⟨bF, aZ, aV⟩ := bnd aV
 refine qah ?_ ?_ <;> intro aY
 replace aZ := ift (qf2 aW aY) aZ
 refine ct aY (ct aY ?_)
 exact eMq aV _ ⟨bq (si aZ), trivial⟩
 replace aZ := qbb (qc4 aW aY) aZ
 refine cf aY ?_
 refine cb aZ fun bV bC aZ => cg0 (Ja2 bC :) ?_
 refine cf aY ?_
 exact eMq aV _ ⟨bq (si aZ), trivial⟩
 rintro a8 rfl bD
 refine cs rfl rfl aT ?_ ?_ <;> intro w8 aT
 exact eM aT _
 refine qaf rfl ?_
 refine qaq ?_
 refine qah ?_ ?_ <;> intro aX
 refine ct aX (ct aX (qac rfl (cT ?_)))
 replace aT := ift (qbv aX) aT
 exact eM aT _
 refine cf aX (qaq (cf aX (qac rfl ?_)))
 refine qah ?_ ?_ <;> intro br
 replace aT := ift (qf2 aX br) aT
 exact eM aT _
 replace aT := qbb (qc4 aX br) aT
 exact eM aT _
 rintro a6 rfl bH
 refine fa rfl (ro (ld r0 rfl rfl (qa8 ?_)))
 refine cs rfl rfl hm ?_ ?_ <;> intro bN hm
 refine qat rfl ?_
 exact eE hm
 refine qam rfl ?_
 refine qaq (cs rfl rfl hm ?_ ?_) <;> intro bS hm
 refine fa rfl (ro (ld r0 rfl rfl (qaj ?_)))
 refine qc1 (j' := 0) rfl rfl ?_
 refine qea r1 rfl ?_
 refine ⟨rfl, rfl, (nl rfl), ?_⟩
 exact eE hm
 refine qaq (cs rfl rfl hm ?_ ?_) <;> intro bK hm
 refine fa rfl (ro (ld r0 rfl rfl (qaj ?_)))
 refine qc1 (j' := 1) rfl rfl ?_
 refine qea r1 rfl ?_
 refine ⟨rfl, rfl, (nl rfl), ?_⟩
 exact eE hm
 refine qaq (cs rfl rfl hm ?_ ?_) <;> intro bL hm
 refine qa4 ⟨⟨[], false⟩, _, [(_, _), (_, _)], []⟩ (by kernel_rfl) ⟨Hp.Le.refl _, (sc [1,0] rfl), ci0⟩ ?_
 refine qaj ?_
 refine qc1 (j' := 4) rfl rfl ?_
 refine qap m0 rfl (qjb rfl) (fa rfl (qap m1 rfl rfl ?_))
 refine cb hm fun bI bB hm => ck0 (Fn.lend Tryz.call53 (fun bu bd ba => (JT (v' := x.s) bB ⟨ba, rfl⟩)) (by exact fun _ _ _ _ h => h)) ?_
 rintro _ _ _ ⟨_, rfl, rfl, rfl⟩
 refine qk (sc [2,1] rfl) ?_
 refine qax ?_
 refine cs rfl rfl hm ?_ ?_ <;> intro bU hm
 refine qa2 ⟨⟨[], false⟩, _, [(_, _), (_, _)], []⟩ 9 rfl (by kernel_rfl) ⟨Hp.Le.refl _, (sc [2,1] rfl), ci0⟩ ?_
 refine qaj ?_
 refine qc1 (j' := 4) rfl rfl ?_
 refine qap m0 rfl (qjb rfl) (fa rfl (qap m1 rfl rfl ?_))
 refine bsO (len := 1) (enc := eS) (l := [x.s]) (cl := [str x.s]) qbp rfl rfl (fun _ _ => rfl) rfl rfl rfl ?_ fun bT => ?_
 · conv => whnf
   refine cT ?_
   first | done | rfl
 refine qk (sc [3,2] rfl) ?_
 obtain ⟨bG, hm⟩ := qaw hm
 refine apE rfl r1 qbp (qay rfl r0 rfl (fun _ => rfl) (fun _ => rfl)) bG ?_
 intro bW bP bO
 refine qk (sc [3,2] rfl) ?_
 refine qaj ?_
 refine qc1 (j' := 4) rfl rfl ?_
 refine qea r3 rfl ?_
 refine ⟨rfl, rfl, (nl rfl), ?_⟩
 refine ⟨⟨Hp.emp_le _, (pf rfl), ci0⟩, ?_⟩
 exact eE hm
 exact eE hm
 refine qaq (cs rfl rfl hm ?_ ?_) <;> intro bQ hm
 refine fa rfl (ro (ld r0 rfl rfl (ro (qcg (qaj ?_)))))
 refine qc1 (j' := 5) rfl rfl ?_
 refine qea r1 rfl ?_
 refine ⟨rfl, rfl, (nl rfl), ?_⟩
 exact eE hm
 refine qaq (cs rfl rfl hm ?_ ?_) <;> intro bJ hm
 refine fa rfl (ro (ld r0 rfl rfl (qaj ?_)))
 refine qc1 (j' := 6) rfl rfl ?_
 refine qea r1 rfl ?_
 refine ⟨rfl, rfl, (nl rfl), ?_⟩
 refine qaf rfl ?_
 refine fa rfl (ro (ld r1 rfl rfl ?_))
 refine qah ?_ ?_ <;> intro aU
 refine ct aU (ct aU (ct aU (qac rfl (cT ?_))))
 replace hm := ift (qbv aU) hm
 refine qaj ?_
 refine qc1 (j' := 6) rfl rfl ?_
 refine qea r0 rfl ?_
 refine ⟨rfl, rfl, (nl rfl), ?_⟩
 exact eE hm
 refine fa rfl (cf aU (ro (ld r1 rfl rfl (cf aU (cf aU (qac rfl ?_))))))
 refine qah ?_ ?_ <;> intro bo
 replace hm := ift (qf2 aU bo) hm
 refine qaj ?_
 refine qc1 (j' := 6) rfl rfl ?_
 refine qea r0 rfl ?_
 refine ⟨rfl, rfl, (nl rfl), ?_⟩
 exact eE hm
 replace hm := qbb (qc4 aU bo) hm
 exact eE hm
 refine qaq (cs rfl rfl hm ?_ ?_) <;> intro bM hm
 refine qaj ?_
 refine qc1 (j' := 8) rfl rfl ?_
 refine qea r1 rfl ?_
 refine ⟨rfl, rfl, (nl rfl), ?_⟩
 exact eE hm
 refine qaq (cs rfl rfl hm ?_ ?_) <;> intro bz hm
 refine qaj ?_
 refine qc1 (j' := 9) rfl rfl ?_
 refine qea r1 rfl ?_
 refine ⟨rfl, rfl, (nl rfl), ?_⟩
 exact eE hm
 refine ro (qab r0 rfl (nl rfl) ?_)
 refine cb hm fun bR bA hm => ckx (Jdx bA :) ?_
 rintro _ _ _ ⟨bm, bg, bw, bh, bl, bf, rfl, bn, bv, bp, rfl⟩
 exact eE hm
