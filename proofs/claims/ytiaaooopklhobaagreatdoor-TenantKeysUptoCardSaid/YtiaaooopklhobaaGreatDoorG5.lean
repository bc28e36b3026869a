/- Functions of the program: mirrors, and that a call returns what the mirror says. Printed by gen.py. -/
import Derived.Test.YtiaaooopklhobaaGreatDoorG4
set_option linter.unusedVariables false
set_option linter.unusedSimpArgs false
open Go Go.SL Go.Proofs
noncomputable section
set_option maxRecDepth 1000000
set_option maxHeartbeats 8000000
def Ja9 (code : (List Jf)) : List Jf → Nat → Int → (List Jo) → Option (Fl (Int × Bool) (Int × (List Jo)))
  | [], _, ac, aW => some (Fl.go (ac, aW))
  | e0 :: bb, i0, ac, aW =>
    (ix aW (i0 : Int)).bind fun aS =>
    (Jde e0).bind fun aU =>
    (chk (InI ((code.length : Int) - 1))).bind fun _ =>
    if ((((!aU.2.2) || (!aS.Au)) || decide (aS.depth < aU.1)) || (!((decide (e0.Op = 12)) == (decide ((i0 : Int) = ((code.length : Int) - 1)))))) then
    some (Fl.ret (0, false))
    else
    (if decide (e0.Op = 3) then (Jcw aS e0.N).bind fun bf =>
    some (!bf) else some false).bind fun bg =>
    if bg then
    some (Fl.ret (0, false))
    else
    (chk (InI (aU.2.1 - aU.1))).bind fun _ =>
    (chk (InI (aS.depth + (aU.2.1 - aU.1)))).bind fun _ =>
    ((if decide (e0.Op = 4) then
    (chk ((64 : Int) ≠ 0 ∧ InI (Int.tdiv e0.N 64))).bind fun _ =>
    (chk (0 ≤ (Int.tdiv e0.N 64) ∧ (Int.tdiv e0.N 64) < 8)).bind fun _ =>
    (chk (0 ≤ (Int.tmod e0.N 64))).bind fun _ =>
    (chk (0 ≤ (Int.tdiv e0.N 64) ∧ (Int.tdiv e0.N 64) < 8)).bind fun _ =>
    (some (List.set [aS.At.f0, aS.At.f1, aS.At.f2, aS.At.f3, aS.At.f4, aS.At.f5, aS.At.f6, aS.At.f7] (Int.toNat (Int.tdiv e0.N 64)) (u64or (List.getD [aS.At.f0, aS.At.f1, aS.At.f2, aS.At.f3, aS.At.f4, aS.At.f5, aS.At.f6, aS.At.f7] (Int.toNat (Int.tdiv e0.N 64)) 0) (qoj 1 (Int.tmod e0.N 64))))).bind fun aV =>
    some ((List.getD aV 0 0), (List.getD aV 1 0), (List.getD aV 2 0), (List.getD aV 3 0), (List.getD aV 4 0), (List.getD aV 5 0), (List.getD aV 6 0), (List.getD aV 7 0))
    else
    some (aS.At.f0, aS.At.f1, aS.At.f2, aS.At.f3, aS.At.f4, aS.At.f5, aS.At.f6, aS.At.f7) : Option (Int × Int × Int × Int × Int × Int × Int × Int))).bind fun aT =>
    ((if (decide (e0.Op = 9) || decide (e0.Op = 10)) then
    if (decide (e0.N ≤ (i0 : Int)) || decide (e0.N ≥ (code.length : Int))) then
    some (Fl.ret (0, false))
    else
    (ix aW e0.N).bind fun bc =>
    (Ja6 aW ((e0.N).toNat) (⟨aS.Au, (aS.depth + (aU.2.1 - aU.1)), (⟨aT.1, aT.2.1, aT.2.2.1, aT.2.2.2.1, aT.2.2.2.2.1, aT.2.2.2.2.2.1, aT.2.2.2.2.2.2.1, aT.2.2.2.2.2.2.2⟩ : JaF)⟩ : Jo)).bind fun aY =>
    if (!aY.1) then
    some (Fl.ret (0, false))
    else
    some (Fl.go aY.2)
    else
    some (Fl.go aW) : Option (Fl (Int × Bool) ((List Jo))))).bind fun ba => ba.el (fun r => some (Fl.ret r)) fun aX =>
    if decide ((i0 : Int) = ((code.length : Int) - 1)) then
    some (Fl.ret ((max (max ac aS.depth) (aS.depth + (aU.2.1 - aU.1))), decide ((aS.depth + (aU.2.1 - aU.1)) = 0)))
    else
    if decide (e0.Op ≠ 9) then
    (ix aX ((i0 : Int) + 1)).bind fun bd =>
    (Ja6 aX ((((i0 : Int) + 1)).toNat) (⟨aS.Au, (aS.depth + (aU.2.1 - aU.1)), (⟨aT.1, aT.2.1, aT.2.2.1, aT.2.2.2.1, aT.2.2.2.2.1, aT.2.2.2.2.2.1, aT.2.2.2.2.2.2.1, aT.2.2.2.2.2.2.2⟩ : JaF)⟩ : Jo)).bind fun aZ =>
    if (!aZ.1) then
    some (Fl.ret (0, false))
    else
    Ja9 code bb (i0 + 1) (max (max ac aS.depth) (aS.depth + (aU.2.1 - aU.1))) aZ.2
    else
    Ja9 code bb (i0 + 1) (max (max ac aS.depth) (aS.depth + (aU.2.1 - aU.1))) aX
def Jdq (code : (List Jf)) : Option (Int × Bool) :=
  if (decide ((code.length : Int) < 1) || decide ((code.length : Int) > 2048)) then
  some (0, false)
  else
  (chk ((0 : Int) ≤ (code.length : Int) ∧ (code.length : Int) ≤ (lim : Int))).bind fun _ =>
  (ix (List.replicate (Int.toNat (code.length : Int)) ((⟨false, 0, (⟨0, 0, 0, 0, 0, 0, 0, 0⟩ : JaF)⟩ : Jo) : Jo)) 0).bind fun aS =>
  (chk (code.length ≤ qbg)).bind fun _ =>
  (Ja9 code code 0 0 ((List.replicate (Int.toNat (code.length : Int)) ((⟨false, 0, (⟨0, 0, 0, 0, 0, 0, 0, 0⟩ : JaF)⟩ : Jo) : Jo)).set ((0 : Int).toNat) (⟨true, aS.depth, aS.At⟩ : Jo))).bind fun s0 => s0.el some fun t0 =>
  some (0, false)
theorem Jef {code : (List Jf)} {aa : Option Addr} {ab : Nat} {n0 : Nat} {K : Hp} {r : Int × Bool}
    (hm : Jdq code = some r) (hX : RdC Jf.enc K aa ab 3 code ∧ n0 = code.length ∧ GG K) :
    Fn Tryz.prog 106 [.slice aa n0 ab] K [] (fun v K' H' => v = .tuple #[.int .i64 r.1, .bool r.2] ∧ H' = []) := by
 obtain ⟨ae, cP, hG⟩ := hX
 subst cP
 refine Fn.enter Tryz.func106 Tryz.call106 rfl fun F => ?_
 unfold Jdq at hm
 refine jR (σ := Unit) (rg 13 8) (fun _ => [(20, .bool (decide ((code.length : Int) < 1) || decide ((code.length : Int) > 2048)))]) (fun cZ => True) ?_ ?_
 refine qah rfl ?_
 refine ro (qak rfl ?_)
 refine qae ?_ ?_ <;> intro bj
 refine ct bj (ct bj (ct bj ?_))
 exact eMt () ⟨bq (((qcj bj)).symm), trivial⟩
 refine cf bj (ro (qak rfl (cf bj (cf bj ?_))))
 exact eMt () ⟨bq (qg2 (b := decide ((code.length : Int) > 2048)) bj), trivial⟩
 rintro _ _ dg
 refine cs rfl rfl hm ?_ ?_ <;> intro di hm
 exact eE hm
 refine ro (qak rfl ?_)
 obtain ⟨cV, hm⟩ := qax hm
 refine qne (enc := Jo.enc) ((⟨false, 0, (⟨0, 0, 0, 0, 0, 0, 0, 0⟩ : JaF)⟩ : Jo) : Jo) qp9 rfl rfl rfl cV fun ca => ?_
 obtain ⟨ce, cI, cj, hm⟩ := ixb hm
 refine RStep.ofN (qad rfl rfl (qcm (fun _ => ⟨_, _, rfl⟩) cj) cI (qaz List.length_replicate.symm cI cj) (qa8 rfl (qcm (fun _ => ⟨_, _, rfl⟩) cj) ?_))
 refine qd8 (o := 0) (y := (⟨true, ce.depth, ce.At⟩ : Jo)) ce r0 rfl cj rfl (by (conv => whnf); exact ⟨rfl, rfl, (nl rfl), rfl, rfl, rfl⟩) ?_
 refine ro (qak rfl ?_)
 obtain ⟨bZ, hm⟩ := qax hm
 obtain ⟨s0, aV, hm⟩ := bnd hm
 refine lD (σ := (Int × (List Jo))) ([2,3] ++ rg 5 8 ++ rg 29 129) [1] (fun i0 => [(29, .int .i64 (i0 : Int))]) (fun t0 => [(5, .int .i64 t0.1)]) (fun t0 => [qau Jo.enc (some ⟨ca, 0, none⟩) 228 10 (Int.toNat (code.length : Int)) t0.2]) (fun t0 => (0 < t0.2.length → Has (some ⟨ca, 0, none⟩)) ∧ (Int.toNat (code.length : Int)) = t0.2.length) (fun i0 t0 => Ja9 code (code.drop i0) i0 t0.1 t0.2 = some s0) (fun t0 => s0 = Fl.go t0) (fun i0 => code.length - i0) 0 (0, ((List.replicate (Int.toNat (code.length : Int)) ((⟨false, 0, (⟨0, 0, 0, 0, 0, 0, 0, 0⟩ : JaF)⟩ : Jo) : Jo)).set ((0 : Int).toNat) (⟨true, ce.depth, ce.At⟩ : Jo))) aV (And.intro ⟨⟨(by first | simpa using (fun _ => ⟨_, _, rfl⟩) | exact fun _ => ⟨_, _, rfl⟩), ((List.length_replicate.symm).trans List.length_set.symm)⟩, ⟨rfl, rfl, trivial⟩, _, (sp rfl)⟩ (And.intro ?_ ?_))
 clear aV
 rintro i0 ⟨ac, cK⟩ ⟨bJ, bu⟩ aV j0
 dsimp only at aV ⊢
 refine qac rfl ?_
 refine qae ?_ ?_ <;> intro w0
 obtain ⟨e0, bK, cR⟩ := ltx w0
 rw [cR, Ja9.eq_2] at aV
 refine qal rfl ?_
 refine RStep.ofN (qad rfl rfl (qfy ae.rd bK) (nn _) (qbm bK) (ro (qan i0 _ ae.rd rfl (mp bK) rfl ?_)))
 refine qai rfl fun b7 => ?_
 refine qaa r0 rfl ⟨rfl, rfl, (nl rfl), ?_⟩
 obtain ⟨bb, cE, cr, aV⟩ := ixb aV
 refine RStep.ofN (qad rfl rfl (qcm bJ cr) cE (qaz bu cE cr) (ro (qh0 (i := ((i0 : Int)).toNat) r1 rfl cr rfl rfl ?_)))
 refine qai rfl fun b8 => ?_
 refine qaa r0 rfl ⟨rfl, rfl, (nl rfl), ?_⟩
 refine ro (qab r1 rfl (nl rfl) ?_)
 refine cb aV fun bn de aV => cgx (Jd5 de :) ?_
 refine ro (qak rfl ?_)
 obtain ⟨cN, aV⟩ := qax aV
 refine qam cN (qaf ?_)
 refine qah rfl ?_
 refine qaw ?_
 refine qae ?_ ?_ <;> intro bd
 refine ct bd (ct bd (ct bd (cT (cT (cT (cT (cT ?_)))))))
 refine cT (cT (cT (cT (cT (cT ?_)))))
 replace aV := ift (qcj (qcj (qcj (qfh (qla bd))))) aV
 refine cT (cT (cT (cT (cT (cT (qac rfl (cT ?_)))))))
 exact eE (er aV hm)
 refine fa rfl (cf bd (ro (ld r0 rfl rfl (cf bd (qaw (cf bd ?_))))))
 refine qae ?_ ?_ <;> intro bc
 refine ct bc (ct bc (ct bc (ct bc (cT (cT (cT (cT ?_)))))))
 refine cT (cT ?_)
 replace aV := ift (qcj (qcj (qgx (qdg (qib bd)) (qfh (qla bc))))) aV
 refine cT (cT (cT (cT (cT (cT (qac rfl (cT ?_)))))))
 exact eE (er aV hm)
 refine fa rfl (cf bc (ro (ld r0 rfl rfl (cf bc (cf bc (cf bc ?_))))))
 refine qae ?_ ?_ <;> intro ba
 refine ct ba (ct ba (ct ba (ct ba (ct ba ?_))))
 replace aV := ift (qcj (qgx (qeh (qdg (qib bd)) (qdg (qib bc))) ba)) aV
 refine cT (cT (cT (cT (cT (cT (qac rfl (cT ?_)))))))
 exact eE (er aV hm)
 refine fa rfl (cf ba (ro (ld r1 rfl rfl (cf ba (qaf (cf ba (cf ba (qhw rfl ?_))))))))
 refine cf ba ?_
 refine qae ?_ ?_ <;> intro aY
 replace aV := ift (qgx (qeh (qeh (qdg (qib bd)) (qdg (qib bc))) ba) aY) aV
 refine ct aY (ct aY (ct aY (ct aY (ct aY (qac rfl (cT ?_))))))
 exact eE (er aV hm)
 replace aV := qa7 (qeh (qeh (qeh (qdg (qib bd)) (qdg (qib bc))) ba) aY) aV
 refine fa rfl (cf aY (ro (ld r1 rfl rfl (cf aY (qaf (cf aY ?_))))))
 obtain ⟨dh, bR, aV⟩ := bnd aV
 refine cS bR (fun bf bR => ?_) fun bf bR => ?_
 refine ro (qab r0 rfl (nl rfl) (ct bf (fa rfl (ct bf (ro (ld r1 rfl rfl (ct bf ?_)))))))
 refine cb bR fun dj df bR => cg0 (JdE df :) ?_
 refine ct bf (qaw (cf aY (ct bf (cf aY (qac rfl ?_)))))
 refine qae ?_ ?_ <;> intro cH
 replace aV := ift ((si bR).symm.trans (qfh (qla cH))) aV
 exact eE (er aV hm)
 replace aV := qa7 ((si bR).symm.trans (qdg (qib cH))) aV
 refine fa rfl (ro (ld r0 rfl rfl (ro (qce (fa rfl (ro (ld r0 rfl rfl ?_)))))))
 refine ci aV fun aV => ?_
 obtain ⟨cD, aV⟩ := qax aV
 refine qam cD (fa rfl ?_)
 refine qaa r0 rfl ⟨rfl, rfl, (nl rfl), ?_⟩
 refine fa rfl (ro (ld r0 rfl rfl (ro (qce (fa rfl (ro (ld r1 rfl rfl (qaf ?_))))))))
 obtain ⟨cC, bh, aV⟩ := bnd aV
 refine jD (σ := (Int × Int × Int × Int × Int × Int × Int × Int)) (rg 99 13) [1, 2, 3] (fun bm => []) (fun bm => [Cells b8 228 [.bool bb.Au, .int .i64 (bb.depth + (bn.2.1 - bn.1)), .int .u64 bm.1, .int .u64 bm.2.1, .int .u64 bm.2.2.1, .int .u64 bm.2.2.2.1, .int .u64 bm.2.2.2.2.1, .int .u64 bm.2.2.2.2.2.1, .int .u64 bm.2.2.2.2.2.2.1, .int .u64 bm.2.2.2.2.2.2.2]]) (fun bm => bm = cC) (And.intro ?_ ?_)
 refine cs rfl rfl bh ?_ ?_ <;> intro cY bh
 refine qa2 ⟨⟨[], false⟩, _, [(_, _), (_, _)], []⟩ 12 rfl (by kernel_rfl) ⟨Hp.Le.refl _, (sc [1,0] rfl), ci0⟩ ?_
 refine fa rfl (qap m0 rfl rfl ?_)
 obtain ⟨bM, bh⟩ := qax bh
 refine ql0 bM.1 bM.2 (fa rfl ?_)
 obtain ⟨bp, bh⟩ := qax bh
 refine qbv (sz := 1) rfl rfl bp.1 bp.2 ?_
 refine qfz (L := [bb.At.f0, bb.At.f1, bb.At.f2, bb.At.f3, bb.At.f4, bb.At.f5, bb.At.f6, bb.At.f7]) (pre := [.bool bb.Au, .int .i64 (bb.depth + (bn.2.1 - bn.1))]) (post := []) m1 rfl (by simp) rfl bp.1 bp.2 ?_
 refine fa rfl (qap m0 rfl rfl (qpe (by decide) ?_))
 obtain ⟨bT, bh⟩ := qax bh
 refine qmc bT ?_
 refine qol ?_
 refine fa rfl ?_
 obtain ⟨bo, bh⟩ := qax bh
 refine qbv (sz := 1) rfl rfl bo.1 bo.2 ?_
 obtain ⟨br, bF, bh⟩ := bnd bh
 replace bF := Option.some.inj bF
 have bY : br.length = 8 := by rw [← bF]; simp
 refine qmd (L := [bb.At.f0, bb.At.f1, bb.At.f2, bb.At.f3, bb.At.f4, bb.At.f5, bb.At.f6, bb.At.f7]) (pre := [.bool bb.Au, .int .i64 (bb.depth + (bn.2.1 - bn.1))]) (post := []) (cs' := [.bool bb.Au, .int .i64 (bb.depth + (bn.2.1 - bn.1)), .int .u64 (List.getD br 0 0), .int .u64 (List.getD br 1 0), .int .u64 (List.getD br 2 0), .int .u64 (List.getD br 3 0), .int .u64 (List.getD br 4 0), .int .u64 (List.getD br 5 0), .int .u64 (List.getD br 6 0), .int .u64 (List.getD br 7 0)]) r0 rfl (by simp) rfl bo.1 bo.2 bF (by rw [qrd bY]; rfl) ?_
 refine ⟨⟨Hp.emp_le _, (pf rfl), ci0⟩, ?_⟩
 exact eM bh _
 exact eM bh _
 rintro bm rfl cQ
 refine jR (σ := Unit) (rg 112 8) (fun _ => [(119, .bool (decide (e0.Op = 9) || decide (e0.Op = 10)))]) (fun cW => True) ?_ ?_
 refine qah rfl ?_
 refine fa rfl (ro (ld r1 rfl rfl (qaf ?_)))
 refine qae ?_ ?_ <;> intro aW
 refine ct aW (ct aW (ct aW ?_))
 exact eMt () ⟨bq (((qcj aW)).symm), trivial⟩
 refine fa rfl (cf aW (ro (ld r1 rfl rfl (cf aW (qaf (cf aW ?_))))))
 exact eMt () ⟨bq (qg2 (b := decide (e0.Op = 10)) aW), trivial⟩
 rintro _ _ cL
 obtain ⟨cn, aZ, aV⟩ := bnd aV
 refine jD (σ := ((List Jo))) ([2,3] ++ rg 120 20) [0, 1, 3] (fun bC => []) (fun bC => [qau Jo.enc (some ⟨ca, 0, none⟩) 228 10 (Int.toNat (code.length : Int)) bC]) (fun bC => (0 < bC.length → Has (some ⟨ca, 0, none⟩)) ∧ (Int.toNat (code.length : Int)) = bC.length ∧ cn = Fl.go bC) (And.intro ?_ ?_)
 refine cs rfl rfl aZ ?_ ?_ <;> intro cA aZ
 refine qa3 ⟨⟨[], false⟩, _, [(_, _), (_, _)], []⟩ (by kernel_rfl) ⟨Hp.Le.refl _, (sc [1,0] rfl), ci0⟩ ?_
 refine fa rfl (qap m0 rfl rfl ?_)
 refine qae ?_ ?_ <;> intro aU
 refine ct aU (ct aU (ct aU (ct aU (ct aU ?_))))
 replace aZ := ift (qcj aU) aZ
 refine cT (cT (cT (cT (cT (cT (cT (cT ?_)))))))
 refine qac rfl (cT ?_)
 exact eE (er (er aZ aV :) hm)
 refine fa rfl (cf aU (qap m0 rfl rfl (cf aU (cf aU (qcc rfl (cf aU (cf aU ?_)))))))
 refine qae ?_ ?_ <;> intro aS
 replace aZ := ift (qgx aU aS) aZ
 refine ct aS (ct aS (ct aS (ct aS (ct aS (ct aS (ct aS (qac rfl ?_)))))))
 refine cT ?_
 exact eE (er (er aZ aV :) hm)
 replace aZ := qa7 (qeh aU aS) aZ
 refine cf aS (fa rfl (cf aS (qap m0 rfl rfl (cf aS ?_))))
 obtain ⟨co, bO, bI, aZ⟩ := ixb aZ
 refine qad rfl rfl (qcm bJ bI) bO (qaz bu bO bI) (cf aS (qbx m1 rfl (nl rfl) (cf aS ?_)))
 refine cb aZ fun bU bS aZ => ckx (JaL bS :) ?_
 rintro _ _ _ ⟨rfl, bw, bB, rfl⟩
 refine qk (sc [2,1] rfl) ?_
 refine cf aS (qaw (cf aS ?_))
 refine cs rfl rfl aZ ?_ ?_ <;> intro cB aZ
 exact eE (er (er aZ aV :) hm)
 exact mt (bU.2) trivial rfl (pf rfl) lr ⟨bw, ((bu).trans bB), (si aZ).symm⟩
 exact eM aZ _
 rintro bC ⟨bP, bD, rfl⟩ cX
 replace aV := elg aV
 refine cs rfl rfl aV ?_ ?_ <;> intro cm aV
 refine qa3 ⟨⟨[], false⟩, _, [(_, _)], []⟩ (by kernel_rfl) ⟨Hp.Le.refl _, (sc [1] rfl), ci0⟩ ?_
 refine fa rfl (qap m0 rfl rfl (qaf ?_))
 exact eE (er aV hm)
 refine qa3 ⟨⟨[], false⟩, _, [(_, _), (_, _)], []⟩ (by kernel_rfl) ⟨Hp.Le.refl _, (sc [2,1] rfl), ci0⟩ ?_
 refine fa rfl (qap m0 rfl rfl (qa6 ?_))
 refine cS aV (fun aT aV => ?_) fun aT aV => ?_
 refine ct aT (ct aT (qam (qbj bK bZ) (ct aT ?_)))
 obtain ⟨cu, bN, bL, aV⟩ := ixb aV
 refine qad rfl rfl (qcm bP bL) bN (qaz bD bN bL) (ct aT (qbx m1 rfl (nl rfl) (ct aT ?_)))
 refine cb aV fun bW bX aV => ckx (JaL bX :) ?_
 rintro _ _ _ ⟨rfl, bv, bA, rfl⟩
 refine qk (sc [2,1] rfl) ?_
 refine ct aT (qaw (ct aT ?_))
 refine cs rfl rfl aV ?_ ?_ <;> intro cy aV
 exact eE (er aV hm)
 refine qam (qbj bK bZ) ?_
 exact rd (i0 + 1, ((max (max ac bb.depth) (bb.depth + (bn.2.1 - bn.1))), bW.2)) ⟨rfl, rfl, trivial⟩ rfl (sc [0,2] rfl) lr (ltm bK) ⟨⟨bv, ((bD).trans bA)⟩, aV⟩
 refine cf aT (cf aT (cf aT (cf aT (cf aT (cf aT (cf aT (qac rfl ?_)))))))
 refine cF (qam (qbj bK bZ) ?_)
 exact eR aV (_, (_, _))
 refine cf bf (cf bf (cf bf (cf bf (cf aY (cf bf (cf aY (qac rfl ?_)))))))
 refine cF ?_
 replace aV := qa7 (si bR).symm aV
 refine fa rfl (ro (ld r0 rfl rfl (ro (qce (fa rfl (ro (ld r0 rfl rfl ?_)))))))
 refine ci aV fun aV => ?_
 obtain ⟨cD, aV⟩ := qax aV
 refine qam cD (fa rfl ?_)
 refine qaa r0 rfl ⟨rfl, rfl, (nl rfl), ?_⟩
 refine fa rfl (ro (ld r0 rfl rfl (ro (qce (fa rfl (ro (ld r1 rfl rfl (qaf ?_))))))))
 obtain ⟨cw, bg, aV⟩ := bnd aV
 refine jD (σ := (Int × Int × Int × Int × Int × Int × Int × Int)) (rg 99 13) [1, 2, 3] (fun bl => []) (fun bl => [Cells b8 228 [.bool bb.Au, .int .i64 (bb.depth + (bn.2.1 - bn.1)), .int .u64 bl.1, .int .u64 bl.2.1, .int .u64 bl.2.2.1, .int .u64 bl.2.2.2.1, .int .u64 bl.2.2.2.2.1, .int .u64 bl.2.2.2.2.2.1, .int .u64 bl.2.2.2.2.2.2.1, .int .u64 bl.2.2.2.2.2.2.2]]) (fun bl => bl = cw) (And.intro ?_ ?_)
 refine cs rfl rfl bg ?_ ?_ <;> intro cY bg
 refine qa2 ⟨⟨[], false⟩, _, [(_, _), (_, _)], []⟩ 12 rfl (by kernel_rfl) ⟨Hp.Le.refl _, (sc [1,0] rfl), ci0⟩ ?_
 refine fa rfl (qap m0 rfl rfl ?_)
 obtain ⟨bM, bg⟩ := qax bg
 refine ql0 bM.1 bM.2 (fa rfl ?_)
 obtain ⟨bp, bg⟩ := qax bg
 refine qbv (sz := 1) rfl rfl bp.1 bp.2 ?_
 refine qfz (L := [bb.At.f0, bb.At.f1, bb.At.f2, bb.At.f3, bb.At.f4, bb.At.f5, bb.At.f6, bb.At.f7]) (pre := [.bool bb.Au, .int .i64 (bb.depth + (bn.2.1 - bn.1))]) (post := []) m1 rfl (by simp) rfl bp.1 bp.2 ?_
 refine fa rfl (qap m0 rfl rfl (qpe (by decide) ?_))
 obtain ⟨bT, bg⟩ := qax bg
 refine qmc bT ?_
 refine qol ?_
 refine fa rfl ?_
 obtain ⟨bo, bg⟩ := qax bg
 refine qbv (sz := 1) rfl rfl bo.1 bo.2 ?_
 obtain ⟨bt, bG, bg⟩ := bnd bg
 replace bG := Option.some.inj bG
 have bV : bt.length = 8 := by rw [← bG]; simp
 refine qmd (L := [bb.At.f0, bb.At.f1, bb.At.f2, bb.At.f3, bb.At.f4, bb.At.f5, bb.At.f6, bb.At.f7]) (pre := [.bool bb.Au, .int .i64 (bb.depth + (bn.2.1 - bn.1))]) (post := []) (cs' := [.bool bb.Au, .int .i64 (bb.depth + (bn.2.1 - bn.1)), .int .u64 (List.getD bt 0 0), .int .u64 (List.getD bt 1 0), .int .u64 (List.getD bt 2 0), .int .u64 (List.getD bt 3 0), .int .u64 (List.getD bt 4 0), .int .u64 (List.getD bt 5 0), .int .u64 (List.getD bt 6 0), .int .u64 (List.getD bt 7 0)]) r0 rfl (by simp) rfl bo.1 bo.2 bG (by rw [qrd bV]; rfl) ?_
 refine ⟨⟨Hp.emp_le _, (pf rfl), ci0⟩, ?_⟩
 exact eM bg _
 exact eM bg _
 rintro bl rfl cU
 refine jR (σ := Unit) (rg 112 8) (fun _ => [(119, .bool (decide (e0.Op = 9) || decide (e0.Op = 10)))]) (fun dc => True) ?_ ?_
 refine qah rfl ?_
 refine fa rfl (ro (ld r1 rfl rfl (qaf ?_)))
 refine qae ?_ ?_ <;> intro aW
 refine ct aW (ct aW (ct aW ?_))
 exact eMt () ⟨bq (((qcj aW)).symm), trivial⟩
 refine fa rfl (cf aW (ro (ld r1 rfl rfl (cf aW (qaf (cf aW ?_))))))
 exact eMt () ⟨bq (qg2 (b := decide (e0.Op = 10)) aW), trivial⟩
 rintro _ _ cM
 obtain ⟨cz, aX, aV⟩ := bnd aV
 refine jD (σ := ((List Jo))) ([2,3] ++ rg 120 20) [0, 1, 3] (fun bz => []) (fun bz => [qau Jo.enc (some ⟨ca, 0, none⟩) 228 10 (Int.toNat (code.length : Int)) bz]) (fun bz => (0 < bz.length → Has (some ⟨ca, 0, none⟩)) ∧ (Int.toNat (code.length : Int)) = bz.length ∧ cz = Fl.go bz) (And.intro ?_ ?_)
 refine cs rfl rfl aX ?_ ?_ <;> intro cA aX
 refine qa3 ⟨⟨[], false⟩, _, [(_, _), (_, _)], []⟩ (by kernel_rfl) ⟨Hp.Le.refl _, (sc [1,0] rfl), ci0⟩ ?_
 refine fa rfl (qap m0 rfl rfl ?_)
 refine qae ?_ ?_ <;> intro aU
 refine ct aU (ct aU (ct aU (ct aU (ct aU ?_))))
 replace aX := ift (qcj aU) aX
 refine cT (cT (cT (cT (cT (cT (cT (cT ?_)))))))
 refine qac rfl (cT ?_)
 exact eE (er (er aX aV :) hm)
 refine fa rfl (cf aU (qap m0 rfl rfl (cf aU (cf aU (qcc rfl (cf aU (cf aU ?_)))))))
 refine qae ?_ ?_ <;> intro aS
 replace aX := ift (qgx aU aS) aX
 refine ct aS (ct aS (ct aS (ct aS (ct aS (ct aS (ct aS (qac rfl ?_)))))))
 refine cT ?_
 exact eE (er (er aX aV :) hm)
 replace aX := qa7 (qeh aU aS) aX
 refine cf aS (fa rfl (cf aS (qap m0 rfl rfl (cf aS ?_))))
 obtain ⟨co, bO, bI, aX⟩ := ixb aX
 refine qad rfl rfl (qcm bJ bI) bO (qaz bu bO bI) (cf aS (qbx m1 rfl (nl rfl) (cf aS ?_)))
 refine cb aX fun bU bS aX => ckx (JaL bS :) ?_
 rintro _ _ _ ⟨rfl, bw, bB, rfl⟩
 refine qk (sc [2,1] rfl) ?_
 refine cf aS (qaw (cf aS ?_))
 refine cs rfl rfl aX ?_ ?_ <;> intro cB aX
 exact eE (er (er aX aV :) hm)
 exact mt (bU.2) trivial rfl (pf rfl) lr ⟨bw, ((bu).trans bB), (si aX).symm⟩
 exact eM aX _
 rintro bz ⟨bQ, bH, rfl⟩ cO
 replace aV := elg aV
 refine cs rfl rfl aV ?_ ?_ <;> intro cm aV
 refine qa3 ⟨⟨[], false⟩, _, [(_, _)], []⟩ (by kernel_rfl) ⟨Hp.Le.refl _, (sc [1] rfl), ci0⟩ ?_
 refine fa rfl (qap m0 rfl rfl (qaf ?_))
 exact eE (er aV hm)
 refine qa3 ⟨⟨[], false⟩, _, [(_, _), (_, _)], []⟩ (by kernel_rfl) ⟨Hp.Le.refl _, (sc [2,1] rfl), ci0⟩ ?_
 refine fa rfl (qap m0 rfl rfl (qa6 ?_))
 refine cS aV (fun aT aV => ?_) fun aT aV => ?_
 refine ct aT (ct aT (qam (qbj bK bZ) (ct aT ?_)))
 obtain ⟨cu, bN, bL, aV⟩ := ixb aV
 refine qad rfl rfl (qcm bQ bL) bN (qaz bH bN bL) (ct aT (qbx m1 rfl (nl rfl) (ct aT ?_)))
 refine cb aV fun bW bX aV => ckx (JaL bX :) ?_
 rintro _ _ _ ⟨rfl, bv, bA, rfl⟩
 refine qk (sc [2,1] rfl) ?_
 refine ct aT (qaw (ct aT ?_))
 refine cs rfl rfl aV ?_ ?_ <;> intro cy aV
 exact eE (er aV hm)
 refine qam (qbj bK bZ) ?_
 exact rd (i0 + 1, ((max (max ac bb.depth) (bb.depth + (bn.2.1 - bn.1))), bW.2)) ⟨rfl, rfl, trivial⟩ rfl (sc [0,2] rfl) lr (ltm bK) ⟨⟨bv, ((bH).trans bA)⟩, aV⟩
 refine cf aT (cf aT (cf aT (cf aT (cf aT (cf aT (cf aT (qac rfl ?_)))))))
 refine cF (qam (qbj bK bZ) ?_)
 exact eR aV (_, (_, _))
 rw [lty w0, Ja9.eq_1] at aV
 refine cT ?_
 exact eM aV _
 rintro t0 ⟨cJ, cG⟩ rfl j0
 replace hm := elg hm
 exact eE hm

def Jdf (code : (List Jf)) : Option (Err) :=
  (Jdq code).bind fun x7 =>
  if (!x7.2) then
  some (some 2)
  else
  some none
theorem Jd6 {code : (List Jf)} {aa : Option Addr} {ab : Nat} {n0 : Nat} {K : Hp} {r : Err}
    (hm : Jdf code = some r) (hX : RdC Jf.enc K aa ab 3 code ∧ n0 = code.length ∧ GG K) :
    Fn Tryz.prog 68 [.slice aa n0 ab] K [] (fun v K' H' => v = qcy 48 r ∧ H' = []) := by
 obtain ⟨ae, aS, hG⟩ := hX
 subst aS
 refine Fn.enter Tryz.func68 Tryz.call68 rfl fun F => ?_
 unfold Jdf at hm
 refine cb hm fun x7 q7 hm => cgx (Jef q7 :) ?_
 refine qaw ?_
 refine cs rfl rfl hm ?_ ?_ <;> intro aT hm
 refine qas rfl ?_
 exact eE hm
 exact eE hm

def JbQ (n' : Int) : Option (Ji) :=
  some (⟨2, (max (-1099511627776) (min n' 1099511627776)), ([] : Str), false⟩ : Ji)
theorem Jbj {n' : Int} {K : Hp} {r : Ji}
    (hm : JbQ n' = some r)  :
    Fn Tryz.prog 108 [.int .i64 n'] K [] (fun v K' H' => v = .agg #[.int .i64 r.kind, .int .i64 r.n, str r.s, .bool r.As] ∧ H' = []) := by
 refine Fn.enter Tryz.func108 Tryz.call108 rfl fun F => ?_
 unfold JbQ at hm
 refine qai rfl fun b2 => ?_
 refine ro (qo8 (ro (qce (qaj rfl rfl (cT (cT ?_))))))
 refine qaa r0 rfl ⟨rfl, rfl, (nl rfl), ?_⟩
 exact ro (qab r0 rfl (nl rfl) (eE hm))

def J3 (m : Jh) (x : Ji) (operation : Bool) : Option (Err × Jh) :=
  if decide ((x.s.length : Int) > 2048) then
  some ((some 5), m)
  else
  ((if (operation && decide (x.kind = 1)) then
  (chk ((64 : Int) ≠ 0 ∧ InI (Int.tdiv (x.s.length : Int) 64))).bind fun _ =>
  (chk (InI (m.result.Aj + (Int.tdiv (x.s.length : Int) 64)))).bind fun _ =>
  if decide ((m.result.Aj + (Int.tdiv (x.s.length : Int) 64)) > m.most) then
  some (Fl.ret ((some 13), (⟨m.Aq, m.most, (⟨m.result.Ae, m.result.Af, m.result.Ag, m.result.Vary, m.result.Ah, m.result.TTL, m.result.Ai, (m.result.Aj + (Int.tdiv (x.s.length : Int) 64)), m.result.Ak, m.result.Al⟩ : Jq), m.stack, m.Ap⟩ : Jh)))
  else
  some (Fl.go (⟨m.Aq, m.most, (⟨m.result.Ae, m.result.Af, m.result.Ag, m.result.Vary, m.result.Ah, m.result.TTL, m.result.Ai, (m.result.Aj + (Int.tdiv (x.s.length : Int) 64)), m.result.Ak, m.result.Al⟩ : Jq), m.stack, m.Ap⟩ : Jh))
  else
  some (Fl.go m) : Option (Fl (Err × Jh) (Jh)))).bind fun aT => aT.el some fun aS =>
  (chk (aS.stack.length + [x].length ≤ lim)).bind fun _ =>
  some (none, (⟨m.Aq, aS.most, aS.result, (aS.stack ++ [x]), aS.Ap⟩ : Jh))
theorem J6 {m : Jh} {x : Ji} {operation : Bool} {b0 : Nat} {aa : Option Addr} {ab : Nat} {ah : Option Addr} {ak : Nat} {am : Option Addr} {ar : Nat} {aw : Option Addr} {ay : Nat} {ax : Option Addr} {az : Nat} {K : Hp} {r : Err × Jh}
    (hm : J3 m x operation = some r) (hX : RdC Jc.enc K aa ab 2 m.Aq.Ao ∧ (0 < m.result.Ag.length → Has ah) ∧ (0 < m.result.Vary.length → Has am) ∧ (0 < m.result.Ah.length → Has aw) ∧ (0 < m.stack.length → Has ax) ∧ m.Ap.length = 512) :
    Fn Tryz.prog 107 [.pointer (some ⟨b0, 0, none⟩), .agg #[.int .i64 x.kind, .int .i64 x.n, str x.s, .bool x.As], .bool operation] K [Cells b0 131 ((str m.Aq.Am) :: (str m.Aq.An) :: (str m.Aq.Ae) :: (str m.Aq.Af) :: (.slice aa m.Aq.Ao.length ab) :: (.int .i64 m.most) :: (str m.result.Ae) :: (str m.result.Af) :: (.slice ah m.result.Ag.length ak) :: (.slice am m.result.Vary.length ar) :: (.slice aw m.result.Ah.length ay) :: (.int .i64 m.result.TTL) :: (.int .i64 m.result.Ai) :: (.int .i64 m.result.Aj) :: (.bool m.result.Ak) :: (.bool m.result.Al) :: (.slice ax m.stack.length az) :: (m.Ap.map Ji.enc).flatten), qau Jc.enc ah 41 2 ak m.result.Ag, qau eS am 9 1 ar m.result.Vary, qau eS aw 9 1 ay m.result.Ah, qau Ji.enc ax 128 4 az m.stack] (fun v K' H' => ∃ ar_0 : Option Addr, ∃ cr_0 : Nat, ∃ ar_1 : Option Addr, ∃ cr_1 : Nat, ∃ ar_2 : Option Addr, ∃ cr_2 : Nat, ∃ ar_3 : Option Addr, ∃ cr_3 : Nat, v = qcy 48 r.1 ∧ (0 < r.2.result.Ag.length → Has ar_0) ∧ (0 < r.2.result.Vary.length → Has ar_1) ∧ (0 < r.2.result.Ah.length → Has ar_2) ∧ (0 < r.2.stack.length → Has ar_3) ∧ r.2.Ap.length = 512 ∧ H' = [Cells b0 131 ((str m.Aq.Am) :: (str m.Aq.An) :: (str m.Aq.Ae) :: (str m.Aq.Af) :: (.slice aa m.Aq.Ao.length ab) :: (.int .i64 r.2.most) :: (str r.2.result.Ae) :: (str r.2.result.Af) :: (.slice ar_0 r.2.result.Ag.length cr_0) :: (.slice ar_1 r.2.result.Vary.length cr_1) :: (.slice ar_2 r.2.result.Ah.length cr_2) :: (.int .i64 r.2.result.TTL) :: (.int .i64 r.2.result.Ai) :: (.int .i64 r.2.result.Aj) :: (.bool r.2.result.Ak) :: (.bool r.2.result.Al) :: (.slice ar_3 r.2.stack.length cr_3) :: (r.2.Ap.map Ji.enc).flatten), qau Jc.enc ar_0 41 2 cr_0 r.2.result.Ag, qau eS ar_1 9 1 cr_1 r.2.result.Vary, qau eS ar_2 9 1 cr_2 r.2.result.Ah, qau Ji.enc ar_3 128 4 cr_3 r.2.stack]) := by
 obtain ⟨ae, bt, bm, bn, br, bo⟩ := hX
 refine Fn.enter Tryz.func107 Tryz.call107 rfl fun F => ?_
 unfold J3 at hm
 refine qar ?_
 intro b4
 refine fa rfl (ro (ld r0 rfl rfl (ro (qa0 rfl ?_))))
 refine cs rfl rfl hm ?_ ?_ <;> intro bI hm
 refine qas rfl ?_
 exact eE hm
 refine jR (σ := Unit) (rg 12 6) (fun _ => [(17, .bool (operation && decide (x.kind = 1)))]) (fun bA => True) ?_ ?_
 refine qah rfl ?_
 refine qae ?_ ?_ <;> intro bc
 refine fa rfl (ct bc (ro (ld r0 rfl rfl (ct bc (qaf (ct bc ?_))))))
 exact eMt () ⟨bq (qcr (b := decide (x.kind = 1)) bc), trivial⟩
 refine cf bc (cf bc (cf bc ?_))
 exact eMt () ⟨bq (((qa9 bc)).symm), trivial⟩
 rintro _ _ bw
 obtain ⟨bl, bb, hm⟩ := bnd hm
 refine jD (σ := (Jh) × Option Addr × Nat × Option Addr × Nat × Option Addr × Nat × Option Addr × Nat) ([6] ++ rg 18 24) [0, 6] (fun (aS, aU, aY, aT, aX, aV, aZ, aW, ba) => []) (fun (aS, aU, aY, aT, aX, aV, aZ, aW, ba) => [Cells b0 131 ((str m.Aq.Am) :: (str m.Aq.An) :: (str m.Aq.Ae) :: (str m.Aq.Af) :: (.slice aa m.Aq.Ao.length ab) :: (.int .i64 aS.most) :: (str aS.result.Ae) :: (str aS.result.Af) :: (.slice aU aS.result.Ag.length aY) :: (.slice aT aS.result.Vary.length aX) :: (.slice aV aS.result.Ah.length aZ) :: (.int .i64 aS.result.TTL) :: (.int .i64 aS.result.Ai) :: (.int .i64 aS.result.Aj) :: (.bool aS.result.Ak) :: (.bool aS.result.Al) :: (.slice aW aS.stack.length ba) :: (aS.Ap.map Ji.enc).flatten), qau Jc.enc aU 41 2 aY aS.result.Ag, qau eS aT 9 1 aX aS.result.Vary, qau eS aV 9 1 aZ aS.result.Ah, qau Ji.enc aW 128 4 ba aS.stack]) (fun (aS, aU, aY, aT, aX, aV, aZ, aW, ba) => (0 < aS.result.Ag.length → Has aU) ∧ (0 < aS.result.Vary.length → Has aT) ∧ (0 < aS.result.Ah.length → Has aV) ∧ (0 < aS.stack.length → Has aW) ∧ aS.Ap.length = 512 ∧ bl = Fl.go aS) (And.intro ?_ ?_)
 refine cs rfl rfl bb ?_ ?_ <;> intro bG bb
 refine qa2 ⟨⟨[], false⟩, _, [(_, _), (_, _)], []⟩ 9 rfl (by kernel_rfl) ⟨Hp.Le.refl _, (sc [1,0] rfl), ci0⟩ ?_
 refine qag (fa rfl (fa rfl (qap m0 rfl rfl (fa rfl (qap m1 rfl rfl (qm9 rfl ?_))))))
 obtain ⟨bp, bb⟩ := qax bb
 refine ql0 bp.1 bp.2 ?_
 obtain ⟨bv, bb⟩ := qax bb
 refine qam bv (qag (fa rfl (fa rfl ?_)))
 refine qmi (cs' := (str m.Aq.Am) :: (str m.Aq.An) :: (str m.Aq.Ae) :: (str m.Aq.Af) :: (.slice aa m.Aq.Ao.length ab) :: (.int .i64 m.most) :: (str m.result.Ae) :: (str m.result.Af) :: (.slice ah m.result.Ag.length ak) :: (.slice am m.result.Vary.length ar) :: (.slice aw m.result.Ah.length ay) :: (.int .i64 m.result.TTL) :: (.int .i64 m.result.Ai) :: (.int .i64 (m.result.Aj + (Int.tdiv (x.s.length : Int) 64))) :: (.bool m.result.Ak) :: (.bool m.result.Al) :: (.slice ax m.stack.length az) :: (m.Ap.map Ji.enc).flatten) r1 rfl rfl (by exact rfl) (by exact nl rfl) (by exact rfl) ?_
 refine ⟨⟨Hp.emp_le _, (pf rfl), ci0⟩, ?_⟩
 refine qa3 ⟨⟨[], false⟩, _, [(_, _)], []⟩ (by kernel_rfl) ⟨Hp.Le.refl _, (pf rfl), ci0⟩ ?_
 refine qag (fa rfl (fa rfl (qap m0 rfl rfl (qag (fa rfl (qap m0 rfl rfl ?_))))))
 refine cs rfl rfl bb ?_ ?_ <;> intro bF bb
 refine qas rfl ?_
 exact eE (er bb hm)
 exact eM bb (_, _, _, _, _, _, _, _, _)
 exact eM bb (_, _, _, _, _, _, _, _, _)
 rintro ⟨aS, aU, aY, aT, aX, aV, aZ, aW, ba⟩ ⟨bj, bf, bd, bh, bg, rfl⟩ bB
 replace hm := elg hm
 refine qa2 ⟨⟨[], false⟩, _, [(_, _), (_, _)], []⟩ 8 rfl (by kernel_rfl) ⟨Hp.Le.refl _, (sc [0,4] rfl), ci0⟩ ?_
 refine qag (fa rfl (qap m0 rfl rfl (qbx m1 rfl (nl rfl) ?_)))
 refine bsO (len := 1) (enc := Ji.enc) (l := [x]) (cl := [.int .i64 x.kind, .int .i64 x.n, str x.s, .bool x.As]) qn6 rfl rfl (fun _ _ => rfl) rfl rfl rfl ?_ fun bH => ?_
 · conv => whnf
   refine cT ?_
   first | done | rfl
 refine qk (sc [1,5] rfl) ?_
 obtain ⟨bC, hm⟩ := qax hm
 refine apE rfl r5 qn6 (qat rfl r0 rfl (fun _ => rfl) (fun _ => rfl)) bC ?_
 intro bz bu bD
 refine qk (sc [2,5] rfl) ?_
 refine qag (fa rfl ?_)
 refine qmi (cs' := (str m.Aq.Am) :: (str m.Aq.An) :: (str m.Aq.Ae) :: (str m.Aq.Af) :: (.slice aa m.Aq.Ao.length ab) :: (.int .i64 aS.most) :: (str aS.result.Ae) :: (str aS.result.Af) :: (.slice aU aS.result.Ag.length aY) :: (.slice aT aS.result.Vary.length aX) :: (.slice aV aS.result.Ah.length aZ) :: (.int .i64 aS.result.TTL) :: (.int .i64 aS.result.Ai) :: (.int .i64 aS.result.Aj) :: (.bool aS.result.Ak) :: (.bool aS.result.Al) :: (.slice bz ((aS.stack ++ [x]).length) bu) :: (aS.Ap.map Ji.enc).flatten) r2 rfl rfl (by exact rfl) (by exact nl rfl) (by exact rfl) ?_
 refine ⟨⟨Hp.emp_le _, (pf rfl), ci0⟩, ?_⟩
 exact eE hm

def Jaz (s : Str) : Option (Ji) :=
  some (⟨1, 0, s, false⟩ : Ji)
theorem Jac {s : Str} {K : Hp} {r : Ji}
    (hm : Jaz s = some r)  :
    Fn Tryz.prog 109 [str s] K [] (fun v K' H' => v = .agg #[.int .i64 r.kind, .int .i64 r.n, str r.s, .bool r.As] ∧ H' = []) := by
 refine Fn.enter Tryz.func109 Tryz.call109 rfl fun F => ?_
 unfold Jaz at hm
 refine qai rfl fun b2 => ?_
 refine qaj rfl rfl (cT (cT ?_))
 refine qaa r0 rfl ⟨rfl, rfl, (nl rfl), ?_⟩
 exact ro (qab r0 rfl (nl rfl) (eE hm))

def Jcx (name : Str) (Aq : JU) : Option (Ji) :=
  if decide (name = ([109, 101, 116, 104, 111, 100] : Str)) then
  (Jaz Aq.Am).bind fun aT =>
  some aT
  else
  if decide (name = ([104, 111, 115, 116] : Str)) then
  (Jaz Aq.An).bind fun aU =>
  some aU
  else
  if decide (name = ([112, 97, 116, 104] : Str)) then
  (Jaz Aq.Ae).bind fun aS =>
  some aS
  else
  (Jaz Aq.Af).bind fun aV =>
  some aV
theorem JdF {name : Str} {Aq : JU} {af : Option Addr} {ag : Nat} {K : Hp} {r : Ji}
    (hm : Jcx name Aq = some r) (ai : RdC Jc.enc K af ag 2 Aq.Ao) :
    Fn Tryz.prog 110 [str name, .agg #[str Aq.Am, str Aq.An, str Aq.Ae, str Aq.Af, .slice af Aq.Ao.length ag]] K [] (fun v K' H' => v = .agg #[.int .i64 r.kind, .int .i64 r.n, str r.s, .bool r.As] ∧ H' = []) := by
 refine Fn.enter Tryz.func110 Tryz.call110 rfl fun F => ?_
 unfold Jcx at hm
 refine qar ?_
 intro b3
 refine qai rfl fun b4 => ?_
 refine qal rfl ?_
 refine qaq (cs rfl rfl hm ?_ ?_) <;> intro w6 hm
 refine fa rfl (ro (ld r1 rfl rfl ?_))
 refine cb hm fun aW aV hm => cg0 (Jac aV :) ?_
 refine qaa r0 rfl ⟨rfl, rfl, (nl rfl), ?_⟩
 exact ro (qab r0 rfl (nl rfl) (eE hm))
 refine qaq (cs rfl rfl hm ?_ ?_) <;> intro ba hm
 refine fa rfl (ro (ld r1 rfl rfl ?_))
 refine cb hm fun bb aT hm => cg0 (Jac aT :) ?_
 refine qaa r0 rfl ⟨rfl, rfl, (nl rfl), ?_⟩
 exact ro (qab r0 rfl (nl rfl) (eE hm))
 refine qaq (cs rfl rfl hm ?_ ?_) <;> intro aZ hm
 refine fa rfl (ro (ld r1 rfl rfl ?_))
 refine cb hm fun aX aS hm => cg0 (Jac aS :) ?_
 refine qaa r0 rfl ⟨rfl, rfl, (nl rfl), ?_⟩
 exact ro (qab r0 rfl (nl rfl) (eE hm))
 refine fa rfl (ro (ld r1 rfl rfl ?_))
 refine cb hm fun aY aU hm => cg0 (Jac aU :) ?_
 refine qaa r0 rfl ⟨rfl, rfl, (nl rfl), ?_⟩
 exact ro (qab r0 rfl (nl rfl) (eE hm))

def J8 (m : Jh) : Option (Ji × Jh) :=
  (chk (InI ((m.stack.length : Int) - 1))).bind fun _ =>
  (ix m.stack ((m.stack.length : Int) - 1)).bind fun aS =>
  (chk (InI ((m.stack.length : Int) - 1))).bind fun _ =>
  (chk (0 ≤ (0 : Int) ∧ (0 : Int) ≤ ((m.stack.length : Int) - 1) ∧ ((m.stack.length : Int) - 1) ≤ (m.stack.length : Int))).bind fun _ =>
  some (aS, (⟨m.Aq, m.most, m.result, (subL m.stack (0 : Int) ((m.stack.length : Int) - 1)), m.Ap⟩ : Jh))
theorem J9 {m : Jh} {b0 : Nat} {aa : Option Addr} {ab : Nat} {ah : Option Addr} {ak : Nat} {am : Option Addr} {ar : Nat} {aw : Option Addr} {ay : Nat} {ax : Option Addr} {az : Nat} {K : Hp} {r : Ji × Jh}
    (hm : J8 m = some r) (hX : RdC Jc.enc K aa ab 2 m.Aq.Ao ∧ (0 < m.result.Ag.length → Has ah) ∧ (0 < m.result.Vary.length → Has am) ∧ (0 < m.result.Ah.length → Has aw) ∧ (0 < m.stack.length → Has ax) ∧ m.Ap.length = 512) :
    Fn Tryz.prog 111 [.pointer (some ⟨b0, 0, none⟩)] K [Cells b0 131 ((str m.Aq.Am) :: (str m.Aq.An) :: (str m.Aq.Ae) :: (str m.Aq.Af) :: (.slice aa m.Aq.Ao.length ab) :: (.int .i64 m.most) :: (str m.result.Ae) :: (str m.result.Af) :: (.slice ah m.result.Ag.length ak) :: (.slice am m.result.Vary.length ar) :: (.slice aw m.result.Ah.length ay) :: (.int .i64 m.result.TTL) :: (.int .i64 m.result.Ai) :: (.int .i64 m.result.Aj) :: (.bool m.result.Ak) :: (.bool m.result.Al) :: (.slice ax m.stack.length az) :: (m.Ap.map Ji.enc).flatten), qau Jc.enc ah 41 2 ak m.result.Ag, qau eS am 9 1 ar m.result.Vary, qau eS aw 9 1 ay m.result.Ah, qau Ji.enc ax 128 4 az m.stack] (fun v K' H' => ∃ ar_0 : Option Addr, ∃ cr_0 : Nat, ∃ ar_1 : Option Addr, ∃ cr_1 : Nat, ∃ ar_2 : Option Addr, ∃ cr_2 : Nat, ∃ ar_3 : Option Addr, ∃ cr_3 : Nat, v = .agg #[.int .i64 r.1.kind, .int .i64 r.1.n, str r.1.s, .bool r.1.As] ∧ (0 < r.2.result.Ag.length → Has ar_0) ∧ (0 < r.2.result.Vary.length → Has ar_1) ∧ (0 < r.2.result.Ah.length → Has ar_2) ∧ (0 < r.2.stack.length → Has ar_3) ∧ r.2.Ap.length = 512 ∧ H' = [Cells b0 131 ((str m.Aq.Am) :: (str m.Aq.An) :: (str m.Aq.Ae) :: (str m.Aq.Af) :: (.slice aa m.Aq.Ao.length ab) :: (.int .i64 r.2.most) :: (str r.2.result.Ae) :: (str r.2.result.Af) :: (.slice ar_0 r.2.result.Ag.length cr_0) :: (.slice ar_1 r.2.result.Vary.length cr_1) :: (.slice ar_2 r.2.result.Ah.length cr_2) :: (.int .i64 r.2.result.TTL) :: (.int .i64 r.2.result.Ai) :: (.int .i64 r.2.result.Aj) :: (.bool r.2.result.Ak) :: (.bool r.2.result.Al) :: (.slice ar_3 r.2.stack.length cr_3) :: (r.2.Ap.map Ji.enc).flatten), qau Jc.enc ar_0 41 2 cr_0 r.2.result.Ag, qau eS ar_1 9 1 cr_1 r.2.result.Vary, qau eS ar_2 9 1 cr_2 r.2.result.Ah, qau Ji.enc ar_3 128 4 cr_3 r.2.stack]) := by
 obtain ⟨ae, aW, aU, aV, aS, aT⟩ := hX
 refine Fn.enter Tryz.func111 Tryz.call111 rfl fun F => ?_
 unfold J8 at hm
 refine qai rfl fun b2 => ?_
 refine qe2 ⟨⟨[], true⟩, _, [], []⟩ 14 rfl (by kernel_rfl) ⟨Hp.Le.refl _, (pf rfl), ci0⟩ ?_
 refine qag (fa rfl ?_)
 refine ld r1 rfl rfl ?_
 refine qag (fa rfl ?_)
 refine ld r1 rfl rfl ?_
 refine qcc rfl ?_
 refine ci hm fun hm => ?_
 obtain ⟨bd, aY, aX, hm⟩ := ixb hm
 refine qad rfl rfl (qcm aS aX) aY (qaz rfl aY aX) ?_
 refine qh0 (i := (((m.stack.length : Int) - 1)).toNat) r5 rfl aX rfl rfl ?_
 refine qki rfl ?_
 intro b3
 intro bb
 refine qaa r0 rfl ⟨rfl, rfl, (nl rfl), ?_⟩
 refine ⟨⟨lr, (pf rfl), ci0⟩, ?_⟩
 refine ⟨_, .cons r8 .nil, ⟨lr, (pf rfl), ci0⟩, ?_⟩
 refine DStep.ownLe r3 fun bg => ?_
 refine DStep.ownLe r4 fun bc => ?_
 refine DStep.ownLe r5 fun bf => ?_
 refine DStep.ownLe r6 fun ba => ?_
 refine qa2 ⟨⟨[], false⟩, _, [(_, _)], []⟩ 12 rfl (by kernel_rfl) ⟨Hp.Le.refl _, (sc [2] rfl), ci0⟩ ?_
 refine qag (fa rfl (qap m0 rfl rfl (qag (fa rfl (qap m0 rfl rfl (qcc rfl ?_))))))
 refine ci hm fun hm => ?_
 obtain ⟨aZ, hm⟩ := qax hm
 refine qpo (l := m.stack) (hi := (some ((m.stack.length : Int) - 1))) rfl rfl rfl ba aZ ?_
 refine qag (fa rfl ?_)
 refine tkW ((m.stack.length : Int) - 1) r6 ?_
 refine qmi (cs' := (str m.Aq.Am) :: (str m.Aq.An) :: (str m.Aq.Ae) :: (str m.Aq.Af) :: (.slice aa m.Aq.Ao.length ab) :: (.int .i64 m.most) :: (str m.result.Ae) :: (str m.result.Af) :: (.slice ah m.result.Ag.length ak) :: (.slice am m.result.Vary.length ar) :: (.slice aw m.result.Ah.length ay) :: (.int .i64 m.result.TTL) :: (.int .i64 m.result.Ai) :: (.int .i64 m.result.Aj) :: (.bool m.result.Ak) :: (.bool m.result.Al) :: (.slice ax ((subL m.stack (0 : Int) ((m.stack.length : Int) - 1)).length) az) :: (m.Ap.map Ji.enc).flatten) r3 rfl rfl (by exact rfl) (by exact nl rfl) (by exact rfl) ?_
 refine ⟨⟨Hp.emp_le _, (pf rfl), ci0⟩, ?_⟩
 refine ro (qab r2 rfl (nl rfl) ?_)
 refine qaa r3 rfl ⟨rfl, rfl, (nl rfl), ?_⟩
 obtain rfl := si hm
 exact ro (qab r0 rfl (nl rfl) (en lr ⟨ah, ak, am, ar, aw, ay, ax, az, rfl, aW, aU, aV, (fun h => aS (qgl aZ h)), aT, rfl⟩ (sc [1,3,3,3,1,2] rfl)))

def JcQ (path : Str) : Option ((List Str)) :=
  (qon path ([47] : Str)).bind fun x8 =>
  if (!x8.2.2) then
  some []
  else
  (qe6 x8.2.1 ([47] : Str)).bind fun aS =>
  some aS
theorem JdO {path : Str} {K : Hp} {r : (List Str)}
    (hm : JcQ path = some r) (hG : GG K) :
    Fn Tryz.prog 156 [str path] K [] (fun v K' H' => ∃ ar_0 : Option Addr, ∃ cr_0 : Nat, v = .slice ar_0 r.length cr_0 ∧ (0 < r.length → Has ar_0) ∧ H' = [qau eS ar_0 9 1 cr_0 r]) := by
 refine Fn.enter Tryz.func156 Tryz.call156 rfl fun F => ?_
 unfold JcQ at hm
 refine cb hm fun x8 q8 hm => cg0 (qmz q8 (gg0 hG)) ?_
 refine qaw ?_
 refine cs rfl rfl hm ?_ ?_ <;> intro aX hm
 refine qcg eS 9 1 ?_
 exact eE hm
 refine cb hm fun aW aV hm => ck0 (qf1 aV (gg0 hG)) ?_
 rintro _ _ _ ⟨aT, aS, rfl, aU, rfl⟩
 exact eE hm

def JdV (f : (List Jc)) (name : Str) : Option (Str × Bool) :=
  (Jcu f name).bind fun x9 =>
  (qe4 x9 ([44, 32] : Str)).bind fun aS =>
  some (aS, decide ((x9.length : Int) > 0))
theorem Jec {f : (List Jc)} {name : Str} {aa : Option Addr} {ab : Nat} {n0 : Nat} {K : Hp} {r : Str × Bool}
    (hm : JdV f name = some r) (hX : RdC Jc.enc K aa ab 2 f ∧ n0 = f.length) :
    Fn Tryz.prog 157 [.slice aa n0 ab, str name] K [] (fun v K' H' => v = .tuple #[str r.1, .bool r.2] ∧ H' = []) := by
 obtain ⟨ae, aX⟩ := hX
 subst aX
 refine Fn.enter Tryz.func157 Tryz.call157 rfl fun F => ?_
 unfold JdV at hm
 refine cb hm fun x9 q9 hm => ckx (Jcn q9 :) ?_
 rintro _ _ _ ⟨aY, aV, rfl, aZ, rfl⟩
 refine cb hm fun ba aW hm => ck0 (Fn.lend Tryz.call48 (fun aT aU aS => (qia aW aS rfl)) (by exact fun _ _ _ _ h => h)) ?_
 rintro _ _ _ ⟨_, rfl, rfl, rfl⟩
 refine ro (qak rfl ?_)
 exact eE hm

def JaQ (As : Bool) : Option (Ji) :=
  some (⟨3, 0, ([] : Str), As⟩ : Ji)
theorem JaA {As : Bool} {K : Hp} {r : Ji}
    (hm : JaQ As = some r)  :
    Fn Tryz.prog 114 [.bool As] K [] (fun v K' H' => v = .agg #[.int .i64 r.kind, .int .i64 r.n, str r.s, .bool r.As] ∧ H' = []) := by
 refine Fn.enter Tryz.func114 Tryz.call114 rfl fun F => ?_
 unfold JaQ at hm
 refine qai rfl fun b2 => ?_
 refine qaj rfl rfl (cT (cT ?_))
 refine qaa r0 rfl ⟨rfl, rfl, (nl rfl), ?_⟩
 exact ro (qab r0 rfl (nl rfl) (eE hm))

def Jcc (name : Str) : List Str → Nat → Option (Fl (Str × Bool) (Unit))
  | [], _ => some (Fl.go ())
  | e0 :: aS, i0 =>
    (chk (name.length + ([61] : Str).length ≤ lim)).bind fun _ =>
    (Jam e0 (name ++ ([61] : Str))).bind fun aT =>
    if aT then
    (chk (InI ((name.length : Int) + 1))).bind fun _ =>
    (chk (0 ≤ ((name.length : Int) + 1) ∧ ((name.length : Int) + 1) ≤ (e0.length : Int) ∧ (e0.length : Int) ≤ (e0.length : Int))).bind fun _ =>
    some (Fl.ret ((subL e0 ((name.length : Int) + 1) (e0.length : Int)), true))
    else
    Jcc name aS (i0 + 1)
def JdP (a : Jl) (name : Str) : Option (Str × Bool) :=
  if (!a.HasQuery) then
  some (([] : Str), false)
  else
  (qe6 a.Af ([38] : Str)).bind fun aS =>
  (chk (aS.length ≤ qbg)).bind fun _ =>
  (Jcc name aS 0).bind fun s0 => s0.el some fun t0 =>
  some (([] : Str), false)
theorem Jel {a : Jl} {name : Str} {K : Hp} {r : Str × Bool}
    (hm : JdP a name = some r) (hG : GG K) :
    Fn Tryz.prog 158 [.agg #[str a.An, str a.Ae, str a.Af, .bool a.HasQuery], str name] K [] (fun v K' H' => v = .tuple #[str r.1, .bool r.2] ∧ H' = []) := by
 refine Fn.enter Tryz.func158 Tryz.call158 rfl fun F => ?_
 unfold JdP at hm
 refine qar ?_
 intro b2
 refine fa rfl (ro (ld r0 rfl rfl (qaw ?_)))
 refine cs rfl rfl hm ?_ ?_ <;> intro bj hm
 exact eE hm
 refine fa rfl (ro (ld r0 rfl rfl ?_))
 refine cb hm fun aV aZ hm => ck0 (qf1 aZ (gg0 hG)) ?_
 rintro _ _ _ ⟨aX, aW, rfl, aT, rfl⟩
 refine ro (qak rfl ?_)
 obtain ⟨ba, hm⟩ := qax hm
 obtain ⟨s0, aS, hm⟩ := bnd hm
 refine lD (σ := (Unit)) ([4,5,7] ++ rg 15 14) [0, 1, 2] (fun i0 => [(15, .int .i64 (i0 : Int))]) (fun _ => []) (fun _ => []) (fun _ => True) (fun i0 _ => Jcc name (aV.drop i0) i0 = some s0) (fun t0 => s0 = Fl.go t0) (fun i0 => aV.length - i0) 0 () aS (And.intro qe (And.intro ?_ ?_))
 clear aS
 rintro i0 _ _ aS j0
 conv at aS => whnf
 refine qac rfl ?_
 refine qae ?_ ?_ <;> intro w0
 obtain ⟨e0, aU, bc⟩ := ltx w0
 rw [bc, Jcc.eq_2] at aS
 refine qal rfl ?_
 refine RStep.ofN (qad rfl rfl (qcm aT aU) (nn _) (qef rfl aU) (ro (qby (i := i0) (o := 0) r0 rfl aU rfl rfl ?_)))
 obtain ⟨aY, aS⟩ := qax aS
 refine qbd aY ?_
 refine cb aS fun bf bb aS => cg0 (JaB bb :) ?_
 refine CStep.ownLe r0 fun bg => ?_
 refine cs rfl rfl aS ?_ ?_ <;> intro bh aS
 refine ro (qa0 rfl ?_)
 refine ci aS fun aS => ?_
 obtain ⟨bd, aS⟩ := qax aS
 refine RStep.ofN (qdy (lo := (some ((name.length : Int) + 1))) (hi := none) rfl bd ?_)
 exact eE (er aS hm)
 refine qam (qbj aU ba) ?_
 exact eR aS (_, ())
 rw [lty w0, Jcc.eq_1] at aS
 refine cT ?_
 exact eM aS _
 rintro t0 _ rfl j0
 replace hm := elg hm
 exact eE hm

def Jbx : Nat → Nat → Str → Option (Str)
  | 0, _, ac => some ac
  | aT + 1, i0, ac =>
    (ix ac (i0 : Int)).bind fun aS =>
    if (decide ((aS.toNat : Int) ≥ 65) && decide ((aS.toNat : Int) ≤ 90)) then
    (ix ac (i0 : Int)).bind fun aU =>
    Jbx aT (i0 + 1) (ac.set (((i0 : Int)).toNat) (aS + (32 : UInt8)))
    else
    Jbx aT (i0 + 1) ac
def JdG (s : Str) : Option (Str) :=
  (chk (s.length ≤ lim)).bind fun _ =>
  (chk (InI (s.length : Int))).bind fun _ =>
  (Jbx (s.length : Int).toNat 0 s).bind fun t0 =>
  some t0
theorem Jej {s : Str} {K : Hp} {r : Str}
    (hm : JdG s = some r)  :
    Fn Tryz.prog 159 [str s] K [] (fun v K' H' => v = str r ∧ H' = []) := by
 refine Fn.enter Tryz.func159 Tryz.call159 rfl fun F => ?_
 unfold JdG at hm
 obtain ⟨h7, hm⟩ := qax hm
 refine qex rfl rfl rfl h7 ?_
 intro a7 c7 o7
 refine ro (qak rfl ?_)
 obtain ⟨aZ, hm⟩ := qax hm
 obtain ⟨s0, aT, hm⟩ := bnd hm
 refine lD (σ := (Str)) ([4,5] ++ rg 10 17) [1] (fun i0 => [(10, .int .i64 (i0 : Int))]) (fun _ => []) (fun t0 => [qau eU a7 5 1 c7 t0]) (fun t0 => (0 < t0.length → Has a7) ∧ s.length = t0.length) (fun i0 t0 => Jbx ((s.length : Int).toNat - i0) i0 t0 = some s0) (fun t0 => t0 = s0) (fun i0 => (s.length : Int).toNat - i0) 0 _ aT (And.intro qe (And.intro ?_ ?_))
 clear aT
 rintro i0 ac ⟨aU, aV⟩ aT j0
 conv at aT => whnf
 refine qac rfl ?_
 refine qae ?_ ?_ <;> intro w0
 rw [ltn w0, Jbx.eq_2] at aT
 refine qal rfl ?_
 obtain ⟨aY, bc, ba, aT⟩ := ixb aT
 refine RStep.ofN (qad rfl rfl (qcm aU ba) bc (qaz aV bc ba) (ro (qby (i := ((i0 : Int)).toNat) (o := 0) r0 rfl ba rfl rfl ?_)))
 refine qah rfl ?_
 refine qae ?_ ?_ <;> intro aS
 refine ct aS (ct aS (qac rfl ?_))
 refine qae ?_ ?_ <;> intro bf
 replace aT := ift (qct aS bf) aT
 refine qhy (x := aY) (y := (32 : UInt8)) rfl rfl ?_
 obtain ⟨bg, bd, aX, aT⟩ := ixb aT
 refine RStep.ofN (qad rfl rfl (qcm aU aX) bd (qaz aV bd aX) ?_)
 refine qd8 (o := 0) (y := (aY + (32 : UInt8))) bg r0 rfl aX rfl (by (conv => whnf); exact ⟨rfl, rfl, (nl rfl), rfl, rfl, rfl⟩) ?_
 refine qam (qio w0 aZ) ?_
 exact rd (i0 + 1, (ac.set (((i0 : Int)).toNat) (aY + (32 : UInt8)))) ⟨rfl, trivial⟩ rfl (pf rfl) lr (qpd w0) ⟨⟨(by first | simpa using aU | exact fun _ => ⟨_, _, rfl⟩), ((aV).trans List.length_set.symm)⟩, aT⟩
 replace aT := qa7 (qcu aS bf) aT
 refine qam (qio w0 aZ) ?_
 exact eR aT (_, _)
 refine cf aS (cf aS (qac rfl (cF ?_)))
 replace aT := qa7 (qa9 aS) aT
 refine qam (qio w0 aZ) ?_
 exact eR aT (_, _)
 rw [lto w0, Jbx.eq_1] at aT
 refine cT ?_
 exact eM aT _
 rintro t0 ⟨bb, aW⟩ rfl j0
 refine ro (qdm aW r0 rfl rfl rfl ?_)
 exact eE hm

def JbK : List UInt8 → Nat → Int → Option (Fl (Int) (Int))
  | [], _, ac => some (Fl.go ac)
  | e0 :: aS, i0, ac =>
    (if decide ((e0.toNat : Int) < 48) then some true else some (decide ((e0.toNat : Int) > 57))).bind fun aT =>
    if aT then
    some (Fl.ret 0)
    else
    (chk (InI (10 * ac))).bind fun _ =>
    (chk (InI ((10 * ac) + ((e0 - (48 : UInt8)).toNat : Int)))).bind fun _ =>
    JbK aS (i0 + 1) ((10 * ac) + ((e0 - (48 : UInt8)).toNat : Int))
def Jdr (s : Str) : Option (Int) :=
  if (decide ((s.length : Int) < 1) || decide ((s.length : Int) > 15)) then
  some 0
  else
  (chk (s.length ≤ qbg)).bind fun _ =>
  (JbK s 0 0).bind fun s0 => s0.el some fun t0 =>
  some t0
theorem Jeg {s : Str} {K : Hp} {r : Int}
    (hm : Jdr s = some r)  :
    Fn Tryz.prog 160 [str s] K [] (fun v K' H' => v = .int .i64 r ∧ H' = []) := by
 refine Fn.enter Tryz.func160 Tryz.call160 rfl fun F => ?_
 unfold Jdr at hm
 refine jR (σ := Unit) (rg 5 8) (fun _ => [(12, .bool (decide ((s.length : Int) < 1) || decide ((s.length : Int) > 15)))]) (fun ba => True) ?_ ?_
 refine qah rfl ?_
 refine ro (qa0 rfl ?_)
 refine qae ?_ ?_ <;> intro aU
 refine ct aU (ct aU (ct aU ?_))
 exact eMt () ⟨bq (((qcj aU)).symm), trivial⟩
 refine cf aU (ro (qa0 rfl (cf aU (cf aU ?_))))
 exact eMt () ⟨bq (qg2 (b := decide ((s.length : Int) > 15)) aU), trivial⟩
 rintro _ _ bc
 refine cs rfl rfl hm ?_ ?_ <;> intro bg hm
 exact eE hm
 refine ro (qa0 rfl ?_)
 obtain ⟨bb, hm⟩ := qax hm
 obtain ⟨s0, aT, hm⟩ := bnd hm
 refine lD (σ := (Int)) ([2,3,4] ++ rg 15 22) [0] (fun i0 => [(15, .int .i64 (i0 : Int))]) (fun t0 => [(3, .int .i64 t0)]) (fun _ => []) (fun _ => True) (fun i0 t0 => JbK (s.drop i0) i0 t0 = some s0) (fun t0 => s0 = Fl.go t0) (fun i0 => s.length - i0) 0 _ aT (And.intro qe (And.intro ?_ ?_))
 clear aT
 rintro i0 ac _ aT j0
 conv at aT => whnf
 refine qac rfl ?_
 refine qae ?_ ?_ <;> intro w0
 obtain ⟨e0, aW, bd⟩ := ltx w0
 rw [bd, JbK.eq_2] at aT
 refine qal rfl ?_
 refine qah rfl ?_
 refine qay rfl (nn _) aW ?_
 obtain ⟨bf, aV, aT⟩ := bnd aT
 refine cS aV (fun aS aV => ?_) fun aS aV => ?_
 refine ct aS (ct aS (ct aS (ct aS (qac rfl (cT ?_)))))
 replace aT := ift (si aV).symm aT
 exact eE (er aT hm)
 refine cf aS (cf aS (qay rfl (nn _) aW (cf aS (cf aS (qac rfl ?_)))))
 refine qae ?_ ?_ <;> intro aX
 replace aT := ift ((si aV).symm.trans aX) aT
 exact eE (er aT hm)
 replace aT := qa7 ((si aV).symm.trans aX) aT
 obtain ⟨aY, aT⟩ := qax aT
 refine qam aY (qay rfl (nn _) aW (qhz (x := e0) (y := (48 : UInt8)) rfl rfl (qfx rfl rfl (qrb (e0 - (48 : UInt8))) ?_)))
 obtain ⟨aZ, aT⟩ := qax aT
 refine qam aZ (qam (qbj aW bb) ?_)
 exact eR aT (_, _)
 rw [lty w0, JbK.eq_1] at aT
 refine cT ?_
 exact eM aT _
 rintro t0 _ rfl j0
 replace hm := elg hm
 exact eE hm

def JdQ (name : Str) (x : Ji) (Aq : JU) : Option (Ji × Bool) :=
  if (decide (name = ([112, 97, 114, 116] : Str)) || decide (name = ([116, 101, 120, 116] : Str))) then
  if decide (x.kind ≠ 2) then
  some ((⟨0, 0, ([] : Str), false⟩ : Ji), false)
  else
  if decide (name = ([116, 101, 120, 116] : Str)) then
  (qjs x.n).bind fun bh =>
  (Jaz bh).bind fun bj =>
  some (bj, true)
  else
  (JcQ Aq.Ae).bind fun aW =>
  if (decide (x.n < 0) || decide (x.n ≥ (aW.length : Int))) then
  (Jaz ([] : Str)).bind fun aY =>
  some (aY, true)
  else
  (ix aW x.n).bind fun bc =>
  (Jaz bc).bind fun bl =>
  some (bl, true)
  else
  if decide (x.kind ≠ 1) then
  some ((⟨0, 0, ([] : Str), false⟩ : Ji), false)
  else
  if decide (name = ([104, 101, 97, 100, 101, 114] : Str)) then
  (JdV Aq.Ao x.s).bind fun aX =>
  (Jaz aX.1).bind fun aZ =>
  some (aZ, true)
  else
  if decide (name = ([104, 97, 115] : Str)) then
  (JdV Aq.Ao x.s).bind fun bd =>
  (JaQ bd.2).bind fun bg =>
  some (bg, true)
  else
  if decide (name = ([97, 114, 103] : Str)) then
  (JdP (⟨([] : Str), ([] : Str), Aq.Af, true⟩ : Jl) x.s).bind fun bf =>
  (Jaz bf.1).bind fun bb =>
  some (bb, true)
  else
  if decide (name = ([108, 101, 110] : Str)) then
  (JbQ (x.s.length : Int)).bind fun ba =>
  some (ba, true)
  else
  if decide (name = ([108, 111, 119, 101, 114] : Str)) then
  (JdG x.s).bind fun aT =>
  (Jaz aT).bind fun aU =>
  some (aU, true)
  else
  (Jdr x.s).bind fun aS =>
  (JbQ aS).bind fun aV =>
  some (aV, true)
theorem Jem {name : Str} {x : Ji} {Aq : JU} {ao : Option Addr} {aq : Nat} {K : Hp} {r : Ji × Bool}
    (hm : JdQ name x Aq = some r) (hX : RdC Jc.enc K ao aq 2 Aq.Ao ∧ GG K) :
    Fn Tryz.prog 112 [str name, .agg #[.int .i64 x.kind, .int .i64 x.n, str x.s, .bool x.As], .agg #[str Aq.Am, str Aq.An, str Aq.Ae, str Aq.Af, .slice ao Aq.Ao.length aq]] K [] (fun v K' H' => v = .tuple #[.agg #[.int .i64 r.1.kind, .int .i64 r.1.n, str r.1.s, .bool r.1.As], .bool r.2] ∧ H' = []) := by
 obtain ⟨bf, hG⟩ := hX
 refine Fn.enter Tryz.func112 Tryz.call112 rfl fun F => ?_
 unfold JdQ at hm
 refine qar ?_
 intro b4
 refine qar ?_
 intro b5
 refine qai rfl fun b6 => ?_
 refine jR (σ := Unit) (rg 15 6) (fun _ => [(20, .bool (decide (name = ([112, 97, 114, 116] : Str)) || decide (name = ([116, 101, 120, 116] : Str))))]) (fun bw => True) ?_ ?_
 refine qah rfl ?_
 refine qaq ?_
 refine qae ?_ ?_ <;> intro aT
 refine ct aT (ct aT ?_)
 exact eMt () ⟨bq (((qcj aT)).symm), trivial⟩
 refine cf aT (qaq (cf aT ?_))
 exact eMt () ⟨bq (qg2 (b := decide (name = ([116, 101, 120, 116] : Str))) aT), trivial⟩
 rintro _ _ bC
 refine cs rfl rfl hm ?_ ?_ <;> intro bS hm
 refine fa rfl (ro (ld r2 rfl rfl (qa6 ?_)))
 refine cs rfl rfl hm ?_ ?_ <;> intro bN hm
 refine qaj rfl rfl ?_
 refine qaa r0 rfl ⟨rfl, rfl, (nl rfl), ?_⟩
 exact ro (qab r0 rfl (nl rfl) (eE hm))
 refine qaq (cs rfl rfl hm ?_ ?_) <;> intro bR hm
 refine fa rfl (ro (ld r2 rfl rfl ?_))
 refine cb hm fun bV bo hm => cg0 (qj6 bo (gg4 hG)) ?_
 refine cb hm fun bQ br hm => cg0 (Jac br :) ?_
 refine qaa r0 rfl ⟨rfl, rfl, (nl rfl), ?_⟩
 exact ro (qab r0 rfl (nl rfl) (eE hm))
 refine fa rfl (ro (ld r1 rfl rfl ?_))
 refine cb hm fun bb bG hm => ckx (JdO bG :) ?_
 rintro _ _ _ ⟨ba, bd, rfl, aU, rfl⟩
 refine jR (σ := Unit) (rg 34 10) (fun _ => [(43, .bool (decide (x.n < 0) || decide (x.n ≥ (bb.length : Int))))]) (fun bl => True) ?_ ?_
 refine qah rfl ?_
 refine fa rfl (ro (ld r3 rfl rfl ?_))
 refine qae ?_ ?_ <;> intro aS
 refine ct aS (ct aS (ct aS (ct aS (ct aS ?_))))
 exact eMt () ⟨bq (((qcj aS)).symm), trivial⟩
 refine fa rfl (cf aS (ro (ld r3 rfl rfl (cf aS (cf aS (ro (qak rfl (cf aS (cf aS ?_)))))))))
 exact eMt () ⟨bq (qg2 (b := decide (x.n ≥ (bb.length : Int))) aS), trivial⟩
 rintro _ _ bn
 refine cs rfl rfl hm ?_ ?_ <;> intro bK hm
 refine cb hm fun bZ bt hm => cg0 (Jac bt :) ?_
 refine qaa r1 rfl ⟨rfl, rfl, (nl rfl), ?_⟩
 exact ro (qab r0 rfl (nl rfl) (eE hm))
 refine fa rfl (ro (ld r3 rfl rfl ?_))
 obtain ⟨ce, bc, aY, hm⟩ := ixb hm
 refine RStep.ofN (qad rfl rfl (qcm aU aY) bc (qaz rfl bc aY) (ro (qby (i := (x.n).toNat) (o := 0) r0 rfl aY rfl rfl ?_)))
 refine cb hm fun bW bF hm => cg0 (Jac bF :) ?_
 refine qaa r1 rfl ⟨rfl, rfl, (nl rfl), ?_⟩
 exact ro (qab r0 rfl (nl rfl) (eE hm))
 refine fa rfl (ro (ld r2 rfl rfl (qa6 ?_)))
 refine cs rfl rfl hm ?_ ?_ <;> intro bM hm
 refine qaj rfl rfl ?_
 refine qaa r0 rfl ⟨rfl, rfl, (nl rfl), ?_⟩
 exact ro (qab r0 rfl (nl rfl) (eE hm))
 refine qal rfl ?_
 refine qaq (cs rfl rfl hm ?_ ?_) <;> intro bH hm
 refine fa rfl (ro (ld r1 rfl rfl (fa rfl (ro (ld r2 rfl rfl ?_)))))
 refine cb hm fun bI bg hm => cgx (Jec bg :) ?_
 refine cb hm fun bT bh hm => cg0 (Jac bh :) ?_
 refine qaa r0 rfl ⟨rfl, rfl, (nl rfl), ?_⟩
 exact ro (qab r0 rfl (nl rfl) (eE hm))
 refine qaq (cs rfl rfl hm ?_ ?_) <;> intro bL hm
 refine fa rfl (ro (ld r1 rfl rfl (fa rfl (ro (ld r2 rfl rfl ?_)))))
 refine cb hm fun bU bu hm => cgx (Jec bu :) ?_
 refine cb hm fun bP bB hm => cg0 (JaA bB :) ?_
 refine qaa r0 rfl ⟨rfl, rfl, (nl rfl), ?_⟩
 exact ro (qab r0 rfl (nl rfl) (eE hm))
 refine qaq (cs rfl rfl hm ?_ ?_) <;> intro bX hm
 refine fa rfl (ro (ld r1 rfl rfl (qaj rfl rfl (cT (cT (fa rfl (ro (ld r2 rfl rfl ?_))))))))
 refine cb hm fun cj bj hm => cgx (Jel bj :) ?_
 refine cb hm fun ca bD hm => cg0 (Jac bD :) ?_
 refine qaa r0 rfl ⟨rfl, rfl, (nl rfl), ?_⟩
 exact ro (qab r0 rfl (nl rfl) (eE hm))
 refine qaq (cs rfl rfl hm ?_ ?_) <;> intro bY hm
 refine fa rfl (ro (ld r2 rfl rfl (ro (qa0 rfl ?_))))
 refine cb hm fun bJ bz hm => cg0 (Jbj bz :) ?_
 refine qaa r0 rfl ⟨rfl, rfl, (nl rfl), ?_⟩
 exact ro (qab r0 rfl (nl rfl) (eE hm))
 refine qaq (cs rfl rfl hm ?_ ?_) <;> intro bO hm
 refine fa rfl (ro (ld r2 rfl rfl ?_))
 refine cb hm fun bm aV hm => cg0 (Jej aV :) ?_
 refine cb hm fun bp aZ hm => cg0 (Jac aZ :) ?_
 refine qaa r0 rfl ⟨rfl, rfl, (nl rfl), ?_⟩
 exact ro (qab r0 rfl (nl rfl) (eE hm))
 refine fa rfl (ro (ld r2 rfl rfl ?_))
 refine cb hm fun bv aW hm => cg0 (Jeg aW :) ?_
 refine cb hm fun bA aX hm => cg0 (Jbj aX :) ?_
 refine qaa r0 rfl ⟨rfl, rfl, (nl rfl), ?_⟩
 exact ro (qab r0 rfl (nl rfl) (eE hm))

def Jdg (a : Int) (b : Int) : Option (Ji) :=
  if (decide (a = 0) || decide (b = 0)) then
  (JbQ 0).bind fun aU =>
  some aU
  else
  (chk (InI (-a))).bind fun _ =>
  (chk (InI (-b))).bind fun _ =>
  (chk ((max b (-b)) ≠ 0 ∧ InI (Int.tdiv 1099511627776 (max b (-b))))).bind fun _ =>
  ((if decide ((max a (-a)) > (Int.tdiv 1099511627776 (max b (-b)))) then
  some (1099511627776, 1)
  else
  some ((max a (-a)), (max b (-b))) : Option (Int × Int))).bind fun aS =>
  if (!((decide (a < 0)) == (decide (b < 0)))) then
  (chk (InI (-aS.1))).bind fun _ =>
  (chk (InI ((-aS.1) * aS.2))).bind fun _ =>
  (JbQ ((-aS.1) * aS.2)).bind fun aV =>
  some aV
  else
  (chk (InI (aS.1 * aS.2))).bind fun _ =>
  (JbQ (aS.1 * aS.2)).bind fun aT =>
  some aT
theorem Jd7 {a : Int} {b : Int} {K : Hp} {r : Ji}
    (hm : Jdg a b = some r)  :
    Fn Tryz.prog 161 [.int .i64 a, .int .i64 b] K [] (fun v K' H' => v = .agg #[.int .i64 r.kind, .int .i64 r.n, str r.s, .bool r.As] ∧ H' = []) := by
 refine Fn.enter Tryz.func161 Tryz.call161 rfl fun F => ?_
 unfold Jdg at hm
 refine qai rfl fun b4 => ?_
 refine jR (σ := Unit) (rg 8 6) (fun _ => [(13, .bool (decide (a = 0) || decide (b = 0)))]) (fun aZ => True) ?_ ?_
 refine qah rfl ?_
 refine qaf ?_
 refine qae ?_ ?_ <;> intro aS
 refine ct aS (ct aS ?_)
 exact eMt () ⟨bq (((qcj aS)).symm), trivial⟩
 refine cf aS (qaf (cf aS ?_))
 exact eMt () ⟨bq (qg2 (b := decide (b = 0)) aS), trivial⟩
 rintro _ _ bd
 refine cs rfl rfl hm ?_ ?_ <;> intro bl hm
 refine cb hm fun bn bf hm => cg0 (Jbj bf :) ?_
 refine qaa r0 rfl ⟨rfl, rfl, (nl rfl), ?_⟩
 exact ro (qab r0 rfl (nl rfl) (eE hm))
 refine qhw rfl ?_
 obtain ⟨aY, hm⟩ := qax hm
 refine qls aY ?_
 refine ro (qce ?_)
 obtain ⟨ba, hm⟩ := qax hm
 refine qls ba ?_
 refine ro (qce ?_)
 obtain ⟨aW, hm⟩ := qax hm
 refine ql0 aW.1 aW.2 ?_
 obtain ⟨aV, aT, hm⟩ := bnd hm
 refine jD (σ := (Int × Int)) [6,7] [0, 1] (fun aU => [(6, .int .i64 aU.1), (7, .int .i64 aU.2)]) (fun aU => []) (fun aU => aU = aV) (And.intro ?_ ?_)
 refine cs rfl rfl aT ?_ ?_ <;> intro bh aT
 exact eM aT _
 exact eM aT _
 rintro aU rfl bb
 refine cs rfl rfl hm ?_ ?_ <;> intro bm hm
 obtain ⟨bc, hm⟩ := qax hm
 refine qls bc ?_
 refine ci hm fun hm => ?_
 refine cb hm fun bj bg hm => cg0 (Jbj bg :) ?_
 refine qaa r0 rfl ⟨rfl, rfl, (nl rfl), ?_⟩
 exact ro (qab r0 rfl (nl rfl) (eE hm))
 refine ci hm fun hm => ?_
 refine cb hm fun bo aX hm => cg0 (Jbj aX :) ?_
 refine qaa r0 rfl ⟨rfl, rfl, (nl rfl), ?_⟩
 exact ro (qab r0 rfl (nl rfl) (eE hm))

def JaR (s : Str) (suffix : Str) : Option (Bool) :=
  (if decide ((s.length : Int) ≥ (suffix.length : Int)) then (chk (InI ((s.length : Int) - (suffix.length : Int)))).bind fun _ =>
  (chk (0 ≤ ((s.length : Int) - (suffix.length : Int)) ∧ ((s.length : Int) - (suffix.length : Int)) ≤ (s.length : Int) ∧ (s.length : Int) ≤ (s.length : Int))).bind fun _ =>
  some (decide ((subL s ((s.length : Int) - (suffix.length : Int)) (s.length : Int)) = suffix)) else some false).bind fun aS =>
  some aS
theorem Jcy {s : Str} {suffix : Str} {K : Hp} {r : Bool}
    (hm : JaR s suffix = some r)  :
    Fn Tryz.prog 215 [str s, str suffix] K [] (fun v K' H' => v = .bool r ∧ H' = []) := by
 refine Fn.enter Tryz.func215 Tryz.call215 rfl fun F => ?_
 unfold JaR at hm
 refine qah rfl ?_
 refine ro (qa0 rfl (ro (qa0 rfl ?_)))
 obtain ⟨aW, aT, hm⟩ := bnd hm
 refine cS aT (fun aS aT => ?_) fun aS aT => ?_
 refine ct aS (ct aS (ro (qa0 rfl (ct aS (ct aS (ro (qa0 rfl (ct aS ?_))))))))
 obtain ⟨aU, aT⟩ := qax aT
 refine qam aU (ct aS ?_)
 obtain ⟨aV, aT⟩ := qax aT
 refine RStep.ofN (qdy (lo := (some ((s.length : Int) - (suffix.length : Int)))) (hi := none) rfl aV (ct aS (ct aS (qaq (ct aS ?_)))))
 exact bE (si aT) (eE hm)
 refine cf aS (cf aS (cf aS (cf aS (cf aS (cf aS (cf aS (cf aS ?_)))))))
 refine cf aS ?_
 exact bE (si aT) (eE hm)

def JcH (s : Str) (suffix : Str) : Option (Bool) :=
  (JaR s suffix).bind fun x7 =>
  some x7
theorem JdK {s : Str} {suffix : Str} {K : Hp} {r : Bool}
    (hm : JcH s suffix = some r)  :
    Fn Tryz.prog 162 [str s, str suffix] K [] (fun v K' H' => v = .bool r ∧ H' = []) := by
 refine Fn.enter Tryz.func162 Tryz.call162 rfl fun F => ?_
 unfold JcH at hm
 refine cb hm fun x7 q7 hm => cg0 (Jcy q7 :) ?_
 exact eE hm

def Jdh (op : Str) (a : Ji) (b : Ji) : Option (Ji × Bool) :=
  if decide (a.kind ≠ b.kind) then
  some ((⟨0, 0, ([] : Str), false⟩ : Ji), false)
  else
  if decide (op = ([43] : Str)) then
  if decide (a.kind = 1) then
  (chk (a.s.length + b.s.length ≤ lim)).bind fun _ =>
  (Jaz (a.s ++ b.s)).bind fun bb =>
  some (bb, true)
  else
  (chk (InI (a.n + b.n))).bind fun _ =>
  (JbQ (a.n + b.n)).bind fun aY =>
  some (aY, decide (a.kind = 2))
  else
  if decide (op = ([45] : Str)) then
  (chk (InI (a.n - b.n))).bind fun _ =>
  (JbQ (a.n - b.n)).bind fun ba =>
  some (ba, decide (a.kind = 2))
  else
  if decide (op = ([42] : Str)) then
  if (!decide (a.kind = 2)) then
  some ((⟨0, 0, ([] : Str), false⟩ : Ji), false)
  else
  (Jdg a.n b.n).bind fun aX =>
  some (aX, true)
  else
  if decide (op = ([61, 61] : Str)) then
  (JaQ (decide (a.kind = b.kind) && (decide (a.n = b.n) && (decide (a.s = b.s) && (a.As == b.As))))).bind fun aW =>
  some (aW, true)
  else
  if decide (op = ([33, 61] : Str)) then
  (JaQ (!(decide (a.kind = b.kind) && (decide (a.n = b.n) && (decide (a.s = b.s) && (a.As == b.As)))))).bind fun bg =>
  some (bg, true)
  else
  if decide (op = ([60] : Str)) then
  (JaQ (decide (a.n < b.n))).bind fun aZ =>
  some (aZ, decide (a.kind = 2))
  else
  if decide (op = ([60, 61] : Str)) then
  (JaQ (decide (a.n ≤ b.n))).bind fun bc =>
  some (bc, decide (a.kind = 2))
  else
  if decide (op = ([115, 116, 97, 114, 116, 115] : Str)) then
  (Jam a.s b.s).bind fun bd =>
  (JaQ bd).bind fun bf =>
  some (bf, decide (a.kind = 1))
  else
  if decide (op = ([101, 110, 100, 115] : Str)) then
  (JcH a.s b.s).bind fun aT =>
  (JaQ aT).bind fun aV =>
  some (aV, decide (a.kind = 1))
  else
  (qe5 a.s b.s).bind fun aU =>
  (JaQ aU).bind fun aS =>
  some (aS, decide (a.kind = 1))
theorem Jd8 {op : Str} {a : Ji} {b : Ji} {K : Hp} {r : Ji × Bool}
    (hm : Jdh op a b = some r) (hG : GG K) :
    Fn Tryz.prog 113 [str op, .agg #[.int .i64 a.kind, .int .i64 a.n, str a.s, .bool a.As], .agg #[.int .i64 b.kind, .int .i64 b.n, str b.s, .bool b.As]] K [] (fun v K' H' => v = .tuple #[.agg #[.int .i64 r.1.kind, .int .i64 r.1.n, str r.1.s, .bool r.1.As], .bool r.2] ∧ H' = []) := by
 refine Fn.enter Tryz.func113 Tryz.call113 rfl fun F => ?_
 unfold Jdh at hm
 refine qar ?_
 intro b4
 refine qar ?_
 intro b5
 refine qai rfl fun b6 => ?_
 refine fa rfl (ro (ld r2 rfl rfl (fa rfl (ro (ld r1 rfl rfl (qa6 ?_))))))
 refine cs rfl rfl hm ?_ ?_ <;> intro bJ hm
 refine qaj rfl rfl ?_
 refine qaa r0 rfl ⟨rfl, rfl, (nl rfl), ?_⟩
 exact ro (qab r0 rfl (nl rfl) (eE hm))
 refine qa3 ⟨⟨[], false⟩, _, [(_, _)], []⟩ (by kernel_rfl) ⟨Hp.Le.refl _, (sc [2] rfl), ci0⟩ ?_
 refine fa rfl (qap m0 rfl rfl (qaf (fa rfl (qap m0 rfl rfl (qaf ?_)))))
 refine qal rfl ?_
 refine qaq (cs rfl rfl hm ?_ ?_) <;> intro bz hm
 refine cs rfl rfl hm ?_ ?_ <;> intro bC hm
 refine fa rfl (ro (ld r2 rfl rfl (fa rfl (ro (ld r1 rfl rfl ?_)))))
 obtain ⟨bf, hm⟩ := qax hm
 refine qbd bf ?_
 refine cb hm fun bv bc hm => cg0 (Jac bc :) ?_
 refine qaa r0 rfl ⟨rfl, rfl, (nl rfl), ?_⟩
 exact ro (qab r0 rfl (nl rfl) (eE hm))
 refine fa rfl (ro (ld r2 rfl rfl (fa rfl (ro (ld r1 rfl rfl ?_)))))
 refine ci hm fun hm => ?_
 refine cb hm fun bH bh hm => cg0 (Jbj bh :) ?_
 refine qaa r0 rfl ⟨rfl, rfl, (nl rfl), ?_⟩
 exact ro (qab r0 rfl (nl rfl) (eE hm))
 refine qaq (cs rfl rfl hm ?_ ?_) <;> intro bF hm
 refine fa rfl (ro (ld r2 rfl rfl (fa rfl (ro (ld r1 rfl rfl ?_)))))
 refine ci hm fun hm => ?_
 refine cb hm fun bu bb hm => cg0 (Jbj bb :) ?_
 refine qaa r0 rfl ⟨rfl, rfl, (nl rfl), ?_⟩
 exact ro (qab r0 rfl (nl rfl) (eE hm))
 refine qaq (cs rfl rfl hm ?_ ?_) <;> intro br hm
 refine qaw ?_
 refine cs rfl rfl hm ?_ ?_ <;> intro bN hm
 refine qaj rfl rfl ?_
 refine qaa r0 rfl ⟨rfl, rfl, (nl rfl), ?_⟩
 exact ro (qab r0 rfl (nl rfl) (eE hm))
 refine fa rfl (ro (ld r2 rfl rfl (fa rfl (ro (ld r1 rfl rfl ?_)))))
 refine cb hm fun bA aW hm => cg0 (Jd7 aW :) ?_
 refine qaa r0 rfl ⟨rfl, rfl, (nl rfl), ?_⟩
 exact ro (qab r0 rfl (nl rfl) (eE hm))
 refine qaq (cs rfl rfl hm ?_ ?_) <;> intro bG hm
 refine ro (qab r2 rfl (nl rfl) (ro (qab r1 rfl (nl rfl) ?_)))
 refine qkm (b := (decide (a.kind = b.kind) && (decide (a.n = b.n) && (decide (a.s = b.s) && (a.As == b.As))))) rfl (by kernel_rfl) (by kernel_rfl) (by kernel_rfl) rfl ?_
 refine cb hm fun bo ba hm => cg0 (JaA ba :) ?_
 refine qaa r0 rfl ⟨rfl, rfl, (nl rfl), ?_⟩
 exact ro (qab r0 rfl (nl rfl) (eE hm))
 refine qaq (cs rfl rfl hm ?_ ?_) <;> intro bt hm
 refine ro (qab r2 rfl (nl rfl) (ro (qab r1 rfl (nl rfl) ?_)))
 refine qpv (b := (decide (a.kind = b.kind) && (decide (a.n = b.n) && (decide (a.s = b.s) && (a.As == b.As))))) rfl (by kernel_rfl) (by kernel_rfl) (by kernel_rfl) rfl ?_
 refine cb hm fun bK bj hm => cg0 (JaA bj :) ?_
 refine qaa r0 rfl ⟨rfl, rfl, (nl rfl), ?_⟩
 exact ro (qab r0 rfl (nl rfl) (eE hm))
 refine qaq (cs rfl rfl hm ?_ ?_) <;> intro bB hm
 refine fa rfl (ro (ld r2 rfl rfl (fa rfl (ro (ld r1 rfl rfl ?_)))))
 refine cb hm fun bL bl hm => cg0 (JaA bl :) ?_
 refine qaa r0 rfl ⟨rfl, rfl, (nl rfl), ?_⟩
 exact ro (qab r0 rfl (nl rfl) (eE hm))
 refine qaq (cs rfl rfl hm ?_ ?_) <;> intro bp hm
 refine fa rfl (ro (ld r2 rfl rfl (fa rfl (ro (ld r1 rfl rfl ?_)))))
 refine cb hm fun bO bm hm => cg0 (JaA bm :) ?_
 refine qaa r0 rfl ⟨rfl, rfl, (nl rfl), ?_⟩
 exact ro (qab r0 rfl (nl rfl) (eE hm))
 refine qaq (cs rfl rfl hm ?_ ?_) <;> intro bD hm
 refine fa rfl (ro (ld r2 rfl rfl (fa rfl (ro (ld r1 rfl rfl ?_)))))
 refine cb hm fun bI aZ hm => cg0 (JaB aZ :) ?_
 refine cb hm fun bM aX hm => cg0 (JaA aX :) ?_
 refine qaa r0 rfl ⟨rfl, rfl, (nl rfl), ?_⟩
 exact ro (qab r0 rfl (nl rfl) (eE hm))
 refine qaq (cs rfl rfl hm ?_ ?_) <;> intro bw hm
 refine fa rfl (ro (ld r2 rfl rfl (fa rfl (ro (ld r1 rfl rfl ?_)))))
 refine cb hm fun bd aS hm => cg0 (JdK aS :) ?_
 refine cb hm fun bg aT hm => cg0 (JaA aT :) ?_
 refine qaa r0 rfl ⟨rfl, rfl, (nl rfl), ?_⟩
 exact ro (qab r0 rfl (nl rfl) (eE hm))
 refine fa rfl (ro (ld r2 rfl rfl (fa rfl (ro (ld r1 rfl rfl ?_)))))
 refine cb hm fun bn aU hm => cg0 (qj7 aU (gg0 hG)) ?_
 refine cb hm fun aY aV hm => cg0 (JaA aV :) ?_
 refine qaa r0 rfl ⟨rfl, rfl, (nl rfl), ?_⟩
 exact ro (qab r0 rfl (nl rfl) (eE hm))

def qdp (c : UInt8) : Option (Bool) :=
  if (decide ((c.toNat : Int) ≥ 48) && decide ((c.toNat : Int) ≤ 57)) then
  some true
  else
  if (decide ((c.toNat : Int) ≥ 97) && decide ((c.toNat : Int) ≤ 122)) then
  some true
  else
  if (decide ((c.toNat : Int) ≥ 65) && decide ((c.toNat : Int) ≤ 90)) then
  some true
  else
  (ixByteM ([33, 35, 36, 37, 38, 39, 42, 43, 45, 46, 94, 95, 96, 124, 126] : Str) c).bind fun aS =>
  some (decide (aS ≥ 0))
theorem qf3 {c : UInt8} {K : Hp} {r : Bool}
    (hm : qdp c = some r)  :
    Fn Tryz.prog 219 [.int .u8 (c.toNat : Int)] K [] (fun v K' H' => v = .bool r ∧ H' = []) := by
 refine Fn.enter Tryz.func219 Tryz.call219 rfl fun F => ?_
 unfold qdp at hm
 refine qal rfl ?_
 refine jR (σ := Unit) (rg 3 7) (fun _ => [(3, .bool (decide ((c.toNat : Int) ≥ 48) && decide ((c.toNat : Int) ≤ 57)))]) (fun aX => True) ?_ ?_
 refine qah rfl ?_
 refine qae ?_ ?_ <;> intro aU
 refine ct aU (ct aU ?_)
 exact eMt () ⟨bq (qcr (b := decide ((c.toNat : Int) ≤ 57)) aU), trivial⟩
 refine cf aU (cf aU ?_)
 exact eMt () ⟨bq (((qa9 aU)).symm), trivial⟩
 rintro _ _ aY
 refine cs rfl rfl hm ?_ ?_ <;> intro w3 hm
 refine qac rfl (ct w3 ?_)
 exact eE hm
 refine qah rfl ?_
 refine qae ?_ ?_ <;> intro aT
 refine ct aT (ct aT (qac rfl ?_))
 refine qae ?_ ?_ <;> intro w3
 replace hm := ift (qct aT w3) hm
 refine qac rfl (ct w3 ?_)
 exact eE hm
 replace hm := qa7 (qcu aT w3) hm
 refine qah rfl ?_
 refine qae ?_ ?_ <;> intro aS
 refine ct aS (ct aS (qac rfl ?_))
 refine qae ?_ ?_ <;> intro w3
 replace hm := ift (qct aS w3) hm
 exact eE hm
 replace hm := qa7 (qcu aS w3) hm
 refine cb hm fun aW aV hm => cg0 (qi1 aV) ?_
 exact eE hm
 refine cf aS (cf aS (qac rfl (cF ?_)))
 replace hm := qa7 (qa9 aS) hm
 refine cb hm fun aW aV hm => cg0 (qi1 aV) ?_
 exact eE hm
 refine cf aT (cf aT (qac rfl (cF ?_)))
 replace hm := qa7 (qa9 aT) hm
 refine qah rfl ?_
 refine qae ?_ ?_ <;> intro aS
 refine ct aS (ct aS (qac rfl ?_))
 refine qae ?_ ?_ <;> intro w3
 replace hm := ift (qct aS w3) hm
 exact eE hm
 replace hm := qa7 (qcu aS w3) hm
 refine cb hm fun aW aV hm => cg0 (qi1 aV) ?_
 exact eE hm
 refine cf aS (cf aS (qac rfl (cF ?_)))
 replace hm := qa7 (qa9 aS) hm
 refine cb hm fun aW aV hm => cg0 (qi1 aV) ?_
 exact eE hm

def syntax_Token_L0 : List UInt8 → Nat → Option (Fl (Bool) (Unit))
  | [], _ => some (Fl.go ())
  | e0 :: aS, i0 =>
    (qdp e0).bind fun al =>
    if (!al) then
    some (Fl.ret false)
    else
    syntax_Token_L0 aS (i0 + 1)
def qdq (s : Str) : Option (Bool) :=
  (chk (s.length ≤ qbg)).bind fun _ =>
  (syntax_Token_L0 s 0).bind fun s0 => s0.el some fun t0 =>
  some (decide (s ≠ ([] : Str)))
theorem qf4 {s : Str} {K : Hp} {r : Bool}
    (hm : qdq s = some r)  :
    Fn Tryz.prog 180 [str s] K [] (fun v K' H' => v = .bool r ∧ H' = []) := by
 refine Fn.enter Tryz.func180 Tryz.call180 rfl fun F => ?_
 unfold qdq at hm
 refine ro (qa0 rfl ?_)
 obtain ⟨aV, hm⟩ := qax hm
 obtain ⟨s0, aS, hm⟩ := bnd hm
 refine lD (σ := (Unit)) ([2,3] ++ rg 6 9) [0] (fun i0 => [(6, .int .i64 (i0 : Int))]) (fun _ => []) (fun _ => []) (fun _ => True) (fun i0 _ => syntax_Token_L0 (s.drop i0) i0 = some s0) (fun t0 => s0 = Fl.go t0) (fun i0 => s.length - i0) 0 () aS (And.intro qe (And.intro ?_ ?_))
 clear aS
 rintro i0 _ _ aS j0
 conv at aS => whnf
 refine qac rfl ?_
 refine qae ?_ ?_ <;> intro w0
 obtain ⟨e0, aT, aW⟩ := ltx w0
 rw [aW, syntax_Token_L0.eq_2] at aS
 refine qal rfl ?_
 refine qay rfl (nn _) aT ?_
 refine cb aS fun al aU aS => cg0 (qf3 aU :) ?_
 refine qaw ?_
 refine cs rfl rfl aS ?_ ?_ <;> intro aX aS
 exact eE (er aS hm)
 refine qam (qbj aT aV) ?_
 exact eR aS (_, ())
 rw [lty w0, syntax_Token_L0.eq_1] at aS
 refine cT ?_
 exact eM aS _
 rintro t0 _ rfl j0
 replace hm := elg hm
 refine qbp ?_
 exact eE hm

def Jd9 (s : Str) : Option (Str × Err) :=
  (qdq s).bind fun x5 =>
  if (!x5) then
  some (([] : Str), (some 8))
  else
  if decide ((s.length : Int) > 64) then
  some (([] : Str), (some 5))
  else
  (JaI s).bind fun aS =>
  some (aS, none)
theorem Jer {s : Str} {K : Hp} {r : Str × Err}
    (hm : Jd9 s = some r)  :
    Fn Tryz.prog 137 [str s] K [] (fun v K' H' => v = .tuple #[str r.1, qcy 48 r.2] ∧ H' = []) := by
 refine Fn.enter Tryz.func137 Tryz.call137 rfl fun F => ?_
 unfold Jd9 at hm
 refine cb hm fun x5 q5 hm => cg0 (qf4 q5 :) ?_
 refine qaw ?_
 refine cs rfl rfl hm ?_ ?_ <;> intro w6 hm
 refine qas rfl ?_
 exact eE hm
 refine ro (qa0 rfl ?_)
 refine cs rfl rfl hm ?_ ?_ <;> intro aU hm
 refine qas rfl ?_
 exact eE hm
 refine cb hm fun aT aS hm => cg0 (JaK aS :) ?_
 exact eE hm

def JbL : List UInt8 → Nat → Option (Fl (Bool) (Unit))
  | [], _ => some (Fl.go ())
  | e0 :: aU, i0 =>
    (if decide ((e0.toNat : Int) < 32) then some (decide ((e0.toNat : Int) ≠ 9)) else some false).bind fun aS =>
    (if aS then some true else some (decide ((e0.toNat : Int) = 127))).bind fun aT =>
    if aT then
    some (Fl.ret true)
    else
    JbL aU (i0 + 1)
def Jds (s : Str) : Option (Bool) :=
  (chk (s.length ≤ qbg)).bind fun _ =>
  (JbL s 0).bind fun s0 => s0.el some fun t0 =>
  some false
theorem Jeh {s : Str} {K : Hp} {r : Bool}
    (hm : Jds s = some r)  :
    Fn Tryz.prog 181 [str s] K [] (fun v K' H' => v = .bool r ∧ H' = []) := by
 refine Fn.enter Tryz.func181 Tryz.call181 rfl fun F => ?_
 unfold Jds at hm
 refine ro (qa0 rfl ?_)
 obtain ⟨aZ, hm⟩ := qax hm
 obtain ⟨s0, aU, hm⟩ := bnd hm
 refine lD (σ := (Unit)) ([2,3] ++ rg 6 20) [0] (fun i0 => [(6, .int .i64 (i0 : Int))]) (fun _ => []) (fun _ => []) (fun _ => True) (fun i0 _ => JbL (s.drop i0) i0 = some s0) (fun t0 => s0 = Fl.go t0) (fun i0 => s.length - i0) 0 () aU (And.intro qe (And.intro ?_ ?_))
 clear aU
 rintro i0 _ _ aU j0
 conv at aU => whnf
 refine qac rfl ?_
 refine qae ?_ ?_ <;> intro w0
 obtain ⟨e0, aX, ba⟩ := ltx w0
 rw [ba, JbL.eq_2] at aU
 refine qal rfl ?_
 refine qah rfl ?_
 refine qay rfl (nn _) aX ?_
 obtain ⟨bc, aW, aU⟩ := bnd aU
 refine cS aW (fun aT aW => ?_) fun aT aW => ?_
 refine ct aT (ct aT (qay rfl (nn _) aX (ct aT (qa6 (ct aT ?_)))))
 obtain ⟨bb, aV, aU⟩ := bnd aU
 refine qae ?_ ?_ <;> intro aS
 replace aV := ift ((si aW).symm.trans aS) aV
 refine ct aS (ct aS (ct aS (ct aS (qac rfl (cT ?_)))))
 replace aU := ift (si aV).symm aU
 exact eE (er aU hm)
 replace aV := qa7 ((si aW).symm.trans aS) aV
 refine cf aS (cf aS (qay rfl (nn _) aX (cf aS (qaf (cf aS (qac rfl ?_))))))
 refine qae ?_ ?_ <;> intro aY
 replace aU := ift ((si aV).symm.trans aY) aU
 exact eE (er aU hm)
 replace aU := qa7 ((si aV).symm.trans aY) aU
 refine qam (qbj aX aZ) ?_
 exact eR aU (_, ())
 refine cf aT (cf aT (cf aT (cf aT ?_)))
 obtain ⟨bb, aV, aU⟩ := bnd aU
 replace aV := qa7 (si aW).symm aV
 refine cF (cF (cF (qay rfl (nn _) aX (cF (qaf (cF (qac rfl ?_)))))))
 refine qae ?_ ?_ <;> intro aY
 replace aU := ift ((si aV).symm.trans aY) aU
 exact eE (er aU hm)
 replace aU := qa7 ((si aV).symm.trans aY) aU
 refine qam (qbj aX aZ) ?_
 exact eR aU (_, ())
 rw [lty w0, JbL.eq_1] at aU
 refine cT ?_
 exact eM aU _
 rintro t0 _ rfl j0
 replace hm := elg hm
 exact eE hm

def JdR (s : Str) : Option (Str × Err) :=
  (Jds s).bind fun x5 =>
  if x5 then
  some (([] : Str), (some 2))
  else
  (qjo s ([32, 9] : Str)).bind fun x8 =>
  if decide ((x8.length : Int) > 2048) then
  some (([] : Str), (some 5))
  else
  some (x8, none)
theorem Jen {s : Str} {K : Hp} {r : Str × Err}
    (hm : JdR s = some r)  :
    Fn Tryz.prog 138 [str s] K [] (fun v K' H' => v = .tuple #[str r.1, qcy 48 r.2] ∧ H' = []) := by
 refine Fn.enter Tryz.func138 Tryz.call138 rfl fun F => ?_
 unfold JdR at hm
 refine cb hm fun x5 q5 hm => cg0 (Jeh q5 :) ?_
 refine cs rfl rfl hm ?_ ?_ <;> intro w5 hm
 refine qas rfl ?_
 exact eE hm
 refine cb hm fun x8 q8 hm => cg0 (qj5 q8) ?_
 refine ro (qa0 rfl ?_)
 refine cs rfl rfl hm ?_ ?_ <;> intro aS hm
 refine qas rfl ?_
 exact eE hm
 exact eE hm

def Jb1 (al : Str) (value : Str) : List Jc → Nat → (List Jc) → Bool → Option ((List Jc) × Bool)
  | [], _, ac, aS => some (ac, aS)
  | e0 :: aT, i0, ac, aS =>
    (JaI e0.Name).bind fun aU =>
    if decide (aU ≠ al) then
    (chk (ac.length + [e0].length ≤ lim)).bind fun _ =>
    Jb1 al value aT (i0 + 1) (ac ++ [e0]) aS
    else
    if (!aS) then
    (chk (ac.length + [(⟨al, value⟩ : Jc)].length ≤ lim)).bind fun _ =>
    Jb1 al value aT (i0 + 1) (ac ++ [(⟨al, value⟩ : Jc)]) true
    else
    Jb1 al value aT (i0 + 1) ac aS
def JdW (f : (List Jc)) (name : Str) (value : Str) : Option ((List Jc)) :=
  (JaI name).bind fun al =>
  (chk (f.length ≤ qbg)).bind fun _ =>
  (Jb1 al value f 0 [] false).bind fun t0 =>
  if (!t0.2) then
  (chk (t0.1.length + [(⟨al, value⟩ : Jc)].length ≤ lim)).bind fun _ =>
  some (t0.1 ++ [(⟨al, value⟩ : Jc)])
  else
  some t0.1
theorem Jed {f : (List Jc)} {name : Str} {value : Str} {aa : Option Addr} {ab : Nat} {n0 : Nat} {K : Hp} {r : (List Jc)}
    (hm : JdW f name value = some r) (hX : RdC Jc.enc K aa ab 2 f ∧ n0 = f.length) :
    Fn Tryz.prog 21 [.slice aa n0 ab, str name, str value] K [] (fun v K' H' => ∃ ar_0 : Option Addr, ∃ cr_0 : Nat, v = .slice ar_0 r.length cr_0 ∧ (0 < r.length → Has ar_0) ∧ H' = [qau Jc.enc ar_0 41 2 cr_0 r]) := by
 obtain ⟨ae, bh⟩ := hX
 subst bh
 refine Fn.enter Tryz.func21 Tryz.call21 rfl fun F => ?_
 unfold JdW at hm
 refine cb hm fun al bf hm => cg0 (JaK bf :) ?_
 refine ro (qak rfl ?_)
 obtain ⟨aW, hm⟩ := qax hm
 obtain ⟨s0, aU, hm⟩ := bnd hm
 refine qgy Jc.enc 41 2 ?_
 refine lD (σ := ((List Jc) × Bool) × Option Addr × Nat) ([7,8,10] ++ rg 15 24) [1] (fun i0 => [(15, .int .i64 (i0 : Int))]) (fun (t0, aS, aT) => [(7, .slice aS t0.1.length aT), (8, .bool t0.2)]) (fun (t0, aS, aT) => [qau Jc.enc aS 41 2 aT t0.1]) (fun (t0, aS, aT) => (0 < t0.1.length → Has aS) ∧ True) (fun i0 (t0, aS, aT) => Jb1 al value (f.drop i0) i0 t0.1 t0.2 = some s0) (fun (t0, aS, aT) => t0 = s0) (fun i0 => f.length - i0) 0 ((_, _), _, _) aU (And.intro qe (And.intro ?_ ?_))
 clear aU
 rintro i0 ⟨⟨ac, bb⟩, ba, aZ⟩ ⟨aX, _⟩ aU j0
 dsimp only at aU ⊢
 refine qac rfl ?_
 refine qae ?_ ?_ <;> intro w0
 obtain ⟨e0, aV, bl⟩ := ltx w0
 rw [bl, Jb1.eq_2] at aU
 refine qal rfl ?_
 refine RStep.ofN (qad rfl rfl (qfy ae.rd aV) (nn _) (qbm aV) (ro (qan i0 _ ae.rd rfl (mp aV) rfl ?_)))
 refine qai rfl fun bn => ?_
 refine qaa r0 rfl ⟨rfl, rfl, (nl rfl), ?_⟩
 refine qal rfl ?_
 refine fa rfl (ro (ld r0 rfl rfl ?_))
 refine cb aU fun bv bc aU => cg0 (JaK bc :) ?_
 refine qbp (cs rfl rfl aU ?_ ?_) <;> intro bD aU
 refine ro (qab r0 rfl (nl rfl) ?_)
 refine bsO (len := 1) (enc := Jc.enc) (l := [e0]) (cl := [str e0.Name, str e0.Value]) qf2 rfl rfl (fun _ _ => rfl) rfl rfl rfl ?_ fun bt => ?_
 · conv => whnf
   refine cT ?_
   first | done | rfl
 obtain ⟨bd, aU⟩ := qax aU
 refine apE rfl r2 qf2 (qat rfl r0 rfl (fun _ => rfl) (fun _ => rfl)) bd ?_
 intro bu bw bC
 refine qam (qbj aV aW) ?_
 exact eR aU (_, (_, _), _, _)
 refine qaw ?_
 refine cs rfl rfl aU ?_ ?_ <;> intro bo aU
 refine qaj rfl rfl (cT (cT ?_))
 refine bsO (len := 1) (enc := Jc.enc) (l := [(⟨al, value⟩ : Jc)]) (cl := [str al, str value]) qf2 rfl rfl (fun _ _ => rfl) rfl rfl rfl ?_ fun bp => ?_
 · conv => whnf
   refine cT ?_
   first | done | rfl
 obtain ⟨bj, aU⟩ := qax aU
 refine apE rfl r2 qf2 (qat rfl r0 rfl (fun _ => rfl) (fun _ => rfl)) bj ?_
 intro bB bz bG
 refine qam (qbj aV aW) ?_
 exact eR aU (_, (_, _), _, _)
 refine qam (qbj aV aW) ?_
 exact eR aU (_, (_, _), _, _)
 rw [lty w0, Jb1.eq_1] at aU
 refine cT ?_
 exact eM aU (_, _, _)
 rintro ⟨t0, aS, aT⟩ ⟨aY, _⟩ rfl j0
 refine qaw ?_
 refine cs rfl rfl hm ?_ ?_ <;> intro br hm
 refine qaj rfl rfl (cT (cT ?_))
 refine bsO (len := 1) (enc := Jc.enc) (l := [(⟨al, value⟩ : Jc)]) (cl := [str al, str value]) qf2 rfl rfl (fun _ _ => rfl) rfl rfl rfl ?_ fun bA => ?_
 · conv => whnf
   refine cT ?_
   first | done | rfl
 obtain ⟨bg, hm⟩ := qax hm
 refine apE rfl r1 qf2 (qat rfl r0 rfl (fun _ => rfl) (fun _ => rfl)) bg ?_
 intro bH bm bF
 exact eE hm
 exact eE hm

def Jb2 (r' : Jq) (s : Str) (x : Ji) : Option (Err × Jq) :=
  (qon s ([58] : Str)).bind fun aU =>
  (Jd9 aU.2.1).bind fun aS =>
  if aS.2.isSome then
  some ((some 8), r')
  else
  if decide (aU.1 = ([118, 97, 114, 121] : Str)) then
  (JK r'.Vary aS.1).bind fun aV =>
  if (!aV) then
  (chk (r'.Vary.length + [aS.1].length ≤ lim)).bind fun _ =>
  some (none, (⟨r'.Ae, r'.Af, r'.Ag, (r'.Vary ++ [aS.1]), r'.Ah, r'.TTL, r'.Ai, r'.Aj, r'.Ak, r'.Al⟩ : Jq))
  else
  some (none, r')
  else
  (JdR x.s).bind fun aT =>
  if aT.2.isSome then
  some (aT.2, r')
  else
  (JdW r'.Ag aS.1 aT.1).bind fun aA =>
  some (none, (⟨r'.Ae, r'.Af, aA, r'.Vary, r'.Ah, r'.TTL, r'.Ai, r'.Aj, r'.Ak, r'.Al⟩ : Jq))
theorem Jdm {r' : Jq} {s : Str} {x : Ji} {b0 : Nat} {aa : Option Addr} {ab : Nat} {ah : Option Addr} {ak : Nat} {am : Option Addr} {ar : Nat} {aQ : TypeId} {aN aP : List Value} {K : Hp} {r : Err × Jq}
    (hm : Jb2 r' s x = some r) (hX : (0 < r'.Ag.length → Has aa) ∧ (0 < r'.Vary.length → Has ah) ∧ (0 < r'.Ah.length → Has am) ∧ GG K) :
    Fn Tryz.prog 164 [.pointer (some ⟨b0, aN.length + 0, none⟩), str s, .agg #[.int .i64 x.kind, .int .i64 x.n, str x.s, .bool x.As]] K [qfj b0 aQ aN aP [str r'.Ae, str r'.Af, .slice aa r'.Ag.length ab, .slice ah r'.Vary.length ak, .slice am r'.Ah.length ar, .int .i64 r'.TTL, .int .i64 r'.Ai, .int .i64 r'.Aj, .bool r'.Ak, .bool r'.Al], qau Jc.enc aa 41 2 ab r'.Ag, qau eS ah 9 1 ak r'.Vary, qau eS am 9 1 ar r'.Ah] (fun v K' H' => ∃ ar_0 : Option Addr, ∃ cr_0 : Nat, ∃ ar_1 : Option Addr, ∃ cr_1 : Nat, ∃ ar_2 : Option Addr, ∃ cr_2 : Nat, v = qcy 48 r.1 ∧ (0 < r.2.Ag.length → Has ar_0) ∧ (0 < r.2.Vary.length → Has ar_1) ∧ (0 < r.2.Ah.length → Has ar_2) ∧ H' = [qfj b0 aQ aN aP [str r.2.Ae, str r.2.Af, .slice ar_0 r.2.Ag.length cr_0, .slice ar_1 r.2.Vary.length cr_1, .slice ar_2 r.2.Ah.length cr_2, .int .i64 r.2.TTL, .int .i64 r.2.Ai, .int .i64 r.2.Aj, .bool r.2.Ak, .bool r.2.Al], qau Jc.enc ar_0 41 2 cr_0 r.2.Ag, qau eS ar_1 9 1 cr_1 r.2.Vary, qau eS ar_2 9 1 cr_2 r.2.Ah]) := by
 obtain ⟨ae, bd, aY, hG⟩ := hX
 refine Fn.enter Tryz.func164 Tryz.call164 rfl fun F => ?_
 unfold Jb2 at hm
 refine qar ?_
 intro b5
 refine cb hm fun bo bg hm => cg0 (qmz bg (gg0 hG)) ?_
 refine cb hm fun aU bl hm => cg0 (Jer bl :) ?_
 refine qa5 rfl ?_
 refine cs rfl rfl hm ?_ ?_ <;> intro bu hm
 refine qas rfl ?_
 exact eE hm
 refine qaq (cs rfl rfl hm ?_ ?_) <;> intro bB hm
 refine qag ?_
 refine qcw (j' := 3) rfl rfl ?_
 refine ro (ld r1 rfl (qiv rfl) ?_)
 refine cb hm fun br bh hm => ck0 (Fn.lend Tryz.call53 (fun bb aW aT => (JM (v' := aU.1) bh ⟨aT, rfl⟩)) (by exact fun _ _ _ _ h => h)) ?_
 rintro _ _ _ ⟨_, rfl, rfl, rfl⟩
 refine qaw ?_
 refine cs rfl rfl hm ?_ ?_ <;> intro bA hm
 refine qag ?_
 refine qcw (j' := 3) rfl rfl ?_
 refine ro (ld r2 rfl (qiv rfl) ?_)
 refine bsO (len := 1) (enc := eS) (l := [aU.1]) (cl := [str aU.1]) qbr rfl rfl (fun _ _ => rfl) rfl rfl rfl ?_ fun bw => ?_
 · conv => whnf
   refine cT ?_
   first | done | rfl
 obtain ⟨bj, hm⟩ := qax hm
 refine apE rfl r1 qbr (qat rfl r0 rfl (fun _ => rfl) (fun _ => rfl)) bj ?_
 intro bv bz bt
 refine qag ?_
 refine qcw (j' := 3) rfl rfl ?_
 refine qd0 r3 rfl ?_
 refine ⟨rfl, rfl, (nl rfl), ?_⟩
 exact eE hm
 exact eE hm
 refine fa rfl (ro (ld r0 rfl rfl ?_))
 refine cb hm fun bn bf hm => cg0 (Jen bf :) ?_
 refine qa5 rfl ?_
 refine cs rfl rfl hm ?_ ?_ <;> intro bp hm
 exact eE hm
 refine qag ?_
 refine qcw (j' := 2) rfl rfl ?_
 refine ro (ld r1 rfl (qiv rfl) ?_)
 refine cb hm fun aA bm hm => ck0 (Fn.lend Tryz.call21 (fun aV aX aS => (Jed (name := aU.1) (value := bn.1) bm ⟨aS, rfl⟩)) (by exact fun _ _ _ _ h => h)) ?_
 rintro _ _ _ ⟨_, rfl, aZ, ba, rfl, bc, rfl⟩
 refine qag ?_
 refine qcw (j' := 2) rfl rfl ?_
 refine qd0 r3 rfl ?_
 refine ⟨rfl, rfl, (nl rfl), ?_⟩
 exact eE hm

def Jcj (r' : Jq) (s : Str) (x : Ji) : Option (Err × Jq) :=
  (((if (decide (s = ([112, 97, 115, 115] : Str)) || decide (s = ([116, 111, 107, 101, 110] : Str))) then some true else (Jam s ([118, 97, 114, 121, 58] : Str)).bind fun aW =>
  some aW).bind fun aT =>
  if aT then
  some 0
  else
  if (decide (s = ([116, 116, 108] : Str)) || decide (s = ([100, 101, 110, 121] : Str))) then
  some 2
  else
  some 1 : Option (Int))).bind fun aS =>
  if decide (x.kind ≠ aS) then
  some ((some 9), r')
  else
  if decide (s = ([112, 97, 116, 104] : Str)) then
  some (none, (⟨x.s, r'.Af, r'.Ag, r'.Vary, r'.Ah, r'.TTL, r'.Ai, r'.Aj, r'.Ak, r'.Al⟩ : Jq))
  else
  if decide (s = ([113, 117, 101, 114, 121] : Str)) then
  some (none, (⟨r'.Ae, x.s, r'.Ag, r'.Vary, r'.Ah, r'.TTL, r'.Ai, r'.Aj, r'.Ak, r'.Al⟩ : Jq))
  else
  if decide (s = ([116, 97, 103] : Str)) then
  (JK r'.Ah x.s).bind fun aV =>
  if (!aV) then
  (chk (r'.Ah.length + [x.s].length ≤ lim)).bind fun _ =>
  some (none, (⟨r'.Ae, r'.Af, r'.Ag, r'.Vary, (r'.Ah ++ [x.s]), r'.TTL, r'.Ai, r'.Aj, r'.Ak, r'.Al⟩ : Jq))
  else
  some (none, r')
  else
  if decide (s = ([116, 116, 108] : Str)) then
  some (none, (⟨r'.Ae, r'.Af, r'.Ag, r'.Vary, r'.Ah, (max 0 x.n), r'.Ai, r'.Aj, r'.Ak, r'.Al⟩ : Jq))
  else
  if decide (s = ([100, 101, 110, 121] : Str)) then
  if (decide (x.n < 400) || decide (x.n > 499)) then
  some (none, (⟨r'.Ae, r'.Af, r'.Ag, r'.Vary, r'.Ah, r'.TTL, 403, r'.Aj, r'.Ak, r'.Al⟩ : Jq))
  else
  some (none, (⟨r'.Ae, r'.Af, r'.Ag, r'.Vary, r'.Ah, r'.TTL, x.n, r'.Aj, r'.Ak, r'.Al⟩ : Jq))
  else
  if decide (s = ([112, 97, 115, 115] : Str)) then
  some (none, (⟨r'.Ae, r'.Af, r'.Ag, r'.Vary, r'.Ah, r'.TTL, r'.Ai, r'.Aj, true, r'.Al⟩ : Jq))
  else
  if decide (s = ([116, 111, 107, 101, 110] : Str)) then
  some (none, (⟨r'.Ae, r'.Af, r'.Ag, r'.Vary, r'.Ah, r'.TTL, r'.Ai, r'.Aj, r'.Ak, true⟩ : Jq))
  else
  (Jb2 r' s x).bind fun aU =>
  some (aU.1, aU.2)
theorem Jdx {r' : Jq} {s : Str} {x : Ji} {b0 : Nat} {aa : Option Addr} {ab : Nat} {ah : Option Addr} {ak : Nat} {am : Option Addr} {ar : Nat} {aQ : TypeId} {aN aP : List Value} {K : Hp} {r : Err × Jq}
    (hm : Jcj r' s x = some r) (hX : (0 < r'.Ag.length → Has aa) ∧ (0 < r'.Vary.length → Has ah) ∧ (0 < r'.Ah.length → Has am) ∧ GG K) :
    Fn Tryz.prog 115 [.pointer (some ⟨b0, aN.length + 0, none⟩), str s, .agg #[.int .i64 x.kind, .int .i64 x.n, str x.s, .bool x.As]] K [qfj b0 aQ aN aP [str r'.Ae, str r'.Af, .slice aa r'.Ag.length ab, .slice ah r'.Vary.length ak, .slice am r'.Ah.length ar, .int .i64 r'.TTL, .int .i64 r'.Ai, .int .i64 r'.Aj, .bool r'.Ak, .bool r'.Al], qau Jc.enc aa 41 2 ab r'.Ag, qau eS ah 9 1 ak r'.Vary, qau eS am 9 1 ar r'.Ah] (fun v K' H' => ∃ ar_0 : Option Addr, ∃ cr_0 : Nat, ∃ ar_1 : Option Addr, ∃ cr_1 : Nat, ∃ ar_2 : Option Addr, ∃ cr_2 : Nat, v = qcy 48 r.1 ∧ (0 < r.2.Ag.length → Has ar_0) ∧ (0 < r.2.Vary.length → Has ar_1) ∧ (0 < r.2.Ah.length → Has ar_2) ∧ H' = [qfj b0 aQ aN aP [str r.2.Ae, str r.2.Af, .slice ar_0 r.2.Ag.length cr_0, .slice ar_1 r.2.Vary.length cr_1, .slice ar_2 r.2.Ah.length cr_2, .int .i64 r.2.TTL, .int .i64 r.2.Ai, .int .i64 r.2.Aj, .bool r.2.Ak, .bool r.2.Al], qau Jc.enc ar_0 41 2 cr_0 r.2.Ag, qau eS ar_1 9 1 cr_1 r.2.Vary, qau eS ar_2 9 1 cr_2 r.2.Ah]) := by
 obtain ⟨ae, bu, bl, hG⟩ := hX
 refine Fn.enter Tryz.func115 Tryz.call115 rfl fun F => ?_
 unfold Jcj at hm
 refine qar ?_
 intro b5
 obtain ⟨bc, aS, hm⟩ := bnd hm
 refine jD (σ := (Int)) (rg 7 19) [0, 1, 2, 3, 4, 5] (fun aZ => [(7, .int .i64 aZ)]) (fun aZ => []) (fun aZ => aZ = bc) (And.intro ?_ ?_)
 refine qal rfl ?_
 obtain ⟨bd, aU, aS⟩ := bnd aS
 refine jR (σ := Bool) (rg 8 11) (fun ba => [(8, .bool ba)]) (fun ba => ba = bd) ?_ ?_
 replace aU := bsm aU
 refine qah rfl ?_
 refine qaq ?_
 refine qae ?_ ?_ <;> intro aV
 refine ct aV (ct aV ?_)
 obtain ⟨bG, aY, aU⟩ := bnd aU
 replace aY := ift (qcj aV) aY
 refine cT (cT (cT ?_))
 exact eMq aU _ ⟨bq (si aY), trivial⟩
 refine cf aV (qaq (cf aV ?_))
 obtain ⟨bG, aY, aU⟩ := bnd aU
 refine qae ?_ ?_ <;> intro aX
 replace aY := ift (qgx aV aX) aY
 refine ct aX (ct aX ?_)
 exact eMq aU _ ⟨bq (si aY), trivial⟩
 replace aY := qa7 (qeh aV aX) aY
 refine cf aX ?_
 refine cb aY fun bW bD aY => cg0 (JaB bD :) ?_
 refine cf aX ?_
 exact eMq aU _ ⟨bq (si aY), trivial⟩
 rintro ba rfl bF
 refine cs rfl rfl aS ?_ ?_ <;> intro w8 aS
 exact eM aS _
 refine qah rfl ?_
 refine qaq ?_
 refine qae ?_ ?_ <;> intro aW
 refine ct aW (ct aW (qac rfl (cT ?_)))
 replace aS := ift (qcj aW) aS
 exact eM aS _
 refine cf aW (qaq (cf aW (qac rfl ?_)))
 refine qae ?_ ?_ <;> intro bt
 replace aS := ift (qgx aW bt) aS
 exact eM aS _
 replace aS := qa7 (qeh aW bt) aS
 exact eM aS _
 rintro aZ rfl bI
 refine fa rfl (ro (ld r0 rfl rfl (qa6 ?_)))
 refine cs rfl rfl hm ?_ ?_ <;> intro bO hm
 refine qas rfl ?_
 exact eE hm
 refine qal rfl ?_
 refine qaq (cs rfl rfl hm ?_ ?_) <;> intro bT hm
 refine fa rfl (ro (ld r0 rfl rfl (qag ?_)))
 refine qcw (j' := 0) rfl rfl ?_
 refine qd0 r1 rfl ?_
 refine ⟨rfl, rfl, (nl rfl), ?_⟩
 exact eE hm
 refine qaq (cs rfl rfl hm ?_ ?_) <;> intro bL hm
 refine fa rfl (ro (ld r0 rfl rfl (qag ?_)))
 refine qcw (j' := 1) rfl rfl ?_
 refine qd0 r1 rfl ?_
 refine ⟨rfl, rfl, (nl rfl), ?_⟩
 exact eE hm
 refine qaq (cs rfl rfl hm ?_ ?_) <;> intro bM hm
 refine qa3 ⟨⟨[], false⟩, _, [(_, _), (_, _)], []⟩ (by kernel_rfl) ⟨Hp.Le.refl _, (sc [1,0] rfl), ci0⟩ ?_
 refine qag ?_
 refine qcw (j' := 4) rfl rfl ?_
 refine qap m0 rfl (qiv rfl) (fa rfl (qap m1 rfl rfl ?_))
 refine cb hm fun bJ bC hm => ck0 (Fn.lend Tryz.call53 (fun bv bf bb => (JM (v' := x.s) bC ⟨bb, rfl⟩)) (by exact fun _ _ _ _ h => h)) ?_
 rintro _ _ _ ⟨_, rfl, rfl, rfl⟩
 refine qk (sc [2,1] rfl) ?_
 refine qaw ?_
 refine cs rfl rfl hm ?_ ?_ <;> intro bV hm
 refine qa2 ⟨⟨[], false⟩, _, [(_, _), (_, _)], []⟩ 9 rfl (by kernel_rfl) ⟨Hp.Le.refl _, (sc [2,1] rfl), ci0⟩ ?_
 refine qag ?_
 refine qcw (j' := 4) rfl rfl ?_
 refine qap m0 rfl (qiv rfl) (fa rfl (qap m1 rfl rfl ?_))
 refine bsO (len := 1) (enc := eS) (l := [x.s]) (cl := [str x.s]) qbr rfl rfl (fun _ _ => rfl) rfl rfl rfl ?_ fun bU => ?_
 · conv => whnf
   refine cT ?_
   first | done | rfl
 refine qk (sc [3,2] rfl) ?_
 obtain ⟨bH, hm⟩ := qax hm
 refine apE rfl r1 qbr (qat rfl r0 rfl (fun _ => rfl) (fun _ => rfl)) bH ?_
 intro bX bQ bP
 refine qk (sc [3,2] rfl) ?_
 refine qag ?_
 refine qcw (j' := 4) rfl rfl ?_
 refine qd0 r3 rfl ?_
 refine ⟨rfl, rfl, (nl rfl), ?_⟩
 refine ⟨⟨Hp.emp_le _, (pf rfl), ci0⟩, ?_⟩
 exact eE hm
 exact eE hm
 refine qaq (cs rfl rfl hm ?_ ?_) <;> intro bR hm
 refine fa rfl (ro (ld r0 rfl rfl (ro (qce (qag ?_)))))
 refine qcw (j' := 5) rfl rfl ?_
 refine qd0 r1 rfl ?_
 refine ⟨rfl, rfl, (nl rfl), ?_⟩
 exact eE hm
 refine qaq (cs rfl rfl hm ?_ ?_) <;> intro bK hm
 refine fa rfl (ro (ld r0 rfl rfl (qag ?_)))
 refine qcw (j' := 6) rfl rfl ?_
 refine qd0 r1 rfl ?_
 refine ⟨rfl, rfl, (nl rfl), ?_⟩
 refine qah rfl ?_
 refine fa rfl (ro (ld r1 rfl rfl ?_))
 refine qae ?_ ?_ <;> intro aT
 refine ct aT (ct aT (ct aT (qac rfl (cT ?_))))
 replace hm := ift (qcj aT) hm
 refine qag ?_
 refine qcw (j' := 6) rfl rfl ?_
 refine qd0 r0 rfl ?_
 refine ⟨rfl, rfl, (nl rfl), ?_⟩
 exact eE hm
 refine fa rfl (cf aT (ro (ld r1 rfl rfl (cf aT (cf aT (qac rfl ?_))))))
 refine qae ?_ ?_ <;> intro bp
 replace hm := ift (qgx aT bp) hm
 refine qag ?_
 refine qcw (j' := 6) rfl rfl ?_
 refine qd0 r0 rfl ?_
 refine ⟨rfl, rfl, (nl rfl), ?_⟩
 exact eE hm
 replace hm := qa7 (qeh aT bp) hm
 exact eE hm
 refine qaq (cs rfl rfl hm ?_ ?_) <;> intro bN hm
 refine qag ?_
 refine qcw (j' := 8) rfl rfl ?_
 refine qd0 r1 rfl ?_
 refine ⟨rfl, rfl, (nl rfl), ?_⟩
 exact eE hm
 refine qaq (cs rfl rfl hm ?_ ?_) <;> intro bA hm
 refine qag ?_
 refine qcw (j' := 9) rfl rfl ?_
 refine qd0 r1 rfl ?_
 refine ⟨rfl, rfl, (nl rfl), ?_⟩
 exact eE hm
 refine ro (qab r0 rfl (nl rfl) ?_)
 refine cb hm fun bS bB hm => ckx (Jdm bB :) ?_
 rintro _ _ _ ⟨bn, bh, bz, bj, bm, bg, rfl, bo, bw, br, rfl⟩
 exact eE hm
