/- Functions of the program: mirrors, and that a call returns what the mirror says. Printed by gen.py. -/
import Derived.Test.YtiaaooopklhobaaGreatDoorG4
set_option linter.unusedVariables false
set_option linter.unusedSimpArgs false
open Go Go.SL Go.Proofs
noncomputable section
set_option maxRecDepth 1000000
set_option maxHeartbeats 8000000
def Ja6 (code : (List Jf)) : List Jf → Nat → Int → (List Jo) → Option (Fl (Int × Bool) (Int × (List Jo)))
  | [], _, ac, aW => some (Fl.go (ac, aW))
  | e0 :: a8, i0, ac, aW =>
    (ix aW (i0 : Int)).bind fun aS =>
    (Jdd e0).bind fun aU =>
    (chk (InI ((code.length : Int) - 1))).bind fun _ =>
    if ((((!aU.2.2) || (!aS.Au)) || decide (aS.depth < aU.1)) || (!((decide (e0.Op = 12)) == (decide ((i0 : Int) = ((code.length : Int) - 1)))))) then
    some (Fl.ret (0, false))
    else
    (if decide (e0.Op = 3) then (Jcs aS e0.N).bind fun bc =>
    some (!bc) else some false).bind fun bd =>
    if bd then
    some (Fl.ret (0, false))
    else
    (chk (InI (aU.2.1 - aU.1))).bind fun _ =>
    (chk (InI (aS.depth + (aU.2.1 - aU.1)))).bind fun _ =>
    ((if decide (e0.Op = 4) then
    (chk ((64 : Int) ≠ 0 ∧ InI (Int.tdiv e0.N 64))).bind fun _ =>
    (chk (0 ≤ (Int.tdiv e0.N 64) ∧ (Int.tdiv e0.N 64) < 8)).bind fun _ =>
    (chk (0 ≤ (Int.tmod e0.N 64))).bind fun _ =>
    (chk (0 ≤ (Int.tdiv e0.N 64) ∧ (Int.tdiv e0.N 64) < 8)).bind fun _ =>
    (some (List.set [aS.At.f0, aS.At.f1, aS.At.f2, aS.At.f3, aS.At.f4, aS.At.f5, aS.At.f6, aS.At.f7] (Int.toNat (Int.tdiv e0.N 64)) (u64or (List.getD [aS.At.f0, aS.At.f1, aS.At.f2, aS.At.f3, aS.At.f4, aS.At.f5, aS.At.f6, aS.At.f7] (Int.toNat (Int.tdiv e0.N 64)) 0) (qnu 1 (Int.tmod e0.N 64))))).bind fun aV =>
    some ((List.getD aV 0 0), (List.getD aV 1 0), (List.getD aV 2 0), (List.getD aV 3 0), (List.getD aV 4 0), (List.getD aV 5 0), (List.getD aV 6 0), (List.getD aV 7 0))
    else
    some (aS.At.f0, aS.At.f1, aS.At.f2, aS.At.f3, aS.At.f4, aS.At.f5, aS.At.f6, aS.At.f7) : Option (Int × Int × Int × Int × Int × Int × Int × Int))).bind fun aT =>
    ((if (decide (e0.Op = 9) || decide (e0.Op = 10)) then
    if (decide (e0.N ≤ (i0 : Int)) || decide (e0.N ≥ (code.length : Int))) then
    some (Fl.ret (0, false))
    else
    (ix aW e0.N).bind fun ba =>
    (Ja2 aW ((e0.N).toNat) (⟨aS.Au, (aS.depth + (aU.2.1 - aU.1)), (⟨aT.1, aT.2.1, aT.2.2.1, aT.2.2.2.1, aT.2.2.2.2.1, aT.2.2.2.2.2.1, aT.2.2.2.2.2.2.1, aT.2.2.2.2.2.2.2⟩ : JaE)⟩ : Jo)).bind fun aY =>
    if (!aY.1) then
    some (Fl.ret (0, false))
    else
    some (Fl.go aY.2)
    else
    some (Fl.go aW) : Option (Fl (Int × Bool) ((List Jo))))).bind fun a6 => a6.el (fun r => some (Fl.ret r)) fun aX =>
    if decide ((i0 : Int) = ((code.length : Int) - 1)) then
    some (Fl.ret ((max (max ac aS.depth) (aS.depth + (aU.2.1 - aU.1))), decide ((aS.depth + (aU.2.1 - aU.1)) = 0)))
    else
    if decide (e0.Op ≠ 9) then
    (ix aX ((i0 : Int) + 1)).bind fun bb =>
    (Ja2 aX ((((i0 : Int) + 1)).toNat) (⟨aS.Au, (aS.depth + (aU.2.1 - aU.1)), (⟨aT.1, aT.2.1, aT.2.2.1, aT.2.2.2.1, aT.2.2.2.2.1, aT.2.2.2.2.2.1, aT.2.2.2.2.2.2.1, aT.2.2.2.2.2.2.2⟩ : JaE)⟩ : Jo)).bind fun aZ =>
    if (!aZ.1) then
    some (Fl.ret (0, false))
    else
    Ja6 code a8 (i0 + 1) (max (max ac aS.depth) (aS.depth + (aU.2.1 - aU.1))) aZ.2
    else
    Ja6 code a8 (i0 + 1) (max (max ac aS.depth) (aS.depth + (aU.2.1 - aU.1))) aX
def Jdp (code : (List Jf)) : Option (Int × Bool) :=
  if (decide ((code.length : Int) < 1) || decide ((code.length : Int) > 2048)) then
  some (0, false)
  else
  (chk ((0 : Int) ≤ (code.length : Int) ∧ (code.length : Int) ≤ (lim : Int))).bind fun _ =>
  (ix (List.replicate (Int.toNat (code.length : Int)) ((⟨false, 0, (⟨0, 0, 0, 0, 0, 0, 0, 0⟩ : JaE)⟩ : Jo) : Jo)) 0).bind fun aS =>
  (chk (code.length ≤ qbh)).bind fun _ =>
  (Ja6 code code 0 0 ((List.replicate (Int.toNat (code.length : Int)) ((⟨false, 0, (⟨0, 0, 0, 0, 0, 0, 0, 0⟩ : JaE)⟩ : Jo) : Jo)).set ((0 : Int).toNat) (⟨true, aS.depth, aS.At⟩ : Jo))).bind fun s0 => s0.el some fun t0 =>
  some (0, false)
theorem Jej {code : (List Jf)} {aa : Option Addr} {ab : Nat} {n0 : Nat} {K : Hp} {r : Int × Bool}
    (hm : Jdp code = some r) (hX : RdC Jf.enc K aa ab 3 code ∧ n0 = code.length ∧ GG K) :
    Fn Tryz.prog 106 [.slice aa n0 ab] K [] (fun v K' H' => v = .tuple #[.int .i64 r.1, .bool r.2] ∧ H' = []) := by
 obtain ⟨ae, cN, hG⟩ := hX
 subst cN
 refine Fn.enter Tryz.func106 Tryz.call106 rfl fun F => ?_
 unfold Jdp at hm
 refine jR (σ := Unit) (rg 13 8) (fun _ => [(20, .bool (decide ((code.length : Int) < 1) || decide ((code.length : Int) > 2048)))]) (fun cX => True) ?_ ?_
 refine qaj rfl ?_
 refine ro (qak rfl ?_)
 refine qae ?_ ?_ <;> intro bg
 refine ct bg (ct bg (ct bg ?_))
 exact eMt () ⟨bq (((qbq bg)).symm), trivial⟩
 refine cf bg (ro (qak rfl (cf bg (cf bg ?_))))
 exact eMt () ⟨bq (qgx (b := decide ((code.length : Int) > 2048)) bg), trivial⟩
 rintro _ _ c5
 refine cs rfl rfl hm ?_ ?_ <;> intro c8 hm
 exact eE hm
 refine ro (qak rfl ?_)
 obtain ⟨cR, hm⟩ := qaw hm
 refine qms (enc := Jo.enc) ((⟨false, 0, (⟨0, 0, 0, 0, 0, 0, 0, 0⟩ : JaE)⟩ : Jo) : Jo) qo9 rfl rfl rfl cR fun bY => ?_
 obtain ⟨bZ, cG, ca, hm⟩ := ixb hm
 refine RStep.ofN (qad rfl rfl (qcu (fun _ => ⟨_, _, rfl⟩) ca) cG (qax List.length_replicate.symm cG ca) (qbb rfl (qcu (fun _ => ⟨_, _, rfl⟩) ca) ?_))
 refine qex (o := 0) (y := (⟨true, bZ.depth, bZ.At⟩ : Jo)) bZ r0 rfl ca rfl (by (conv => whnf); exact ⟨rfl, rfl, (nl rfl), rfl, rfl, rfl⟩) ?_
 refine ro (qak rfl ?_)
 obtain ⟨bX, hm⟩ := qaw hm
 obtain ⟨s0, aV, hm⟩ := bnd hm
 refine lD (σ := (Int × (List Jo))) ([2,3] ++ rg 5 8 ++ rg 29 129) [1] (fun i0 => [(29, .int .i64 (i0 : Int))]) (fun t0 => [(5, .int .i64 t0.1)]) (fun t0 => [qas Jo.enc (some ⟨bY, 0, none⟩) 228 10 (Int.toNat (code.length : Int)) t0.2]) (fun t0 => (0 < t0.2.length → Has (some ⟨bY, 0, none⟩)) ∧ (Int.toNat (code.length : Int)) = t0.2.length) (fun i0 t0 => Ja6 code (code.drop i0) i0 t0.1 t0.2 = some s0) (fun t0 => s0 = Fl.go t0) (fun i0 => code.length - i0) 0 (0, ((List.replicate (Int.toNat (code.length : Int)) ((⟨false, 0, (⟨0, 0, 0, 0, 0, 0, 0, 0⟩ : JaE)⟩ : Jo) : Jo)).set ((0 : Int).toNat) (⟨true, bZ.depth, bZ.At⟩ : Jo))) aV (And.intro ⟨⟨(by first | simpa using (fun _ => ⟨_, _, rfl⟩) | exact fun _ => ⟨_, _, rfl⟩), ((List.length_replicate.symm).trans List.length_set.symm)⟩, ⟨rfl, rfl, trivial⟩, _, (sp rfl)⟩ (And.intro ?_ ?_))
 clear aV
 rintro i0 ⟨ac, cI⟩ ⟨bH, br⟩ aV j0
 dsimp only at aV ⊢
 refine qac rfl ?_
 refine qae ?_ ?_ <;> intro w0
 obtain ⟨e0, bI, cP⟩ := ltx w0
 rw [cP, Ja6.eq_2] at aV
 refine qal rfl ?_
 refine RStep.ofN (qad rfl rfl (qfs ae.rd bI) (nn _) (qbo bI) (ro (qan i0 _ ae.rd rfl (mp bI) rfl ?_)))
 refine qai rfl fun b7 => ?_
 refine qaa r0 rfl ⟨rfl, rfl, (nl rfl), ?_⟩
 obtain ⟨a8, cC, cn, aV⟩ := ixb aV
 refine RStep.ofN (qad rfl rfl (qcu bH cn) cC (qax br cC cn) (ro (qhy (i := ((i0 : Int)).toNat) r1 rfl cn rfl rfl ?_)))
 refine qai rfl fun b8 => ?_
 refine qaa r0 rfl ⟨rfl, rfl, (nl rfl), ?_⟩
 refine ro (qab r1 rfl (nl rfl) ?_)
 refine cb aV fun bl cZ aV => cgx (Jd9 cZ :) ?_
 refine ro (qak rfl ?_)
 obtain ⟨cL, aV⟩ := qaw aV
 refine qam cL (qaf ?_)
 refine qaj rfl ?_
 refine qau ?_
 refine qae ?_ ?_ <;> intro bb
 refine ct bb (ct bb (ct bb (cT (cT (cT (cT (cT ?_)))))))
 refine cT (cT (cT (cT (cT (cT ?_)))))
 replace aV := ift (qbq (qbq (qbq (qef (qjb bb))))) aV
 refine cT (cT (cT (cT (cT (cT (qac rfl (cT ?_)))))))
 exact eE (er aV hm)
 refine fa rfl (cf bb (ro (ld r0 rfl rfl (cf bb (qau (cf bb ?_))))))
 refine qae ?_ ?_ <;> intro ba
 refine ct ba (ct ba (ct ba (ct ba (cT (cT (cT (cT ?_)))))))
 refine cT (cT ?_)
 replace aV := ift (qbq (qbq (qfr (qc5 (qhc bb)) (qef (qjb ba))))) aV
 refine cT (cT (cT (cT (cT (cT (qac rfl (cT ?_)))))))
 exact eE (er aV hm)
 refine fa rfl (cf ba (ro (ld r0 rfl rfl (cf ba (cf ba (cf ba ?_))))))
 refine qae ?_ ?_ <;> intro a6
 refine ct a6 (ct a6 (ct a6 (ct a6 (ct a6 ?_))))
 replace aV := ift (qbq (qfr (qc0 (qc5 (qhc bb)) (qc5 (qhc ba))) a6)) aV
 refine cT (cT (cT (cT (cT (cT (qac rfl (cT ?_)))))))
 exact eE (er aV hm)
 refine fa rfl (cf a6 (ro (ld r1 rfl rfl (cf a6 (qaf (cf a6 (cf a6 (qfx rfl ?_))))))))
 refine cf a6 ?_
 refine qae ?_ ?_ <;> intro aY
 replace aV := ift (qfr (qc0 (qc0 (qc5 (qhc bb)) (qc5 (qhc ba))) a6) aY) aV
 refine ct aY (ct aY (ct aY (ct aY (ct aY (qac rfl (cT ?_))))))
 exact eE (er aV hm)
 replace aV := qba (qc0 (qc0 (qc0 (qc5 (qhc bb)) (qc5 (qhc ba))) a6) aY) aV
 refine fa rfl (cf aY (ro (ld r1 rfl rfl (cf aY (qaf (cf aY ?_))))))
 obtain ⟨c6, bP, aV⟩ := bnd aV
 refine cS bP (fun bc bP => ?_) fun bc bP => ?_
 refine ro (qab r0 rfl (nl rfl) (ct bc (fa rfl (ct bc (ro (ld r1 rfl rfl (ct bc ?_)))))))
 refine cb bP fun c9 c4 bP => cg0 (JdE c4 :) ?_
 refine ct bc (qau (cf aY (ct bc (cf aY (qac rfl ?_)))))
 refine qae ?_ ?_ <;> intro cE
 replace aV := ift ((si bP).symm.trans (qef (qjb cE))) aV
 exact eE (er aV hm)
 replace aV := qba ((si bP).symm.trans (qc5 (qhc cE))) aV
 refine fa rfl (ro (ld r0 rfl rfl (ro (qci (fa rfl (ro (ld r0 rfl rfl ?_)))))))
 refine ci aV fun aV => ?_
 obtain ⟨cB, aV⟩ := qaw aV
 refine qam cB (fa rfl ?_)
 refine qaa r0 rfl ⟨rfl, rfl, (nl rfl), ?_⟩
 refine fa rfl (ro (ld r0 rfl rfl (ro (qci (fa rfl (ro (ld r1 rfl rfl (qaf ?_))))))))
 obtain ⟨cA, bf, aV⟩ := bnd aV
 refine jD (σ := (Int × Int × Int × Int × Int × Int × Int × Int)) (rg 99 13) [1, 2, 3] (fun bj => []) (fun bj => [Cells b8 228 [.bool a8.Au, .int .i64 (a8.depth + (bl.2.1 - bl.1)), .int .u64 bj.1, .int .u64 bj.2.1, .int .u64 bj.2.2.1, .int .u64 bj.2.2.2.1, .int .u64 bj.2.2.2.2.1, .int .u64 bj.2.2.2.2.2.1, .int .u64 bj.2.2.2.2.2.2.1, .int .u64 bj.2.2.2.2.2.2.2]]) (fun bj => bj = cA) (And.intro ?_ ?_)
 refine cs rfl rfl bf ?_ ?_ <;> intro cW bf
 refine qa1 ⟨⟨[], false⟩, _, [(_, _), (_, _)], []⟩ 12 rfl (by kernel_rfl) ⟨Hp.Le.refl _, (sc [1,0] rfl), ci0⟩ ?_
 refine fa rfl (qao m0 rfl rfl ?_)
 obtain ⟨bK, bf⟩ := qaw bf
 refine qlj bK.1 bK.2 (fa rfl ?_)
 obtain ⟨bn, bf⟩ := qaw bf
 refine qbw (sz := 1) rfl rfl bn.1 bn.2 ?_
 refine qfz (L := [a8.At.f0, a8.At.f1, a8.At.f2, a8.At.f3, a8.At.f4, a8.At.f5, a8.At.f6, a8.At.f7]) (pre := [.bool a8.Au, .int .i64 (a8.depth + (bl.2.1 - bl.1))]) (post := []) m1 rfl (by simp) rfl bn.1 bn.2 ?_
 refine fa rfl (qao m0 rfl rfl (qli (by decide) ?_))
 obtain ⟨bR, bf⟩ := qaw bf
 refine qlw bR ?_
 refine qnw ?_
 refine fa rfl ?_
 obtain ⟨bm, bf⟩ := qaw bf
 refine qbw (sz := 1) rfl rfl bm.1 bm.2 ?_
 obtain ⟨bo, bC, bf⟩ := bnd bf
 replace bC := Option.some.inj bC
 have bW : bo.length = 8 := by rw [← bC]; simp
 refine qlx (L := [a8.At.f0, a8.At.f1, a8.At.f2, a8.At.f3, a8.At.f4, a8.At.f5, a8.At.f6, a8.At.f7]) (pre := [.bool a8.Au, .int .i64 (a8.depth + (bl.2.1 - bl.1))]) (post := []) (cs' := [.bool a8.Au, .int .i64 (a8.depth + (bl.2.1 - bl.1)), .int .u64 (List.getD bo 0 0), .int .u64 (List.getD bo 1 0), .int .u64 (List.getD bo 2 0), .int .u64 (List.getD bo 3 0), .int .u64 (List.getD bo 4 0), .int .u64 (List.getD bo 5 0), .int .u64 (List.getD bo 6 0), .int .u64 (List.getD bo 7 0)]) r0 rfl (by simp) rfl bm.1 bm.2 bC (by rw [qqd bW]; rfl) ?_
 refine ⟨⟨Hp.emp_le _, (pf rfl), ci0⟩, ?_⟩
 exact eM bf _
 exact eM bf _
 rintro bj rfl cO
 refine jR (σ := Unit) (rg 112 8) (fun _ => [(119, .bool (decide (e0.Op = 9) || decide (e0.Op = 10)))]) (fun cU => True) ?_ ?_
 refine qaj rfl ?_
 refine fa rfl (ro (ld r1 rfl rfl (qaf ?_)))
 refine qae ?_ ?_ <;> intro aW
 refine ct aW (ct aW (ct aW ?_))
 exact eMt () ⟨bq (((qbq aW)).symm), trivial⟩
 refine fa rfl (cf aW (ro (ld r1 rfl rfl (cf aW (qaf (cf aW ?_))))))
 exact eMt () ⟨bq (qgx (b := decide (e0.Op = 10)) aW), trivial⟩
 rintro _ _ cJ
 obtain ⟨cj, aZ, aV⟩ := bnd aV
 refine jD (σ := ((List Jo))) ([2,3] ++ rg 120 20) [0, 1, 3] (fun bA => []) (fun bA => [qas Jo.enc (some ⟨bY, 0, none⟩) 228 10 (Int.toNat (code.length : Int)) bA]) (fun bA => (0 < bA.length → Has (some ⟨bY, 0, none⟩)) ∧ (Int.toNat (code.length : Int)) = bA.length ∧ cj = Fl.go bA) (And.intro ?_ ?_)
 refine cs rfl rfl aZ ?_ ?_ <;> intro cy aZ
 refine qa4 ⟨⟨[], false⟩, _, [(_, _), (_, _)], []⟩ (by kernel_rfl) ⟨Hp.Le.refl _, (sc [1,0] rfl), ci0⟩ ?_
 refine fa rfl (qao m0 rfl rfl ?_)
 refine qae ?_ ?_ <;> intro aU
 refine ct aU (ct aU (ct aU (ct aU (ct aU ?_))))
 replace aZ := ift (qbq aU) aZ
 refine cT (cT (cT (cT (cT (cT (cT (cT ?_)))))))
 refine qac rfl (cT ?_)
 exact eE (er (er aZ aV :) hm)
 refine fa rfl (cf aU (qao m0 rfl rfl (cf aU (cf aU (qce rfl (cf aU (cf aU ?_)))))))
 refine qae ?_ ?_ <;> intro aS
 replace aZ := ift (qfr aU aS) aZ
 refine ct aS (ct aS (ct aS (ct aS (ct aS (ct aS (ct aS (qac rfl ?_)))))))
 refine cT ?_
 exact eE (er (er aZ aV :) hm)
 replace aZ := qba (qc0 aU aS) aZ
 refine cf aS (fa rfl (cf aS (qao m0 rfl rfl (cf aS ?_))))
 obtain ⟨cm, bM, bG, aZ⟩ := ixb aZ
 refine qad rfl rfl (qcu bH bG) bM (qax br bM bG) (cf aS (qcc m1 rfl (nl rfl) (cf aS ?_)))
 refine cb aZ fun bS bQ aZ => ckx (JaK bQ :) ?_
 rintro _ _ _ ⟨rfl, bu, bz, rfl⟩
 refine qk (sc [2,1] rfl) ?_
 refine cf aS (qau (cf aS ?_))
 refine cs rfl rfl aZ ?_ ?_ <;> intro cz aZ
 exact eE (er (er aZ aV :) hm)
 exact mt (bS.2) trivial rfl (pf rfl) lr ⟨bu, ((br).trans bz), (si aZ).symm⟩
 exact eM aZ _
 rintro bA ⟨bN, bB, rfl⟩ cV
 replace aV := elg aV
 refine cs rfl rfl aV ?_ ?_ <;> intro ce aV
 refine qa4 ⟨⟨[], false⟩, _, [(_, _)], []⟩ (by kernel_rfl) ⟨Hp.Le.refl _, (sc [1] rfl), ci0⟩ ?_
 refine fa rfl (qao m0 rfl rfl (qaf ?_))
 exact eE (er aV hm)
 refine qa4 ⟨⟨[], false⟩, _, [(_, _), (_, _)], []⟩ (by kernel_rfl) ⟨Hp.Le.refl _, (sc [2,1] rfl), ci0⟩ ?_
 refine fa rfl (qao m0 rfl rfl (qa8 ?_))
 refine cS aV (fun aT aV => ?_) fun aT aV => ?_
 refine ct aT (ct aT (qam (qbu bI bX) (ct aT ?_)))
 obtain ⟨co, bL, bJ, aV⟩ := ixb aV
 refine qad rfl rfl (qcu bN bJ) bL (qax bB bL bJ) (ct aT (qcc m1 rfl (nl rfl) (ct aT ?_)))
 refine cb aV fun bU bV aV => ckx (JaK bV :) ?_
 rintro _ _ _ ⟨rfl, bt, bw, rfl⟩
 refine qk (sc [2,1] rfl) ?_
 refine ct aT (qau (ct aT ?_))
 refine cs rfl rfl aV ?_ ?_ <;> intro cu aV
 exact eE (er aV hm)
 refine qam (qbu bI bX) ?_
 exact rd (i0 + 1, ((max (max ac a8.depth) (a8.depth + (bl.2.1 - bl.1))), bU.2)) ⟨rfl, rfl, trivial⟩ rfl (sc [0,2] rfl) lr (ltm bI) ⟨⟨bt, ((bB).trans bw)⟩, aV⟩
 refine cf aT (cf aT (cf aT (cf aT (cf aT (cf aT (cf aT (qac rfl ?_)))))))
 refine cF (qam (qbu bI bX) ?_)
 exact eR aV (_, (_, _))
 refine cf bc (cf bc (cf bc (cf bc (cf aY (cf bc (cf aY (qac rfl ?_)))))))
 refine cF ?_
 replace aV := qba (si bP).symm aV
 refine fa rfl (ro (ld r0 rfl rfl (ro (qci (fa rfl (ro (ld r0 rfl rfl ?_)))))))
 refine ci aV fun aV => ?_
 obtain ⟨cB, aV⟩ := qaw aV
 refine qam cB (fa rfl ?_)
 refine qaa r0 rfl ⟨rfl, rfl, (nl rfl), ?_⟩
 refine fa rfl (ro (ld r0 rfl rfl (ro (qci (fa rfl (ro (ld r1 rfl rfl (qaf ?_))))))))
 obtain ⟨cr, bd, aV⟩ := bnd aV
 refine jD (σ := (Int × Int × Int × Int × Int × Int × Int × Int)) (rg 99 13) [1, 2, 3] (fun bh => []) (fun bh => [Cells b8 228 [.bool a8.Au, .int .i64 (a8.depth + (bl.2.1 - bl.1)), .int .u64 bh.1, .int .u64 bh.2.1, .int .u64 bh.2.2.1, .int .u64 bh.2.2.2.1, .int .u64 bh.2.2.2.2.1, .int .u64 bh.2.2.2.2.2.1, .int .u64 bh.2.2.2.2.2.2.1, .int .u64 bh.2.2.2.2.2.2.2]]) (fun bh => bh = cr) (And.intro ?_ ?_)
 refine cs rfl rfl bd ?_ ?_ <;> intro cW bd
 refine qa1 ⟨⟨[], false⟩, _, [(_, _), (_, _)], []⟩ 12 rfl (by kernel_rfl) ⟨Hp.Le.refl _, (sc [1,0] rfl), ci0⟩ ?_
 refine fa rfl (qao m0 rfl rfl ?_)
 obtain ⟨bK, bd⟩ := qaw bd
 refine qlj bK.1 bK.2 (fa rfl ?_)
 obtain ⟨bn, bd⟩ := qaw bd
 refine qbw (sz := 1) rfl rfl bn.1 bn.2 ?_
 refine qfz (L := [a8.At.f0, a8.At.f1, a8.At.f2, a8.At.f3, a8.At.f4, a8.At.f5, a8.At.f6, a8.At.f7]) (pre := [.bool a8.Au, .int .i64 (a8.depth + (bl.2.1 - bl.1))]) (post := []) m1 rfl (by simp) rfl bn.1 bn.2 ?_
 refine fa rfl (qao m0 rfl rfl (qli (by decide) ?_))
 obtain ⟨bR, bd⟩ := qaw bd
 refine qlw bR ?_
 refine qnw ?_
 refine fa rfl ?_
 obtain ⟨bm, bd⟩ := qaw bd
 refine qbw (sz := 1) rfl rfl bm.1 bm.2 ?_
 obtain ⟨bp, bD, bd⟩ := bnd bd
 replace bD := Option.some.inj bD
 have bT : bp.length = 8 := by rw [← bD]; simp
 refine qlx (L := [a8.At.f0, a8.At.f1, a8.At.f2, a8.At.f3, a8.At.f4, a8.At.f5, a8.At.f6, a8.At.f7]) (pre := [.bool a8.Au, .int .i64 (a8.depth + (bl.2.1 - bl.1))]) (post := []) (cs' := [.bool a8.Au, .int .i64 (a8.depth + (bl.2.1 - bl.1)), .int .u64 (List.getD bp 0 0), .int .u64 (List.getD bp 1 0), .int .u64 (List.getD bp 2 0), .int .u64 (List.getD bp 3 0), .int .u64 (List.getD bp 4 0), .int .u64 (List.getD bp 5 0), .int .u64 (List.getD bp 6 0), .int .u64 (List.getD bp 7 0)]) r0 rfl (by simp) rfl bm.1 bm.2 bD (by rw [qqd bT]; rfl) ?_
 refine ⟨⟨Hp.emp_le _, (pf rfl), ci0⟩, ?_⟩
 exact eM bd _
 exact eM bd _
 rintro bh rfl cQ
 refine jR (σ := Unit) (rg 112 8) (fun _ => [(119, .bool (decide (e0.Op = 9) || decide (e0.Op = 10)))]) (fun cY => True) ?_ ?_
 refine qaj rfl ?_
 refine fa rfl (ro (ld r1 rfl rfl (qaf ?_)))
 refine qae ?_ ?_ <;> intro aW
 refine ct aW (ct aW (ct aW ?_))
 exact eMt () ⟨bq (((qbq aW)).symm), trivial⟩
 refine fa rfl (cf aW (ro (ld r1 rfl rfl (cf aW (qaf (cf aW ?_))))))
 exact eMt () ⟨bq (qgx (b := decide (e0.Op = 10)) aW), trivial⟩
 rintro _ _ cK
 obtain ⟨cw, aX, aV⟩ := bnd aV
 refine jD (σ := ((List Jo))) ([2,3] ++ rg 120 20) [0, 1, 3] (fun bv => []) (fun bv => [qas Jo.enc (some ⟨bY, 0, none⟩) 228 10 (Int.toNat (code.length : Int)) bv]) (fun bv => (0 < bv.length → Has (some ⟨bY, 0, none⟩)) ∧ (Int.toNat (code.length : Int)) = bv.length ∧ cw = Fl.go bv) (And.intro ?_ ?_)
 refine cs rfl rfl aX ?_ ?_ <;> intro cy aX
 refine qa4 ⟨⟨[], false⟩, _, [(_, _), (_, _)], []⟩ (by kernel_rfl) ⟨Hp.Le.refl _, (sc [1,0] rfl), ci0⟩ ?_
 refine fa rfl (qao m0 rfl rfl ?_)
 refine qae ?_ ?_ <;> intro aU
 refine ct aU (ct aU (ct aU (ct aU (ct aU ?_))))
 replace aX := ift (qbq aU) aX
 refine cT (cT (cT (cT (cT (cT (cT (cT ?_)))))))
 refine qac rfl (cT ?_)
 exact eE (er (er aX aV :) hm)
 refine fa rfl (cf aU (qao m0 rfl rfl (cf aU (cf aU (qce rfl (cf aU (cf aU ?_)))))))
 refine qae ?_ ?_ <;> intro aS
 replace aX := ift (qfr aU aS) aX
 refine ct aS (ct aS (ct aS (ct aS (ct aS (ct aS (ct aS (qac rfl ?_)))))))
 refine cT ?_
 exact eE (er (er aX aV :) hm)
 replace aX := qba (qc0 aU aS) aX
 refine cf aS (fa rfl (cf aS (qao m0 rfl rfl (cf aS ?_))))
 obtain ⟨cm, bM, bG, aX⟩ := ixb aX
 refine qad rfl rfl (qcu bH bG) bM (qax br bM bG) (cf aS (qcc m1 rfl (nl rfl) (cf aS ?_)))
 refine cb aX fun bS bQ aX => ckx (JaK bQ :) ?_
 rintro _ _ _ ⟨rfl, bu, bz, rfl⟩
 refine qk (sc [2,1] rfl) ?_
 refine cf aS (qau (cf aS ?_))
 refine cs rfl rfl aX ?_ ?_ <;> intro cz aX
 exact eE (er (er aX aV :) hm)
 exact mt (bS.2) trivial rfl (pf rfl) lr ⟨bu, ((br).trans bz), (si aX).symm⟩
 exact eM aX _
 rintro bv ⟨bO, bF, rfl⟩ cM
 replace aV := elg aV
 refine cs rfl rfl aV ?_ ?_ <;> intro ce aV
 refine qa4 ⟨⟨[], false⟩, _, [(_, _)], []⟩ (by kernel_rfl) ⟨Hp.Le.refl _, (sc [1] rfl), ci0⟩ ?_
 refine fa rfl (qao m0 rfl rfl (qaf ?_))
 exact eE (er aV hm)
 refine qa4 ⟨⟨[], false⟩, _, [(_, _), (_, _)], []⟩ (by kernel_rfl) ⟨Hp.Le.refl _, (sc [2,1] rfl), ci0⟩ ?_
 refine fa rfl (qao m0 rfl rfl (qa8 ?_))
 refine cS aV (fun aT aV => ?_) fun aT aV => ?_
 refine ct aT (ct aT (qam (qbu bI bX) (ct aT ?_)))
 obtain ⟨co, bL, bJ, aV⟩ := ixb aV
 refine qad rfl rfl (qcu bO bJ) bL (qax bF bL bJ) (ct aT (qcc m1 rfl (nl rfl) (ct aT ?_)))
 refine cb aV fun bU bV aV => ckx (JaK bV :) ?_
 rintro _ _ _ ⟨rfl, bt, bw, rfl⟩
 refine qk (sc [2,1] rfl) ?_
 refine ct aT (qau (ct aT ?_))
 refine cs rfl rfl aV ?_ ?_ <;> intro cu aV
 exact eE (er aV hm)
 refine qam (qbu bI bX) ?_
 exact rd (i0 + 1, ((max (max ac a8.depth) (a8.depth + (bl.2.1 - bl.1))), bU.2)) ⟨rfl, rfl, trivial⟩ rfl (sc [0,2] rfl) lr (ltm bI) ⟨⟨bt, ((bF).trans bw)⟩, aV⟩
 refine cf aT (cf aT (cf aT (cf aT (cf aT (cf aT (cf aT (qac rfl ?_)))))))
 refine cF (qam (qbu bI bX) ?_)
 exact eR aV (_, (_, _))
 rw [lty w0, Ja6.eq_1] at aV
 refine cT ?_
 exact eM aV _
 rintro t0 ⟨cH, cD⟩ rfl j0
 replace hm := elg hm
 exact eE hm

def Jde (code : (List Jf)) : Option (Err) :=
  (Jdp code).bind fun x7 =>
  if (!x7.2) then
  some (some 2)
  else
  some none
theorem Jea {code : (List Jf)} {aa : Option Addr} {ab : Nat} {n0 : Nat} {K : Hp} {r : Err}
    (hm : Jde code = some r) (hX : RdC Jf.enc K aa ab 3 code ∧ n0 = code.length ∧ GG K) :
    Fn Tryz.prog 68 [.slice aa n0 ab] K [] (fun v K' H' => v = qcs 48 r ∧ H' = []) := by
 obtain ⟨ae, aS, hG⟩ := hX
 subst aS
 refine Fn.enter Tryz.func68 Tryz.call68 rfl fun F => ?_
 unfold Jde at hm
 refine cb hm fun x7 q7 hm => cgx (Jej q7 :) ?_
 refine qau ?_
 refine cs rfl rfl hm ?_ ?_ <;> intro aT hm
 refine qar rfl ?_
 exact eE hm
 exact eE hm

def JbL (n' : Int) : Option (Ji) :=
  some (⟨2, (max (-1099511627776) (min n' 1099511627776)), ([] : Str), false⟩ : Ji)
theorem Jbe {n' : Int} {K : Hp} {r : Ji}
    (hm : JbL n' = some r)  :
    Fn Tryz.prog 108 [.int .i64 n'] K [] (fun v K' H' => v = .agg #[.int .i64 r.kind, .int .i64 r.n, str r.s, .bool r.As] ∧ H' = []) := by
 refine Fn.enter Tryz.func108 Tryz.call108 rfl fun F => ?_
 unfold JbL at hm
 refine qai rfl fun b2 => ?_
 refine ro (qod (ro (qci (qag rfl rfl (cT (cT ?_))))))
 refine qaa r0 rfl ⟨rfl, rfl, (nl rfl), ?_⟩
 exact ro (qab r0 rfl (nl rfl) (eE hm))

def J5 (m : Jh) (x : Ji) (operation : Bool) : Option (Err × Jh) :=
  if decide ((x.s.length : Int) > 2048) then
  some ((some 5), m)
  else
  ((if (operation && decide (x.kind = 1)) then
  (chk ((64 : Int) ≠ 0 ∧ InI (Int.tdiv (x.s.length : Int) 64))).bind fun _ =>
  (chk (InI (m.result.Aj + (Int.tdiv (x.s.length : Int) 64)))).bind fun _ =>
  if decide ((m.result.Aj + (Int.tdiv (x.s.length : Int) 64)) > m.most) then
  some (Fl.ret ((some 13), (⟨m.Aq, m.most, (⟨m.result.Ae, m.result.Af, m.result.Ag, m.result.Vary, m.result.Ah, m.result.TTL, m.result.Ai, (m.result.Aj + (Int.tdiv (x.s.length : Int) 64)), m.result.Ak, m.result.Al⟩ : Jp), m.stack, m.Ap⟩ : Jh)))
  else
  some (Fl.go (⟨m.Aq, m.most, (⟨m.result.Ae, m.result.Af, m.result.Ag, m.result.Vary, m.result.Ah, m.result.TTL, m.result.Ai, (m.result.Aj + (Int.tdiv (x.s.length : Int) 64)), m.result.Ak, m.result.Al⟩ : Jp), m.stack, m.Ap⟩ : Jh))
  else
  some (Fl.go m) : Option (Fl (Err × Jh) (Jh)))).bind fun aT => aT.el some fun aS =>
  (chk (aS.stack.length + [x].length ≤ lim)).bind fun _ =>
  some (none, (⟨m.Aq, aS.most, aS.result, (aS.stack ++ [x]), aS.Ap⟩ : Jh))
theorem J8 {m : Jh} {x : Ji} {operation : Bool} {b0 : Nat} {aa : Option Addr} {ab : Nat} {ah : Option Addr} {ak : Nat} {am : Option Addr} {ao : Nat} {aw : Option Addr} {az : Nat} {ax : Option Addr} {aA : Nat} {K : Hp} {r : Err × Jh}
    (hm : J5 m x operation = some r) (hX : RdC Jc.enc K aa ab 2 m.Aq.Ao ∧ (0 < m.result.Ag.length → Has ah) ∧ (0 < m.result.Vary.length → Has am) ∧ (0 < m.result.Ah.length → Has aw) ∧ (0 < m.stack.length → Has ax) ∧ m.Ap.length = 512) :
    Fn Tryz.prog 107 [.pointer (some ⟨b0, 0, none⟩), .agg #[.int .i64 x.kind, .int .i64 x.n, str x.s, .bool x.As], .bool operation] K [Cells b0 131 ((str m.Aq.Am) :: (str m.Aq.An) :: (str m.Aq.Ae) :: (str m.Aq.Af) :: (.slice aa m.Aq.Ao.length ab) :: (.int .i64 m.most) :: (str m.result.Ae) :: (str m.result.Af) :: (.slice ah m.result.Ag.length ak) :: (.slice am m.result.Vary.length ao) :: (.slice aw m.result.Ah.length az) :: (.int .i64 m.result.TTL) :: (.int .i64 m.result.Ai) :: (.int .i64 m.result.Aj) :: (.bool m.result.Ak) :: (.bool m.result.Al) :: (.slice ax m.stack.length aA) :: (m.Ap.map Ji.enc).flatten), qas Jc.enc ah 41 2 ak m.result.Ag, qas eS am 9 1 ao m.result.Vary, qas eS aw 9 1 az m.result.Ah, qas Ji.enc ax 128 4 aA m.stack] (fun v K' H' => ∃ ar_0 : Option Addr, ∃ cr_0 : Nat, ∃ ar_1 : Option Addr, ∃ cr_1 : Nat, ∃ ar_2 : Option Addr, ∃ cr_2 : Nat, ∃ ar_3 : Option Addr, ∃ cr_3 : Nat, v = qcs 48 r.1 ∧ (0 < r.2.result.Ag.length → Has ar_0) ∧ (0 < r.2.result.Vary.length → Has ar_1) ∧ (0 < r.2.result.Ah.length → Has ar_2) ∧ (0 < r.2.stack.length → Has ar_3) ∧ r.2.Ap.length = 512 ∧ H' = [Cells b0 131 ((str m.Aq.Am) :: (str m.Aq.An) :: (str m.Aq.Ae) :: (str m.Aq.Af) :: (.slice aa m.Aq.Ao.length ab) :: (.int .i64 r.2.most) :: (str r.2.result.Ae) :: (str r.2.result.Af) :: (.slice ar_0 r.2.result.Ag.length cr_0) :: (.slice ar_1 r.2.result.Vary.length cr_1) :: (.slice ar_2 r.2.result.Ah.length cr_2) :: (.int .i64 r.2.result.TTL) :: (.int .i64 r.2.result.Ai) :: (.int .i64 r.2.result.Aj) :: (.bool r.2.result.Ak) :: (.bool r.2.result.Al) :: (.slice ar_3 r.2.stack.length cr_3) :: (r.2.Ap.map Ji.enc).flatten), qas Jc.enc ar_0 41 2 cr_0 r.2.result.Ag, qas eS ar_1 9 1 cr_1 r.2.result.Vary, qas eS ar_2 9 1 cr_2 r.2.result.Ah, qas Ji.enc ar_3 128 4 cr_3 r.2.stack]) := by
 obtain ⟨ae, bp, bj, bl, bo, bm⟩ := hX
 refine Fn.enter Tryz.func107 Tryz.call107 rfl fun F => ?_
 unfold J5 at hm
 refine qaq ?_
 intro b4
 refine fa rfl (ro (ld r0 rfl rfl (ro (qa3 rfl ?_))))
 refine cs rfl rfl hm ?_ ?_ <;> intro bG hm
 refine qar rfl ?_
 exact eE hm
 refine jR (σ := Unit) (rg 12 6) (fun _ => [(17, .bool (operation && decide (x.kind = 1)))]) (fun bw => True) ?_ ?_
 refine qaj rfl ?_
 refine qae ?_ ?_ <;> intro ba
 refine fa rfl (ct ba (ro (ld r0 rfl rfl (ct ba (qaf (ct ba ?_))))))
 exact eMt () ⟨bq (qcw (b := decide (x.kind = 1)) ba), trivial⟩
 refine cf ba (cf ba (cf ba ?_))
 exact eMt () ⟨bq (((qav ba)).symm), trivial⟩
 rintro _ _ bu
 obtain ⟨bh, a8, hm⟩ := bnd hm
 refine jD (σ := (Jh) × Option Addr × Nat × Option Addr × Nat × Option Addr × Nat × Option Addr × Nat) ([6] ++ rg 18 24) [0, 6] (fun (aS, aU, aY, aT, aX, aV, aZ, aW, a6) => []) (fun (aS, aU, aY, aT, aX, aV, aZ, aW, a6) => [Cells b0 131 ((str m.Aq.Am) :: (str m.Aq.An) :: (str m.Aq.Ae) :: (str m.Aq.Af) :: (.slice aa m.Aq.Ao.length ab) :: (.int .i64 aS.most) :: (str aS.result.Ae) :: (str aS.result.Af) :: (.slice aU aS.result.Ag.length aY) :: (.slice aT aS.result.Vary.length aX) :: (.slice aV aS.result.Ah.length aZ) :: (.int .i64 aS.result.TTL) :: (.int .i64 aS.result.Ai) :: (.int .i64 aS.result.Aj) :: (.bool aS.result.Ak) :: (.bool aS.result.Al) :: (.slice aW aS.stack.length a6) :: (aS.Ap.map Ji.enc).flatten), qas Jc.enc aU 41 2 aY aS.result.Ag, qas eS aT 9 1 aX aS.result.Vary, qas eS aV 9 1 aZ aS.result.Ah, qas Ji.enc aW 128 4 a6 aS.stack]) (fun (aS, aU, aY, aT, aX, aV, aZ, aW, a6) => (0 < aS.result.Ag.length → Has aU) ∧ (0 < aS.result.Vary.length → Has aT) ∧ (0 < aS.result.Ah.length → Has aV) ∧ (0 < aS.stack.length → Has aW) ∧ aS.Ap.length = 512 ∧ bh = Fl.go aS) (And.intro ?_ ?_)
 refine cs rfl rfl a8 ?_ ?_ <;> intro bD a8
 refine qa1 ⟨⟨[], false⟩, _, [(_, _), (_, _)], []⟩ 9 rfl (by kernel_rfl) ⟨Hp.Le.refl _, (sc [1,0] rfl), ci0⟩ ?_
 refine qah (fa rfl (fa rfl (qao m0 rfl rfl (fa rfl (qao m1 rfl rfl (qmn rfl ?_))))))
 obtain ⟨bn, a8⟩ := qaw a8
 refine qlj bn.1 bn.2 ?_
 obtain ⟨bt, a8⟩ := qaw a8
 refine qam bt (qah (fa rfl (fa rfl ?_)))
 refine ql2 (cs' := (str m.Aq.Am) :: (str m.Aq.An) :: (str m.Aq.Ae) :: (str m.Aq.Af) :: (.slice aa m.Aq.Ao.length ab) :: (.int .i64 m.most) :: (str m.result.Ae) :: (str m.result.Af) :: (.slice ah m.result.Ag.length ak) :: (.slice am m.result.Vary.length ao) :: (.slice aw m.result.Ah.length az) :: (.int .i64 m.result.TTL) :: (.int .i64 m.result.Ai) :: (.int .i64 (m.result.Aj + (Int.tdiv (x.s.length : Int) 64))) :: (.bool m.result.Ak) :: (.bool m.result.Al) :: (.slice ax m.stack.length aA) :: (m.Ap.map Ji.enc).flatten) r1 rfl rfl (by exact rfl) (by exact nl rfl) (by exact rfl) ?_
 refine ⟨⟨Hp.emp_le _, (pf rfl), ci0⟩, ?_⟩
 refine qa4 ⟨⟨[], false⟩, _, [(_, _)], []⟩ (by kernel_rfl) ⟨Hp.Le.refl _, (pf rfl), ci0⟩ ?_
 refine qah (fa rfl (fa rfl (qao m0 rfl rfl (qah (fa rfl (qao m0 rfl rfl ?_))))))
 refine cs rfl rfl a8 ?_ ?_ <;> intro bC a8
 refine qar rfl ?_
 exact eE (er a8 hm)
 exact eM a8 (_, _, _, _, _, _, _, _, _)
 exact eM a8 (_, _, _, _, _, _, _, _, _)
 rintro ⟨aS, aU, aY, aT, aX, aV, aZ, aW, a6⟩ ⟨bg, bc, bb, bf, bd, rfl⟩ bz
 replace hm := elg hm
 refine qa1 ⟨⟨[], false⟩, _, [(_, _), (_, _)], []⟩ 8 rfl (by kernel_rfl) ⟨Hp.Le.refl _, (sc [0,4] rfl), ci0⟩ ?_
 refine qah (fa rfl (qao m0 rfl rfl (qcc m1 rfl (nl rfl) ?_)))
 refine bsO (len := 1) (enc := Ji.enc) (l := [x]) (cl := [.int .i64 x.kind, .int .i64 x.n, str x.s, .bool x.As]) qni rfl rfl (fun _ _ => rfl) rfl rfl rfl ?_ fun bF => ?_
 · conv => whnf
   refine cT ?_
   first | done | rfl
 refine qk (sc [1,5] rfl) ?_
 obtain ⟨bA, hm⟩ := qaw hm
 refine apE rfl r5 qni (qay rfl r0 rfl (fun _ => rfl) (fun _ => rfl)) bA ?_
 intro bv br bB
 refine qk (sc [2,5] rfl) ?_
 refine qah (fa rfl ?_)
 refine ql2 (cs' := (str m.Aq.Am) :: (str m.Aq.An) :: (str m.Aq.Ae) :: (str m.Aq.Af) :: (.slice aa m.Aq.Ao.length ab) :: (.int .i64 aS.most) :: (str aS.result.Ae) :: (str aS.result.Af) :: (.slice aU aS.result.Ag.length aY) :: (.slice aT aS.result.Vary.length aX) :: (.slice aV aS.result.Ah.length aZ) :: (.int .i64 aS.result.TTL) :: (.int .i64 aS.result.Ai) :: (.int .i64 aS.result.Aj) :: (.bool aS.result.Ak) :: (.bool aS.result.Al) :: (.slice bv ((aS.stack ++ [x]).length) br) :: (aS.Ap.map Ji.enc).flatten) r2 rfl rfl (by exact rfl) (by exact nl rfl) (by exact rfl) ?_
 refine ⟨⟨Hp.emp_le _, (pf rfl), ci0⟩, ?_⟩
 exact eE hm

def Jay (s : Str) : Option (Ji) :=
  some (⟨1, 0, s, false⟩ : Ji)
theorem Jae {s : Str} {K : Hp} {r : Ji}
    (hm : Jay s = some r)  :
    Fn Tryz.prog 109 [str s] K [] (fun v K' H' => v = .agg #[.int .i64 r.kind, .int .i64 r.n, str r.s, .bool r.As] ∧ H' = []) := by
 refine Fn.enter Tryz.func109 Tryz.call109 rfl fun F => ?_
 unfold Jay at hm
 refine qai rfl fun b2 => ?_
 refine qag rfl rfl (cT (cT ?_))
 refine qaa r0 rfl ⟨rfl, rfl, (nl rfl), ?_⟩
 exact ro (qab r0 rfl (nl rfl) (eE hm))

def Jct (name : Str) (Aq : JV) : Option (Ji) :=
  if decide (name = ([109, 101, 116, 104, 111, 100] : Str)) then
  (Jay Aq.Am).bind fun aT =>
  some aT
  else
  if decide (name = ([104, 111, 115, 116] : Str)) then
  (Jay Aq.An).bind fun aU =>
  some aU
  else
  if decide (name = ([112, 97, 116, 104] : Str)) then
  (Jay Aq.Ae).bind fun aS =>
  some aS
  else
  (Jay Aq.Af).bind fun aV =>
  some aV
theorem JdF {name : Str} {Aq : JV} {af : Option Addr} {ag : Nat} {K : Hp} {r : Ji}
    (hm : Jct name Aq = some r) (ai : RdC Jc.enc K af ag 2 Aq.Ao) :
    Fn Tryz.prog 110 [str name, .agg #[str Aq.Am, str Aq.An, str Aq.Ae, str Aq.Af, .slice af Aq.Ao.length ag]] K [] (fun v K' H' => v = .agg #[.int .i64 r.kind, .int .i64 r.n, str r.s, .bool r.As] ∧ H' = []) := by
 refine Fn.enter Tryz.func110 Tryz.call110 rfl fun F => ?_
 unfold Jct at hm
 refine qaq ?_
 intro b3
 refine qai rfl fun b4 => ?_
 refine qal rfl ?_
 refine qap (cs rfl rfl hm ?_ ?_) <;> intro w6 hm
 refine fa rfl (ro (ld r1 rfl rfl ?_))
 refine cb hm fun aW aV hm => cg0 (Jae aV :) ?_
 refine qaa r0 rfl ⟨rfl, rfl, (nl rfl), ?_⟩
 exact ro (qab r0 rfl (nl rfl) (eE hm))
 refine qap (cs rfl rfl hm ?_ ?_) <;> intro a6 hm
 refine fa rfl (ro (ld r1 rfl rfl ?_))
 refine cb hm fun a8 aT hm => cg0 (Jae aT :) ?_
 refine qaa r0 rfl ⟨rfl, rfl, (nl rfl), ?_⟩
 exact ro (qab r0 rfl (nl rfl) (eE hm))
 refine qap (cs rfl rfl hm ?_ ?_) <;> intro aZ hm
 refine fa rfl (ro (ld r1 rfl rfl ?_))
 refine cb hm fun aX aS hm => cg0 (Jae aS :) ?_
 refine qaa r0 rfl ⟨rfl, rfl, (nl rfl), ?_⟩
 exact ro (qab r0 rfl (nl rfl) (eE hm))
 refine fa rfl (ro (ld r1 rfl rfl ?_))
 refine cb hm fun aY aU hm => cg0 (Jae aU :) ?_
 refine qaa r0 rfl ⟨rfl, rfl, (nl rfl), ?_⟩
 exact ro (qab r0 rfl (nl rfl) (eE hm))

def Jaa (m : Jh) : Option (Ji × Jh) :=
  (chk (InI ((m.stack.length : Int) - 1))).bind fun _ =>
  (ix m.stack ((m.stack.length : Int) - 1)).bind fun aS =>
  (chk (InI ((m.stack.length : Int) - 1))).bind fun _ =>
  (chk (0 ≤ (0 : Int) ∧ (0 : Int) ≤ ((m.stack.length : Int) - 1) ∧ ((m.stack.length : Int) - 1) ≤ (m.stack.length : Int))).bind fun _ =>
  some (aS, (⟨m.Aq, m.most, m.result, (subL m.stack (0 : Int) ((m.stack.length : Int) - 1)), m.Ap⟩ : Jh))
theorem Jab {m : Jh} {b0 : Nat} {aa : Option Addr} {ab : Nat} {ah : Option Addr} {ak : Nat} {am : Option Addr} {ao : Nat} {aw : Option Addr} {az : Nat} {ax : Option Addr} {aA : Nat} {K : Hp} {r : Ji × Jh}
    (hm : Jaa m = some r) (hX : RdC Jc.enc K aa ab 2 m.Aq.Ao ∧ (0 < m.result.Ag.length → Has ah) ∧ (0 < m.result.Vary.length → Has am) ∧ (0 < m.result.Ah.length → Has aw) ∧ (0 < m.stack.length → Has ax) ∧ m.Ap.length = 512) :
    Fn Tryz.prog 111 [.pointer (some ⟨b0, 0, none⟩)] K [Cells b0 131 ((str m.Aq.Am) :: (str m.Aq.An) :: (str m.Aq.Ae) :: (str m.Aq.Af) :: (.slice aa m.Aq.Ao.length ab) :: (.int .i64 m.most) :: (str m.result.Ae) :: (str m.result.Af) :: (.slice ah m.result.Ag.length ak) :: (.slice am m.result.Vary.length ao) :: (.slice aw m.result.Ah.length az) :: (.int .i64 m.result.TTL) :: (.int .i64 m.result.Ai) :: (.int .i64 m.result.Aj) :: (.bool m.result.Ak) :: (.bool m.result.Al) :: (.slice ax m.stack.length aA) :: (m.Ap.map Ji.enc).flatten), qas Jc.enc ah 41 2 ak m.result.Ag, qas eS am 9 1 ao m.result.Vary, qas eS aw 9 1 az m.result.Ah, qas Ji.enc ax 128 4 aA m.stack] (fun v K' H' => ∃ ar_0 : Option Addr, ∃ cr_0 : Nat, ∃ ar_1 : Option Addr, ∃ cr_1 : Nat, ∃ ar_2 : Option Addr, ∃ cr_2 : Nat, ∃ ar_3 : Option Addr, ∃ cr_3 : Nat, v = .agg #[.int .i64 r.1.kind, .int .i64 r.1.n, str r.1.s, .bool r.1.As] ∧ (0 < r.2.result.Ag.length → Has ar_0) ∧ (0 < r.2.result.Vary.length → Has ar_1) ∧ (0 < r.2.result.Ah.length → Has ar_2) ∧ (0 < r.2.stack.length → Has ar_3) ∧ r.2.Ap.length = 512 ∧ H' = [Cells b0 131 ((str m.Aq.Am) :: (str m.Aq.An) :: (str m.Aq.Ae) :: (str m.Aq.Af) :: (.slice aa m.Aq.Ao.length ab) :: (.int .i64 r.2.most) :: (str r.2.result.Ae) :: (str r.2.result.Af) :: (.slice ar_0 r.2.result.Ag.length cr_0) :: (.slice ar_1 r.2.result.Vary.length cr_1) :: (.slice ar_2 r.2.result.Ah.length cr_2) :: (.int .i64 r.2.result.TTL) :: (.int .i64 r.2.result.Ai) :: (.int .i64 r.2.result.Aj) :: (.bool r.2.result.Ak) :: (.bool r.2.result.Al) :: (.slice ar_3 r.2.stack.length cr_3) :: (r.2.Ap.map Ji.enc).flatten), qas Jc.enc ar_0 41 2 cr_0 r.2.result.Ag, qas eS ar_1 9 1 cr_1 r.2.result.Vary, qas eS ar_2 9 1 cr_2 r.2.result.Ah, qas Ji.enc ar_3 128 4 cr_3 r.2.stack]) := by
 obtain ⟨ae, aW, aU, aV, aS, aT⟩ := hX
 refine Fn.enter Tryz.func111 Tryz.call111 rfl fun F => ?_
 unfold Jaa at hm
 refine qai rfl fun b2 => ?_
 refine qe1 ⟨⟨[], true⟩, _, [], []⟩ 14 rfl (by kernel_rfl) ⟨Hp.Le.refl _, (pf rfl), ci0⟩ ?_
 refine qah (fa rfl ?_)
 refine ld r1 rfl rfl ?_
 refine qah (fa rfl ?_)
 refine ld r1 rfl rfl ?_
 refine qce rfl ?_
 refine ci hm fun hm => ?_
 obtain ⟨bb, aY, aX, hm⟩ := ixb hm
 refine qad rfl rfl (qcu aS aX) aY (qax rfl aY aX) ?_
 refine qhy (i := (((m.stack.length : Int) - 1)).toNat) r5 rfl aX rfl rfl ?_
 refine qj9 rfl ?_
 intro b3
 intro a8
 refine qaa r0 rfl ⟨rfl, rfl, (nl rfl), ?_⟩
 refine ⟨⟨lr, (pf rfl), ci0⟩, ?_⟩
 refine ⟨_, .cons r8 .nil, ⟨lr, (pf rfl), ci0⟩, ?_⟩
 refine DStep.ownLe r3 fun bd => ?_
 refine DStep.ownLe r4 fun ba => ?_
 refine DStep.ownLe r5 fun bc => ?_
 refine DStep.ownLe r6 fun a6 => ?_
 refine qa1 ⟨⟨[], false⟩, _, [(_, _)], []⟩ 12 rfl (by kernel_rfl) ⟨Hp.Le.refl _, (sc [2] rfl), ci0⟩ ?_
 refine qah (fa rfl (qao m0 rfl rfl (qah (fa rfl (qao m0 rfl rfl (qce rfl ?_))))))
 refine ci hm fun hm => ?_
 obtain ⟨aZ, hm⟩ := qaw hm
 refine qor (l := m.stack) (hi := (some ((m.stack.length : Int) - 1))) rfl rfl rfl a6 aZ ?_
 refine qah (fa rfl ?_)
 refine tkW ((m.stack.length : Int) - 1) r6 ?_
 refine ql2 (cs' := (str m.Aq.Am) :: (str m.Aq.An) :: (str m.Aq.Ae) :: (str m.Aq.Af) :: (.slice aa m.Aq.Ao.length ab) :: (.int .i64 m.most) :: (str m.result.Ae) :: (str m.result.Af) :: (.slice ah m.result.Ag.length ak) :: (.slice am m.result.Vary.length ao) :: (.slice aw m.result.Ah.length az) :: (.int .i64 m.result.TTL) :: (.int .i64 m.result.Ai) :: (.int .i64 m.result.Aj) :: (.bool m.result.Ak) :: (.bool m.result.Al) :: (.slice ax ((subL m.stack (0 : Int) ((m.stack.length : Int) - 1)).length) aA) :: (m.Ap.map Ji.enc).flatten) r3 rfl rfl (by exact rfl) (by exact nl rfl) (by exact rfl) ?_
 refine ⟨⟨Hp.emp_le _, (pf rfl), ci0⟩, ?_⟩
 refine ro (qab r2 rfl (nl rfl) ?_)
 refine qaa r3 rfl ⟨rfl, rfl, (nl rfl), ?_⟩
 obtain rfl := si hm
 exact ro (qab r0 rfl (nl rfl) (en lr ⟨ah, ak, am, ao, aw, az, ax, aA, rfl, aW, aU, aV, (fun h => aS (qgk aZ h)), aT, rfl⟩ (sc [1,3,3,3,1,2] rfl)))

def JcP (path : Str) : Option ((List Str)) :=
  (qny path ([47] : Str)).bind fun x8 =>
  if (!x8.2.2) then
  some []
  else
  (qe4 x8.2.1 ([47] : Str)).bind fun aS =>
  some aS
theorem JdR {path : Str} {K : Hp} {r : (List Str)}
    (hm : JcP path = some r) (hG : GG K) :
    Fn Tryz.prog 156 [str path] K [] (fun v K' H' => ∃ ar_0 : Option Addr, ∃ cr_0 : Nat, v = .slice ar_0 r.length cr_0 ∧ (0 < r.length → Has ar_0) ∧ H' = [qas eS ar_0 9 1 cr_0 r]) := by
 refine Fn.enter Tryz.func156 Tryz.call156 rfl fun F => ?_
 unfold JcP at hm
 refine cb hm fun x8 q8 hm => cg0 (qmd q8 (gg0 hG)) ?_
 refine qau ?_
 refine cs rfl rfl hm ?_ ?_ <;> intro aX hm
 refine qcj eS 9 1 ?_
 exact eE hm
 refine cb hm fun aW aV hm => ck0 (qf2 aV (gg0 hG)) ?_
 rintro _ _ _ ⟨aT, aS, rfl, aU, rfl⟩
 exact eE hm

def JdY (f : (List Jc)) (name : Str) : Option (Str × Bool) :=
  (JcI f name).bind fun x9 =>
  (qip x9 ([44, 32] : Str)).bind fun aS =>
  some (aS, decide ((x9.length : Int) > 0))
theorem Jeg {f : (List Jc)} {name : Str} {aa : Option Addr} {ab : Nat} {n0 : Nat} {K : Hp} {r : Str × Bool}
    (hm : JdY f name = some r) (hX : RdC Jc.enc K aa ab 2 f ∧ n0 = f.length) :
    Fn Tryz.prog 157 [.slice aa n0 ab, str name] K [] (fun v K' H' => v = .tuple #[str r.1, .bool r.2] ∧ H' = []) := by
 obtain ⟨ae, aX⟩ := hX
 subst aX
 refine Fn.enter Tryz.func157 Tryz.call157 rfl fun F => ?_
 unfold JdY at hm
 refine cb hm fun x9 q9 hm => ckx (JcJ q9 :) ?_
 rintro _ _ _ ⟨aY, aV, rfl, aZ, rfl⟩
 refine cb hm fun a6 aW hm => ck0 (Fn.lend Tryz.call48 (fun aT aU aS => (qmb aW aS rfl)) (by exact fun _ _ _ _ h => h)) ?_
 rintro _ _ _ ⟨_, rfl, rfl, rfl⟩
 refine ro (qak rfl ?_)
 exact eE hm

def JaO (As : Bool) : Option (Ji) :=
  some (⟨3, 0, ([] : Str), As⟩ : Ji)
theorem Jaz {As : Bool} {K : Hp} {r : Ji}
    (hm : JaO As = some r)  :
    Fn Tryz.prog 114 [.bool As] K [] (fun v K' H' => v = .agg #[.int .i64 r.kind, .int .i64 r.n, str r.s, .bool r.As] ∧ H' = []) := by
 refine Fn.enter Tryz.func114 Tryz.call114 rfl fun F => ?_
 unfold JaO at hm
 refine qai rfl fun b2 => ?_
 refine qag rfl rfl (cT (cT ?_))
 refine qaa r0 rfl ⟨rfl, rfl, (nl rfl), ?_⟩
 exact ro (qab r0 rfl (nl rfl) (eE hm))

def Jb9 (name : Str) : List Str → Nat → Option (Fl (Str × Bool) (Unit))
  | [], _ => some (Fl.go ())
  | e0 :: aS, i0 =>
    (chk (name.length + ([61] : Str).length ≤ lim)).bind fun _ =>
    (Jao e0 (name ++ ([61] : Str))).bind fun aT =>
    if aT then
    (chk (InI ((name.length : Int) + 1))).bind fun _ =>
    (chk (0 ≤ ((name.length : Int) + 1) ∧ ((name.length : Int) + 1) ≤ (e0.length : Int) ∧ (e0.length : Int) ≤ (e0.length : Int))).bind fun _ =>
    some (Fl.ret ((subL e0 ((name.length : Int) + 1) (e0.length : Int)), true))
    else
    Jb9 name aS (i0 + 1)
def JdS (a : Jl) (name : Str) : Option (Str × Bool) :=
  if (!a.HasQuery) then
  some (([] : Str), false)
  else
  (qe4 a.Af ([38] : Str)).bind fun aS =>
  (chk (aS.length ≤ qbh)).bind fun _ =>
  (Jb9 name aS 0).bind fun s0 => s0.el some fun t0 =>
  some (([] : Str), false)
theorem Jer {a : Jl} {name : Str} {K : Hp} {r : Str × Bool}
    (hm : JdS a name = some r) (hG : GG K) :
    Fn Tryz.prog 158 [.agg #[str a.An, str a.Ae, str a.Af, .bool a.HasQuery], str name] K [] (fun v K' H' => v = .tuple #[str r.1, .bool r.2] ∧ H' = []) := by
 refine Fn.enter Tryz.func158 Tryz.call158 rfl fun F => ?_
 unfold JdS at hm
 refine qaq ?_
 intro b2
 refine fa rfl (ro (ld r0 rfl rfl (qau ?_)))
 refine cs rfl rfl hm ?_ ?_ <;> intro bg hm
 exact eE hm
 refine fa rfl (ro (ld r0 rfl rfl ?_))
 refine cb hm fun aV aZ hm => ck0 (qf2 aZ (gg0 hG)) ?_
 rintro _ _ _ ⟨aX, aW, rfl, aT, rfl⟩
 refine ro (qak rfl ?_)
 obtain ⟨a6, hm⟩ := qaw hm
 obtain ⟨s0, aS, hm⟩ := bnd hm
 refine lD (σ := (Unit)) ([4,5,7] ++ rg 15 14) [0, 1, 2] (fun i0 => [(15, .int .i64 (i0 : Int))]) (fun _ => []) (fun _ => []) (fun _ => True) (fun i0 _ => Jb9 name (aV.drop i0) i0 = some s0) (fun t0 => s0 = Fl.go t0) (fun i0 => aV.length - i0) 0 () aS (And.intro qe (And.intro ?_ ?_))
 clear aS
 rintro i0 _ _ aS j0
 conv at aS => whnf
 refine qac rfl ?_
 refine qae ?_ ?_ <;> intro w0
 obtain ⟨e0, aU, ba⟩ := ltx w0
 rw [ba, Jb9.eq_2] at aS
 refine qal rfl ?_
 refine RStep.ofN (qad rfl rfl (qcu aT aU) (nn _) (qff rfl aU) (ro (qbz (i := i0) (o := 0) r0 rfl aU rfl rfl ?_)))
 obtain ⟨aY, aS⟩ := qaw aS
 refine qbt aY ?_
 refine cb aS fun bc a8 aS => cg0 (JaA a8 :) ?_
 refine CStep.ownLe r0 fun bd => ?_
 refine cs rfl rfl aS ?_ ?_ <;> intro bf aS
 refine ro (qa3 rfl ?_)
 refine ci aS fun aS => ?_
 obtain ⟨bb, aS⟩ := qaw aS
 refine RStep.ofN (qdz (lo := (some ((name.length : Int) + 1))) (hi := none) rfl bb ?_)
 exact eE (er aS hm)
 refine qam (qbu aU a6) ?_
 exact eR aS (_, ())
 rw [lty w0, Jb9.eq_1] at aS
 refine cT ?_
 exact eM aS _
 rintro t0 _ rfl j0
 replace hm := elg hm
 exact eE hm

def Jbs : Nat → Nat → Str → Option (Str)
  | 0, _, ac => some ac
  | aT + 1, i0, ac =>
    (ix ac (i0 : Int)).bind fun aS =>
    if (decide ((aS.toNat : Int) ≥ 65) && decide ((aS.toNat : Int) ≤ 90)) then
    (ix ac (i0 : Int)).bind fun aU =>
    Jbs aT (i0 + 1) (ac.set (((i0 : Int)).toNat) (aS + (32 : UInt8)))
    else
    Jbs aT (i0 + 1) ac
def JdG (s : Str) : Option (Str) :=
  (chk (s.length ≤ lim)).bind fun _ =>
  (chk (InI (s.length : Int))).bind fun _ =>
  (Jbs (s.length : Int).toNat 0 s).bind fun t0 =>
  some t0
theorem Jeo {s : Str} {K : Hp} {r : Str}
    (hm : JdG s = some r)  :
    Fn Tryz.prog 159 [str s] K [] (fun v K' H' => v = str r ∧ H' = []) := by
 refine Fn.enter Tryz.func159 Tryz.call159 rfl fun F => ?_
 unfold JdG at hm
 obtain ⟨h7, hm⟩ := qaw hm
 refine qfy rfl rfl rfl h7 ?_
 intro a7 c7 o7
 refine ro (qak rfl ?_)
 obtain ⟨aZ, hm⟩ := qaw hm
 obtain ⟨s0, aT, hm⟩ := bnd hm
 refine lD (σ := (Str)) ([4,5] ++ rg 10 17) [1] (fun i0 => [(10, .int .i64 (i0 : Int))]) (fun _ => []) (fun t0 => [qas eU a7 5 1 c7 t0]) (fun t0 => (0 < t0.length → Has a7) ∧ s.length = t0.length) (fun i0 t0 => Jbs ((s.length : Int).toNat - i0) i0 t0 = some s0) (fun t0 => t0 = s0) (fun i0 => (s.length : Int).toNat - i0) 0 _ aT (And.intro qe (And.intro ?_ ?_))
 clear aT
 rintro i0 ac ⟨aU, aV⟩ aT j0
 conv at aT => whnf
 refine qac rfl ?_
 refine qae ?_ ?_ <;> intro w0
 rw [ltn w0, Jbs.eq_2] at aT
 refine qal rfl ?_
 obtain ⟨aY, ba, a6, aT⟩ := ixb aT
 refine RStep.ofN (qad rfl rfl (qcu aU a6) ba (qax aV ba a6) (ro (qbz (i := ((i0 : Int)).toNat) (o := 0) r0 rfl a6 rfl rfl ?_)))
 refine qaj rfl ?_
 refine qae ?_ ?_ <;> intro aS
 refine ct aS (ct aS (qac rfl ?_))
 refine qae ?_ ?_ <;> intro bc
 replace aT := ift (qa5 aS bc) aT
 refine qhw (x := aY) (y := (32 : UInt8)) rfl rfl ?_
 obtain ⟨bd, bb, aX, aT⟩ := ixb aT
 refine RStep.ofN (qad rfl rfl (qcu aU aX) bb (qax aV bb aX) ?_)
 refine qex (o := 0) (y := (aY + (32 : UInt8))) bd r0 rfl aX rfl (by (conv => whnf); exact ⟨rfl, rfl, (nl rfl), rfl, rfl, rfl⟩) ?_
 refine qam (qiy w0 aZ) ?_
 exact rd (i0 + 1, (ac.set (((i0 : Int)).toNat) (aY + (32 : UInt8)))) ⟨rfl, trivial⟩ rfl (pf rfl) lr (qo6 w0) ⟨⟨(by first | simpa using aU | exact fun _ => ⟨_, _, rfl⟩), ((aV).trans List.length_set.symm)⟩, aT⟩
 replace aT := qba (qbs aS bc) aT
 refine qam (qiy w0 aZ) ?_
 exact eR aT (_, _)
 refine cf aS (cf aS (qac rfl (cF ?_)))
 replace aT := qba (qav aS) aT
 refine qam (qiy w0 aZ) ?_
 exact eR aT (_, _)
 rw [lto w0, Jbs.eq_1] at aT
 refine cT ?_
 exact eM aT _
 rintro t0 ⟨a8, aW⟩ rfl j0
 refine ro (qeg aW r0 rfl rfl rfl ?_)
 exact eE hm

def JbE : List UInt8 → Nat → Int → Option (Fl (Int) (Int))
  | [], _, ac => some (Fl.go ac)
  | e0 :: aS, i0, ac =>
    (if decide ((e0.toNat : Int) < 48) then some true else some (decide ((e0.toNat : Int) > 57))).bind fun aT =>
    if aT then
    some (Fl.ret 0)
    else
    (chk (InI (10 * ac))).bind fun _ =>
    (chk (InI ((10 * ac) + ((e0 - (48 : UInt8)).toNat : Int)))).bind fun _ =>
    JbE aS (i0 + 1) ((10 * ac) + ((e0 - (48 : UInt8)).toNat : Int))
def Jdq (s : Str) : Option (Int) :=
  if (decide ((s.length : Int) < 1) || decide ((s.length : Int) > 15)) then
  some 0
  else
  (chk (s.length ≤ qbh)).bind fun _ =>
  (JbE s 0 0).bind fun s0 => s0.el some fun t0 =>
  some t0
theorem Jek {s : Str} {K : Hp} {r : Int}
    (hm : Jdq s = some r)  :
    Fn Tryz.prog 160 [str s] K [] (fun v K' H' => v = .int .i64 r ∧ H' = []) := by
 refine Fn.enter Tryz.func160 Tryz.call160 rfl fun F => ?_
 unfold Jdq at hm
 refine jR (σ := Unit) (rg 5 8) (fun _ => [(12, .bool (decide ((s.length : Int) < 1) || decide ((s.length : Int) > 15)))]) (fun a6 => True) ?_ ?_
 refine qaj rfl ?_
 refine ro (qa3 rfl ?_)
 refine qae ?_ ?_ <;> intro aU
 refine ct aU (ct aU (ct aU ?_))
 exact eMt () ⟨bq (((qbq aU)).symm), trivial⟩
 refine cf aU (ro (qa3 rfl (cf aU (cf aU ?_))))
 exact eMt () ⟨bq (qgx (b := decide ((s.length : Int) > 15)) aU), trivial⟩
 rintro _ _ ba
 refine cs rfl rfl hm ?_ ?_ <;> intro bd hm
 exact eE hm
 refine ro (qa3 rfl ?_)
 obtain ⟨a8, hm⟩ := qaw hm
 obtain ⟨s0, aT, hm⟩ := bnd hm
 refine lD (σ := (Int)) ([2,3,4] ++ rg 15 22) [0] (fun i0 => [(15, .int .i64 (i0 : Int))]) (fun t0 => [(3, .int .i64 t0)]) (fun _ => []) (fun _ => True) (fun i0 t0 => JbE (s.drop i0) i0 t0 = some s0) (fun t0 => s0 = Fl.go t0) (fun i0 => s.length - i0) 0 _ aT (And.intro qe (And.intro ?_ ?_))
 clear aT
 rintro i0 ac _ aT j0
 conv at aT => whnf
 refine qac rfl ?_
 refine qae ?_ ?_ <;> intro w0
 obtain ⟨e0, aW, bb⟩ := ltx w0
 rw [bb, JbE.eq_2] at aT
 refine qal rfl ?_
 refine qaj rfl ?_
 refine qaz rfl (nn _) aW ?_
 obtain ⟨bc, aV, aT⟩ := bnd aT
 refine cS aV (fun aS aV => ?_) fun aS aV => ?_
 refine ct aS (ct aS (ct aS (ct aS (qac rfl (cT ?_)))))
 replace aT := ift (si aV).symm aT
 exact eE (er aT hm)
 refine cf aS (cf aS (qaz rfl (nn _) aW (cf aS (cf aS (qac rfl ?_)))))
 refine qae ?_ ?_ <;> intro aX
 replace aT := ift ((si aV).symm.trans aX) aT
 exact eE (er aT hm)
 replace aT := qba ((si aV).symm.trans aX) aT
 obtain ⟨aY, aT⟩ := qaw aT
 refine qam aY (qaz rfl (nn _) aW (qhx (x := e0) (y := (48 : UInt8)) rfl rfl (qes rfl rfl (qpc (e0 - (48 : UInt8))) ?_)))
 obtain ⟨aZ, aT⟩ := qaw aT
 refine qam aZ (qam (qbu aW a8) ?_)
 exact eR aT (_, _)
 rw [lty w0, JbE.eq_1] at aT
 refine cT ?_
 exact eM aT _
 rintro t0 _ rfl j0
 replace hm := elg hm
 exact eE hm

def JdT (name : Str) (x : Ji) (Aq : JV) : Option (Ji × Bool) :=
  if (decide (name = ([112, 97, 114, 116] : Str)) || decide (name = ([116, 101, 120, 116] : Str))) then
  if decide (x.kind ≠ 2) then
  some ((⟨0, 0, ([] : Str), false⟩ : Ji), false)
  else
  if decide (name = ([116, 101, 120, 116] : Str)) then
  (qky x.n).bind fun bf =>
  (Jay bf).bind fun bg =>
  some (bg, true)
  else
  (JcP Aq.Ae).bind fun aW =>
  if (decide (x.n < 0) || decide (x.n ≥ (aW.length : Int))) then
  (Jay ([] : Str)).bind fun aY =>
  some (aY, true)
  else
  (ix aW x.n).bind fun ba =>
  (Jay ba).bind fun bh =>
  some (bh, true)
  else
  if decide (x.kind ≠ 1) then
  some ((⟨0, 0, ([] : Str), false⟩ : Ji), false)
  else
  if decide (name = ([104, 101, 97, 100, 101, 114] : Str)) then
  (JdY Aq.Ao x.s).bind fun aX =>
  (Jay aX.1).bind fun aZ =>
  some (aZ, true)
  else
  if decide (name = ([104, 97, 115] : Str)) then
  (JdY Aq.Ao x.s).bind fun bb =>
  (JaO bb.2).bind fun bd =>
  some (bd, true)
  else
  if decide (name = ([97, 114, 103] : Str)) then
  (JdS (⟨([] : Str), ([] : Str), Aq.Af, true⟩ : Jl) x.s).bind fun bc =>
  (Jay bc.1).bind fun a8 =>
  some (a8, true)
  else
  if decide (name = ([108, 101, 110] : Str)) then
  (JbL (x.s.length : Int)).bind fun a6 =>
  some (a6, true)
  else
  if decide (name = ([108, 111, 119, 101, 114] : Str)) then
  (JdG x.s).bind fun aT =>
  (Jay aT).bind fun aU =>
  some (aU, true)
  else
  (Jdq x.s).bind fun aS =>
  (JbL aS).bind fun aV =>
  some (aV, true)
theorem Jes {name : Str} {x : Ji} {Aq : JV} {ar : Option Addr} {au : Nat} {K : Hp} {r : Ji × Bool}
    (hm : JdT name x Aq = some r) (hX : RdC Jc.enc K ar au 2 Aq.Ao ∧ GG K) :
    Fn Tryz.prog 112 [str name, .agg #[.int .i64 x.kind, .int .i64 x.n, str x.s, .bool x.As], .agg #[str Aq.Am, str Aq.An, str Aq.Ae, str Aq.Af, .slice ar Aq.Ao.length au]] K [] (fun v K' H' => v = .tuple #[.agg #[.int .i64 r.1.kind, .int .i64 r.1.n, str r.1.s, .bool r.1.As], .bool r.2] ∧ H' = []) := by
 obtain ⟨bc, hG⟩ := hX
 refine Fn.enter Tryz.func112 Tryz.call112 rfl fun F => ?_
 unfold JdT at hm
 refine qaq ?_
 intro b4
 refine qaq ?_
 intro b5
 refine qai rfl fun b6 => ?_
 refine jR (σ := Unit) (rg 15 6) (fun _ => [(20, .bool (decide (name = ([112, 97, 114, 116] : Str)) || decide (name = ([116, 101, 120, 116] : Str))))]) (fun bu => True) ?_ ?_
 refine qaj rfl ?_
 refine qap ?_
 refine qae ?_ ?_ <;> intro aT
 refine ct aT (ct aT ?_)
 exact eMt () ⟨bq (((qbq aT)).symm), trivial⟩
 refine cf aT (qap (cf aT ?_))
 exact eMt () ⟨bq (qgx (b := decide (name = ([116, 101, 120, 116] : Str))) aT), trivial⟩
 rintro _ _ bA
 refine cs rfl rfl hm ?_ ?_ <;> intro bQ hm
 refine fa rfl (ro (ld r2 rfl rfl (qa8 ?_)))
 refine cs rfl rfl hm ?_ ?_ <;> intro bL hm
 refine qag rfl rfl ?_
 refine qaa r0 rfl ⟨rfl, rfl, (nl rfl), ?_⟩
 exact ro (qab r0 rfl (nl rfl) (eE hm))
 refine qap (cs rfl rfl hm ?_ ?_) <;> intro bP hm
 refine fa rfl (ro (ld r2 rfl rfl ?_))
 refine cb hm fun bT bm hm => cg0 (qjx bm (gg4 hG)) ?_
 refine cb hm fun bO bo hm => cg0 (Jae bo :) ?_
 refine qaa r0 rfl ⟨rfl, rfl, (nl rfl), ?_⟩
 exact ro (qab r0 rfl (nl rfl) (eE hm))
 refine fa rfl (ro (ld r1 rfl rfl ?_))
 refine cb hm fun a8 bD hm => ckx (JdR bD :) ?_
 rintro _ _ _ ⟨a6, bb, rfl, aU, rfl⟩
 refine jR (σ := Unit) (rg 34 10) (fun _ => [(43, .bool (decide (x.n < 0) || decide (x.n ≥ (a8.length : Int))))]) (fun bh => True) ?_ ?_
 refine qaj rfl ?_
 refine fa rfl (ro (ld r3 rfl rfl ?_))
 refine qae ?_ ?_ <;> intro aS
 refine ct aS (ct aS (ct aS (ct aS (ct aS ?_))))
 exact eMt () ⟨bq (((qbq aS)).symm), trivial⟩
 refine fa rfl (cf aS (ro (ld r3 rfl rfl (cf aS (cf aS (ro (qak rfl (cf aS (cf aS ?_)))))))))
 exact eMt () ⟨bq (qgx (b := decide (x.n ≥ (a8.length : Int))) aS), trivial⟩
 rintro _ _ bl
 refine cs rfl rfl hm ?_ ?_ <;> intro bI hm
 refine cb hm fun bX bp hm => cg0 (Jae bp :) ?_
 refine qaa r1 rfl ⟨rfl, rfl, (nl rfl), ?_⟩
 exact ro (qab r0 rfl (nl rfl) (eE hm))
 refine fa rfl (ro (ld r3 rfl rfl ?_))
 obtain ⟨bZ, ba, aY, hm⟩ := ixb hm
 refine RStep.ofN (qad rfl rfl (qcu aU aY) ba (qax rfl ba aY) (ro (qbz (i := (x.n).toNat) (o := 0) r0 rfl aY rfl rfl ?_)))
 refine cb hm fun bU bC hm => cg0 (Jae bC :) ?_
 refine qaa r1 rfl ⟨rfl, rfl, (nl rfl), ?_⟩
 exact ro (qab r0 rfl (nl rfl) (eE hm))
 refine fa rfl (ro (ld r2 rfl rfl (qa8 ?_)))
 refine cs rfl rfl hm ?_ ?_ <;> intro bK hm
 refine qag rfl rfl ?_
 refine qaa r0 rfl ⟨rfl, rfl, (nl rfl), ?_⟩
 exact ro (qab r0 rfl (nl rfl) (eE hm))
 refine qal rfl ?_
 refine qap (cs rfl rfl hm ?_ ?_) <;> intro bF hm
 refine fa rfl (ro (ld r1 rfl rfl (fa rfl (ro (ld r2 rfl rfl ?_)))))
 refine cb hm fun bG bd hm => cgx (Jeg bd :) ?_
 refine cb hm fun bR bf hm => cg0 (Jae bf :) ?_
 refine qaa r0 rfl ⟨rfl, rfl, (nl rfl), ?_⟩
 exact ro (qab r0 rfl (nl rfl) (eE hm))
 refine qap (cs rfl rfl hm ?_ ?_) <;> intro bJ hm
 refine fa rfl (ro (ld r1 rfl rfl (fa rfl (ro (ld r2 rfl rfl ?_)))))
 refine cb hm fun bS br hm => cgx (Jeg br :) ?_
 refine cb hm fun bN bz hm => cg0 (Jaz bz :) ?_
 refine qaa r0 rfl ⟨rfl, rfl, (nl rfl), ?_⟩
 exact ro (qab r0 rfl (nl rfl) (eE hm))
 refine qap (cs rfl rfl hm ?_ ?_) <;> intro bV hm
 refine fa rfl (ro (ld r1 rfl rfl (qag rfl rfl (cT (cT (fa rfl (ro (ld r2 rfl rfl ?_))))))))
 refine cb hm fun ca bg hm => cgx (Jer bg :) ?_
 refine cb hm fun bY bB hm => cg0 (Jae bB :) ?_
 refine qaa r0 rfl ⟨rfl, rfl, (nl rfl), ?_⟩
 exact ro (qab r0 rfl (nl rfl) (eE hm))
 refine qap (cs rfl rfl hm ?_ ?_) <;> intro bW hm
 refine fa rfl (ro (ld r2 rfl rfl (ro (qa3 rfl ?_))))
 refine cb hm fun bH bv hm => cg0 (Jbe bv :) ?_
 refine qaa r0 rfl ⟨rfl, rfl, (nl rfl), ?_⟩
 exact ro (qab r0 rfl (nl rfl) (eE hm))
 refine qap (cs rfl rfl hm ?_ ?_) <;> intro bM hm
 refine fa rfl (ro (ld r2 rfl rfl ?_))
 refine cb hm fun bj aV hm => cg0 (Jeo aV :) ?_
 refine cb hm fun bn aZ hm => cg0 (Jae aZ :) ?_
 refine qaa r0 rfl ⟨rfl, rfl, (nl rfl), ?_⟩
 exact ro (qab r0 rfl (nl rfl) (eE hm))
 refine fa rfl (ro (ld r2 rfl rfl ?_))
 refine cb hm fun bt aW hm => cg0 (Jek aW :) ?_
 refine cb hm fun bw aX hm => cg0 (Jbe aX :) ?_
 refine qaa r0 rfl ⟨rfl, rfl, (nl rfl), ?_⟩
 exact ro (qab r0 rfl (nl rfl) (eE hm))

def Jdf (a : Int) (b : Int) : Option (Ji) :=
  if (decide (a = 0) || decide (b = 0)) then
  (JbL 0).bind fun aU =>
  some aU
  else
  (chk (InI (-a))).bind fun _ =>
  (chk (InI (-b))).bind fun _ =>
  (chk ((max b (-b)) ≠ 0 ∧ InI (Int.tdiv 1099511627776 (max b (-b))))).bind fun _ =>
  ((if decide ((max a (-a)) > (Int.tdiv 1099511627776 (max b (-b)))) then
  some (1099511627776, 1)
  else
  some ((max a (-a)), (max b (-b))) : Option (Int × Int))).bind fun aS =>
  if (!((decide (a < 0)) == (decide (b < 0)))) then
  (chk (InI (-aS.1))).bind fun _ =>
  (chk (InI ((-aS.1) * aS.2))).bind fun _ =>
  (JbL ((-aS.1) * aS.2)).bind fun aV =>
  some aV
  else
  (chk (InI (aS.1 * aS.2))).bind fun _ =>
  (JbL (aS.1 * aS.2)).bind fun aT =>
  some aT
theorem Jeb {a : Int} {b : Int} {K : Hp} {r : Ji}
    (hm : Jdf a b = some r)  :
    Fn Tryz.prog 161 [.int .i64 a, .int .i64 b] K [] (fun v K' H' => v = .agg #[.int .i64 r.kind, .int .i64 r.n, str r.s, .bool r.As] ∧ H' = []) := by
 refine Fn.enter Tryz.func161 Tryz.call161 rfl fun F => ?_
 unfold Jdf at hm
 refine qai rfl fun b4 => ?_
 refine jR (σ := Unit) (rg 8 6) (fun _ => [(13, .bool (decide (a = 0) || decide (b = 0)))]) (fun aZ => True) ?_ ?_
 refine qaj rfl ?_
 refine qaf ?_
 refine qae ?_ ?_ <;> intro aS
 refine ct aS (ct aS ?_)
 exact eMt () ⟨bq (((qbq aS)).symm), trivial⟩
 refine cf aS (qaf (cf aS ?_))
 exact eMt () ⟨bq (qgx (b := decide (b = 0)) aS), trivial⟩
 rintro _ _ bb
 refine cs rfl rfl hm ?_ ?_ <;> intro bh hm
 refine cb hm fun bl bc hm => cg0 (Jbe bc :) ?_
 refine qaa r0 rfl ⟨rfl, rfl, (nl rfl), ?_⟩
 exact ro (qab r0 rfl (nl rfl) (eE hm))
 refine qfx rfl ?_
 obtain ⟨aY, hm⟩ := qaw hm
 refine qlb aY ?_
 refine ro (qci ?_)
 obtain ⟨a6, hm⟩ := qaw hm
 refine qlb a6 ?_
 refine ro (qci ?_)
 obtain ⟨aW, hm⟩ := qaw hm
 refine qlj aW.1 aW.2 ?_
 obtain ⟨aV, aT, hm⟩ := bnd hm
 refine jD (σ := (Int × Int)) [6,7] [0, 1] (fun aU => [(6, .int .i64 aU.1), (7, .int .i64 aU.2)]) (fun aU => []) (fun aU => aU = aV) (And.intro ?_ ?_)
 refine cs rfl rfl aT ?_ ?_ <;> intro bf aT
 exact eM aT _
 exact eM aT _
 rintro aU rfl a8
 refine cs rfl rfl hm ?_ ?_ <;> intro bj hm
 obtain ⟨ba, hm⟩ := qaw hm
 refine qlb ba ?_
 refine ci hm fun hm => ?_
 refine cb hm fun bg bd hm => cg0 (Jbe bd :) ?_
 refine qaa r0 rfl ⟨rfl, rfl, (nl rfl), ?_⟩
 exact ro (qab r0 rfl (nl rfl) (eE hm))
 refine ci hm fun hm => ?_
 refine cb hm fun bm aX hm => cg0 (Jbe aX :) ?_
 refine qaa r0 rfl ⟨rfl, rfl, (nl rfl), ?_⟩
 exact ro (qab r0 rfl (nl rfl) (eE hm))

def JaP (s : Str) (suffix : Str) : Option (Bool) :=
  (if decide ((s.length : Int) ≥ (suffix.length : Int)) then (chk (InI ((s.length : Int) - (suffix.length : Int)))).bind fun _ =>
  (chk (0 ≤ ((s.length : Int) - (suffix.length : Int)) ∧ ((s.length : Int) - (suffix.length : Int)) ≤ (s.length : Int) ∧ (s.length : Int) ≤ (s.length : Int))).bind fun _ =>
  some (decide ((subL s ((s.length : Int) - (suffix.length : Int)) (s.length : Int)) = suffix)) else some false).bind fun aS =>
  some aS
theorem Jcu {s : Str} {suffix : Str} {K : Hp} {r : Bool}
    (hm : JaP s suffix = some r)  :
    Fn Tryz.prog 215 [str s, str suffix] K [] (fun v K' H' => v = .bool r ∧ H' = []) := by
 refine Fn.enter Tryz.func215 Tryz.call215 rfl fun F => ?_
 unfold JaP at hm
 refine qaj rfl ?_
 refine ro (qa3 rfl (ro (qa3 rfl ?_)))
 obtain ⟨aW, aT, hm⟩ := bnd hm
 refine cS aT (fun aS aT => ?_) fun aS aT => ?_
 refine ct aS (ct aS (ro (qa3 rfl (ct aS (ct aS (ro (qa3 rfl (ct aS ?_))))))))
 obtain ⟨aU, aT⟩ := qaw aT
 refine qam aU (ct aS ?_)
 obtain ⟨aV, aT⟩ := qaw aT
 refine RStep.ofN (qdz (lo := (some ((s.length : Int) - (suffix.length : Int)))) (hi := none) rfl aV (ct aS (ct aS (qap (ct aS ?_)))))
 exact bE (si aT) (eE hm)
 refine cf aS (cf aS (cf aS (cf aS (cf aS (cf aS (cf aS (cf aS ?_)))))))
 refine cf aS ?_
 exact bE (si aT) (eE hm)

def JcF (s : Str) (suffix : Str) : Option (Bool) :=
  (JaP s suffix).bind fun x7 =>
  some x7
theorem JdN {s : Str} {suffix : Str} {K : Hp} {r : Bool}
    (hm : JcF s suffix = some r)  :
    Fn Tryz.prog 162 [str s, str suffix] K [] (fun v K' H' => v = .bool r ∧ H' = []) := by
 refine Fn.enter Tryz.func162 Tryz.call162 rfl fun F => ?_
 unfold JcF at hm
 refine cb hm fun x7 q7 hm => cg0 (Jcu q7 :) ?_
 exact eE hm

def Jdg (op : Str) (a : Ji) (b : Ji) : Option (Ji × Bool) :=
  if decide (a.kind ≠ b.kind) then
  some ((⟨0, 0, ([] : Str), false⟩ : Ji), false)
  else
  if decide (op = ([43] : Str)) then
  if decide (a.kind = 1) then
  (chk (a.s.length + b.s.length ≤ lim)).bind fun _ =>
  (Jay (a.s ++ b.s)).bind fun a8 =>
  some (a8, true)
  else
  (chk (InI (a.n + b.n))).bind fun _ =>
  (JbL (a.n + b.n)).bind fun aY =>
  some (aY, decide (a.kind = 2))
  else
  if decide (op = ([45] : Str)) then
  (chk (InI (a.n - b.n))).bind fun _ =>
  (JbL (a.n - b.n)).bind fun a6 =>
  some (a6, decide (a.kind = 2))
  else
  if decide (op = ([42] : Str)) then
  if (!decide (a.kind = 2)) then
  some ((⟨0, 0, ([] : Str), false⟩ : Ji), false)
  else
  (Jdf a.n b.n).bind fun aX =>
  some (aX, true)
  else
  if decide (op = ([61, 61] : Str)) then
  (JaO (decide (a.kind = b.kind) && (decide (a.n = b.n) && (decide (a.s = b.s) && (a.As == b.As))))).bind fun aW =>
  some (aW, true)
  else
  if decide (op = ([33, 61] : Str)) then
  (JaO (!(decide (a.kind = b.kind) && (decide (a.n = b.n) && (decide (a.s = b.s) && (a.As == b.As)))))).bind fun bd =>
  some (bd, true)
  else
  if decide (op = ([60] : Str)) then
  (JaO (decide (a.n < b.n))).bind fun aZ =>
  some (aZ, decide (a.kind = 2))
  else
  if decide (op = ([60, 61] : Str)) then
  (JaO (decide (a.n ≤ b.n))).bind fun ba =>
  some (ba, decide (a.kind = 2))
  else
  if decide (op = ([115, 116, 97, 114, 116, 115] : Str)) then
  (Jao a.s b.s).bind fun bb =>
  (JaO bb).bind fun bc =>
  some (bc, decide (a.kind = 1))
  else
  if decide (op = ([101, 110, 100, 115] : Str)) then
  (JcF a.s b.s).bind fun aT =>
  (JaO aT).bind fun aV =>
  some (aV, decide (a.kind = 1))
  else
  (qe3 a.s b.s).bind fun aU =>
  (JaO aU).bind fun aS =>
  some (aS, decide (a.kind = 1))
theorem Jec {op : Str} {a : Ji} {b : Ji} {K : Hp} {r : Ji × Bool}
    (hm : Jdg op a b = some r) (hG : GG K) :
    Fn Tryz.prog 113 [str op, .agg #[.int .i64 a.kind, .int .i64 a.n, str a.s, .bool a.As], .agg #[.int .i64 b.kind, .int .i64 b.n, str b.s, .bool b.As]] K [] (fun v K' H' => v = .tuple #[.agg #[.int .i64 r.1.kind, .int .i64 r.1.n, str r.1.s, .bool r.1.As], .bool r.2] ∧ H' = []) := by
 refine Fn.enter Tryz.func113 Tryz.call113 rfl fun F => ?_
 unfold Jdg at hm
 refine qaq ?_
 intro b4
 refine qaq ?_
 intro b5
 refine qai rfl fun b6 => ?_
 refine fa rfl (ro (ld r2 rfl rfl (fa rfl (ro (ld r1 rfl rfl (qa8 ?_))))))
 refine cs rfl rfl hm ?_ ?_ <;> intro bH hm
 refine qag rfl rfl ?_
 refine qaa r0 rfl ⟨rfl, rfl, (nl rfl), ?_⟩
 exact ro (qab r0 rfl (nl rfl) (eE hm))
 refine qa4 ⟨⟨[], false⟩, _, [(_, _)], []⟩ (by kernel_rfl) ⟨Hp.Le.refl _, (sc [2] rfl), ci0⟩ ?_
 refine fa rfl (qao m0 rfl rfl (qaf (fa rfl (qao m0 rfl rfl (qaf ?_)))))
 refine qal rfl ?_
 refine qap (cs rfl rfl hm ?_ ?_) <;> intro bv hm
 refine cs rfl rfl hm ?_ ?_ <;> intro bA hm
 refine fa rfl (ro (ld r2 rfl rfl (fa rfl (ro (ld r1 rfl rfl ?_)))))
 obtain ⟨bc, hm⟩ := qaw hm
 refine qbt bc ?_
 refine cb hm fun bt ba hm => cg0 (Jae ba :) ?_
 refine qaa r0 rfl ⟨rfl, rfl, (nl rfl), ?_⟩
 exact ro (qab r0 rfl (nl rfl) (eE hm))
 refine fa rfl (ro (ld r2 rfl rfl (fa rfl (ro (ld r1 rfl rfl ?_)))))
 refine ci hm fun hm => ?_
 refine cb hm fun bF bf hm => cg0 (Jbe bf :) ?_
 refine qaa r0 rfl ⟨rfl, rfl, (nl rfl), ?_⟩
 exact ro (qab r0 rfl (nl rfl) (eE hm))
 refine qap (cs rfl rfl hm ?_ ?_) <;> intro bC hm
 refine fa rfl (ro (ld r2 rfl rfl (fa rfl (ro (ld r1 rfl rfl ?_)))))
 refine ci hm fun hm => ?_
 refine cb hm fun br a8 hm => cg0 (Jbe a8 :) ?_
 refine qaa r0 rfl ⟨rfl, rfl, (nl rfl), ?_⟩
 exact ro (qab r0 rfl (nl rfl) (eE hm))
 refine qap (cs rfl rfl hm ?_ ?_) <;> intro bo hm
 refine qau ?_
 refine cs rfl rfl hm ?_ ?_ <;> intro bL hm
 refine qag rfl rfl ?_
 refine qaa r0 rfl ⟨rfl, rfl, (nl rfl), ?_⟩
 exact ro (qab r0 rfl (nl rfl) (eE hm))
 refine fa rfl (ro (ld r2 rfl rfl (fa rfl (ro (ld r1 rfl rfl ?_)))))
 refine cb hm fun bw aW hm => cg0 (Jeb aW :) ?_
 refine qaa r0 rfl ⟨rfl, rfl, (nl rfl), ?_⟩
 exact ro (qab r0 rfl (nl rfl) (eE hm))
 refine qap (cs rfl rfl hm ?_ ?_) <;> intro bD hm
 refine ro (qab r2 rfl (nl rfl) (ro (qab r1 rfl (nl rfl) ?_)))
 refine qgr (b := (decide (a.kind = b.kind) && (decide (a.n = b.n) && (decide (a.s = b.s) && (a.As == b.As))))) rfl (by kernel_rfl) (by kernel_rfl) (by kernel_rfl) rfl ?_
 refine cb hm fun bm a6 hm => cg0 (Jaz a6 :) ?_
 refine qaa r0 rfl ⟨rfl, rfl, (nl rfl), ?_⟩
 exact ro (qab r0 rfl (nl rfl) (eE hm))
 refine qap (cs rfl rfl hm ?_ ?_) <;> intro bp hm
 refine ro (qab r2 rfl (nl rfl) (ro (qab r1 rfl (nl rfl) ?_)))
 refine qh4 (b := (decide (a.kind = b.kind) && (decide (a.n = b.n) && (decide (a.s = b.s) && (a.As == b.As))))) rfl (by kernel_rfl) (by kernel_rfl) (by kernel_rfl) rfl ?_
 refine cb hm fun bI bg hm => cg0 (Jaz bg :) ?_
 refine qaa r0 rfl ⟨rfl, rfl, (nl rfl), ?_⟩
 exact ro (qab r0 rfl (nl rfl) (eE hm))
 refine qap (cs rfl rfl hm ?_ ?_) <;> intro bz hm
 refine fa rfl (ro (ld r2 rfl rfl (fa rfl (ro (ld r1 rfl rfl ?_)))))
 refine cb hm fun bJ bh hm => cg0 (Jaz bh :) ?_
 refine qaa r0 rfl ⟨rfl, rfl, (nl rfl), ?_⟩
 exact ro (qab r0 rfl (nl rfl) (eE hm))
 refine qap (cs rfl rfl hm ?_ ?_) <;> intro bn hm
 refine fa rfl (ro (ld r2 rfl rfl (fa rfl (ro (ld r1 rfl rfl ?_)))))
 refine cb hm fun bM bj hm => cg0 (Jaz bj :) ?_
 refine qaa r0 rfl ⟨rfl, rfl, (nl rfl), ?_⟩
 exact ro (qab r0 rfl (nl rfl) (eE hm))
 refine qap (cs rfl rfl hm ?_ ?_) <;> intro bB hm
 refine fa rfl (ro (ld r2 rfl rfl (fa rfl (ro (ld r1 rfl rfl ?_)))))
 refine cb hm fun bG aZ hm => cg0 (JaA aZ :) ?_
 refine cb hm fun bK aX hm => cg0 (Jaz aX :) ?_
 refine qaa r0 rfl ⟨rfl, rfl, (nl rfl), ?_⟩
 exact ro (qab r0 rfl (nl rfl) (eE hm))
 refine qap (cs rfl rfl hm ?_ ?_) <;> intro bu hm
 refine fa rfl (ro (ld r2 rfl rfl (fa rfl (ro (ld r1 rfl rfl ?_)))))
 refine cb hm fun bb aS hm => cg0 (JdN aS :) ?_
 refine cb hm fun bd aT hm => cg0 (Jaz aT :) ?_
 refine qaa r0 rfl ⟨rfl, rfl, (nl rfl), ?_⟩
 exact ro (qab r0 rfl (nl rfl) (eE hm))
 refine fa rfl (ro (ld r2 rfl rfl (fa rfl (ro (ld r1 rfl rfl ?_)))))
 refine cb hm fun bl aU hm => cg0 (qjy aU (gg0 hG)) ?_
 refine cb hm fun aY aV hm => cg0 (Jaz aV :) ?_
 refine qaa r0 rfl ⟨rfl, rfl, (nl rfl), ?_⟩
 exact ro (qab r0 rfl (nl rfl) (eE hm))

def qds (c : UInt8) : Option (Bool) :=
  if (decide ((c.toNat : Int) ≥ 48) && decide ((c.toNat : Int) ≤ 57)) then
  some true
  else
  if (decide ((c.toNat : Int) ≥ 97) && decide ((c.toNat : Int) ≤ 122)) then
  some true
  else
  if (decide ((c.toNat : Int) ≥ 65) && decide ((c.toNat : Int) ≤ 90)) then
  some true
  else
  (ixByteM ([33, 35, 36, 37, 38, 39, 42, 43, 45, 46, 94, 95, 96, 124, 126] : Str) c).bind fun aS =>
  some (decide (aS ≥ 0))
theorem qf3 {c : UInt8} {K : Hp} {r : Bool}
    (hm : qds c = some r)  :
    Fn Tryz.prog 219 [.int .u8 (c.toNat : Int)] K [] (fun v K' H' => v = .bool r ∧ H' = []) := by
 refine Fn.enter Tryz.func219 Tryz.call219 rfl fun F => ?_
 unfold qds at hm
 refine qal rfl ?_
 refine jR (σ := Unit) (rg 3 7) (fun _ => [(3, .bool (decide ((c.toNat : Int) ≥ 48) && decide ((c.toNat : Int) ≤ 57)))]) (fun aX => True) ?_ ?_
 refine qaj rfl ?_
 refine qae ?_ ?_ <;> intro aU
 refine ct aU (ct aU ?_)
 exact eMt () ⟨bq (qcw (b := decide ((c.toNat : Int) ≤ 57)) aU), trivial⟩
 refine cf aU (cf aU ?_)
 exact eMt () ⟨bq (((qav aU)).symm), trivial⟩
 rintro _ _ aY
 refine cs rfl rfl hm ?_ ?_ <;> intro w3 hm
 refine qac rfl (ct w3 ?_)
 exact eE hm
 refine qaj rfl ?_
 refine qae ?_ ?_ <;> intro aT
 refine ct aT (ct aT (qac rfl ?_))
 refine qae ?_ ?_ <;> intro w3
 replace hm := ift (qa5 aT w3) hm
 refine qac rfl (ct w3 ?_)
 exact eE hm
 replace hm := qba (qbs aT w3) hm
 refine qaj rfl ?_
 refine qae ?_ ?_ <;> intro aS
 refine ct aS (ct aS (qac rfl ?_))
 refine qae ?_ ?_ <;> intro w3
 replace hm := ift (qa5 aS w3) hm
 exact eE hm
 replace hm := qba (qbs aS w3) hm
 refine cb hm fun aW aV hm => cg0 (qiw aV) ?_
 exact eE hm
 refine cf aS (cf aS (qac rfl (cF ?_)))
 replace hm := qba (qav aS) hm
 refine cb hm fun aW aV hm => cg0 (qiw aV) ?_
 exact eE hm
 refine cf aT (cf aT (qac rfl (cF ?_)))
 replace hm := qba (qav aT) hm
 refine qaj rfl ?_
 refine qae ?_ ?_ <;> intro aS
 refine ct aS (ct aS (qac rfl ?_))
 refine qae ?_ ?_ <;> intro w3
 replace hm := ift (qa5 aS w3) hm
 exact eE hm
 replace hm := qba (qbs aS w3) hm
 refine cb hm fun aW aV hm => cg0 (qiw aV) ?_
 exact eE hm
 refine cf aS (cf aS (qac rfl (cF ?_)))
 replace hm := qba (qav aS) hm
 refine cb hm fun aW aV hm => cg0 (qiw aV) ?_
 exact eE hm

def syntax_Token_L0 : List UInt8 → Nat → Option (Fl (Bool) (Unit))
  | [], _ => some (Fl.go ())
  | e0 :: aS, i0 =>
    (qds e0).bind fun al =>
    if (!al) then
    some (Fl.ret false)
    else
    syntax_Token_L0 aS (i0 + 1)
def qdt (s : Str) : Option (Bool) :=
  (chk (s.length ≤ qbh)).bind fun _ =>
  (syntax_Token_L0 s 0).bind fun s0 => s0.el some fun t0 =>
  some (decide (s ≠ ([] : Str)))
theorem qf4 {s : Str} {K : Hp} {r : Bool}
    (hm : qdt s = some r)  :
    Fn Tryz.prog 180 [str s] K [] (fun v K' H' => v = .bool r ∧ H' = []) := by
 refine Fn.enter Tryz.func180 Tryz.call180 rfl fun F => ?_
 unfold qdt at hm
 refine ro (qa3 rfl ?_)
 obtain ⟨aV, hm⟩ := qaw hm
 obtain ⟨s0, aS, hm⟩ := bnd hm
 refine lD (σ := (Unit)) ([2,3] ++ rg 6 9) [0] (fun i0 => [(6, .int .i64 (i0 : Int))]) (fun _ => []) (fun _ => []) (fun _ => True) (fun i0 _ => syntax_Token_L0 (s.drop i0) i0 = some s0) (fun t0 => s0 = Fl.go t0) (fun i0 => s.length - i0) 0 () aS (And.intro qe (And.intro ?_ ?_))
 clear aS
 rintro i0 _ _ aS j0
 conv at aS => whnf
 refine qac rfl ?_
 refine qae ?_ ?_ <;> intro w0
 obtain ⟨e0, aT, aW⟩ := ltx w0
 rw [aW, syntax_Token_L0.eq_2] at aS
 refine qal rfl ?_
 refine qaz rfl (nn _) aT ?_
 refine cb aS fun al aU aS => cg0 (qf3 aU :) ?_
 refine qau ?_
 refine cs rfl rfl aS ?_ ?_ <;> intro aX aS
 exact eE (er aS hm)
 refine qam (qbu aT aV) ?_
 exact eR aS (_, ())
 rw [lty w0, syntax_Token_L0.eq_1] at aS
 refine cT ?_
 exact eM aS _
 rintro t0 _ rfl j0
 replace hm := elg hm
 refine qbn ?_
 exact eE hm

def Jed (s : Str) : Option (Str × Err) :=
  (qdt s).bind fun x5 =>
  if (!x5) then
  some (([] : Str), (some 8))
  else
  if decide ((s.length : Int) > 64) then
  some (([] : Str), (some 5))
  else
  (Ja1 s).bind fun aS =>
  some (aS, none)
theorem Jex {s : Str} {K : Hp} {r : Str × Err}
    (hm : Jed s = some r)  :
    Fn Tryz.prog 137 [str s] K [] (fun v K' H' => v = .tuple #[str r.1, qcs 48 r.2] ∧ H' = []) := by
 refine Fn.enter Tryz.func137 Tryz.call137 rfl fun F => ?_
 unfold Jed at hm
 refine cb hm fun x5 q5 hm => cg0 (qf4 q5 :) ?_
 refine qau ?_
 refine cs rfl rfl hm ?_ ?_ <;> intro w6 hm
 refine qar rfl ?_
 exact eE hm
 refine ro (qa3 rfl ?_)
 refine cs rfl rfl hm ?_ ?_ <;> intro aU hm
 refine qar rfl ?_
 exact eE hm
 refine cb hm fun aT aS hm => cg0 (JaI aS :) ?_
 exact eE hm

def JbF : List UInt8 → Nat → Option (Fl (Bool) (Unit))
  | [], _ => some (Fl.go ())
  | e0 :: aU, i0 =>
    (if decide ((e0.toNat : Int) < 32) then some (decide ((e0.toNat : Int) ≠ 9)) else some false).bind fun aS =>
    (if aS then some true else some (decide ((e0.toNat : Int) = 127))).bind fun aT =>
    if aT then
    some (Fl.ret true)
    else
    JbF aU (i0 + 1)
def Jdr (s : Str) : Option (Bool) :=
  (chk (s.length ≤ qbh)).bind fun _ =>
  (JbF s 0).bind fun s0 => s0.el some fun t0 =>
  some false
theorem Jel {s : Str} {K : Hp} {r : Bool}
    (hm : Jdr s = some r)  :
    Fn Tryz.prog 181 [str s] K [] (fun v K' H' => v = .bool r ∧ H' = []) := by
 refine Fn.enter Tryz.func181 Tryz.call181 rfl fun F => ?_
 unfold Jdr at hm
 refine ro (qa3 rfl ?_)
 obtain ⟨aZ, hm⟩ := qaw hm
 obtain ⟨s0, aU, hm⟩ := bnd hm
 refine lD (σ := (Unit)) ([2,3] ++ rg 6 20) [0] (fun i0 => [(6, .int .i64 (i0 : Int))]) (fun _ => []) (fun _ => []) (fun _ => True) (fun i0 _ => JbF (s.drop i0) i0 = some s0) (fun t0 => s0 = Fl.go t0) (fun i0 => s.length - i0) 0 () aU (And.intro qe (And.intro ?_ ?_))
 clear aU
 rintro i0 _ _ aU j0
 conv at aU => whnf
 refine qac rfl ?_
 refine qae ?_ ?_ <;> intro w0
 obtain ⟨e0, aX, a6⟩ := ltx w0
 rw [a6, JbF.eq_2] at aU
 refine qal rfl ?_
 refine qaj rfl ?_
 refine qaz rfl (nn _) aX ?_
 obtain ⟨ba, aW, aU⟩ := bnd aU
 refine cS aW (fun aT aW => ?_) fun aT aW => ?_
 refine ct aT (ct aT (qaz rfl (nn _) aX (ct aT (qa8 (ct aT ?_)))))
 obtain ⟨a8, aV, aU⟩ := bnd aU
 refine qae ?_ ?_ <;> intro aS
 replace aV := ift ((si aW).symm.trans aS) aV
 refine ct aS (ct aS (ct aS (ct aS (qac rfl (cT ?_)))))
 replace aU := ift (si aV).symm aU
 exact eE (er aU hm)
 replace aV := qba ((si aW).symm.trans aS) aV
 refine cf aS (cf aS (qaz rfl (nn _) aX (cf aS (qaf (cf aS (qac rfl ?_))))))
 refine qae ?_ ?_ <;> intro aY
 replace aU := ift ((si aV).symm.trans aY) aU
 exact eE (er aU hm)
 replace aU := qba ((si aV).symm.trans aY) aU
 refine qam (qbu aX aZ) ?_
 exact eR aU (_, ())
 refine cf aT (cf aT (cf aT (cf aT ?_)))
 obtain ⟨a8, aV, aU⟩ := bnd aU
 replace aV := qba (si aW).symm aV
 refine cF (cF (cF (qaz rfl (nn _) aX (cF (qaf (cF (qac rfl ?_)))))))
 refine qae ?_ ?_ <;> intro aY
 replace aU := ift ((si aV).symm.trans aY) aU
 exact eE (er aU hm)
 replace aU := qba ((si aV).symm.trans aY) aU
 refine qam (qbu aX aZ) ?_
 exact eR aU (_, ())
 rw [lty w0, JbF.eq_1] at aU
 refine cT ?_
 exact eM aU _
 rintro t0 _ rfl j0
 replace hm := elg hm
 exact eE hm

def JdU (s : Str) : Option (Str × Err) :=
  (Jdr s).bind fun x5 =>
  if x5 then
  some (([] : Str), (some 2))
  else
  (qjk s ([32, 9] : Str)).bind fun x8 =>
  if decide ((x8.length : Int) > 2048) then
  some (([] : Str), (some 5))
  else
  some (x8, none)
theorem Jet {s : Str} {K : Hp} {r : Str × Err}
    (hm : JdU s = some r)  :
    Fn Tryz.prog 138 [str s] K [] (fun v K' H' => v = .tuple #[str r.1, qcs 48 r.2] ∧ H' = []) := by
 refine Fn.enter Tryz.func138 Tryz.call138 rfl fun F => ?_
 unfold JdU at hm
 refine cb hm fun x5 q5 hm => cg0 (Jel q5 :) ?_
 refine cs rfl rfl hm ?_ ?_ <;> intro w5 hm
 refine qar rfl ?_
 exact eE hm
 refine cb hm fun x8 q8 hm => cg0 (qjw q8) ?_
 refine ro (qa3 rfl ?_)
 refine cs rfl rfl hm ?_ ?_ <;> intro aS hm
 refine qar rfl ?_
 exact eE hm
 exact eE hm

def JbX (al : Str) (value : Str) : List Jc → Nat → (List Jc) → Bool → Option ((List Jc) × Bool)
  | [], _, ac, aS => some (ac, aS)
  | e0 :: aT, i0, ac, aS =>
    (Ja1 e0.Name).bind fun aU =>
    if decide (aU ≠ al) then
    (chk (ac.length + [e0].length ≤ lim)).bind fun _ =>
    JbX al value aT (i0 + 1) (ac ++ [e0]) aS
    else
    if (!aS) then
    (chk (ac.length + [(⟨al, value⟩ : Jc)].length ≤ lim)).bind fun _ =>
    JbX al value aT (i0 + 1) (ac ++ [(⟨al, value⟩ : Jc)]) true
    else
    JbX al value aT (i0 + 1) ac aS
def JdZ (f : (List Jc)) (name : Str) (value : Str) : Option ((List Jc)) :=
  (Ja1 name).bind fun al =>
  (chk (f.length ≤ qbh)).bind fun _ =>
  (JbX al value f 0 [] false).bind fun t0 =>
  if (!t0.2) then
  (chk (t0.1.length + [(⟨al, value⟩ : Jc)].length ≤ lim)).bind fun _ =>
  some (t0.1 ++ [(⟨al, value⟩ : Jc)])
  else
  some t0.1
theorem Jeh {f : (List Jc)} {name : Str} {value : Str} {aa : Option Addr} {ab : Nat} {n0 : Nat} {K : Hp} {r : (List Jc)}
    (hm : JdZ f name value = some r) (hX : RdC Jc.enc K aa ab 2 f ∧ n0 = f.length) :
    Fn Tryz.prog 21 [.slice aa n0 ab, str name, str value] K [] (fun v K' H' => ∃ ar_0 : Option Addr, ∃ cr_0 : Nat, v = .slice ar_0 r.length cr_0 ∧ (0 < r.length → Has ar_0) ∧ H' = [qas Jc.enc ar_0 41 2 cr_0 r]) := by
 obtain ⟨ae, bf⟩ := hX
 subst bf
 refine Fn.enter Tryz.func21 Tryz.call21 rfl fun F => ?_
 unfold JdZ at hm
 refine cb hm fun al bc hm => cg0 (JaI bc :) ?_
 refine ro (qak rfl ?_)
 obtain ⟨aW, hm⟩ := qaw hm
 obtain ⟨s0, aU, hm⟩ := bnd hm
 refine qhd Jc.enc 41 2 ?_
 refine lD (σ := ((List Jc) × Bool) × Option Addr × Nat) ([7,8,10] ++ rg 15 24) [1] (fun i0 => [(15, .int .i64 (i0 : Int))]) (fun (t0, aS, aT) => [(7, .slice aS t0.1.length aT), (8, .bool t0.2)]) (fun (t0, aS, aT) => [qas Jc.enc aS 41 2 aT t0.1]) (fun (t0, aS, aT) => (0 < t0.1.length → Has aS) ∧ True) (fun i0 (t0, aS, aT) => JbX al value (f.drop i0) i0 t0.1 t0.2 = some s0) (fun (t0, aS, aT) => t0 = s0) (fun i0 => f.length - i0) 0 ((_, _), _, _) aU (And.intro qe (And.intro ?_ ?_))
 clear aU
 rintro i0 ⟨⟨ac, a8⟩, a6, aZ⟩ ⟨aX, _⟩ aU j0
 dsimp only at aU ⊢
 refine qac rfl ?_
 refine qae ?_ ?_ <;> intro w0
 obtain ⟨e0, aV, bh⟩ := ltx w0
 rw [bh, JbX.eq_2] at aU
 refine qal rfl ?_
 refine RStep.ofN (qad rfl rfl (qfs ae.rd aV) (nn _) (qbo aV) (ro (qan i0 _ ae.rd rfl (mp aV) rfl ?_)))
 refine qai rfl fun bl => ?_
 refine qaa r0 rfl ⟨rfl, rfl, (nl rfl), ?_⟩
 refine qal rfl ?_
 refine fa rfl (ro (ld r0 rfl rfl ?_))
 refine cb aU fun bt ba aU => cg0 (JaI ba :) ?_
 refine qbn (cs rfl rfl aU ?_ ?_) <;> intro bB aU
 refine ro (qab r0 rfl (nl rfl) ?_)
 refine bsO (len := 1) (enc := Jc.enc) (l := [e0]) (cl := [str e0.Name, str e0.Value]) qe6 rfl rfl (fun _ _ => rfl) rfl rfl rfl ?_ fun bp => ?_
 · conv => whnf
   refine cT ?_
   first | done | rfl
 obtain ⟨bb, aU⟩ := qaw aU
 refine apE rfl r2 qe6 (qay rfl r0 rfl (fun _ => rfl) (fun _ => rfl)) bb ?_
 intro br bu bA
 refine qam (qbu aV aW) ?_
 exact eR aU (_, (_, _), _, _)
 refine qau ?_
 refine cs rfl rfl aU ?_ ?_ <;> intro bm aU
 refine qag rfl rfl (cT (cT ?_))
 refine bsO (len := 1) (enc := Jc.enc) (l := [(⟨al, value⟩ : Jc)]) (cl := [str al, str value]) qe6 rfl rfl (fun _ _ => rfl) rfl rfl rfl ?_ fun bn => ?_
 · conv => whnf
   refine cT ?_
   first | done | rfl
 obtain ⟨bg, aU⟩ := qaw aU
 refine apE rfl r2 qe6 (qay rfl r0 rfl (fun _ => rfl) (fun _ => rfl)) bg ?_
 intro bz bv bD
 refine qam (qbu aV aW) ?_
 exact eR aU (_, (_, _), _, _)
 refine qam (qbu aV aW) ?_
 exact eR aU (_, (_, _), _, _)
 rw [lty w0, JbX.eq_1] at aU
 refine cT ?_
 exact eM aU (_, _, _)
 rintro ⟨t0, aS, aT⟩ ⟨aY, _⟩ rfl j0
 refine qau ?_
 refine cs rfl rfl hm ?_ ?_ <;> intro bo hm
 refine qag rfl rfl (cT (cT ?_))
 refine bsO (len := 1) (enc := Jc.enc) (l := [(⟨al, value⟩ : Jc)]) (cl := [str al, str value]) qe6 rfl rfl (fun _ _ => rfl) rfl rfl rfl ?_ fun bw => ?_
 · conv => whnf
   refine cT ?_
   first | done | rfl
 obtain ⟨bd, hm⟩ := qaw hm
 refine apE rfl r1 qe6 (qay rfl r0 rfl (fun _ => rfl) (fun _ => rfl)) bd ?_
 intro bF bj bC
 exact eE hm
 exact eE hm

def JbY (r' : Jp) (s : Str) (x : Ji) : Option (Err × Jp) :=
  (qny s ([58] : Str)).bind fun aU =>
  (Jed aU.2.1).bind fun aS =>
  if aS.2.isSome then
  some ((some 8), r')
  else
  if decide (aU.1 = ([118, 97, 114, 121] : Str)) then
  (JK r'.Vary aS.1).bind fun aV =>
  if (!aV) then
  (chk (r'.Vary.length + [aS.1].length ≤ lim)).bind fun _ =>
  some (none, (⟨r'.Ae, r'.Af, r'.Ag, (r'.Vary ++ [aS.1]), r'.Ah, r'.TTL, r'.Ai, r'.Aj, r'.Ak, r'.Al⟩ : Jp))
  else
  some (none, r')
  else
  (JdU x.s).bind fun aT =>
  if aT.2.isSome then
  some (aT.2, r')
  else
  (JdZ r'.Ag aS.1 aT.1).bind fun ay =>
  some (none, (⟨r'.Ae, r'.Af, ay, r'.Vary, r'.Ah, r'.TTL, r'.Ai, r'.Aj, r'.Ak, r'.Al⟩ : Jp))
theorem Jdl {r' : Jp} {s : Str} {x : Ji} {b0 : Nat} {aa : Option Addr} {ab : Nat} {ah : Option Addr} {ak : Nat} {am : Option Addr} {ao : Nat} {aQ : TypeId} {aN aP : List Value} {K : Hp} {r : Err × Jp}
    (hm : JbY r' s x = some r) (hX : (0 < r'.Ag.length → Has aa) ∧ (0 < r'.Vary.length → Has ah) ∧ (0 < r'.Ah.length → Has am) ∧ GG K) :
    Fn Tryz.prog 164 [.pointer (some ⟨b0, aN.length + 0, none⟩), str s, .agg #[.int .i64 x.kind, .int .i64 x.n, str x.s, .bool x.As]] K [qfg b0 aQ aN aP [str r'.Ae, str r'.Af, .slice aa r'.Ag.length ab, .slice ah r'.Vary.length ak, .slice am r'.Ah.length ao, .int .i64 r'.TTL, .int .i64 r'.Ai, .int .i64 r'.Aj, .bool r'.Ak, .bool r'.Al], qas Jc.enc aa 41 2 ab r'.Ag, qas eS ah 9 1 ak r'.Vary, qas eS am 9 1 ao r'.Ah] (fun v K' H' => ∃ ar_0 : Option Addr, ∃ cr_0 : Nat, ∃ ar_1 : Option Addr, ∃ cr_1 : Nat, ∃ ar_2 : Option Addr, ∃ cr_2 : Nat, v = qcs 48 r.1 ∧ (0 < r.2.Ag.length → Has ar_0) ∧ (0 < r.2.Vary.length → Has ar_1) ∧ (0 < r.2.Ah.length → Has ar_2) ∧ H' = [qfg b0 aQ aN aP [str r.2.Ae, str r.2.Af, .slice ar_0 r.2.Ag.length cr_0, .slice ar_1 r.2.Vary.length cr_1, .slice ar_2 r.2.Ah.length cr_2, .int .i64 r.2.TTL, .int .i64 r.2.Ai, .int .i64 r.2.Aj, .bool r.2.Ak, .bool r.2.Al], qas Jc.enc ar_0 41 2 cr_0 r.2.Ag, qas eS ar_1 9 1 cr_1 r.2.Vary, qas eS ar_2 9 1 cr_2 r.2.Ah]) := by
 obtain ⟨ae, bb, aY, hG⟩ := hX
 refine Fn.enter Tryz.func164 Tryz.call164 rfl fun F => ?_
 unfold JbY at hm
 refine qaq ?_
 intro b5
 refine cb hm fun bm bd hm => cg0 (qmd bd (gg0 hG)) ?_
 refine cb hm fun aU bh hm => cg0 (Jex bh :) ?_
 refine qa6 rfl ?_
 refine cs rfl rfl hm ?_ ?_ <;> intro br hm
 refine qar rfl ?_
 exact eE hm
 refine qap (cs rfl rfl hm ?_ ?_) <;> intro bw hm
 refine qah ?_
 refine qcy (j' := 3) rfl rfl ?_
 refine ro (ld r1 rfl (qis rfl) ?_)
 refine cb hm fun bo bf hm => ck0 (Fn.lend Tryz.call53 (fun a8 aW aT => (JM (v' := aU.1) bf ⟨aT, rfl⟩)) (by exact fun _ _ _ _ h => h)) ?_
 rintro _ _ _ ⟨_, rfl, rfl, rfl⟩
 refine qau ?_
 refine cs rfl rfl hm ?_ ?_ <;> intro bz hm
 refine qah ?_
 refine qcy (j' := 3) rfl rfl ?_
 refine ro (ld r2 rfl (qis rfl) ?_)
 refine bsO (len := 1) (enc := eS) (l := [aU.1]) (cl := [str aU.1]) qb1 rfl rfl (fun _ _ => rfl) rfl rfl rfl ?_ fun bu => ?_
 · conv => whnf
   refine cT ?_
   first | done | rfl
 obtain ⟨bg, hm⟩ := qaw hm
 refine apE rfl r1 qb1 (qay rfl r0 rfl (fun _ => rfl) (fun _ => rfl)) bg ?_
 intro bt bv bp
 refine qah ?_
 refine qcy (j' := 3) rfl rfl ?_
 refine qd1 r3 rfl ?_
 refine ⟨rfl, rfl, (nl rfl), ?_⟩
 exact eE hm
 exact eE hm
 refine fa rfl (ro (ld r0 rfl rfl ?_))
 refine cb hm fun bl bc hm => cg0 (Jet bc :) ?_
 refine qa6 rfl ?_
 refine cs rfl rfl hm ?_ ?_ <;> intro bn hm
 exact eE hm
 refine qah ?_
 refine qcy (j' := 2) rfl rfl ?_
 refine ro (ld r1 rfl (qis rfl) ?_)
 refine cb hm fun ay bj hm => ck0 (Fn.lend Tryz.call21 (fun aV aX aS => (Jeh (name := aU.1) (value := bl.1) bj ⟨aS, rfl⟩)) (by exact fun _ _ _ _ h => h)) ?_
 rintro _ _ _ ⟨_, rfl, aZ, a6, rfl, ba, rfl⟩
 refine qah ?_
 refine qcy (j' := 2) rfl rfl ?_
 refine qd1 r3 rfl ?_
 refine ⟨rfl, rfl, (nl rfl), ?_⟩
 exact eE hm

def Jce (r' : Jp) (s : Str) (x : Ji) : Option (Err × Jp) :=
  (((if (decide (s = ([112, 97, 115, 115] : Str)) || decide (s = ([116, 111, 107, 101, 110] : Str))) then some true else (Jao s ([118, 97, 114, 121, 58] : Str)).bind fun aW =>
  some aW).bind fun aT =>
  if aT then
  some 0
  else
  if (decide (s = ([116, 116, 108] : Str)) || decide (s = ([100, 101, 110, 121] : Str))) then
  some 2
  else
  some 1 : Option (Int))).bind fun aS =>
  if decide (x.kind ≠ aS) then
  some ((some 9), r')
  else
  if decide (s = ([112, 97, 116, 104] : Str)) then
  some (none, (⟨x.s, r'.Af, r'.Ag, r'.Vary, r'.Ah, r'.TTL, r'.Ai, r'.Aj, r'.Ak, r'.Al⟩ : Jp))
  else
  if decide (s = ([113, 117, 101, 114, 121] : Str)) then
  some (none, (⟨r'.Ae, x.s, r'.Ag, r'.Vary, r'.Ah, r'.TTL, r'.Ai, r'.Aj, r'.Ak, r'.Al⟩ : Jp))
  else
  if decide (s = ([116, 97, 103] : Str)) then
  (JK r'.Ah x.s).bind fun aV =>
  if (!aV) then
  (chk (r'.Ah.length + [x.s].length ≤ lim)).bind fun _ =>
  some (none, (⟨r'.Ae, r'.Af, r'.Ag, r'.Vary, (r'.Ah ++ [x.s]), r'.TTL, r'.Ai, r'.Aj, r'.Ak, r'.Al⟩ : Jp))
  else
  some (none, r')
  else
  if decide (s = ([116, 116, 108] : Str)) then
  some (none, (⟨r'.Ae, r'.Af, r'.Ag, r'.Vary, r'.Ah, (max 0 x.n), r'.Ai, r'.Aj, r'.Ak, r'.Al⟩ : Jp))
  else
  if decide (s = ([100, 101, 110, 121] : Str)) then
  if (decide (x.n < 400) || decide (x.n > 499)) then
  some (none, (⟨r'.Ae, r'.Af, r'.Ag, r'.Vary, r'.Ah, r'.TTL, 403, r'.Aj, r'.Ak, r'.Al⟩ : Jp))
  else
  some (none, (⟨r'.Ae, r'.Af, r'.Ag, r'.Vary, r'.Ah, r'.TTL, x.n, r'.Aj, r'.Ak, r'.Al⟩ : Jp))
  else
  if decide (s = ([112, 97, 115, 115] : Str)) then
  some (none, (⟨r'.Ae, r'.Af, r'.Ag, r'.Vary, r'.Ah, r'.TTL, r'.Ai, r'.Aj, true, r'.Al⟩ : Jp))
  else
  if decide (s = ([116, 111, 107, 101, 110] : Str)) then
  some (none, (⟨r'.Ae, r'.Af, r'.Ag, r'.Vary, r'.Ah, r'.TTL, r'.Ai, r'.Aj, r'.Ak, true⟩ : Jp))
  else
  (JbY r' s x).bind fun aU =>
  some (aU.1, aU.2)
theorem Jdy {r' : Jp} {s : Str} {x : Ji} {b0 : Nat} {aa : Option Addr} {ab : Nat} {ah : Option Addr} {ak : Nat} {am : Option Addr} {ao : Nat} {aQ : TypeId} {aN aP : List Value} {K : Hp} {r : Err × Jp}
    (hm : Jce r' s x = some r) (hX : (0 < r'.Ag.length → Has aa) ∧ (0 < r'.Vary.length → Has ah) ∧ (0 < r'.Ah.length → Has am) ∧ GG K) :
    Fn Tryz.prog 115 [.pointer (some ⟨b0, aN.length + 0, none⟩), str s, .agg #[.int .i64 x.kind, .int .i64 x.n, str x.s, .bool x.As]] K [qfg b0 aQ aN aP [str r'.Ae, str r'.Af, .slice aa r'.Ag.length ab, .slice ah r'.Vary.length ak, .slice am r'.Ah.length ao, .int .i64 r'.TTL, .int .i64 r'.Ai, .int .i64 r'.Aj, .bool r'.Ak, .bool r'.Al], qas Jc.enc aa 41 2 ab r'.Ag, qas eS ah 9 1 ak r'.Vary, qas eS am 9 1 ao r'.Ah] (fun v K' H' => ∃ ar_0 : Option Addr, ∃ cr_0 : Nat, ∃ ar_1 : Option Addr, ∃ cr_1 : Nat, ∃ ar_2 : Option Addr, ∃ cr_2 : Nat, v = qcs 48 r.1 ∧ (0 < r.2.Ag.length → Has ar_0) ∧ (0 < r.2.Vary.length → Has ar_1) ∧ (0 < r.2.Ah.length → Has ar_2) ∧ H' = [qfg b0 aQ aN aP [str r.2.Ae, str r.2.Af, .slice ar_0 r.2.Ag.length cr_0, .slice ar_1 r.2.Vary.length cr_1, .slice ar_2 r.2.Ah.length cr_2, .int .i64 r.2.TTL, .int .i64 r.2.Ai, .int .i64 r.2.Aj, .bool r.2.Ak, .bool r.2.Al], qas Jc.enc ar_0 41 2 cr_0 r.2.Ag, qas eS ar_1 9 1 cr_1 r.2.Vary, qas eS ar_2 9 1 cr_2 r.2.Ah]) := by
 obtain ⟨ae, br, bh, hG⟩ := hX
 refine Fn.enter Tryz.func115 Tryz.call115 rfl fun F => ?_
 unfold Jce at hm
 refine qaq ?_
 intro b5
 obtain ⟨ba, aS, hm⟩ := bnd hm
 refine jD (σ := (Int)) (rg 7 19) [0, 1, 2, 3, 4, 5] (fun aZ => [(7, .int .i64 aZ)]) (fun aZ => []) (fun aZ => aZ = ba) (And.intro ?_ ?_)
 refine qal rfl ?_
 obtain ⟨bb, aU, aS⟩ := bnd aS
 refine jR (σ := Bool) (rg 8 11) (fun a6 => [(8, .bool a6)]) (fun a6 => a6 = bb) ?_ ?_
 replace aU := bsm aU
 refine qaj rfl ?_
 refine qap ?_
 refine qae ?_ ?_ <;> intro aV
 refine ct aV (ct aV ?_)
 obtain ⟨bD, aY, aU⟩ := bnd aU
 replace aY := ift (qbq aV) aY
 refine cT (cT (cT ?_))
 exact eMq aU _ ⟨bq (si aY), trivial⟩
 refine cf aV (qap (cf aV ?_))
 obtain ⟨bD, aY, aU⟩ := bnd aU
 refine qae ?_ ?_ <;> intro aX
 replace aY := ift (qfr aV aX) aY
 refine ct aX (ct aX ?_)
 exact eMq aU _ ⟨bq (si aY), trivial⟩
 replace aY := qba (qc0 aV aX) aY
 refine cf aX ?_
 refine cb aY fun bU bB aY => cg0 (JaA bB :) ?_
 refine cf aX ?_
 exact eMq aU _ ⟨bq (si aY), trivial⟩
 rintro a6 rfl bC
 refine cs rfl rfl aS ?_ ?_ <;> intro w8 aS
 exact eM aS _
 refine qaj rfl ?_
 refine qap ?_
 refine qae ?_ ?_ <;> intro aW
 refine ct aW (ct aW (qac rfl (cT ?_)))
 replace aS := ift (qbq aW) aS
 exact eM aS _
 refine cf aW (qap (cf aW (qac rfl ?_)))
 refine qae ?_ ?_ <;> intro bp
 replace aS := ift (qfr aW bp) aS
 exact eM aS _
 replace aS := qba (qc0 aW bp) aS
 exact eM aS _
 rintro aZ rfl bG
 refine fa rfl (ro (ld r0 rfl rfl (qa8 ?_)))
 refine cs rfl rfl hm ?_ ?_ <;> intro bM hm
 refine qar rfl ?_
 exact eE hm
 refine qal rfl ?_
 refine qap (cs rfl rfl hm ?_ ?_) <;> intro bR hm
 refine fa rfl (ro (ld r0 rfl rfl (qah ?_)))
 refine qcy (j' := 0) rfl rfl ?_
 refine qd1 r1 rfl ?_
 refine ⟨rfl, rfl, (nl rfl), ?_⟩
 exact eE hm
 refine qap (cs rfl rfl hm ?_ ?_) <;> intro bJ hm
 refine fa rfl (ro (ld r0 rfl rfl (qah ?_)))
 refine qcy (j' := 1) rfl rfl ?_
 refine qd1 r1 rfl ?_
 refine ⟨rfl, rfl, (nl rfl), ?_⟩
 exact eE hm
 refine qap (cs rfl rfl hm ?_ ?_) <;> intro bK hm
 refine qa4 ⟨⟨[], false⟩, _, [(_, _), (_, _)], []⟩ (by kernel_rfl) ⟨Hp.Le.refl _, (sc [1,0] rfl), ci0⟩ ?_
 refine qah ?_
 refine qcy (j' := 4) rfl rfl ?_
 refine qao m0 rfl (qis rfl) (fa rfl (qao m1 rfl rfl ?_))
 refine cb hm fun bH bA hm => ck0 (Fn.lend Tryz.call53 (fun bt bc a8 => (JM (v' := x.s) bA ⟨a8, rfl⟩)) (by exact fun _ _ _ _ h => h)) ?_
 rintro _ _ _ ⟨_, rfl, rfl, rfl⟩
 refine qk (sc [2,1] rfl) ?_
 refine qau ?_
 refine cs rfl rfl hm ?_ ?_ <;> intro bT hm
 refine qa1 ⟨⟨[], false⟩, _, [(_, _), (_, _)], []⟩ 9 rfl (by kernel_rfl) ⟨Hp.Le.refl _, (sc [2,1] rfl), ci0⟩ ?_
 refine qah ?_
 refine qcy (j' := 4) rfl rfl ?_
 refine qao m0 rfl (qis rfl) (fa rfl (qao m1 rfl rfl ?_))
 refine bsO (len := 1) (enc := eS) (l := [x.s]) (cl := [str x.s]) qb1 rfl rfl (fun _ _ => rfl) rfl rfl rfl ?_ fun bS => ?_
 · conv => whnf
   refine cT ?_
   first | done | rfl
 refine qk (sc [3,2] rfl) ?_
 obtain ⟨bF, hm⟩ := qaw hm
 refine apE rfl r1 qb1 (qay rfl r0 rfl (fun _ => rfl) (fun _ => rfl)) bF ?_
 intro bV bO bN
 refine qk (sc [3,2] rfl) ?_
 refine qah ?_
 refine qcy (j' := 4) rfl rfl ?_
 refine qd1 r3 rfl ?_
 refine ⟨rfl, rfl, (nl rfl), ?_⟩
 refine ⟨⟨Hp.emp_le _, (pf rfl), ci0⟩, ?_⟩
 exact eE hm
 exact eE hm
 refine qap (cs rfl rfl hm ?_ ?_) <;> intro bP hm
 refine fa rfl (ro (ld r0 rfl rfl (ro (qci (qah ?_)))))
 refine qcy (j' := 5) rfl rfl ?_
 refine qd1 r1 rfl ?_
 refine ⟨rfl, rfl, (nl rfl), ?_⟩
 exact eE hm
 refine qap (cs rfl rfl hm ?_ ?_) <;> intro bI hm
 refine fa rfl (ro (ld r0 rfl rfl (qah ?_)))
 refine qcy (j' := 6) rfl rfl ?_
 refine qd1 r1 rfl ?_
 refine ⟨rfl, rfl, (nl rfl), ?_⟩
 refine qaj rfl ?_
 refine fa rfl (ro (ld r1 rfl rfl ?_))
 refine qae ?_ ?_ <;> intro aT
 refine ct aT (ct aT (ct aT (qac rfl (cT ?_))))
 replace hm := ift (qbq aT) hm
 refine qah ?_
 refine qcy (j' := 6) rfl rfl ?_
 refine qd1 r0 rfl ?_
 refine ⟨rfl, rfl, (nl rfl), ?_⟩
 exact eE hm
 refine fa rfl (cf aT (ro (ld r1 rfl rfl (cf aT (cf aT (qac rfl ?_))))))
 refine qae ?_ ?_ <;> intro bn
 replace hm := ift (qfr aT bn) hm
 refine qah ?_
 refine qcy (j' := 6) rfl rfl ?_
 refine qd1 r0 rfl ?_
 refine ⟨rfl, rfl, (nl rfl), ?_⟩
 exact eE hm
 replace hm := qba (qc0 aT bn) hm
 exact eE hm
 refine qap (cs rfl rfl hm ?_ ?_) <;> intro bL hm
 refine qah ?_
 refine qcy (j' := 8) rfl rfl ?_
 refine qd1 r1 rfl ?_
 refine ⟨rfl, rfl, (nl rfl), ?_⟩
 exact eE hm
 refine qap (cs rfl rfl hm ?_ ?_) <;> intro bw hm
 refine qah ?_
 refine qcy (j' := 9) rfl rfl ?_
 refine qd1 r1 rfl ?_
 refine ⟨rfl, rfl, (nl rfl), ?_⟩
 exact eE hm
 refine ro (qab r0 rfl (nl rfl) ?_)
 refine cb hm fun bQ bz hm => ckx (Jdl bz :) ?_
 rintro _ _ _ ⟨bl, bf, bv, bg, bj, bd, rfl, bm, bu, bo, rfl⟩
 exact eE hm
