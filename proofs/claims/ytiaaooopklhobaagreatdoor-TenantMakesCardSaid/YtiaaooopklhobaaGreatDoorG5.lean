/- Functions of the program: mirrors, and that a call returns what the mirror says. Printed by gen.py. -/
import Derived.Test.YtiaaooopklhobaaGreatDoorG4
set_option linter.unusedVariables false
set_option linter.unusedSimpArgs false
open Go Go.SL Go.Proofs
noncomputable section
set_option maxRecDepth 1000000
set_option maxHeartbeats 8000000
def JbN (code : (List Jg)) : List Jg → Nat → Int → (List Jp) → Option (Fl (Int × Bool) (Int × (List Jp)))
  | [], _, ac, aZ => some (Fl.go (ac, aZ))
  | e0 :: bc, i0, ac, aZ =>
    (ix aZ (i0 : Int)).bind fun aV =>
    (Jdn e0).bind fun aX =>
    (chk (InI ((code.length : Int) - 1))).bind fun _ =>
    if ((((!aX.2.2) || (!aV.Av)) || decide (aV.depth < aX.1)) || (!((decide (e0.Op = 12)) == (decide ((i0 : Int) = ((code.length : Int) - 1)))))) then
    some (Fl.ret (0, false))
    else
    (if decide (e0.Op = 3) then (JcN aV e0.N).bind fun bh =>
    some (!bh) else some false).bind fun bj =>
    if bj then
    some (Fl.ret (0, false))
    else
    (chk (InI (aX.2.1 - aX.1))).bind fun _ =>
    (chk (InI (aV.depth + (aX.2.1 - aX.1)))).bind fun _ =>
    ((if decide (e0.Op = 4) then
    (chk ((64 : Int) ≠ 0 ∧ InI (Int.tdiv e0.N 64))).bind fun _ =>
    (chk (0 ≤ (Int.tdiv e0.N 64) ∧ (Int.tdiv e0.N 64) < 8)).bind fun _ =>
    (chk (0 ≤ (Int.tmod e0.N 64))).bind fun _ =>
    (chk (0 ≤ (Int.tdiv e0.N 64) ∧ (Int.tdiv e0.N 64) < 8)).bind fun _ =>
    (some (List.set [aV.Au.f0, aV.Au.f1, aV.Au.f2, aV.Au.f3, aV.Au.f4, aV.Au.f5, aV.Au.f6, aV.Au.f7] (Int.toNat (Int.tdiv e0.N 64)) (u64or (List.getD [aV.Au.f0, aV.Au.f1, aV.Au.f2, aV.Au.f3, aV.Au.f4, aV.Au.f5, aV.Au.f6, aV.Au.f7] (Int.toNat (Int.tdiv e0.N 64)) 0) (qsp 1 (Int.tmod e0.N 64))))).bind fun aY =>
    some ((List.getD aY 0 0), (List.getD aY 1 0), (List.getD aY 2 0), (List.getD aY 3 0), (List.getD aY 4 0), (List.getD aY 5 0), (List.getD aY 6 0), (List.getD aY 7 0))
    else
    some (aV.Au.f0, aV.Au.f1, aV.Au.f2, aV.Au.f3, aV.Au.f4, aV.Au.f5, aV.Au.f6, aV.Au.f7) : Option (Int × Int × Int × Int × Int × Int × Int × Int))).bind fun aW =>
    ((if (decide (e0.Op = 9) || decide (e0.Op = 10)) then
    if (decide (e0.N ≤ (i0 : Int)) || decide (e0.N ≥ (code.length : Int))) then
    some (Fl.ret (0, false))
    else
    (ix aZ e0.N).bind fun bf =>
    (JbL aZ ((e0.N).toNat) (⟨aV.Av, (aV.depth + (aX.2.1 - aX.1)), (⟨aW.1, aW.2.1, aW.2.2.1, aW.2.2.2.1, aW.2.2.2.2.1, aW.2.2.2.2.2.1, aW.2.2.2.2.2.2.1, aW.2.2.2.2.2.2.2⟩ : Jbb)⟩ : Jp)).bind fun a8 =>
    if (!a8.1) then
    some (Fl.ret (0, false))
    else
    some (Fl.go a8.2)
    else
    some (Fl.go aZ) : Option (Fl (Int × Bool) ((List Jp))))).bind fun bb => bb.el (fun r => some (Fl.ret r)) fun a6 =>
    if decide ((i0 : Int) = ((code.length : Int) - 1)) then
    some (Fl.ret ((max (max ac aV.depth) (aV.depth + (aX.2.1 - aX.1))), decide ((aV.depth + (aX.2.1 - aX.1)) = 0)))
    else
    if decide (e0.Op ≠ 9) then
    (ix a6 ((i0 : Int) + 1)).bind fun bg =>
    (JbL a6 ((((i0 : Int) + 1)).toNat) (⟨aV.Av, (aV.depth + (aX.2.1 - aX.1)), (⟨aW.1, aW.2.1, aW.2.2.1, aW.2.2.2.1, aW.2.2.2.2.1, aW.2.2.2.2.2.1, aW.2.2.2.2.2.2.1, aW.2.2.2.2.2.2.2⟩ : Jbb)⟩ : Jp)).bind fun ba =>
    if (!ba.1) then
    some (Fl.ret (0, false))
    else
    JbN code bc (i0 + 1) (max (max ac aV.depth) (aV.depth + (aX.2.1 - aX.1))) ba.2
    else
    JbN code bc (i0 + 1) (max (max ac aV.depth) (aV.depth + (aX.2.1 - aX.1))) a6
def JdB (code : (List Jg)) : Option (Int × Bool) :=
  if (decide ((code.length : Int) < 1) || decide ((code.length : Int) > 2048)) then
  some (0, false)
  else
  (chk ((0 : Int) ≤ (code.length : Int) ∧ (code.length : Int) ≤ (lim : Int))).bind fun _ =>
  (ix (List.replicate (Int.toNat (code.length : Int)) ((⟨false, 0, (⟨0, 0, 0, 0, 0, 0, 0, 0⟩ : Jbb)⟩ : Jp) : Jp)) 0).bind fun aV =>
  (chk (code.length ≤ qa1)).bind fun _ =>
  (JbN code code 0 0 ((List.replicate (Int.toNat (code.length : Int)) ((⟨false, 0, (⟨0, 0, 0, 0, 0, 0, 0, 0⟩ : Jbb)⟩ : Jp) : Jp)).set ((0 : Int).toNat) (⟨true, aV.depth, aV.Au⟩ : Jp))).bind fun s0 => s0.el some fun t0 =>
  some (0, false)
theorem Jeo {code : (List Jg)} {aa : Option Addr} {ab : Nat} {n0 : Nat} {K : Hp} {r : Int × Bool}
    (hm : JdB code = some r) (hX : RdC Jg.enc K aa ab 3 code ∧ n0 = code.length ∧ GG K) :
    Fn Tryz.prog 106 [.slice aa n0 ab] K [] (fun v K' H' => v = .tuple #[.int .i64 r.1, .bool r.2] ∧ H' = []) := by
 obtain ⟨ae, cU, hG⟩ := hX
 subst cU
 refine Fn.enter Tryz.func106 Tryz.call106 rfl fun F => ?_
 unfold JdB at hm
 refine jR (σ := Unit) (rg 13 8) (fun _ => [(20, .bool (decide ((code.length : Int) < 1) || decide ((code.length : Int) > 2048)))]) (fun c6 => True) ?_ ?_
 refine qaj rfl ?_
 refine ro (qal rfl ?_)
 refine qaf ?_ ?_ <;> intro bn
 refine ct bn (ct bn (ct bn ?_))
 exact eMt () ⟨bq (((qco bn)).symm), trivial⟩
 refine cf bn (ro (qal rfl (cf bn (cf bn ?_))))
 exact eMt () ⟨bq (qid (b := decide ((code.length : Int) > 2048)) bn), trivial⟩
 rintro _ _ db
 refine cs rfl rfl hm ?_ ?_ <;> intro de hm
 exact eE hm
 refine ro (qal rfl ?_)
 obtain ⟨cY, hm⟩ := qax hm
 refine qre (enc := Jp.enc) ((⟨false, 0, (⟨0, 0, 0, 0, 0, 0, 0, 0⟩ : Jbb)⟩ : Jp) : Jp) qus rfl rfl rfl cY fun cm => ?_
 obtain ⟨cn, cL, cp, hm⟩ := ixb hm
 refine RStep.ofN (qae rfl rfl (qcz (fun _ => ⟨_, _, rfl⟩) cp) cL (qaw List.length_replicate.symm cL cp) (qa8 rfl (qcz (fun _ => ⟨_, _, rfl⟩) cp) ?_))
 refine qe8 (o := 0) (y := (⟨true, cn.depth, cn.Au⟩ : Jp)) cn r0 rfl cp rfl (by (conv => whnf); exact ⟨rfl, rfl, (nl rfl), rfl, rfl, rfl⟩) ?_
 refine ro (qal rfl ?_)
 obtain ⟨cj, hm⟩ := qax hm
 obtain ⟨s0, aY, hm⟩ := bnd hm
 refine lD (σ := (Int × (List Jp))) ([2,3] ++ rg 5 8 ++ rg 29 129) [1] (fun i0 => [(29, .int .i64 (i0 : Int))]) (fun t0 => [(5, .int .i64 t0.1)]) (fun t0 => [OwnL Jp.enc (some ⟨cm, 0, none⟩) 228 10 (Int.toNat (code.length : Int)) t0.2]) (fun t0 => (0 < t0.2.length → Has (some ⟨cm, 0, none⟩)) ∧ (Int.toNat (code.length : Int)) = t0.2.length) (fun i0 t0 => JbN code (code.drop i0) i0 t0.1 t0.2 = some s0) (fun t0 => s0 = Fl.go t0) (fun i0 => code.length - i0) 0 (0, ((List.replicate (Int.toNat (code.length : Int)) ((⟨false, 0, (⟨0, 0, 0, 0, 0, 0, 0, 0⟩ : Jbb)⟩ : Jp) : Jp)).set ((0 : Int).toNat) (⟨true, cn.depth, cn.Au⟩ : Jp))) aY (And.intro ⟨⟨(by first | simpa using (fun _ => ⟨_, _, rfl⟩) | exact fun _ => ⟨_, _, rfl⟩), ((List.length_replicate.symm).trans List.length_set.symm)⟩, ⟨rfl, rfl, trivial⟩, _, (sp rfl)⟩ (And.intro ?_ ?_))
 clear aY
 rintro i0 ⟨ac, cN⟩ ⟨bN, bA⟩ aY j0
 dsimp only at aY ⊢
 refine qac rfl ?_
 refine qaf ?_ ?_ <;> intro w0
 obtain ⟨e0, bO, cW⟩ := ltx w0
 rw [cW, JbN.eq_2] at aY
 refine qam rfl ?_
 refine RStep.ofN (qae rfl rfl (qea ae.rd bO) (nn _) (qbp bO) (ro (qao i0 _ ae.rd rfl (mp bO) rfl ?_)))
 refine qai rfl fun b7 => ?_
 refine qaa r0 rfl ⟨rfl, rfl, (nl rfl), ?_⟩
 obtain ⟨bc, cI, cw, aY⟩ := ixb aY
 refine RStep.ofN (qae rfl rfl (qcz bN cw) cI (qaw bA cI cw) (ro (qj8 (i := ((i0 : Int)).toNat) r1 rfl cw rfl rfl ?_)))
 refine qai rfl fun b8 => ?_
 refine qaa r0 rfl ⟨rfl, rfl, (nl rfl), ?_⟩
 refine ro (qab r1 rfl (nl rfl) ?_)
 refine cb aY fun bt c9 aY => cgx (Jee c9 :) ?_
 refine ro (qal rfl ?_)
 obtain ⟨cQ, aY⟩ := qax aY
 refine qan cQ (qag ?_)
 refine qaj rfl ?_
 refine qav ?_
 refine qaf ?_ ?_ <;> intro bg
 refine ct bg (ct bg (ct bg (cT (cT (cT (cT (cT ?_)))))))
 refine cT (cT (cT (cT (cT (cT ?_)))))
 replace aY := ift (qco (qco (qco (qgu (qob bg))))) aY
 refine cT (cT (cT (cT (cT (cT (qac rfl (cT ?_)))))))
 exact eE (er aY hm)
 refine fa rfl (cf bg (ro (ld r0 rfl rfl (cf bg (qav (cf bg ?_))))))
 refine qaf ?_ ?_ <;> intro bf
 refine ct bf (ct bf (ct bf (ct bf (cT (cT (cT (cT ?_)))))))
 refine cT (cT ?_)
 replace aY := ift (qco (qco (qi2 (qdx (qkr bg)) (qgu (qob bf))))) aY
 refine cT (cT (cT (cT (cT (cT (qac rfl (cT ?_)))))))
 exact eE (er aY hm)
 refine fa rfl (cf bf (ro (ld r0 rfl rfl (cf bf (cf bf (cf bf ?_))))))
 refine qaf ?_ ?_ <;> intro bb
 refine ct bb (ct bb (ct bb (ct bb (ct bb ?_))))
 replace aY := ift (qco (qi2 (qf1 (qdx (qkr bg)) (qdx (qkr bf))) bb)) aY
 refine cT (cT (cT (cT (cT (cT (qac rfl (cT ?_)))))))
 exact eE (er aY hm)
 refine fa rfl (cf bb (ro (ld r1 rfl rfl (cf bb (qag (cf bb (cf bb (qnf rfl ?_))))))))
 refine cf bb ?_
 refine qaf ?_ ?_ <;> intro a8
 replace aY := ift (qi2 (qf1 (qf1 (qdx (qkr bg)) (qdx (qkr bf))) bb) a8) aY
 refine ct a8 (ct a8 (ct a8 (ct a8 (ct a8 (qac rfl (cT ?_))))))
 exact eE (er aY hm)
 replace aY := qbd (qf1 (qf1 (qf1 (qdx (qkr bg)) (qdx (qkr bf))) bb) a8) aY
 refine fa rfl (cf a8 (ro (ld r1 rfl rfl (cf a8 (qag (cf a8 ?_))))))
 obtain ⟨dc, bV, aY⟩ := bnd aY
 refine cS bV (fun bh bV => ?_) fun bh bV => ?_
 refine ro (qab r0 rfl (nl rfl) (ct bh (fa rfl (ct bh (ro (ld r1 rfl rfl (ct bh ?_)))))))
 refine cb bV fun df da bV => cg0 (JdP da :) ?_
 refine ct bh (qav (cf a8 (ct bh (cf a8 (qac rfl ?_)))))
 refine qaf ?_ ?_ <;> intro cK
 replace aY := ift ((si bV).symm.trans (qgu (qob cK))) aY
 exact eE (er aY hm)
 replace aY := qbd ((si bV).symm.trans (qdx (qkr cK))) aY
 refine fa rfl (ro (ld r0 rfl rfl (ro (qcl (fa rfl (ro (ld r0 rfl rfl ?_)))))))
 refine ci aY fun aY => ?_
 obtain ⟨cH, aY⟩ := qax aY
 refine qan cH (fa rfl ?_)
 refine qaa r0 rfl ⟨rfl, rfl, (nl rfl), ?_⟩
 refine fa rfl (ro (ld r0 rfl rfl (ro (qcl (fa rfl (ro (ld r1 rfl rfl (qag ?_))))))))
 obtain ⟨cG, bm, aY⟩ := bnd aY
 refine jD (σ := (Int × Int × Int × Int × Int × Int × Int × Int)) (rg 99 13) [1, 2, 3] (fun bp => []) (fun bp => [Cells b8 228 [.bool bc.Av, .int .i64 (bc.depth + (bt.2.1 - bt.1)), .int .u64 bp.1, .int .u64 bp.2.1, .int .u64 bp.2.2.1, .int .u64 bp.2.2.2.1, .int .u64 bp.2.2.2.2.1, .int .u64 bp.2.2.2.2.2.1, .int .u64 bp.2.2.2.2.2.2.1, .int .u64 bp.2.2.2.2.2.2.2]]) (fun bp => bp = cG) (And.intro ?_ ?_)
 refine cs rfl rfl bm ?_ ?_ <;> intro c5 bm
 refine qa6 ⟨⟨[], false⟩, _, [(_, _), (_, _)], []⟩ 12 rfl (by kernel_rfl) ⟨Hp.Le.refl _, (sc [1,0] rfl), ci0⟩ ?_
 refine fa rfl (qap m0 rfl rfl ?_)
 obtain ⟨bQ, bm⟩ := qax bm
 refine qpc bQ.1 bQ.2 (fa rfl ?_)
 obtain ⟨bv, bm⟩ := qax bm
 refine qbz (sz := 1) rfl rfl bv.1 bv.2 ?_
 refine qhn (L := [bc.Au.f0, bc.Au.f1, bc.Au.f2, bc.Au.f3, bc.Au.f4, bc.Au.f5, bc.Au.f6, bc.Au.f7]) (pre := [.bool bc.Av, .int .i64 (bc.depth + (bt.2.1 - bt.1))]) (post := []) m1 rfl (by simp) rfl bv.1 bv.2 ?_
 refine fa rfl (qap m0 rfl rfl (qtm (by decide) ?_))
 obtain ⟨bX, bm⟩ := qax bm
 refine qpp bX ?_
 refine qsr ?_
 refine fa rfl ?_
 obtain ⟨bu, bm⟩ := qax bm
 refine qbz (sz := 1) rfl rfl bu.1 bu.2 ?_
 obtain ⟨bw, bJ, bm⟩ := bnd bm
 replace bJ := Option.some.inj bJ
 have ce : bw.length = 8 := by rw [← bJ]; simp
 refine qpq (L := [bc.Au.f0, bc.Au.f1, bc.Au.f2, bc.Au.f3, bc.Au.f4, bc.Au.f5, bc.Au.f6, bc.Au.f7]) (pre := [.bool bc.Av, .int .i64 (bc.depth + (bt.2.1 - bt.1))]) (post := []) (cs' := [.bool bc.Av, .int .i64 (bc.depth + (bt.2.1 - bt.1)), .int .u64 (List.getD bw 0 0), .int .u64 (List.getD bw 1 0), .int .u64 (List.getD bw 2 0), .int .u64 (List.getD bw 3 0), .int .u64 (List.getD bw 4 0), .int .u64 (List.getD bw 5 0), .int .u64 (List.getD bw 6 0), .int .u64 (List.getD bw 7 0)]) r0 rfl (by simp) rfl bu.1 bu.2 bJ (by rw [qv7 ce]; rfl) ?_
 refine ⟨⟨Hp.emp_le _, (pf rfl), ci0⟩, ?_⟩
 exact eM bm _
 exact eM bm _
 rintro bp rfl cV
 refine jR (σ := Unit) (rg 112 8) (fun _ => [(119, .bool (decide (e0.Op = 9) || decide (e0.Op = 10)))]) (fun cZ => True) ?_ ?_
 refine qaj rfl ?_
 refine fa rfl (ro (ld r1 rfl rfl (qag ?_)))
 refine qaf ?_ ?_ <;> intro aZ
 refine ct aZ (ct aZ (ct aZ ?_))
 exact eMt () ⟨bq (((qco aZ)).symm), trivial⟩
 refine fa rfl (cf aZ (ro (ld r1 rfl rfl (cf aZ (qag (cf aZ ?_))))))
 exact eMt () ⟨bq (qid (b := decide (e0.Op = 10)) aZ), trivial⟩
 rintro _ _ cO
 obtain ⟨cr, ba, aY⟩ := bnd aY
 refine jD (σ := ((List Jp))) ([2,3] ++ rg 120 20) [0, 1, 3] (fun bH => []) (fun bH => [OwnL Jp.enc (some ⟨cm, 0, none⟩) 228 10 (Int.toNat (code.length : Int)) bH]) (fun bH => (0 < bH.length → Has (some ⟨cm, 0, none⟩)) ∧ (Int.toNat (code.length : Int)) = bH.length ∧ cr = Fl.go bH) (And.intro ?_ ?_)
 refine cs rfl rfl ba ?_ ?_ <;> intro cC ba
 refine qba ⟨⟨[], false⟩, _, [(_, _), (_, _)], []⟩ (by kernel_rfl) ⟨Hp.Le.refl _, (sc [1,0] rfl), ci0⟩ ?_
 refine fa rfl (qap m0 rfl rfl ?_)
 refine qaf ?_ ?_ <;> intro aX
 refine ct aX (ct aX (ct aX (ct aX (ct aX ?_))))
 replace ba := ift (qco aX) ba
 refine cT (cT (cT (cT (cT (cT (cT (cT ?_)))))))
 refine qac rfl (cT ?_)
 exact eE (er (er ba aY :) hm)
 refine fa rfl (cf aX (qap m0 rfl rfl (cf aX (cf aX (qci rfl (cf aX (cf aX ?_)))))))
 refine qaf ?_ ?_ <;> intro aV
 replace ba := ift (qi2 aX aV) ba
 refine ct aV (ct aV (ct aV (ct aV (ct aV (ct aV (ct aV (qac rfl ?_)))))))
 refine cT ?_
 exact eE (er (er ba aY :) hm)
 replace ba := qbd (qf1 aX aV) ba
 refine cf aV (fa rfl (cf aV (qap m0 rfl rfl (cf aV ?_))))
 obtain ⟨cu, bS, bM, ba⟩ := ixb ba
 refine qae rfl rfl (qcz bN bM) bS (qaw bA bS bM) (cf aV (qcg m1 rfl (nl rfl) (cf aV ?_)))
 refine cb ba fun bY bW ba => ckx (Jbt bW :) ?_
 rintro _ _ _ ⟨rfl, bC, bG, rfl⟩
 refine qk (sc [2,1] rfl) ?_
 refine cf aV (qav (cf aV ?_))
 refine cs rfl rfl ba ?_ ?_ <;> intro cD ba
 exact eE (er (er ba aY :) hm)
 exact mt (bY.2) trivial rfl (pf rfl) lr ⟨bC, ((bA).trans bG), (si ba).symm⟩
 exact eM ba _
 rintro bH ⟨bT, bI, rfl⟩ c4
 replace aY := elg aY
 refine cs rfl rfl aY ?_ ?_ <;> intro cq aY
 refine qba ⟨⟨[], false⟩, _, [(_, _)], []⟩ (by kernel_rfl) ⟨Hp.Le.refl _, (sc [1] rfl), ci0⟩ ?_
 refine fa rfl (qap m0 rfl rfl (qag ?_))
 exact eE (er aY hm)
 refine qba ⟨⟨[], false⟩, _, [(_, _), (_, _)], []⟩ (by kernel_rfl) ⟨Hp.Le.refl _, (sc [2,1] rfl), ci0⟩ ?_
 refine fa rfl (qap m0 rfl rfl (qbb ?_))
 refine cS aY (fun aW aY => ?_) fun aW aY => ?_
 refine ct aW (ct aW (qan (qbu bO cj) (ct aW ?_)))
 obtain ⟨cy, bR, bP, aY⟩ := ixb aY
 refine qae rfl rfl (qcz bT bP) bR (qaw bI bR bP) (ct aW (qcg m1 rfl (nl rfl) (ct aW ?_)))
 refine cb aY fun ca cd aY => ckx (Jbt cd :) ?_
 rintro _ _ _ ⟨rfl, bB, bF, rfl⟩
 refine qk (sc [2,1] rfl) ?_
 refine ct aW (qav (ct aW ?_))
 refine cs rfl rfl aY ?_ ?_ <;> intro cA aY
 exact eE (er aY hm)
 refine qan (qbu bO cj) ?_
 exact rd (i0 + 1, ((max (max ac bc.depth) (bc.depth + (bt.2.1 - bt.1))), ca.2)) ⟨rfl, rfl, trivial⟩ rfl (sc [0,2] rfl) lr (ltm bO) ⟨⟨bB, ((bI).trans bF)⟩, aY⟩
 refine cf aW (cf aW (cf aW (cf aW (cf aW (cf aW (cf aW (qac rfl ?_)))))))
 refine cF (qan (qbu bO cj) ?_)
 exact eR aY (_, (_, _))
 refine cf bh (cf bh (cf bh (cf bh (cf a8 (cf bh (cf a8 (qac rfl ?_)))))))
 refine cF ?_
 replace aY := qbd (si bV).symm aY
 refine fa rfl (ro (ld r0 rfl rfl (ro (qcl (fa rfl (ro (ld r0 rfl rfl ?_)))))))
 refine ci aY fun aY => ?_
 obtain ⟨cH, aY⟩ := qax aY
 refine qan cH (fa rfl ?_)
 refine qaa r0 rfl ⟨rfl, rfl, (nl rfl), ?_⟩
 refine fa rfl (ro (ld r0 rfl rfl (ro (qcl (fa rfl (ro (ld r1 rfl rfl (qag ?_))))))))
 obtain ⟨cz, bj, aY⟩ := bnd aY
 refine jD (σ := (Int × Int × Int × Int × Int × Int × Int × Int)) (rg 99 13) [1, 2, 3] (fun bo => []) (fun bo => [Cells b8 228 [.bool bc.Av, .int .i64 (bc.depth + (bt.2.1 - bt.1)), .int .u64 bo.1, .int .u64 bo.2.1, .int .u64 bo.2.2.1, .int .u64 bo.2.2.2.1, .int .u64 bo.2.2.2.2.1, .int .u64 bo.2.2.2.2.2.1, .int .u64 bo.2.2.2.2.2.2.1, .int .u64 bo.2.2.2.2.2.2.2]]) (fun bo => bo = cz) (And.intro ?_ ?_)
 refine cs rfl rfl bj ?_ ?_ <;> intro c5 bj
 refine qa6 ⟨⟨[], false⟩, _, [(_, _), (_, _)], []⟩ 12 rfl (by kernel_rfl) ⟨Hp.Le.refl _, (sc [1,0] rfl), ci0⟩ ?_
 refine fa rfl (qap m0 rfl rfl ?_)
 obtain ⟨bQ, bj⟩ := qax bj
 refine qpc bQ.1 bQ.2 (fa rfl ?_)
 obtain ⟨bv, bj⟩ := qax bj
 refine qbz (sz := 1) rfl rfl bv.1 bv.2 ?_
 refine qhn (L := [bc.Au.f0, bc.Au.f1, bc.Au.f2, bc.Au.f3, bc.Au.f4, bc.Au.f5, bc.Au.f6, bc.Au.f7]) (pre := [.bool bc.Av, .int .i64 (bc.depth + (bt.2.1 - bt.1))]) (post := []) m1 rfl (by simp) rfl bv.1 bv.2 ?_
 refine fa rfl (qap m0 rfl rfl (qtm (by decide) ?_))
 obtain ⟨bX, bj⟩ := qax bj
 refine qpp bX ?_
 refine qsr ?_
 refine fa rfl ?_
 obtain ⟨bu, bj⟩ := qax bj
 refine qbz (sz := 1) rfl rfl bu.1 bu.2 ?_
 obtain ⟨bz, bK, bj⟩ := bnd bj
 replace bK := Option.some.inj bK
 have bZ : bz.length = 8 := by rw [← bK]; simp
 refine qpq (L := [bc.Au.f0, bc.Au.f1, bc.Au.f2, bc.Au.f3, bc.Au.f4, bc.Au.f5, bc.Au.f6, bc.Au.f7]) (pre := [.bool bc.Av, .int .i64 (bc.depth + (bt.2.1 - bt.1))]) (post := []) (cs' := [.bool bc.Av, .int .i64 (bc.depth + (bt.2.1 - bt.1)), .int .u64 (List.getD bz 0 0), .int .u64 (List.getD bz 1 0), .int .u64 (List.getD bz 2 0), .int .u64 (List.getD bz 3 0), .int .u64 (List.getD bz 4 0), .int .u64 (List.getD bz 5 0), .int .u64 (List.getD bz 6 0), .int .u64 (List.getD bz 7 0)]) r0 rfl (by simp) rfl bu.1 bu.2 bK (by rw [qv7 bZ]; rfl) ?_
 refine ⟨⟨Hp.emp_le _, (pf rfl), ci0⟩, ?_⟩
 exact eM bj _
 exact eM bj _
 rintro bo rfl cX
 refine jR (σ := Unit) (rg 112 8) (fun _ => [(119, .bool (decide (e0.Op = 9) || decide (e0.Op = 10)))]) (fun c8 => True) ?_ ?_
 refine qaj rfl ?_
 refine fa rfl (ro (ld r1 rfl rfl (qag ?_)))
 refine qaf ?_ ?_ <;> intro aZ
 refine ct aZ (ct aZ (ct aZ ?_))
 exact eMt () ⟨bq (((qco aZ)).symm), trivial⟩
 refine fa rfl (cf aZ (ro (ld r1 rfl rfl (cf aZ (qag (cf aZ ?_))))))
 exact eMt () ⟨bq (qid (b := decide (e0.Op = 10)) aZ), trivial⟩
 rintro _ _ cP
 obtain ⟨cB, a6, aY⟩ := bnd aY
 refine jD (σ := ((List Jp))) ([2,3] ++ rg 120 20) [0, 1, 3] (fun bD => []) (fun bD => [OwnL Jp.enc (some ⟨cm, 0, none⟩) 228 10 (Int.toNat (code.length : Int)) bD]) (fun bD => (0 < bD.length → Has (some ⟨cm, 0, none⟩)) ∧ (Int.toNat (code.length : Int)) = bD.length ∧ cB = Fl.go bD) (And.intro ?_ ?_)
 refine cs rfl rfl a6 ?_ ?_ <;> intro cC a6
 refine qba ⟨⟨[], false⟩, _, [(_, _), (_, _)], []⟩ (by kernel_rfl) ⟨Hp.Le.refl _, (sc [1,0] rfl), ci0⟩ ?_
 refine fa rfl (qap m0 rfl rfl ?_)
 refine qaf ?_ ?_ <;> intro aX
 refine ct aX (ct aX (ct aX (ct aX (ct aX ?_))))
 replace a6 := ift (qco aX) a6
 refine cT (cT (cT (cT (cT (cT (cT (cT ?_)))))))
 refine qac rfl (cT ?_)
 exact eE (er (er a6 aY :) hm)
 refine fa rfl (cf aX (qap m0 rfl rfl (cf aX (cf aX (qci rfl (cf aX (cf aX ?_)))))))
 refine qaf ?_ ?_ <;> intro aV
 replace a6 := ift (qi2 aX aV) a6
 refine ct aV (ct aV (ct aV (ct aV (ct aV (ct aV (ct aV (qac rfl ?_)))))))
 refine cT ?_
 exact eE (er (er a6 aY :) hm)
 replace a6 := qbd (qf1 aX aV) a6
 refine cf aV (fa rfl (cf aV (qap m0 rfl rfl (cf aV ?_))))
 obtain ⟨cu, bS, bM, a6⟩ := ixb a6
 refine qae rfl rfl (qcz bN bM) bS (qaw bA bS bM) (cf aV (qcg m1 rfl (nl rfl) (cf aV ?_)))
 refine cb a6 fun bY bW a6 => ckx (Jbt bW :) ?_
 rintro _ _ _ ⟨rfl, bC, bG, rfl⟩
 refine qk (sc [2,1] rfl) ?_
 refine cf aV (qav (cf aV ?_))
 refine cs rfl rfl a6 ?_ ?_ <;> intro cD a6
 exact eE (er (er a6 aY :) hm)
 exact mt (bY.2) trivial rfl (pf rfl) lr ⟨bC, ((bA).trans bG), (si a6).symm⟩
 exact eM a6 _
 rintro bD ⟨bU, bL, rfl⟩ cR
 replace aY := elg aY
 refine cs rfl rfl aY ?_ ?_ <;> intro cq aY
 refine qba ⟨⟨[], false⟩, _, [(_, _)], []⟩ (by kernel_rfl) ⟨Hp.Le.refl _, (sc [1] rfl), ci0⟩ ?_
 refine fa rfl (qap m0 rfl rfl (qag ?_))
 exact eE (er aY hm)
 refine qba ⟨⟨[], false⟩, _, [(_, _), (_, _)], []⟩ (by kernel_rfl) ⟨Hp.Le.refl _, (sc [2,1] rfl), ci0⟩ ?_
 refine fa rfl (qap m0 rfl rfl (qbb ?_))
 refine cS aY (fun aW aY => ?_) fun aW aY => ?_
 refine ct aW (ct aW (qan (qbu bO cj) (ct aW ?_)))
 obtain ⟨cy, bR, bP, aY⟩ := ixb aY
 refine qae rfl rfl (qcz bU bP) bR (qaw bL bR bP) (ct aW (qcg m1 rfl (nl rfl) (ct aW ?_)))
 refine cb aY fun ca cd aY => ckx (Jbt cd :) ?_
 rintro _ _ _ ⟨rfl, bB, bF, rfl⟩
 refine qk (sc [2,1] rfl) ?_
 refine ct aW (qav (ct aW ?_))
 refine cs rfl rfl aY ?_ ?_ <;> intro cA aY
 exact eE (er aY hm)
 refine qan (qbu bO cj) ?_
 exact rd (i0 + 1, ((max (max ac bc.depth) (bc.depth + (bt.2.1 - bt.1))), ca.2)) ⟨rfl, rfl, trivial⟩ rfl (sc [0,2] rfl) lr (ltm bO) ⟨⟨bB, ((bL).trans bF)⟩, aY⟩
 refine cf aW (cf aW (cf aW (cf aW (cf aW (cf aW (cf aW (qac rfl ?_)))))))
 refine cF (qan (qbu bO cj) ?_)
 exact eR aY (_, (_, _))
 rw [lty w0, JbN.eq_1] at aY
 refine cT ?_
 exact eM aY _
 rintro t0 ⟨cM, cJ⟩ rfl j0
 replace hm := elg hm
 exact eE hm

def Jdo (code : (List Jg)) : Option (Err) :=
  (JdB code).bind fun x7 =>
  if (!x7.2) then
  some (some 2)
  else
  some none
theorem Jef {code : (List Jg)} {aa : Option Addr} {ab : Nat} {n0 : Nat} {K : Hp} {r : Err}
    (hm : Jdo code = some r) (hX : RdC Jg.enc K aa ab 3 code ∧ n0 = code.length ∧ GG K) :
    Fn Tryz.prog 68 [.slice aa n0 ab] K [] (fun v K' H' => v = qc3 48 r ∧ H' = []) := by
 obtain ⟨ae, aV, hG⟩ := hX
 subst aV
 refine Fn.enter Tryz.func68 Tryz.call68 rfl fun F => ?_
 unfold Jdo at hm
 refine cb hm fun x7 q7 hm => cgx (Jeo q7 :) ?_
 refine qav ?_
 refine cs rfl rfl hm ?_ ?_ <;> intro aW hm
 refine qas rfl ?_
 exact eE hm
 exact eE hm

def Jcd (n' : Int) : Option (Jk) :=
  some (⟨2, (max (-1099511627776) (min n' 1099511627776)), ([] : Str), false⟩ : Jk)
theorem JbR {n' : Int} {K : Hp} {r : Jk}
    (hm : Jcd n' = some r)  :
    Fn Tryz.prog 108 [.int .i64 n'] K [] (fun v K' H' => v = .agg #[.int .i64 r.kind, .int .i64 r.n, str r.s, .bool r.As] ∧ H' = []) := by
 refine Fn.enter Tryz.func108 Tryz.call108 rfl fun F => ?_
 unfold Jcd at hm
 refine qai rfl fun b2 => ?_
 refine ro (qth (ro (qcl (qak rfl rfl (cT (cT ?_))))))
 refine qaa r0 rfl ⟨rfl, rfl, (nl rfl), ?_⟩
 exact ro (qab r0 rfl (nl rfl) (eE hm))

def Jay (m : Jh) (x : Jk) (operation : Bool) : Option (Err × Jh) :=
  if decide ((x.s.length : Int) > 2048) then
  some ((some 5), m)
  else
  ((if (operation && decide (x.kind = 1)) then
  (chk ((64 : Int) ≠ 0 ∧ InI (Int.tdiv (x.s.length : Int) 64))).bind fun _ =>
  (chk (InI (m.result.Aj + (Int.tdiv (x.s.length : Int) 64)))).bind fun _ =>
  if decide ((m.result.Aj + (Int.tdiv (x.s.length : Int) 64)) > m.most) then
  some (Fl.ret ((some 13), (⟨m.Aq, m.most, (⟨m.result.Ae, m.result.Af, m.result.Ag, m.result.Vary, m.result.Ah, m.result.TTL, m.result.Ai, (m.result.Aj + (Int.tdiv (x.s.length : Int) 64)), m.result.Ak, m.result.Al⟩ : Jq), m.stack, m.Ap⟩ : Jh)))
  else
  some (Fl.go (⟨m.Aq, m.most, (⟨m.result.Ae, m.result.Af, m.result.Ag, m.result.Vary, m.result.Ah, m.result.TTL, m.result.Ai, (m.result.Aj + (Int.tdiv (x.s.length : Int) 64)), m.result.Ak, m.result.Al⟩ : Jq), m.stack, m.Ap⟩ : Jh))
  else
  some (Fl.go m) : Option (Fl (Err × Jh) (Jh)))).bind fun aW => aW.el some fun aV =>
  (chk (aV.stack.length + [x].length ≤ lim)).bind fun _ =>
  some (none, (⟨m.Aq, aV.most, aV.result, (aV.stack ++ [x]), aV.Ap⟩ : Jh))
theorem JaH {m : Jh} {x : Jk} {operation : Bool} {b0 : Nat} {aa : Option Addr} {ab : Nat} {ah : Option Addr} {al : Nat} {ao : Option Addr} {av : Nat} {ax : Option Addr} {aA : Nat} {ay : Option Addr} {aB : Nat} {K : Hp} {r : Err × Jh}
    (hm : Jay m x operation = some r) (hX : RdC Jc.enc K aa ab 2 m.Aq.Ao ∧ (0 < m.result.Ag.length → Has ah) ∧ (0 < m.result.Vary.length → Has ao) ∧ (0 < m.result.Ah.length → Has ax) ∧ (0 < m.stack.length → Has ay) ∧ m.Ap.length = 512) :
    Fn Tryz.prog 107 [.pointer (some ⟨b0, 0, none⟩), .agg #[.int .i64 x.kind, .int .i64 x.n, str x.s, .bool x.As], .bool operation] K [Cells b0 131 ((str m.Aq.Am) :: (str m.Aq.An) :: (str m.Aq.Ae) :: (str m.Aq.Af) :: (.slice aa m.Aq.Ao.length ab) :: (.int .i64 m.most) :: (str m.result.Ae) :: (str m.result.Af) :: (.slice ah m.result.Ag.length al) :: (.slice ao m.result.Vary.length av) :: (.slice ax m.result.Ah.length aA) :: (.int .i64 m.result.TTL) :: (.int .i64 m.result.Ai) :: (.int .i64 m.result.Aj) :: (.bool m.result.Ak) :: (.bool m.result.Al) :: (.slice ay m.stack.length aB) :: (m.Ap.map Jk.enc).flatten), OwnL Jc.enc ah 41 2 al m.result.Ag, OwnL eS ao 9 1 av m.result.Vary, OwnL eS ax 9 1 aA m.result.Ah, OwnL Jk.enc ay 128 4 aB m.stack] (fun v K' H' => ∃ ar_0 : Option Addr, ∃ cr_0 : Nat, ∃ ar_1 : Option Addr, ∃ cr_1 : Nat, ∃ ar_2 : Option Addr, ∃ cr_2 : Nat, ∃ ar_3 : Option Addr, ∃ cr_3 : Nat, v = qc3 48 r.1 ∧ (0 < r.2.result.Ag.length → Has ar_0) ∧ (0 < r.2.result.Vary.length → Has ar_1) ∧ (0 < r.2.result.Ah.length → Has ar_2) ∧ (0 < r.2.stack.length → Has ar_3) ∧ r.2.Ap.length = 512 ∧ H' = [Cells b0 131 ((str m.Aq.Am) :: (str m.Aq.An) :: (str m.Aq.Ae) :: (str m.Aq.Af) :: (.slice aa m.Aq.Ao.length ab) :: (.int .i64 r.2.most) :: (str r.2.result.Ae) :: (str r.2.result.Af) :: (.slice ar_0 r.2.result.Ag.length cr_0) :: (.slice ar_1 r.2.result.Vary.length cr_1) :: (.slice ar_2 r.2.result.Ah.length cr_2) :: (.int .i64 r.2.result.TTL) :: (.int .i64 r.2.result.Ai) :: (.int .i64 r.2.result.Aj) :: (.bool r.2.result.Ak) :: (.bool r.2.result.Al) :: (.slice ar_3 r.2.stack.length cr_3) :: (r.2.Ap.map Jk.enc).flatten), OwnL Jc.enc ar_0 41 2 cr_0 r.2.result.Ag, OwnL eS ar_1 9 1 cr_1 r.2.result.Vary, OwnL eS ar_2 9 1 cr_2 r.2.result.Ah, OwnL Jk.enc ar_3 128 4 cr_3 r.2.stack]) := by
 obtain ⟨ae, bz, bp, bt, bw, bu⟩ := hX
 refine Fn.enter Tryz.func107 Tryz.call107 rfl fun F => ?_
 unfold Jay at hm
 refine qar ?_
 intro b4
 refine fa rfl (ro (ld r0 rfl rfl (ro (qa4 rfl ?_))))
 refine cs rfl rfl hm ?_ ?_ <;> intro bM hm
 refine qas rfl ?_
 exact eE hm
 refine jR (σ := Unit) (rg 12 6) (fun _ => [(17, .bool (operation && decide (x.kind = 1)))]) (fun bF => True) ?_ ?_
 refine qaj rfl ?_
 refine qaf ?_ ?_ <;> intro bf
 refine fa rfl (ct bf (ro (ld r0 rfl rfl (ct bf (qag (ct bf ?_))))))
 exact eMt () ⟨bq (qc8 (b := decide (x.kind = 1)) bf), trivial⟩
 refine cf bf (cf bf (cf bf ?_))
 exact eMt () ⟨bq (((qbh bf)).symm), trivial⟩
 rintro _ _ bC
 obtain ⟨bo, bc, hm⟩ := bnd hm
 refine jD (σ := (Jh) × Option Addr × Nat × Option Addr × Nat × Option Addr × Nat × Option Addr × Nat) ([6] ++ rg 18 24) [0, 6] (fun (aV, aX, a8, aW, a6, aY, ba, aZ, bb) => []) (fun (aV, aX, a8, aW, a6, aY, ba, aZ, bb) => [Cells b0 131 ((str m.Aq.Am) :: (str m.Aq.An) :: (str m.Aq.Ae) :: (str m.Aq.Af) :: (.slice aa m.Aq.Ao.length ab) :: (.int .i64 aV.most) :: (str aV.result.Ae) :: (str aV.result.Af) :: (.slice aX aV.result.Ag.length a8) :: (.slice aW aV.result.Vary.length a6) :: (.slice aY aV.result.Ah.length ba) :: (.int .i64 aV.result.TTL) :: (.int .i64 aV.result.Ai) :: (.int .i64 aV.result.Aj) :: (.bool aV.result.Ak) :: (.bool aV.result.Al) :: (.slice aZ aV.stack.length bb) :: (aV.Ap.map Jk.enc).flatten), OwnL Jc.enc aX 41 2 a8 aV.result.Ag, OwnL eS aW 9 1 a6 aV.result.Vary, OwnL eS aY 9 1 ba aV.result.Ah, OwnL Jk.enc aZ 128 4 bb aV.stack]) (fun (aV, aX, a8, aW, a6, aY, ba, aZ, bb) => (0 < aV.result.Ag.length → Has aX) ∧ (0 < aV.result.Vary.length → Has aW) ∧ (0 < aV.result.Ah.length → Has aY) ∧ (0 < aV.stack.length → Has aZ) ∧ aV.Ap.length = 512 ∧ bo = Fl.go aV) (And.intro ?_ ?_)
 refine cs rfl rfl bc ?_ ?_ <;> intro bK bc
 refine qa6 ⟨⟨[], false⟩, _, [(_, _), (_, _)], []⟩ 9 rfl (by kernel_rfl) ⟨Hp.Le.refl _, (sc [1,0] rfl), ci0⟩ ?_
 refine qah (fa rfl (fa rfl (qap m0 rfl rfl (fa rfl (qap m1 rfl rfl (qq8 rfl ?_))))))
 obtain ⟨bv, bc⟩ := qax bc
 refine qpc bv.1 bv.2 ?_
 obtain ⟨bB, bc⟩ := qax bc
 refine qan bB (qah (fa rfl (fa rfl ?_)))
 refine qpw (cs' := (str m.Aq.Am) :: (str m.Aq.An) :: (str m.Aq.Ae) :: (str m.Aq.Af) :: (.slice aa m.Aq.Ao.length ab) :: (.int .i64 m.most) :: (str m.result.Ae) :: (str m.result.Af) :: (.slice ah m.result.Ag.length al) :: (.slice ao m.result.Vary.length av) :: (.slice ax m.result.Ah.length aA) :: (.int .i64 m.result.TTL) :: (.int .i64 m.result.Ai) :: (.int .i64 (m.result.Aj + (Int.tdiv (x.s.length : Int) 64))) :: (.bool m.result.Ak) :: (.bool m.result.Al) :: (.slice ay m.stack.length aB) :: (m.Ap.map Jk.enc).flatten) r1 rfl rfl (by exact rfl) (by exact nl rfl) (by exact rfl) ?_
 refine ⟨⟨Hp.emp_le _, (pf rfl), ci0⟩, ?_⟩
 refine qba ⟨⟨[], false⟩, _, [(_, _)], []⟩ (by kernel_rfl) ⟨Hp.Le.refl _, (pf rfl), ci0⟩ ?_
 refine qah (fa rfl (fa rfl (qap m0 rfl rfl (qah (fa rfl (qap m0 rfl rfl ?_))))))
 refine cs rfl rfl bc ?_ ?_ <;> intro bJ bc
 refine qas rfl ?_
 exact eE (er bc hm)
 exact eM bc (_, _, _, _, _, _, _, _, _)
 exact eM bc (_, _, _, _, _, _, _, _, _)
 rintro ⟨aV, aX, a8, aW, a6, aY, ba, aZ, bb⟩ ⟨bn, bh, bg, bm, bj, rfl⟩ bG
 replace hm := elg hm
 refine qa6 ⟨⟨[], false⟩, _, [(_, _), (_, _)], []⟩ 8 rfl (by kernel_rfl) ⟨Hp.Le.refl _, (sc [0,4] rfl), ci0⟩ ?_
 refine qah (fa rfl (qap m0 rfl rfl (qcg m1 rfl (nl rfl) ?_)))
 refine bsO (len := 1) (enc := Jk.enc) (l := [x]) (cl := [.int .i64 x.kind, .int .i64 x.n, str x.s, .bool x.As]) qsd rfl rfl (fun _ _ => rfl) rfl rfl rfl ?_ fun bL => ?_
 · conv => whnf
   refine cT ?_
   first | done | rfl
 refine qk (sc [1,5] rfl) ?_
 obtain ⟨bH, hm⟩ := qax hm
 refine apE rfl r5 qsd (qaz rfl r0 rfl (fun _ => rfl) (fun _ => rfl)) bH ?_
 intro bD bA bI
 refine qk (sc [2,5] rfl) ?_
 refine qah (fa rfl ?_)
 refine qpw (cs' := (str m.Aq.Am) :: (str m.Aq.An) :: (str m.Aq.Ae) :: (str m.Aq.Af) :: (.slice aa m.Aq.Ao.length ab) :: (.int .i64 aV.most) :: (str aV.result.Ae) :: (str aV.result.Af) :: (.slice aX aV.result.Ag.length a8) :: (.slice aW aV.result.Vary.length a6) :: (.slice aY aV.result.Ah.length ba) :: (.int .i64 aV.result.TTL) :: (.int .i64 aV.result.Ai) :: (.int .i64 aV.result.Aj) :: (.bool aV.result.Ak) :: (.bool aV.result.Al) :: (.slice bD ((aV.stack ++ [x]).length) bA) :: (aV.Ap.map Jk.enc).flatten) r2 rfl rfl (by exact rfl) (by exact nl rfl) (by exact rfl) ?_
 refine ⟨⟨Hp.emp_le _, (pf rfl), ci0⟩, ?_⟩
 exact eE hm

def Jbf (s : Str) : Option (Jk) :=
  some (⟨1, 0, s, false⟩ : Jk)
theorem JaU {s : Str} {K : Hp} {r : Jk}
    (hm : Jbf s = some r)  :
    Fn Tryz.prog 109 [str s] K [] (fun v K' H' => v = .agg #[.int .i64 r.kind, .int .i64 r.n, str r.s, .bool r.As] ∧ H' = []) := by
 refine Fn.enter Tryz.func109 Tryz.call109 rfl fun F => ?_
 unfold Jbf at hm
 refine qai rfl fun b2 => ?_
 refine qak rfl rfl (cT (cT ?_))
 refine qaa r0 rfl ⟨rfl, rfl, (nl rfl), ?_⟩
 exact ro (qab r0 rfl (nl rfl) (eE hm))

def JcO (name : Str) (Aq : J5) : Option (Jk) :=
  if decide (name = ([109, 101, 116, 104, 111, 100] : Str)) then
  (Jbf Aq.Am).bind fun aW =>
  some aW
  else
  if decide (name = ([104, 111, 115, 116] : Str)) then
  (Jbf Aq.An).bind fun aX =>
  some aX
  else
  if decide (name = ([112, 97, 116, 104] : Str)) then
  (Jbf Aq.Ae).bind fun aV =>
  some aV
  else
  (Jbf Aq.Af).bind fun aY =>
  some aY
theorem JdQ {name : Str} {Aq : J5} {af : Option Addr} {ag : Nat} {K : Hp} {r : Jk}
    (hm : JcO name Aq = some r) (aj : RdC Jc.enc K af ag 2 Aq.Ao) :
    Fn Tryz.prog 110 [str name, .agg #[str Aq.Am, str Aq.An, str Aq.Ae, str Aq.Af, .slice af Aq.Ao.length ag]] K [] (fun v K' H' => v = .agg #[.int .i64 r.kind, .int .i64 r.n, str r.s, .bool r.As] ∧ H' = []) := by
 refine Fn.enter Tryz.func110 Tryz.call110 rfl fun F => ?_
 unfold JcO at hm
 refine qar ?_
 intro b3
 refine qai rfl fun b4 => ?_
 refine qam rfl ?_
 refine qaq (cs rfl rfl hm ?_ ?_) <;> intro w6 hm
 refine fa rfl (ro (ld r1 rfl rfl ?_))
 refine cb hm fun aZ aY hm => cg0 (JaU aY :) ?_
 refine qaa r0 rfl ⟨rfl, rfl, (nl rfl), ?_⟩
 exact ro (qab r0 rfl (nl rfl) (eE hm))
 refine qaq (cs rfl rfl hm ?_ ?_) <;> intro bb hm
 refine fa rfl (ro (ld r1 rfl rfl ?_))
 refine cb hm fun bc aW hm => cg0 (JaU aW :) ?_
 refine qaa r0 rfl ⟨rfl, rfl, (nl rfl), ?_⟩
 exact ro (qab r0 rfl (nl rfl) (eE hm))
 refine qaq (cs rfl rfl hm ?_ ?_) <;> intro ba hm
 refine fa rfl (ro (ld r1 rfl rfl ?_))
 refine cb hm fun a6 aV hm => cg0 (JaU aV :) ?_
 refine qaa r0 rfl ⟨rfl, rfl, (nl rfl), ?_⟩
 exact ro (qab r0 rfl (nl rfl) (eE hm))
 refine fa rfl (ro (ld r1 rfl rfl ?_))
 refine cb hm fun a8 aX hm => cg0 (JaU aX :) ?_
 refine qaa r0 rfl ⟨rfl, rfl, (nl rfl), ?_⟩
 exact ro (qab r0 rfl (nl rfl) (eE hm))

def JaK (m : Jh) : Option (Jk × Jh) :=
  (chk (InI ((m.stack.length : Int) - 1))).bind fun _ =>
  (ix m.stack ((m.stack.length : Int) - 1)).bind fun aV =>
  (chk (InI ((m.stack.length : Int) - 1))).bind fun _ =>
  (chk (0 ≤ (0 : Int) ∧ (0 : Int) ≤ ((m.stack.length : Int) - 1) ∧ ((m.stack.length : Int) - 1) ≤ (m.stack.length : Int))).bind fun _ =>
  some (aV, (⟨m.Aq, m.most, m.result, (subL m.stack (0 : Int) ((m.stack.length : Int) - 1)), m.Ap⟩ : Jh))
theorem JaP {m : Jh} {b0 : Nat} {aa : Option Addr} {ab : Nat} {ah : Option Addr} {al : Nat} {ao : Option Addr} {av : Nat} {ax : Option Addr} {aA : Nat} {ay : Option Addr} {aB : Nat} {K : Hp} {r : Jk × Jh}
    (hm : JaK m = some r) (hX : RdC Jc.enc K aa ab 2 m.Aq.Ao ∧ (0 < m.result.Ag.length → Has ah) ∧ (0 < m.result.Vary.length → Has ao) ∧ (0 < m.result.Ah.length → Has ax) ∧ (0 < m.stack.length → Has ay) ∧ m.Ap.length = 512) :
    Fn Tryz.prog 111 [.pointer (some ⟨b0, 0, none⟩)] K [Cells b0 131 ((str m.Aq.Am) :: (str m.Aq.An) :: (str m.Aq.Ae) :: (str m.Aq.Af) :: (.slice aa m.Aq.Ao.length ab) :: (.int .i64 m.most) :: (str m.result.Ae) :: (str m.result.Af) :: (.slice ah m.result.Ag.length al) :: (.slice ao m.result.Vary.length av) :: (.slice ax m.result.Ah.length aA) :: (.int .i64 m.result.TTL) :: (.int .i64 m.result.Ai) :: (.int .i64 m.result.Aj) :: (.bool m.result.Ak) :: (.bool m.result.Al) :: (.slice ay m.stack.length aB) :: (m.Ap.map Jk.enc).flatten), OwnL Jc.enc ah 41 2 al m.result.Ag, OwnL eS ao 9 1 av m.result.Vary, OwnL eS ax 9 1 aA m.result.Ah, OwnL Jk.enc ay 128 4 aB m.stack] (fun v K' H' => ∃ ar_0 : Option Addr, ∃ cr_0 : Nat, ∃ ar_1 : Option Addr, ∃ cr_1 : Nat, ∃ ar_2 : Option Addr, ∃ cr_2 : Nat, ∃ ar_3 : Option Addr, ∃ cr_3 : Nat, v = .agg #[.int .i64 r.1.kind, .int .i64 r.1.n, str r.1.s, .bool r.1.As] ∧ (0 < r.2.result.Ag.length → Has ar_0) ∧ (0 < r.2.result.Vary.length → Has ar_1) ∧ (0 < r.2.result.Ah.length → Has ar_2) ∧ (0 < r.2.stack.length → Has ar_3) ∧ r.2.Ap.length = 512 ∧ H' = [Cells b0 131 ((str m.Aq.Am) :: (str m.Aq.An) :: (str m.Aq.Ae) :: (str m.Aq.Af) :: (.slice aa m.Aq.Ao.length ab) :: (.int .i64 r.2.most) :: (str r.2.result.Ae) :: (str r.2.result.Af) :: (.slice ar_0 r.2.result.Ag.length cr_0) :: (.slice ar_1 r.2.result.Vary.length cr_1) :: (.slice ar_2 r.2.result.Ah.length cr_2) :: (.int .i64 r.2.result.TTL) :: (.int .i64 r.2.result.Ai) :: (.int .i64 r.2.result.Aj) :: (.bool r.2.result.Ak) :: (.bool r.2.result.Al) :: (.slice ar_3 r.2.stack.length cr_3) :: (r.2.Ap.map Jk.enc).flatten), OwnL Jc.enc ar_0 41 2 cr_0 r.2.result.Ag, OwnL eS ar_1 9 1 cr_1 r.2.result.Vary, OwnL eS ar_2 9 1 cr_2 r.2.result.Ah, OwnL Jk.enc ar_3 128 4 cr_3 r.2.stack]) := by
 obtain ⟨ae, aZ, aX, aY, aV, aW⟩ := hX
 refine Fn.enter Tryz.func111 Tryz.call111 rfl fun F => ?_
 unfold JaK at hm
 refine qai rfl fun b2 => ?_
 refine qf5 ⟨⟨[], true⟩, _, [], []⟩ 14 rfl (by kernel_rfl) ⟨Hp.Le.refl _, (pf rfl), ci0⟩ ?_
 refine qah (fa rfl ?_)
 refine ld r1 rfl rfl ?_
 refine qah (fa rfl ?_)
 refine ld r1 rfl rfl ?_
 refine qci rfl ?_
 refine ci hm fun hm => ?_
 obtain ⟨bg, a8, a6, hm⟩ := ixb hm
 refine qae rfl rfl (qcz aV a6) a8 (qaw rfl a8 a6) ?_
 refine qj8 (i := (((m.stack.length : Int) - 1)).toNat) r5 rfl a6 rfl rfl ?_
 refine qnj rfl ?_
 intro b3
 intro bc
 refine qaa r0 rfl ⟨rfl, rfl, (nl rfl), ?_⟩
 refine ⟨⟨lr, (pf rfl), ci0⟩, ?_⟩
 refine ⟨_, .cons r8 .nil, ⟨lr, (pf rfl), ci0⟩, ?_⟩
 refine DStep.ownLe r3 fun bj => ?_
 refine DStep.ownLe r4 fun bf => ?_
 refine DStep.ownLe r5 fun bh => ?_
 refine DStep.ownLe r6 fun bb => ?_
 refine qa6 ⟨⟨[], false⟩, _, [(_, _)], []⟩ 12 rfl (by kernel_rfl) ⟨Hp.Le.refl _, (sc [2] rfl), ci0⟩ ?_
 refine qah (fa rfl (qap m0 rfl rfl (qah (fa rfl (qap m0 rfl rfl (qci rfl ?_))))))
 refine ci hm fun hm => ?_
 obtain ⟨ba, hm⟩ := qax hm
 refine qtw (l := m.stack) (hi := (some ((m.stack.length : Int) - 1))) rfl rfl rfl bb ba ?_
 refine qah (fa rfl ?_)
 refine tkW ((m.stack.length : Int) - 1) r6 ?_
 refine qpw (cs' := (str m.Aq.Am) :: (str m.Aq.An) :: (str m.Aq.Ae) :: (str m.Aq.Af) :: (.slice aa m.Aq.Ao.length ab) :: (.int .i64 m.most) :: (str m.result.Ae) :: (str m.result.Af) :: (.slice ah m.result.Ag.length al) :: (.slice ao m.result.Vary.length av) :: (.slice ax m.result.Ah.length aA) :: (.int .i64 m.result.TTL) :: (.int .i64 m.result.Ai) :: (.int .i64 m.result.Aj) :: (.bool m.result.Ak) :: (.bool m.result.Al) :: (.slice ay ((subL m.stack (0 : Int) ((m.stack.length : Int) - 1)).length) aB) :: (m.Ap.map Jk.enc).flatten) r3 rfl rfl (by exact rfl) (by exact nl rfl) (by exact rfl) ?_
 refine ⟨⟨Hp.emp_le _, (pf rfl), ci0⟩, ?_⟩
 refine ro (qab r2 rfl (nl rfl) ?_)
 refine qaa r3 rfl ⟨rfl, rfl, (nl rfl), ?_⟩
 obtain rfl := si hm
 exact ro (qab r0 rfl (nl rfl) (en lr ⟨ah, al, ao, av, ax, aA, ay, aB, rfl, aZ, aX, aY, (fun h => aV (qic ba h)), aW, rfl⟩ (sc [1,3,3,3,1,2] rfl)))

def Jc2 (path : Str) : Option ((List Str)) :=
  (quq path ([47] : Str)).bind fun x8 =>
  if (!x8.2.2) then
  some []
  else
  (qem x8.2.1 ([47] : Str)).bind fun aV =>
  some aV
theorem JdY {path : Str} {K : Hp} {r : (List Str)}
    (hm : Jc2 path = some r) (hG : GG K) :
    Fn Tryz.prog 156 [str path] K [] (fun v K' H' => ∃ ar_0 : Option Addr, ∃ cr_0 : Nat, v = .slice ar_0 r.length cr_0 ∧ (0 < r.length → Has ar_0) ∧ H' = [OwnL eS ar_0 9 1 cr_0 r]) := by
 refine Fn.enter Tryz.func156 Tryz.call156 rfl fun F => ?_
 unfold Jc2 at hm
 refine cb hm fun x8 q8 hm => cg0 (qqx q8 (gg0 hG)) ?_
 refine qav ?_
 refine cs rfl rfl hm ?_ ?_ <;> intro a6 hm
 refine qcp eS 9 1 ?_
 exact eE hm
 refine cb hm fun aZ aY hm => ck0 (qe1 aY (gg0 hG)) ?_
 rintro _ _ _ ⟨aW, aV, rfl, aX, rfl⟩
 exact eE hm

def Jd5 (f : (List Jc)) (name : Str) : Option (Str × Bool) :=
  (Jdx f name).bind fun x9 =>
  (qog x9 ([44, 32] : Str)).bind fun aV =>
  some (aV, decide ((x9.length : Int) > 0))
theorem Jel {f : (List Jc)} {name : Str} {aa : Option Addr} {ab : Nat} {n0 : Nat} {K : Hp} {r : Str × Bool}
    (hm : Jd5 f name = some r) (hX : RdC Jc.enc K aa ab 2 f ∧ n0 = f.length) :
    Fn Tryz.prog 157 [.slice aa n0 ab, str name] K [] (fun v K' H' => v = .tuple #[str r.1, .bool r.2] ∧ H' = []) := by
 obtain ⟨ae, a6⟩ := hX
 subst a6
 refine Fn.enter Tryz.func157 Tryz.call157 rfl fun F => ?_
 unfold Jd5 at hm
 refine cb hm fun x9 q9 hm => ckx (JcX q9 :) ?_
 rintro _ _ _ ⟨a8, aY, rfl, ba, rfl⟩
 refine cb hm fun bb aZ hm => ck0 (Fn.lend Tryz.call48 (fun aW aX aV => (qqv aZ aV rfl)) (by exact fun _ _ _ _ h => h)) ?_
 rintro _ _ _ ⟨_, rfl, rfl, rfl⟩
 refine ro (qal rfl ?_)
 exact eE hm

def Jbw (As : Bool) : Option (Jk) :=
  some (⟨3, 0, ([] : Str), As⟩ : Jk)
theorem Jbg {As : Bool} {K : Hp} {r : Jk}
    (hm : Jbw As = some r)  :
    Fn Tryz.prog 114 [.bool As] K [] (fun v K' H' => v = .agg #[.int .i64 r.kind, .int .i64 r.n, str r.s, .bool r.As] ∧ H' = []) := by
 refine Fn.enter Tryz.func114 Tryz.call114 rfl fun F => ?_
 unfold Jbw at hm
 refine qai rfl fun b2 => ?_
 refine qak rfl rfl (cT (cT ?_))
 refine qaa r0 rfl ⟨rfl, rfl, (nl rfl), ?_⟩
 exact ro (qab r0 rfl (nl rfl) (eE hm))

def Jcy (name : Str) : List Str → Nat → Option (Fl (Str × Bool) (Unit))
  | [], _ => some (Fl.go ())
  | e0 :: aV, i0 =>
    (chk (name.length + ([61] : Str).length ≤ lim)).bind fun _ =>
    (JaB e0 (name ++ ([61] : Str))).bind fun aW =>
    if aW then
    (chk (InI ((name.length : Int) + 1))).bind fun _ =>
    (chk (0 ≤ ((name.length : Int) + 1) ∧ ((name.length : Int) + 1) ≤ (e0.length : Int) ∧ (e0.length : Int) ≤ (e0.length : Int))).bind fun _ =>
    some (Fl.ret ((subL e0 ((name.length : Int) + 1) (e0.length : Int)), true))
    else
    Jcy name aV (i0 + 1)
def JdZ (a : Ju) (name : Str) : Option (Str × Bool) :=
  if (!a.HasQuery) then
  some (([] : Str), false)
  else
  (qem a.Af ([38] : Str)).bind fun aV =>
  (chk (aV.length ≤ qa1)).bind fun _ =>
  (Jcy name aV 0).bind fun s0 => s0.el some fun t0 =>
  some (([] : Str), false)
theorem Jew {a : Ju} {name : Str} {K : Hp} {r : Str × Bool}
    (hm : JdZ a name = some r) (hG : GG K) :
    Fn Tryz.prog 158 [.agg #[str a.An, str a.Ae, str a.Af, .bool a.HasQuery], str name] K [] (fun v K' H' => v = .tuple #[str r.1, .bool r.2] ∧ H' = []) := by
 refine Fn.enter Tryz.func158 Tryz.call158 rfl fun F => ?_
 unfold JdZ at hm
 refine qar ?_
 intro b2
 refine fa rfl (ro (ld r0 rfl rfl (qav ?_)))
 refine cs rfl rfl hm ?_ ?_ <;> intro bn hm
 exact eE hm
 refine fa rfl (ro (ld r0 rfl rfl ?_))
 refine cb hm fun aY ba hm => ck0 (qe1 ba (gg0 hG)) ?_
 rintro _ _ _ ⟨a6, aZ, rfl, aW, rfl⟩
 refine ro (qal rfl ?_)
 obtain ⟨bb, hm⟩ := qax hm
 obtain ⟨s0, aV, hm⟩ := bnd hm
 refine lD (σ := (Unit)) ([4,5,7] ++ rg 15 14) [0, 1, 2] (fun i0 => [(15, .int .i64 (i0 : Int))]) (fun _ => []) (fun _ => []) (fun _ => True) (fun i0 _ => Jcy name (aY.drop i0) i0 = some s0) (fun t0 => s0 = Fl.go t0) (fun i0 => aY.length - i0) 0 () aV (And.intro qe (And.intro ?_ ?_))
 clear aV
 rintro i0 _ _ aV j0
 conv at aV => whnf
 refine qac rfl ?_
 refine qaf ?_ ?_ <;> intro w0
 obtain ⟨e0, aX, bf⟩ := ltx w0
 rw [bf, Jcy.eq_2] at aV
 refine qam rfl ?_
 refine RStep.ofN (qae rfl rfl (qcz aW aX) (nn _) (qfh rfl aX) (ro (qb2 (i := i0) (o := 0) r0 rfl aX rfl rfl ?_)))
 obtain ⟨a8, aV⟩ := qax aV
 refine qby a8 ?_
 refine cb aV fun bh bc aV => cg0 (Jbh bc :) ?_
 refine CStep.ownLe r0 fun bj => ?_
 refine cs rfl rfl aV ?_ ?_ <;> intro bm aV
 refine ro (qa4 rfl ?_)
 refine ci aV fun aV => ?_
 obtain ⟨bg, aV⟩ := qax aV
 refine RStep.ofN (qek (lo := (some ((name.length : Int) + 1))) (hi := none) rfl bg ?_)
 exact eE (er aV hm)
 refine qan (qbu aX bb) ?_
 exact eR aV (_, ())
 rw [lty w0, Jcy.eq_1] at aV
 refine cT ?_
 exact eM aV _
 rintro t0 _ rfl j0
 replace hm := elg hm
 exact eE hm

def JbZ : Nat → Nat → Str → Option (Str)
  | 0, _, ac => some ac
  | aW + 1, i0, ac =>
    (ix ac (i0 : Int)).bind fun aV =>
    if (decide ((aV.toNat : Int) ≥ 65) && decide ((aV.toNat : Int) ≤ 90)) then
    (ix ac (i0 : Int)).bind fun aX =>
    JbZ aW (i0 + 1) (ac.set (((i0 : Int)).toNat) (aV + (32 : UInt8)))
    else
    JbZ aW (i0 + 1) ac
def JdR (s : Str) : Option (Str) :=
  (chk (s.length ≤ lim)).bind fun _ =>
  (chk (InI (s.length : Int))).bind fun _ =>
  (JbZ (s.length : Int).toNat 0 s).bind fun t0 =>
  some t0
theorem Jet {s : Str} {K : Hp} {r : Str}
    (hm : JdR s = some r)  :
    Fn Tryz.prog 159 [str s] K [] (fun v K' H' => v = str r ∧ H' = []) := by
 refine Fn.enter Tryz.func159 Tryz.call159 rfl fun F => ?_
 unfold JdR at hm
 obtain ⟨h7, hm⟩ := qax hm
 refine qhm rfl rfl rfl h7 ?_
 intro a7 c7 o7
 refine ro (qal rfl ?_)
 obtain ⟨ba, hm⟩ := qax hm
 obtain ⟨s0, aW, hm⟩ := bnd hm
 refine lD (σ := (Str)) ([4,5] ++ rg 10 17) [1] (fun i0 => [(10, .int .i64 (i0 : Int))]) (fun _ => []) (fun t0 => [OwnL eU a7 5 1 c7 t0]) (fun t0 => (0 < t0.length → Has a7) ∧ s.length = t0.length) (fun i0 t0 => JbZ ((s.length : Int).toNat - i0) i0 t0 = some s0) (fun t0 => t0 = s0) (fun i0 => (s.length : Int).toNat - i0) 0 _ aW (And.intro qe (And.intro ?_ ?_))
 clear aW
 rintro i0 ac ⟨aX, aY⟩ aW j0
 conv at aW => whnf
 refine qac rfl ?_
 refine qaf ?_ ?_ <;> intro w0
 rw [ltn w0, JbZ.eq_2] at aW
 refine qam rfl ?_
 obtain ⟨a8, bf, bb, aW⟩ := ixb aW
 refine RStep.ofN (qae rfl rfl (qcz aX bb) bf (qaw aY bf bb) (ro (qb2 (i := ((i0 : Int)).toNat) (o := 0) r0 rfl bb rfl rfl ?_)))
 refine qaj rfl ?_
 refine qaf ?_ ?_ <;> intro aV
 refine ct aV (ct aV (qac rfl ?_))
 refine qaf ?_ ?_ <;> intro bh
 replace aW := ift (qc1 aV bh) aW
 refine qj6 (x := a8) (y := (32 : UInt8)) rfl rfl ?_
 obtain ⟨bj, bg, a6, aW⟩ := ixb aW
 refine RStep.ofN (qae rfl rfl (qcz aX a6) bg (qaw aY bg a6) ?_)
 refine qe8 (o := 0) (y := (a8 + (32 : UInt8))) bj r0 rfl a6 rfl (by (conv => whnf); exact ⟨rfl, rfl, (nl rfl), rfl, rfl, rfl⟩) ?_
 refine qan (qk5 w0 ba) ?_
 exact rd (i0 + 1, (ac.set (((i0 : Int)).toNat) (a8 + (32 : UInt8)))) ⟨rfl, trivial⟩ rfl (pf rfl) lr (qup w0) ⟨⟨(by first | simpa using aX | exact fun _ => ⟨_, _, rfl⟩), ((aY).trans List.length_set.symm)⟩, aW⟩
 replace aW := qbd (qc2 aV bh) aW
 refine qan (qk5 w0 ba) ?_
 exact eR aW (_, _)
 refine cf aV (cf aV (qac rfl (cF ?_)))
 replace aW := qbd (qbh aV) aW
 refine qan (qk5 w0 ba) ?_
 exact eR aW (_, _)
 rw [lto w0, JbZ.eq_1] at aW
 refine cT ?_
 exact eM aW _
 rintro t0 ⟨bc, aZ⟩ rfl j0
 refine ro (qfi aZ r0 rfl rfl rfl ?_)
 exact eE hm

def Jb9 : List UInt8 → Nat → Int → Option (Fl (Int) (Int))
  | [], _, ac => some (Fl.go ac)
  | e0 :: aV, i0, ac =>
    (if decide ((e0.toNat : Int) < 48) then some true else some (decide ((e0.toNat : Int) > 57))).bind fun aW =>
    if aW then
    some (Fl.ret 0)
    else
    (chk (InI (10 * ac))).bind fun _ =>
    (chk (InI ((10 * ac) + ((e0 - (48 : UInt8)).toNat : Int)))).bind fun _ =>
    Jb9 aV (i0 + 1) ((10 * ac) + ((e0 - (48 : UInt8)).toNat : Int))
def JdC (s : Str) : Option (Int) :=
  if (decide ((s.length : Int) < 1) || decide ((s.length : Int) > 15)) then
  some 0
  else
  (chk (s.length ≤ qa1)).bind fun _ =>
  (Jb9 s 0 0).bind fun s0 => s0.el some fun t0 =>
  some t0
theorem Jep {s : Str} {K : Hp} {r : Int}
    (hm : JdC s = some r)  :
    Fn Tryz.prog 160 [str s] K [] (fun v K' H' => v = .int .i64 r ∧ H' = []) := by
 refine Fn.enter Tryz.func160 Tryz.call160 rfl fun F => ?_
 unfold JdC at hm
 refine jR (σ := Unit) (rg 5 8) (fun _ => [(12, .bool (decide ((s.length : Int) < 1) || decide ((s.length : Int) > 15)))]) (fun bb => True) ?_ ?_
 refine qaj rfl ?_
 refine ro (qa4 rfl ?_)
 refine qaf ?_ ?_ <;> intro aX
 refine ct aX (ct aX (ct aX ?_))
 exact eMt () ⟨bq (((qco aX)).symm), trivial⟩
 refine cf aX (ro (qa4 rfl (cf aX (cf aX ?_))))
 exact eMt () ⟨bq (qid (b := decide ((s.length : Int) > 15)) aX), trivial⟩
 rintro _ _ bf
 refine cs rfl rfl hm ?_ ?_ <;> intro bj hm
 exact eE hm
 refine ro (qa4 rfl ?_)
 obtain ⟨bc, hm⟩ := qax hm
 obtain ⟨s0, aW, hm⟩ := bnd hm
 refine lD (σ := (Int)) ([2,3,4] ++ rg 15 22) [0] (fun i0 => [(15, .int .i64 (i0 : Int))]) (fun t0 => [(3, .int .i64 t0)]) (fun _ => []) (fun _ => True) (fun i0 t0 => Jb9 (s.drop i0) i0 t0 = some s0) (fun t0 => s0 = Fl.go t0) (fun i0 => s.length - i0) 0 _ aW (And.intro qe (And.intro ?_ ?_))
 clear aW
 rintro i0 ac _ aW j0
 conv at aW => whnf
 refine qac rfl ?_
 refine qaf ?_ ?_ <;> intro w0
 obtain ⟨e0, aZ, bg⟩ := ltx w0
 rw [bg, Jb9.eq_2] at aW
 refine qam rfl ?_
 refine qaj rfl ?_
 refine qa0 rfl (nn _) aZ ?_
 obtain ⟨bh, aY, aW⟩ := bnd aW
 refine cS aY (fun aV aY => ?_) fun aV aY => ?_
 refine ct aV (ct aV (ct aV (ct aV (qac rfl (cT ?_)))))
 replace aW := ift (si aY).symm aW
 exact eE (er aW hm)
 refine cf aV (cf aV (qa0 rfl (nn _) aZ (cf aV (cf aV (qac rfl ?_)))))
 refine qaf ?_ ?_ <;> intro a6
 replace aW := ift ((si aY).symm.trans a6) aW
 exact eE (er aW hm)
 replace aW := qbd ((si aY).symm.trans a6) aW
 obtain ⟨a8, aW⟩ := qax aW
 refine qan a8 (qa0 rfl (nn _) aZ (qj7 (x := e0) (y := (48 : UInt8)) rfl rfl (qhk rfl rfl (qv5 (e0 - (48 : UInt8))) ?_)))
 obtain ⟨ba, aW⟩ := qax aW
 refine qan ba (qan (qbu aZ bc) ?_)
 exact eR aW (_, _)
 rw [lty w0, Jb9.eq_1] at aW
 refine cT ?_
 exact eM aW _
 rintro t0 _ rfl j0
 replace hm := elg hm
 exact eE hm

def Jd0 (name : Str) (x : Jk) (Aq : J5) : Option (Jk × Bool) :=
  if (decide (name = ([112, 97, 114, 116] : Str)) || decide (name = ([116, 101, 120, 116] : Str))) then
  if decide (x.kind ≠ 2) then
  some ((⟨0, 0, ([] : Str), false⟩ : Jk), false)
  else
  if decide (name = ([116, 101, 120, 116] : Str)) then
  (qol x.n).bind fun bm =>
  (Jbf bm).bind fun bn =>
  some (bn, true)
  else
  (Jc2 Aq.Ae).bind fun aZ =>
  if (decide (x.n < 0) || decide (x.n ≥ (aZ.length : Int))) then
  (Jbf ([] : Str)).bind fun a8 =>
  some (a8, true)
  else
  (ix aZ x.n).bind fun bf =>
  (Jbf bf).bind fun bo =>
  some (bo, true)
  else
  if decide (x.kind ≠ 1) then
  some ((⟨0, 0, ([] : Str), false⟩ : Jk), false)
  else
  if decide (name = ([104, 101, 97, 100, 101, 114] : Str)) then
  (Jd5 Aq.Ao x.s).bind fun a6 =>
  (Jbf a6.1).bind fun ba =>
  some (ba, true)
  else
  if decide (name = ([104, 97, 115] : Str)) then
  (Jd5 Aq.Ao x.s).bind fun bg =>
  (Jbw bg.2).bind fun bj =>
  some (bj, true)
  else
  if decide (name = ([97, 114, 103] : Str)) then
  (JdZ (⟨([] : Str), ([] : Str), Aq.Af, true⟩ : Ju) x.s).bind fun bh =>
  (Jbf bh.1).bind fun bc =>
  some (bc, true)
  else
  if decide (name = ([108, 101, 110] : Str)) then
  (Jcd (x.s.length : Int)).bind fun bb =>
  some (bb, true)
  else
  if decide (name = ([108, 111, 119, 101, 114] : Str)) then
  (JdR x.s).bind fun aW =>
  (Jbf aW).bind fun aX =>
  some (aX, true)
  else
  (JdC x.s).bind fun aV =>
  (Jcd aV).bind fun aY =>
  some (aY, true)
theorem Jex {name : Str} {x : Jk} {Aq : J5} {ar : Option Addr} {au : Nat} {K : Hp} {r : Jk × Bool}
    (hm : Jd0 name x Aq = some r) (hX : RdC Jc.enc K ar au 2 Aq.Ao ∧ GG K) :
    Fn Tryz.prog 112 [str name, .agg #[.int .i64 x.kind, .int .i64 x.n, str x.s, .bool x.As], .agg #[str Aq.Am, str Aq.An, str Aq.Ae, str Aq.Af, .slice ar Aq.Ao.length au]] K [] (fun v K' H' => v = .tuple #[.agg #[.int .i64 r.1.kind, .int .i64 r.1.n, str r.1.s, .bool r.1.As], .bool r.2] ∧ H' = []) := by
 obtain ⟨bh, hG⟩ := hX
 refine Fn.enter Tryz.func112 Tryz.call112 rfl fun F => ?_
 unfold Jd0 at hm
 refine qar ?_
 intro b4
 refine qar ?_
 intro b5
 refine qai rfl fun b6 => ?_
 refine jR (σ := Unit) (rg 15 6) (fun _ => [(20, .bool (decide (name = ([112, 97, 114, 116] : Str)) || decide (name = ([116, 101, 120, 116] : Str))))]) (fun bC => True) ?_ ?_
 refine qaj rfl ?_
 refine qaq ?_
 refine qaf ?_ ?_ <;> intro aW
 refine ct aW (ct aW ?_)
 exact eMt () ⟨bq (((qco aW)).symm), trivial⟩
 refine cf aW (qaq (cf aW ?_))
 exact eMt () ⟨bq (qid (b := decide (name = ([116, 101, 120, 116] : Str))) aW), trivial⟩
 rintro _ _ bH
 refine cs rfl rfl hm ?_ ?_ <;> intro bW hm
 refine fa rfl (ro (ld r2 rfl rfl (qbb ?_)))
 refine cs rfl rfl hm ?_ ?_ <;> intro bR hm
 refine qak rfl rfl ?_
 refine qaa r0 rfl ⟨rfl, rfl, (nl rfl), ?_⟩
 exact ro (qab r0 rfl (nl rfl) (eE hm))
 refine qaq (cs rfl rfl hm ?_ ?_) <;> intro bV hm
 refine fa rfl (ro (ld r2 rfl rfl ?_))
 refine cb hm fun bZ bu hm => cg0 (qm6 bu (gg4 hG)) ?_
 refine cb hm fun bU bw hm => cg0 (JaU bw :) ?_
 refine qaa r0 rfl ⟨rfl, rfl, (nl rfl), ?_⟩
 exact ro (qab r0 rfl (nl rfl) (eE hm))
 refine fa rfl (ro (ld r1 rfl rfl ?_))
 refine cb hm fun bc bK hm => ckx (JdY bK :) ?_
 rintro _ _ _ ⟨bb, bg, rfl, aX, rfl⟩
 refine jR (σ := Unit) (rg 34 10) (fun _ => [(43, .bool (decide (x.n < 0) || decide (x.n ≥ (bc.length : Int))))]) (fun bo => True) ?_ ?_
 refine qaj rfl ?_
 refine fa rfl (ro (ld r3 rfl rfl ?_))
 refine qaf ?_ ?_ <;> intro aV
 refine ct aV (ct aV (ct aV (ct aV (ct aV ?_))))
 exact eMt () ⟨bq (((qco aV)).symm), trivial⟩
 refine fa rfl (cf aV (ro (ld r3 rfl rfl (cf aV (cf aV (ro (qal rfl (cf aV (cf aV ?_)))))))))
 exact eMt () ⟨bq (qid (b := decide (x.n ≥ (bc.length : Int))) aV), trivial⟩
 rintro _ _ bt
 refine cs rfl rfl hm ?_ ?_ <;> intro bO hm
 refine cb hm fun cj bz hm => cg0 (JaU bz :) ?_
 refine qaa r1 rfl ⟨rfl, rfl, (nl rfl), ?_⟩
 exact ro (qab r0 rfl (nl rfl) (eE hm))
 refine fa rfl (ro (ld r3 rfl rfl ?_))
 obtain ⟨cn, bf, a8, hm⟩ := ixb hm
 refine RStep.ofN (qae rfl rfl (qcz aX a8) bf (qaw rfl bf a8) (ro (qb2 (i := (x.n).toNat) (o := 0) r0 rfl a8 rfl rfl ?_)))
 refine cb hm fun ca bJ hm => cg0 (JaU bJ :) ?_
 refine qaa r1 rfl ⟨rfl, rfl, (nl rfl), ?_⟩
 exact ro (qab r0 rfl (nl rfl) (eE hm))
 refine fa rfl (ro (ld r2 rfl rfl (qbb ?_)))
 refine cs rfl rfl hm ?_ ?_ <;> intro bQ hm
 refine qak rfl rfl ?_
 refine qaa r0 rfl ⟨rfl, rfl, (nl rfl), ?_⟩
 exact ro (qab r0 rfl (nl rfl) (eE hm))
 refine qam rfl ?_
 refine qaq (cs rfl rfl hm ?_ ?_) <;> intro bL hm
 refine fa rfl (ro (ld r1 rfl rfl (fa rfl (ro (ld r2 rfl rfl ?_)))))
 refine cb hm fun bM bj hm => cgx (Jel bj :) ?_
 refine cb hm fun bX bm hm => cg0 (JaU bm :) ?_
 refine qaa r0 rfl ⟨rfl, rfl, (nl rfl), ?_⟩
 exact ro (qab r0 rfl (nl rfl) (eE hm))
 refine qaq (cs rfl rfl hm ?_ ?_) <;> intro bP hm
 refine fa rfl (ro (ld r1 rfl rfl (fa rfl (ro (ld r2 rfl rfl ?_)))))
 refine cb hm fun bY bA hm => cgx (Jel bA :) ?_
 refine cb hm fun bT bG hm => cg0 (Jbg bG :) ?_
 refine qaa r0 rfl ⟨rfl, rfl, (nl rfl), ?_⟩
 exact ro (qab r0 rfl (nl rfl) (eE hm))
 refine qaq (cs rfl rfl hm ?_ ?_) <;> intro cd hm
 refine fa rfl (ro (ld r1 rfl rfl (qak rfl rfl (cT (cT (fa rfl (ro (ld r2 rfl rfl ?_))))))))
 refine cb hm fun cp bn hm => cgx (Jew bn :) ?_
 refine cb hm fun cm bI hm => cg0 (JaU bI :) ?_
 refine qaa r0 rfl ⟨rfl, rfl, (nl rfl), ?_⟩
 exact ro (qab r0 rfl (nl rfl) (eE hm))
 refine qaq (cs rfl rfl hm ?_ ?_) <;> intro ce hm
 refine fa rfl (ro (ld r2 rfl rfl (ro (qa4 rfl ?_))))
 refine cb hm fun bN bD hm => cg0 (JbR bD :) ?_
 refine qaa r0 rfl ⟨rfl, rfl, (nl rfl), ?_⟩
 exact ro (qab r0 rfl (nl rfl) (eE hm))
 refine qaq (cs rfl rfl hm ?_ ?_) <;> intro bS hm
 refine fa rfl (ro (ld r2 rfl rfl ?_))
 refine cb hm fun bp aY hm => cg0 (Jet aY :) ?_
 refine cb hm fun bv ba hm => cg0 (JaU ba :) ?_
 refine qaa r0 rfl ⟨rfl, rfl, (nl rfl), ?_⟩
 exact ro (qab r0 rfl (nl rfl) (eE hm))
 refine fa rfl (ro (ld r2 rfl rfl ?_))
 refine cb hm fun bB aZ hm => cg0 (Jep aZ :) ?_
 refine cb hm fun bF a6 hm => cg0 (JbR a6 :) ?_
 refine qaa r0 rfl ⟨rfl, rfl, (nl rfl), ?_⟩
 exact ro (qab r0 rfl (nl rfl) (eE hm))

def Jdp (a : Int) (b : Int) : Option (Jk) :=
  if (decide (a = 0) || decide (b = 0)) then
  (Jcd 0).bind fun aX =>
  some aX
  else
  (chk (InI (-a))).bind fun _ =>
  (chk (InI (-b))).bind fun _ =>
  (chk ((max b (-b)) ≠ 0 ∧ InI (Int.tdiv 1099511627776 (max b (-b))))).bind fun _ =>
  ((if decide ((max a (-a)) > (Int.tdiv 1099511627776 (max b (-b)))) then
  some (1099511627776, 1)
  else
  some ((max a (-a)), (max b (-b))) : Option (Int × Int))).bind fun aV =>
  if (!((decide (a < 0)) == (decide (b < 0)))) then
  (chk (InI (-aV.1))).bind fun _ =>
  (chk (InI ((-aV.1) * aV.2))).bind fun _ =>
  (Jcd ((-aV.1) * aV.2)).bind fun aY =>
  some aY
  else
  (chk (InI (aV.1 * aV.2))).bind fun _ =>
  (Jcd (aV.1 * aV.2)).bind fun aW =>
  some aW
theorem Jeg {a : Int} {b : Int} {K : Hp} {r : Jk}
    (hm : Jdp a b = some r)  :
    Fn Tryz.prog 161 [.int .i64 a, .int .i64 b] K [] (fun v K' H' => v = .agg #[.int .i64 r.kind, .int .i64 r.n, str r.s, .bool r.As] ∧ H' = []) := by
 refine Fn.enter Tryz.func161 Tryz.call161 rfl fun F => ?_
 unfold Jdp at hm
 refine qai rfl fun b4 => ?_
 refine jR (σ := Unit) (rg 8 6) (fun _ => [(13, .bool (decide (a = 0) || decide (b = 0)))]) (fun ba => True) ?_ ?_
 refine qaj rfl ?_
 refine qag ?_
 refine qaf ?_ ?_ <;> intro aV
 refine ct aV (ct aV ?_)
 exact eMt () ⟨bq (((qco aV)).symm), trivial⟩
 refine cf aV (qag (cf aV ?_))
 exact eMt () ⟨bq (qid (b := decide (b = 0)) aV), trivial⟩
 rintro _ _ bg
 refine cs rfl rfl hm ?_ ?_ <;> intro bo hm
 refine cb hm fun bt bh hm => cg0 (JbR bh :) ?_
 refine qaa r0 rfl ⟨rfl, rfl, (nl rfl), ?_⟩
 exact ro (qab r0 rfl (nl rfl) (eE hm))
 refine qnf rfl ?_
 obtain ⟨a8, hm⟩ := qax hm
 refine qo6 a8 ?_
 refine ro (qcl ?_)
 obtain ⟨bb, hm⟩ := qax hm
 refine qo6 bb ?_
 refine ro (qcl ?_)
 obtain ⟨aZ, hm⟩ := qax hm
 refine qpc aZ.1 aZ.2 ?_
 obtain ⟨aY, aW, hm⟩ := bnd hm
 refine jD (σ := (Int × Int)) [6,7] [0, 1] (fun aX => [(6, .int .i64 aX.1), (7, .int .i64 aX.2)]) (fun aX => []) (fun aX => aX = aY) (And.intro ?_ ?_)
 refine cs rfl rfl aW ?_ ?_ <;> intro bm aW
 exact eM aW _
 exact eM aW _
 rintro aX rfl bc
 refine cs rfl rfl hm ?_ ?_ <;> intro bp hm
 obtain ⟨bf, hm⟩ := qax hm
 refine qo6 bf ?_
 refine ci hm fun hm => ?_
 refine cb hm fun bn bj hm => cg0 (JbR bj :) ?_
 refine qaa r0 rfl ⟨rfl, rfl, (nl rfl), ?_⟩
 exact ro (qab r0 rfl (nl rfl) (eE hm))
 refine ci hm fun hm => ?_
 refine cb hm fun bu a6 hm => cg0 (JbR a6 :) ?_
 refine qaa r0 rfl ⟨rfl, rfl, (nl rfl), ?_⟩
 exact ro (qab r0 rfl (nl rfl) (eE hm))

def Jbx (s : Str) (suffix : Str) : Option (Bool) :=
  (if decide ((s.length : Int) ≥ (suffix.length : Int)) then (chk (InI ((s.length : Int) - (suffix.length : Int)))).bind fun _ =>
  (chk (0 ≤ ((s.length : Int) - (suffix.length : Int)) ∧ ((s.length : Int) - (suffix.length : Int)) ≤ (s.length : Int) ∧ (s.length : Int) ≤ (s.length : Int))).bind fun _ =>
  some (decide ((subL s ((s.length : Int) - (suffix.length : Int)) (s.length : Int)) = suffix)) else some false).bind fun aV =>
  some aV
theorem JcP {s : Str} {suffix : Str} {K : Hp} {r : Bool}
    (hm : Jbx s suffix = some r)  :
    Fn Tryz.prog 215 [str s, str suffix] K [] (fun v K' H' => v = .bool r ∧ H' = []) := by
 refine Fn.enter Tryz.func215 Tryz.call215 rfl fun F => ?_
 unfold Jbx at hm
 refine qaj rfl ?_
 refine ro (qa4 rfl (ro (qa4 rfl ?_)))
 obtain ⟨aZ, aW, hm⟩ := bnd hm
 refine cS aW (fun aV aW => ?_) fun aV aW => ?_
 refine ct aV (ct aV (ro (qa4 rfl (ct aV (ct aV (ro (qa4 rfl (ct aV ?_))))))))
 obtain ⟨aX, aW⟩ := qax aW
 refine qan aX (ct aV ?_)
 obtain ⟨aY, aW⟩ := qax aW
 refine RStep.ofN (qek (lo := (some ((s.length : Int) - (suffix.length : Int)))) (hi := none) rfl aY (ct aV (ct aV (qaq (ct aV ?_)))))
 exact bE (si aW) (eE hm)
 refine cf aV (cf aV (cf aV (cf aV (cf aV (cf aV (cf aV (cf aV ?_)))))))
 refine cf aV ?_
 exact bE (si aW) (eE hm)

def JcV (s : Str) (suffix : Str) : Option (Bool) :=
  (Jbx s suffix).bind fun x7 =>
  some x7
theorem JdW {s : Str} {suffix : Str} {K : Hp} {r : Bool}
    (hm : JcV s suffix = some r)  :
    Fn Tryz.prog 162 [str s, str suffix] K [] (fun v K' H' => v = .bool r ∧ H' = []) := by
 refine Fn.enter Tryz.func162 Tryz.call162 rfl fun F => ?_
 unfold JcV at hm
 refine cb hm fun x7 q7 hm => cg0 (JcP q7 :) ?_
 exact eE hm

def Jdq (op : Str) (a : Jk) (b : Jk) : Option (Jk × Bool) :=
  if decide (a.kind ≠ b.kind) then
  some ((⟨0, 0, ([] : Str), false⟩ : Jk), false)
  else
  if decide (op = ([43] : Str)) then
  if decide (a.kind = 1) then
  (chk (a.s.length + b.s.length ≤ lim)).bind fun _ =>
  (Jbf (a.s ++ b.s)).bind fun bc =>
  some (bc, true)
  else
  (chk (InI (a.n + b.n))).bind fun _ =>
  (Jcd (a.n + b.n)).bind fun a8 =>
  some (a8, decide (a.kind = 2))
  else
  if decide (op = ([45] : Str)) then
  (chk (InI (a.n - b.n))).bind fun _ =>
  (Jcd (a.n - b.n)).bind fun bb =>
  some (bb, decide (a.kind = 2))
  else
  if decide (op = ([42] : Str)) then
  if (!decide (a.kind = 2)) then
  some ((⟨0, 0, ([] : Str), false⟩ : Jk), false)
  else
  (Jdp a.n b.n).bind fun a6 =>
  some (a6, true)
  else
  if decide (op = ([61, 61] : Str)) then
  (Jbw (decide (a.kind = b.kind) && (decide (a.n = b.n) && (decide (a.s = b.s) && (a.As == b.As))))).bind fun aZ =>
  some (aZ, true)
  else
  if decide (op = ([33, 61] : Str)) then
  (Jbw (!(decide (a.kind = b.kind) && (decide (a.n = b.n) && (decide (a.s = b.s) && (a.As == b.As)))))).bind fun bj =>
  some (bj, true)
  else
  if decide (op = ([60] : Str)) then
  (Jbw (decide (a.n < b.n))).bind fun ba =>
  some (ba, decide (a.kind = 2))
  else
  if decide (op = ([60, 61] : Str)) then
  (Jbw (decide (a.n ≤ b.n))).bind fun bf =>
  some (bf, decide (a.kind = 2))
  else
  if decide (op = ([115, 116, 97, 114, 116, 115] : Str)) then
  (JaB a.s b.s).bind fun bg =>
  (Jbw bg).bind fun bh =>
  some (bh, decide (a.kind = 1))
  else
  if decide (op = ([101, 110, 100, 115] : Str)) then
  (JcV a.s b.s).bind fun aW =>
  (Jbw aW).bind fun aY =>
  some (aY, decide (a.kind = 1))
  else
  (qf7 a.s b.s).bind fun aX =>
  (Jbw aX).bind fun aV =>
  some (aV, decide (a.kind = 1))
theorem Jeh {op : Str} {a : Jk} {b : Jk} {K : Hp} {r : Jk × Bool}
    (hm : Jdq op a b = some r) (hG : GG K) :
    Fn Tryz.prog 113 [str op, .agg #[.int .i64 a.kind, .int .i64 a.n, str a.s, .bool a.As], .agg #[.int .i64 b.kind, .int .i64 b.n, str b.s, .bool b.As]] K [] (fun v K' H' => v = .tuple #[.agg #[.int .i64 r.1.kind, .int .i64 r.1.n, str r.1.s, .bool r.1.As], .bool r.2] ∧ H' = []) := by
 refine Fn.enter Tryz.func113 Tryz.call113 rfl fun F => ?_
 unfold Jdq at hm
 refine qar ?_
 intro b4
 refine qar ?_
 intro b5
 refine qai rfl fun b6 => ?_
 refine fa rfl (ro (ld r2 rfl rfl (fa rfl (ro (ld r1 rfl rfl (qbb ?_))))))
 refine cs rfl rfl hm ?_ ?_ <;> intro bN hm
 refine qak rfl rfl ?_
 refine qaa r0 rfl ⟨rfl, rfl, (nl rfl), ?_⟩
 exact ro (qab r0 rfl (nl rfl) (eE hm))
 refine qba ⟨⟨[], false⟩, _, [(_, _)], []⟩ (by kernel_rfl) ⟨Hp.Le.refl _, (sc [2] rfl), ci0⟩ ?_
 refine fa rfl (qap m0 rfl rfl (qag (fa rfl (qap m0 rfl rfl (qag ?_)))))
 refine qam rfl ?_
 refine qaq (cs rfl rfl hm ?_ ?_) <;> intro bD hm
 refine cs rfl rfl hm ?_ ?_ <;> intro bH hm
 refine fa rfl (ro (ld r2 rfl rfl (fa rfl (ro (ld r1 rfl rfl ?_)))))
 obtain ⟨bh, hm⟩ := qax hm
 refine qby bh ?_
 refine cb hm fun bB bf hm => cg0 (JaU bf :) ?_
 refine qaa r0 rfl ⟨rfl, rfl, (nl rfl), ?_⟩
 exact ro (qab r0 rfl (nl rfl) (eE hm))
 refine fa rfl (ro (ld r2 rfl rfl (fa rfl (ro (ld r1 rfl rfl ?_)))))
 refine ci hm fun hm => ?_
 refine cb hm fun bL bm hm => cg0 (JbR bm :) ?_
 refine qaa r0 rfl ⟨rfl, rfl, (nl rfl), ?_⟩
 exact ro (qab r0 rfl (nl rfl) (eE hm))
 refine qaq (cs rfl rfl hm ?_ ?_) <;> intro bJ hm
 refine fa rfl (ro (ld r2 rfl rfl (fa rfl (ro (ld r1 rfl rfl ?_)))))
 refine ci hm fun hm => ?_
 refine cb hm fun bA bc hm => cg0 (JbR bc :) ?_
 refine qaa r0 rfl ⟨rfl, rfl, (nl rfl), ?_⟩
 exact ro (qab r0 rfl (nl rfl) (eE hm))
 refine qaq (cs rfl rfl hm ?_ ?_) <;> intro bw hm
 refine qav ?_
 refine cs rfl rfl hm ?_ ?_ <;> intro bR hm
 refine qak rfl rfl ?_
 refine qaa r0 rfl ⟨rfl, rfl, (nl rfl), ?_⟩
 exact ro (qab r0 rfl (nl rfl) (eE hm))
 refine fa rfl (ro (ld r2 rfl rfl (fa rfl (ro (ld r1 rfl rfl ?_)))))
 refine cb hm fun bF aZ hm => cg0 (Jeg aZ :) ?_
 refine qaa r0 rfl ⟨rfl, rfl, (nl rfl), ?_⟩
 exact ro (qab r0 rfl (nl rfl) (eE hm))
 refine qaq (cs rfl rfl hm ?_ ?_) <;> intro bK hm
 refine ro (qab r2 rfl (nl rfl) (ro (qab r1 rfl (nl rfl) ?_)))
 refine qpu (b := (decide (a.kind = b.kind) && (decide (a.n = b.n) && (decide (a.s = b.s) && (a.As == b.As))))) rfl (by kernel_rfl) (by kernel_rfl) (by kernel_rfl) rfl ?_
 refine cb hm fun bu bb hm => cg0 (Jbg bb :) ?_
 refine qaa r0 rfl ⟨rfl, rfl, (nl rfl), ?_⟩
 exact ro (qab r0 rfl (nl rfl) (eE hm))
 refine qaq (cs rfl rfl hm ?_ ?_) <;> intro bz hm
 refine ro (qab r2 rfl (nl rfl) (ro (qab r1 rfl (nl rfl) ?_)))
 refine qt3 (b := (decide (a.kind = b.kind) && (decide (a.n = b.n) && (decide (a.s = b.s) && (a.As == b.As))))) rfl (by kernel_rfl) (by kernel_rfl) (by kernel_rfl) rfl ?_
 refine cb hm fun bO bn hm => cg0 (Jbg bn :) ?_
 refine qaa r0 rfl ⟨rfl, rfl, (nl rfl), ?_⟩
 exact ro (qab r0 rfl (nl rfl) (eE hm))
 refine qaq (cs rfl rfl hm ?_ ?_) <;> intro bG hm
 refine fa rfl (ro (ld r2 rfl rfl (fa rfl (ro (ld r1 rfl rfl ?_)))))
 refine cb hm fun bP bo hm => cg0 (Jbg bo :) ?_
 refine qaa r0 rfl ⟨rfl, rfl, (nl rfl), ?_⟩
 exact ro (qab r0 rfl (nl rfl) (eE hm))
 refine qaq (cs rfl rfl hm ?_ ?_) <;> intro bv hm
 refine fa rfl (ro (ld r2 rfl rfl (fa rfl (ro (ld r1 rfl rfl ?_)))))
 refine cb hm fun bS bp hm => cg0 (Jbg bp :) ?_
 refine qaa r0 rfl ⟨rfl, rfl, (nl rfl), ?_⟩
 exact ro (qab r0 rfl (nl rfl) (eE hm))
 refine qaq (cs rfl rfl hm ?_ ?_) <;> intro bI hm
 refine fa rfl (ro (ld r2 rfl rfl (fa rfl (ro (ld r1 rfl rfl ?_)))))
 refine cb hm fun bM ba hm => cg0 (Jbh ba :) ?_
 refine cb hm fun bQ a6 hm => cg0 (Jbg a6 :) ?_
 refine qaa r0 rfl ⟨rfl, rfl, (nl rfl), ?_⟩
 exact ro (qab r0 rfl (nl rfl) (eE hm))
 refine qaq (cs rfl rfl hm ?_ ?_) <;> intro bC hm
 refine fa rfl (ro (ld r2 rfl rfl (fa rfl (ro (ld r1 rfl rfl ?_)))))
 refine cb hm fun bg aV hm => cg0 (JdW aV :) ?_
 refine cb hm fun bj aW hm => cg0 (Jbg aW :) ?_
 refine qaa r0 rfl ⟨rfl, rfl, (nl rfl), ?_⟩
 exact ro (qab r0 rfl (nl rfl) (eE hm))
 refine fa rfl (ro (ld r2 rfl rfl (fa rfl (ro (ld r1 rfl rfl ?_)))))
 refine cb hm fun bt aX hm => cg0 (qm7 aX (gg0 hG)) ?_
 refine cb hm fun a8 aY hm => cg0 (Jbg aY :) ?_
 refine qaa r0 rfl ⟨rfl, rfl, (nl rfl), ?_⟩
 exact ro (qab r0 rfl (nl rfl) (eE hm))

def qec (c : UInt8) : Option (Bool) :=
  if (decide ((c.toNat : Int) ≥ 48) && decide ((c.toNat : Int) ≤ 57)) then
  some true
  else
  if (decide ((c.toNat : Int) ≥ 97) && decide ((c.toNat : Int) ≤ 122)) then
  some true
  else
  if (decide ((c.toNat : Int) ≥ 65) && decide ((c.toNat : Int) ≤ 90)) then
  some true
  else
  (qil ([33, 35, 36, 37, 38, 39, 42, 43, 45, 46, 94, 95, 96, 124, 126] : Str) c).bind fun aV =>
  some (decide (aV ≥ 0))
theorem qhv {c : UInt8} {K : Hp} {r : Bool}
    (hm : qec c = some r)  :
    Fn Tryz.prog 219 [.int .u8 (c.toNat : Int)] K [] (fun v K' H' => v = .bool r ∧ H' = []) := by
 refine Fn.enter Tryz.func219 Tryz.call219 rfl fun F => ?_
 unfold qec at hm
 refine qam rfl ?_
 refine jR (σ := Unit) (rg 3 7) (fun _ => [(3, .bool (decide ((c.toNat : Int) ≥ 48) && decide ((c.toNat : Int) ≤ 57)))]) (fun a6 => True) ?_ ?_
 refine qaj rfl ?_
 refine qaf ?_ ?_ <;> intro aX
 refine ct aX (ct aX ?_)
 exact eMt () ⟨bq (qc8 (b := decide ((c.toNat : Int) ≤ 57)) aX), trivial⟩
 refine cf aX (cf aX ?_)
 exact eMt () ⟨bq (((qbh aX)).symm), trivial⟩
 rintro _ _ a8
 refine cs rfl rfl hm ?_ ?_ <;> intro w3 hm
 refine qac rfl (ct w3 ?_)
 exact eE hm
 refine qaj rfl ?_
 refine qaf ?_ ?_ <;> intro aW
 refine ct aW (ct aW (qac rfl ?_))
 refine qaf ?_ ?_ <;> intro w3
 replace hm := ift (qc1 aW w3) hm
 refine qac rfl (ct w3 ?_)
 exact eE hm
 replace hm := qbd (qc2 aW w3) hm
 refine qaj rfl ?_
 refine qaf ?_ ?_ <;> intro aV
 refine ct aV (ct aV (qac rfl ?_))
 refine qaf ?_ ?_ <;> intro w3
 replace hm := ift (qc1 aV w3) hm
 exact eE hm
 replace hm := qbd (qc2 aV w3) hm
 refine cb hm fun aZ aY hm => cg0 (qly aY) ?_
 exact eE hm
 refine cf aV (cf aV (qac rfl (cF ?_)))
 replace hm := qbd (qbh aV) hm
 refine cb hm fun aZ aY hm => cg0 (qly aY) ?_
 exact eE hm
 refine cf aW (cf aW (qac rfl (cF ?_)))
 replace hm := qbd (qbh aW) hm
 refine qaj rfl ?_
 refine qaf ?_ ?_ <;> intro aV
 refine ct aV (ct aV (qac rfl ?_))
 refine qaf ?_ ?_ <;> intro w3
 replace hm := ift (qc1 aV w3) hm
 exact eE hm
 replace hm := qbd (qc2 aV w3) hm
 refine cb hm fun aZ aY hm => cg0 (qly aY) ?_
 exact eE hm
 refine cf aV (cf aV (qac rfl (cF ?_)))
 replace hm := qbd (qbh aV) hm
 refine cb hm fun aZ aY hm => cg0 (qly aY) ?_
 exact eE hm

def syntax_Token_L0 : List UInt8 → Nat → Option (Fl (Bool) (Unit))
  | [], _ => some (Fl.go ())
  | e0 :: aW, i0 =>
    (qec e0).bind fun aV =>
    if (!aV) then
    some (Fl.ret false)
    else
    syntax_Token_L0 aW (i0 + 1)
def qed (s : Str) : Option (Bool) :=
  (chk (s.length ≤ qa1)).bind fun _ =>
  (syntax_Token_L0 s 0).bind fun s0 => s0.el some fun t0 =>
  some (decide (s ≠ ([] : Str)))
theorem qhw {s : Str} {K : Hp} {r : Bool}
    (hm : qed s = some r)  :
    Fn Tryz.prog 180 [str s] K [] (fun v K' H' => v = .bool r ∧ H' = []) := by
 refine Fn.enter Tryz.func180 Tryz.call180 rfl fun F => ?_
 unfold qed at hm
 refine ro (qa4 rfl ?_)
 obtain ⟨aY, hm⟩ := qax hm
 obtain ⟨s0, aV, hm⟩ := bnd hm
 refine lD (σ := (Unit)) ([2,3] ++ rg 6 9) [0] (fun i0 => [(6, .int .i64 (i0 : Int))]) (fun _ => []) (fun _ => []) (fun _ => True) (fun i0 _ => syntax_Token_L0 (s.drop i0) i0 = some s0) (fun t0 => s0 = Fl.go t0) (fun i0 => s.length - i0) 0 () aV (And.intro qe (And.intro ?_ ?_))
 clear aV
 rintro i0 _ _ aV j0
 conv at aV => whnf
 refine qac rfl ?_
 refine qaf ?_ ?_ <;> intro w0
 obtain ⟨e0, aW, aZ⟩ := ltx w0
 rw [aZ, syntax_Token_L0.eq_2] at aV
 refine qam rfl ?_
 refine qa0 rfl (nn _) aW ?_
 refine cb aV fun a6 aX aV => cg0 (qhv aX :) ?_
 refine qav ?_
 refine cs rfl rfl aV ?_ ?_ <;> intro a8 aV
 exact eE (er aV hm)
 refine qan (qbu aW aY) ?_
 exact eR aV (_, ())
 rw [lty w0, syntax_Token_L0.eq_1] at aV
 refine cT ?_
 exact eM aV _
 rintro t0 _ rfl j0
 replace hm := elg hm
 refine qbq ?_
 exact eE hm

def Jei (s : Str) : Option (Str × Err) :=
  (qed s).bind fun x5 =>
  if (!x5) then
  some (([] : Str), (some 8))
  else
  if decide ((s.length : Int) > 64) then
  some (([] : Str), (some 5))
  else
  (JbK s).bind fun aV =>
  some (aV, none)
theorem JeB {s : Str} {K : Hp} {r : Str × Err}
    (hm : Jei s = some r)  :
    Fn Tryz.prog 137 [str s] K [] (fun v K' H' => v = .tuple #[str r.1, qc3 48 r.2] ∧ H' = []) := by
 refine Fn.enter Tryz.func137 Tryz.call137 rfl fun F => ?_
 unfold Jei at hm
 refine cb hm fun x5 q5 hm => cg0 (qhw q5 :) ?_
 refine qav ?_
 refine cs rfl rfl hm ?_ ?_ <;> intro w6 hm
 refine qas rfl ?_
 exact eE hm
 refine ro (qa4 rfl ?_)
 refine cs rfl rfl hm ?_ ?_ <;> intro aX hm
 refine qas rfl ?_
 exact eE hm
 refine cb hm fun aW aV hm => cg0 (Jbs aV :) ?_
 exact eE hm

def Jca : List UInt8 → Nat → Option (Fl (Bool) (Unit))
  | [], _ => some (Fl.go ())
  | e0 :: aX, i0 =>
    (if decide ((e0.toNat : Int) < 32) then some (decide ((e0.toNat : Int) ≠ 9)) else some false).bind fun aV =>
    (if aV then some true else some (decide ((e0.toNat : Int) = 127))).bind fun aW =>
    if aW then
    some (Fl.ret true)
    else
    Jca aX (i0 + 1)
def JdD (s : Str) : Option (Bool) :=
  (chk (s.length ≤ qa1)).bind fun _ =>
  (Jca s 0).bind fun s0 => s0.el some fun t0 =>
  some false
theorem Jeq {s : Str} {K : Hp} {r : Bool}
    (hm : JdD s = some r)  :
    Fn Tryz.prog 181 [str s] K [] (fun v K' H' => v = .bool r ∧ H' = []) := by
 refine Fn.enter Tryz.func181 Tryz.call181 rfl fun F => ?_
 unfold JdD at hm
 refine ro (qa4 rfl ?_)
 obtain ⟨ba, hm⟩ := qax hm
 obtain ⟨s0, aX, hm⟩ := bnd hm
 refine lD (σ := (Unit)) ([2,3] ++ rg 6 20) [0] (fun i0 => [(6, .int .i64 (i0 : Int))]) (fun _ => []) (fun _ => []) (fun _ => True) (fun i0 _ => Jca (s.drop i0) i0 = some s0) (fun t0 => s0 = Fl.go t0) (fun i0 => s.length - i0) 0 () aX (And.intro qe (And.intro ?_ ?_))
 clear aX
 rintro i0 _ _ aX j0
 conv at aX => whnf
 refine qac rfl ?_
 refine qaf ?_ ?_ <;> intro w0
 obtain ⟨e0, a6, bb⟩ := ltx w0
 rw [bb, Jca.eq_2] at aX
 refine qam rfl ?_
 refine qaj rfl ?_
 refine qa0 rfl (nn _) a6 ?_
 obtain ⟨bf, aZ, aX⟩ := bnd aX
 refine cS aZ (fun aW aZ => ?_) fun aW aZ => ?_
 refine ct aW (ct aW (qa0 rfl (nn _) a6 (ct aW (qbb (ct aW ?_)))))
 obtain ⟨bc, aY, aX⟩ := bnd aX
 refine qaf ?_ ?_ <;> intro aV
 replace aY := ift ((si aZ).symm.trans aV) aY
 refine ct aV (ct aV (ct aV (ct aV (qac rfl (cT ?_)))))
 replace aX := ift (si aY).symm aX
 exact eE (er aX hm)
 replace aY := qbd ((si aZ).symm.trans aV) aY
 refine cf aV (cf aV (qa0 rfl (nn _) a6 (cf aV (qag (cf aV (qac rfl ?_))))))
 refine qaf ?_ ?_ <;> intro a8
 replace aX := ift ((si aY).symm.trans a8) aX
 exact eE (er aX hm)
 replace aX := qbd ((si aY).symm.trans a8) aX
 refine qan (qbu a6 ba) ?_
 exact eR aX (_, ())
 refine cf aW (cf aW (cf aW (cf aW ?_)))
 obtain ⟨bc, aY, aX⟩ := bnd aX
 replace aY := qbd (si aZ).symm aY
 refine cF (cF (cF (qa0 rfl (nn _) a6 (cF (qag (cF (qac rfl ?_)))))))
 refine qaf ?_ ?_ <;> intro a8
 replace aX := ift ((si aY).symm.trans a8) aX
 exact eE (er aX hm)
 replace aX := qbd ((si aY).symm.trans a8) aX
 refine qan (qbu a6 ba) ?_
 exact eR aX (_, ())
 rw [lty w0, Jca.eq_1] at aX
 refine cT ?_
 exact eM aX _
 rintro t0 _ rfl j0
 replace hm := elg hm
 exact eE hm

def Jd1 (s : Str) : Option (Str × Err) :=
  (JdD s).bind fun x5 =>
  if x5 then
  some (([] : Str), (some 2))
  else
  (qmm s ([32, 9] : Str)).bind fun x8 =>
  if decide ((x8.length : Int) > 2048) then
  some (([] : Str), (some 5))
  else
  some (x8, none)
theorem Jey {s : Str} {K : Hp} {r : Str × Err}
    (hm : Jd1 s = some r)  :
    Fn Tryz.prog 138 [str s] K [] (fun v K' H' => v = .tuple #[str r.1, qc3 48 r.2] ∧ H' = []) := by
 refine Fn.enter Tryz.func138 Tryz.call138 rfl fun F => ?_
 unfold Jd1 at hm
 refine cb hm fun x5 q5 hm => cg0 (Jeq q5 :) ?_
 refine cs rfl rfl hm ?_ ?_ <;> intro w5 hm
 refine qas rfl ?_
 exact eE hm
 refine cb hm fun x8 q8 hm => cg0 (qm5 q8) ?_
 refine ro (qa4 rfl ?_)
 refine cs rfl rfl hm ?_ ?_ <;> intro aV hm
 refine qas rfl ?_
 exact eE hm
 exact eE hm

def Jcm (x12 : Str) (value : Str) : List Jc → Nat → (List Jc) → Bool → Option ((List Jc) × Bool)
  | [], _, ac, aV => some (ac, aV)
  | e0 :: aW, i0, ac, aV =>
    (JbK e0.Name).bind fun aX =>
    if decide (aX ≠ x12) then
    (chk (ac.length + [e0].length ≤ lim)).bind fun _ =>
    Jcm x12 value aW (i0 + 1) (ac ++ [e0]) aV
    else
    if (!aV) then
    (chk (ac.length + [(⟨x12, value⟩ : Jc)].length ≤ lim)).bind fun _ =>
    Jcm x12 value aW (i0 + 1) (ac ++ [(⟨x12, value⟩ : Jc)]) true
    else
    Jcm x12 value aW (i0 + 1) ac aV
def Jd6 (f : (List Jc)) (name : Str) (value : Str) : Option ((List Jc)) :=
  (JbK name).bind fun aV =>
  (chk (f.length ≤ qa1)).bind fun _ =>
  (Jcm aV value f 0 [] false).bind fun t0 =>
  if (!t0.2) then
  (chk (t0.1.length + [(⟨aV, value⟩ : Jc)].length ≤ lim)).bind fun _ =>
  some (t0.1 ++ [(⟨aV, value⟩ : Jc)])
  else
  some t0.1
theorem Jem {f : (List Jc)} {name : Str} {value : Str} {aa : Option Addr} {ab : Nat} {n0 : Nat} {K : Hp} {r : (List Jc)}
    (hm : Jd6 f name value = some r) (hX : RdC Jc.enc K aa ab 2 f ∧ n0 = f.length) :
    Fn Tryz.prog 21 [.slice aa n0 ab, str name, str value] K [] (fun v K' H' => ∃ ar_0 : Option Addr, ∃ cr_0 : Nat, v = .slice ar_0 r.length cr_0 ∧ (0 < r.length → Has ar_0) ∧ H' = [OwnL Jc.enc ar_0 41 2 cr_0 r]) := by
 obtain ⟨ae, bn⟩ := hX
 subst bn
 refine Fn.enter Tryz.func21 Tryz.call21 rfl fun F => ?_
 unfold Jd6 at hm
 refine cb hm fun aZ bj hm => cg0 (Jbs bj :) ?_
 refine ro (qal rfl ?_)
 obtain ⟨a6, hm⟩ := qax hm
 obtain ⟨s0, aX, hm⟩ := bnd hm
 refine qjd Jc.enc 41 2 ?_
 refine lD (σ := ((List Jc) × Bool) × Option Addr × Nat) ([7,8,10] ++ rg 15 24) [1] (fun i0 => [(15, .int .i64 (i0 : Int))]) (fun (t0, aV, aW) => [(7, .slice aV t0.1.length aW), (8, .bool t0.2)]) (fun (t0, aV, aW) => [OwnL Jc.enc aV 41 2 aW t0.1]) (fun (t0, aV, aW) => (0 < t0.1.length → Has aV) ∧ True) (fun i0 (t0, aV, aW) => Jcm aZ value (f.drop i0) i0 t0.1 t0.2 = some s0) (fun (t0, aV, aW) => t0 = s0) (fun i0 => f.length - i0) 0 ((_, _), _, _) aX (And.intro qe (And.intro ?_ ?_))
 clear aX
 rintro i0 ⟨⟨ac, bf⟩, bc, bb⟩ ⟨a8, _⟩ aX j0
 dsimp only at aX ⊢
 refine qac rfl ?_
 refine qaf ?_ ?_ <;> intro w0
 obtain ⟨e0, aY, bp⟩ := ltx w0
 rw [bp, Jcm.eq_2] at aX
 refine qam rfl ?_
 refine RStep.ofN (qae rfl rfl (qea ae.rd aY) (nn _) (qbp aY) (ro (qao i0 _ ae.rd rfl (mp aY) rfl ?_)))
 refine qai rfl fun bu => ?_
 refine qaa r0 rfl ⟨rfl, rfl, (nl rfl), ?_⟩
 refine qam rfl ?_
 refine fa rfl (ro (ld r0 rfl rfl ?_))
 refine cb aX fun bC bg aX => cg0 (Jbs bg :) ?_
 refine qbq (cs rfl rfl aX ?_ ?_) <;> intro bJ aX
 refine ro (qab r0 rfl (nl rfl) ?_)
 refine bsO (len := 1) (enc := Jc.enc) (l := [e0]) (cl := [str e0.Name, str e0.Value]) qhu rfl rfl (fun _ _ => rfl) rfl rfl rfl ?_ fun bA => ?_
 · conv => whnf
   refine cT ?_
   first | done | rfl
 obtain ⟨bh, aX⟩ := qax aX
 refine apE rfl r2 qhu (qaz rfl r0 rfl (fun _ => rfl) (fun _ => rfl)) bh ?_
 intro bB bD bI
 refine qan (qbu aY a6) ?_
 exact eR aX (_, (_, _), _, _)
 refine qav ?_
 refine cs rfl rfl aX ?_ ?_ <;> intro bv aX
 refine qak rfl rfl (cT (cT ?_))
 refine bsO (len := 1) (enc := Jc.enc) (l := [(⟨aZ, value⟩ : Jc)]) (cl := [str aZ, str value]) qhu rfl rfl (fun _ _ => rfl) rfl rfl rfl ?_ fun bw => ?_
 · conv => whnf
   refine cT ?_
   first | done | rfl
 obtain ⟨bo, aX⟩ := qax aX
 refine apE rfl r2 qhu (qaz rfl r0 rfl (fun _ => rfl) (fun _ => rfl)) bo ?_
 intro bH bF bL
 refine qan (qbu aY a6) ?_
 exact eR aX (_, (_, _), _, _)
 refine qan (qbu aY a6) ?_
 exact eR aX (_, (_, _), _, _)
 rw [lty w0, Jcm.eq_1] at aX
 refine cT ?_
 exact eM aX (_, _, _)
 rintro ⟨t0, aV, aW⟩ ⟨ba, _⟩ rfl j0
 refine qav ?_
 refine cs rfl rfl hm ?_ ?_ <;> intro bz hm
 refine qak rfl rfl (cT (cT ?_))
 refine bsO (len := 1) (enc := Jc.enc) (l := [(⟨aZ, value⟩ : Jc)]) (cl := [str aZ, str value]) qhu rfl rfl (fun _ _ => rfl) rfl rfl rfl ?_ fun bG => ?_
 · conv => whnf
   refine cT ?_
   first | done | rfl
 obtain ⟨bm, hm⟩ := qax hm
 refine apE rfl r1 qhu (qaz rfl r0 rfl (fun _ => rfl) (fun _ => rfl)) bm ?_
 intro bM bt bK
 exact eE hm
 exact eE hm

def Jcn (r' : Jq) (s : Str) (x : Jk) : Option (Err × Jq) :=
  (quq s ([58] : Str)).bind fun aW =>
  (Jei aW.2.1).bind fun am =>
  if am.2.isSome then
  some ((some 8), r')
  else
  if decide (aW.1 = ([118, 97, 114, 121] : Str)) then
  (JQ r'.Vary am.1).bind fun aX =>
  if (!aX) then
  (chk (r'.Vary.length + [am.1].length ≤ lim)).bind fun _ =>
  some (none, (⟨r'.Ae, r'.Af, r'.Ag, (r'.Vary ++ [am.1]), r'.Ah, r'.TTL, r'.Ai, r'.Aj, r'.Ak, r'.Al⟩ : Jq))
  else
  some (none, r')
  else
  (Jd1 x.s).bind fun aV =>
  if aV.2.isSome then
  some (aV.2, r')
  else
  (Jd6 r'.Ag am.1 aV.1).bind fun aC =>
  some (none, (⟨r'.Ae, r'.Af, aC, r'.Vary, r'.Ah, r'.TTL, r'.Ai, r'.Aj, r'.Ak, r'.Al⟩ : Jq))
theorem Jdy {r' : Jq} {s : Str} {x : Jk} {b0 : Nat} {aa : Option Addr} {ab : Nat} {ah : Option Addr} {al : Nat} {ao : Option Addr} {av : Nat} {aT : TypeId} {aM aS : List Value} {K : Hp} {r : Err × Jq}
    (hm : Jcn r' s x = some r) (hX : (0 < r'.Ag.length → Has aa) ∧ (0 < r'.Vary.length → Has ah) ∧ (0 < r'.Ah.length → Has ao) ∧ GG K) :
    Fn Tryz.prog 164 [.pointer (some ⟨b0, aM.length + 0, none⟩), str s, .agg #[.int .i64 x.kind, .int .i64 x.n, str x.s, .bool x.As]] K [qgv b0 aT aM aS [str r'.Ae, str r'.Af, .slice aa r'.Ag.length ab, .slice ah r'.Vary.length al, .slice ao r'.Ah.length av, .int .i64 r'.TTL, .int .i64 r'.Ai, .int .i64 r'.Aj, .bool r'.Ak, .bool r'.Al], OwnL Jc.enc aa 41 2 ab r'.Ag, OwnL eS ah 9 1 al r'.Vary, OwnL eS ao 9 1 av r'.Ah] (fun v K' H' => ∃ ar_0 : Option Addr, ∃ cr_0 : Nat, ∃ ar_1 : Option Addr, ∃ cr_1 : Nat, ∃ ar_2 : Option Addr, ∃ cr_2 : Nat, v = qc3 48 r.1 ∧ (0 < r.2.Ag.length → Has ar_0) ∧ (0 < r.2.Vary.length → Has ar_1) ∧ (0 < r.2.Ah.length → Has ar_2) ∧ H' = [qgv b0 aT aM aS [str r.2.Ae, str r.2.Af, .slice ar_0 r.2.Ag.length cr_0, .slice ar_1 r.2.Vary.length cr_1, .slice ar_2 r.2.Ah.length cr_2, .int .i64 r.2.TTL, .int .i64 r.2.Ai, .int .i64 r.2.Aj, .bool r.2.Ak, .bool r.2.Al], OwnL Jc.enc ar_0 41 2 cr_0 r.2.Ag, OwnL eS ar_1 9 1 cr_1 r.2.Vary, OwnL eS ar_2 9 1 cr_2 r.2.Ah]) := by
 obtain ⟨ae, bf, a6, hG⟩ := hX
 refine Fn.enter Tryz.func164 Tryz.call164 rfl fun F => ?_
 unfold Jcn at hm
 refine qar ?_
 intro b5
 refine cb hm fun bt bh hm => cg0 (qqx bh (gg0 hG)) ?_
 refine cb hm fun am bn hm => cg0 (JeB bn :) ?_
 refine qa7 rfl ?_
 refine cs rfl rfl hm ?_ ?_ <;> intro bz hm
 refine qas rfl ?_
 exact eE hm
 refine qaq (cs rfl rfl hm ?_ ?_) <;> intro bD hm
 refine qah ?_
 refine qc6 (j' := 3) rfl rfl ?_
 refine ro (ld r1 rfl (qle rfl) ?_)
 refine cb hm fun bv bj hm => ck0 (Fn.lend Tryz.call53 (fun bb aY aW => (JY (v' := am.1) bj ⟨aW, rfl⟩)) (by exact fun _ _ _ _ h => h)) ?_
 rintro _ _ _ ⟨_, rfl, rfl, rfl⟩
 refine qav ?_
 refine cs rfl rfl hm ?_ ?_ <;> intro bF hm
 refine qah ?_
 refine qc6 (j' := 3) rfl rfl ?_
 refine ro (ld r2 rfl (qle rfl) ?_)
 refine bsO (len := 1) (enc := eS) (l := [am.1]) (cl := [str am.1]) qca rfl rfl (fun _ _ => rfl) rfl rfl rfl ?_ fun bB => ?_
 · conv => whnf
   refine cT ?_
   first | done | rfl
 obtain ⟨bm, hm⟩ := qax hm
 refine apE rfl r1 qca (qaz rfl r0 rfl (fun _ => rfl) (fun _ => rfl)) bm ?_
 intro bA bC bw
 refine qah ?_
 refine qc6 (j' := 3) rfl rfl ?_
 refine qen r3 rfl ?_
 refine ⟨rfl, rfl, (nl rfl), ?_⟩
 exact eE hm
 exact eE hm
 refine fa rfl (ro (ld r0 rfl rfl ?_))
 refine cb hm fun bp bg hm => cg0 (Jey bg :) ?_
 refine qa7 rfl ?_
 refine cs rfl rfl hm ?_ ?_ <;> intro bu hm
 exact eE hm
 refine qah ?_
 refine qc6 (j' := 2) rfl rfl ?_
 refine ro (ld r1 rfl (qle rfl) ?_)
 refine cb hm fun aC bo hm => ck0 (Fn.lend Tryz.call21 (fun aX aZ aV => (Jem (name := am.1) (value := bp.1) bo ⟨aV, rfl⟩)) (by exact fun _ _ _ _ h => h)) ?_
 rintro _ _ _ ⟨_, rfl, a8, ba, rfl, bc, rfl⟩
 refine qah ?_
 refine qc6 (j' := 2) rfl rfl ?_
 refine qen r3 rfl ?_
 refine ⟨rfl, rfl, (nl rfl), ?_⟩
 exact eE hm

def JcC (r' : Jq) (s : Str) (x : Jk) : Option (Err × Jq) :=
  (((if (decide (s = ([112, 97, 115, 115] : Str)) || decide (s = ([116, 111, 107, 101, 110] : Str))) then some true else (JaB s ([118, 97, 114, 121, 58] : Str)).bind fun aZ =>
  some aZ).bind fun aW =>
  if aW then
  some 0
  else
  if (decide (s = ([116, 116, 108] : Str)) || decide (s = ([100, 101, 110, 121] : Str))) then
  some 2
  else
  some 1 : Option (Int))).bind fun aV =>
  if decide (x.kind ≠ aV) then
  some ((some 9), r')
  else
  if decide (s = ([112, 97, 116, 104] : Str)) then
  some (none, (⟨x.s, r'.Af, r'.Ag, r'.Vary, r'.Ah, r'.TTL, r'.Ai, r'.Aj, r'.Ak, r'.Al⟩ : Jq))
  else
  if decide (s = ([113, 117, 101, 114, 121] : Str)) then
  some (none, (⟨r'.Ae, x.s, r'.Ag, r'.Vary, r'.Ah, r'.TTL, r'.Ai, r'.Aj, r'.Ak, r'.Al⟩ : Jq))
  else
  if decide (s = ([116, 97, 103] : Str)) then
  (JQ r'.Ah x.s).bind fun aY =>
  if (!aY) then
  (chk (r'.Ah.length + [x.s].length ≤ lim)).bind fun _ =>
  some (none, (⟨r'.Ae, r'.Af, r'.Ag, r'.Vary, (r'.Ah ++ [x.s]), r'.TTL, r'.Ai, r'.Aj, r'.Ak, r'.Al⟩ : Jq))
  else
  some (none, r')
  else
  if decide (s = ([116, 116, 108] : Str)) then
  some (none, (⟨r'.Ae, r'.Af, r'.Ag, r'.Vary, r'.Ah, (max 0 x.n), r'.Ai, r'.Aj, r'.Ak, r'.Al⟩ : Jq))
  else
  if decide (s = ([100, 101, 110, 121] : Str)) then
  if (decide (x.n < 400) || decide (x.n > 499)) then
  some (none, (⟨r'.Ae, r'.Af, r'.Ag, r'.Vary, r'.Ah, r'.TTL, 403, r'.Aj, r'.Ak, r'.Al⟩ : Jq))
  else
  some (none, (⟨r'.Ae, r'.Af, r'.Ag, r'.Vary, r'.Ah, r'.TTL, x.n, r'.Aj, r'.Ak, r'.Al⟩ : Jq))
  else
  if decide (s = ([112, 97, 115, 115] : Str)) then
  some (none, (⟨r'.Ae, r'.Af, r'.Ag, r'.Vary, r'.Ah, r'.TTL, r'.Ai, r'.Aj, true, r'.Al⟩ : Jq))
  else
  if decide (s = ([116, 111, 107, 101, 110] : Str)) then
  some (none, (⟨r'.Ae, r'.Af, r'.Ag, r'.Vary, r'.Ah, r'.TTL, r'.Ai, r'.Aj, r'.Ak, true⟩ : Jq))
  else
  (Jcn r' s x).bind fun aX =>
  some (aX.1, aX.2)
theorem JdK {r' : Jq} {s : Str} {x : Jk} {b0 : Nat} {aa : Option Addr} {ab : Nat} {ah : Option Addr} {al : Nat} {ao : Option Addr} {av : Nat} {aT : TypeId} {aM aS : List Value} {K : Hp} {r : Err × Jq}
    (hm : JcC r' s x = some r) (hX : (0 < r'.Ag.length → Has aa) ∧ (0 < r'.Vary.length → Has ah) ∧ (0 < r'.Ah.length → Has ao) ∧ GG K) :
    Fn Tryz.prog 115 [.pointer (some ⟨b0, aM.length + 0, none⟩), str s, .agg #[.int .i64 x.kind, .int .i64 x.n, str x.s, .bool x.As]] K [qgv b0 aT aM aS [str r'.Ae, str r'.Af, .slice aa r'.Ag.length ab, .slice ah r'.Vary.length al, .slice ao r'.Ah.length av, .int .i64 r'.TTL, .int .i64 r'.Ai, .int .i64 r'.Aj, .bool r'.Ak, .bool r'.Al], OwnL Jc.enc aa 41 2 ab r'.Ag, OwnL eS ah 9 1 al r'.Vary, OwnL eS ao 9 1 av r'.Ah] (fun v K' H' => ∃ ar_0 : Option Addr, ∃ cr_0 : Nat, ∃ ar_1 : Option Addr, ∃ cr_1 : Nat, ∃ ar_2 : Option Addr, ∃ cr_2 : Nat, v = qc3 48 r.1 ∧ (0 < r.2.Ag.length → Has ar_0) ∧ (0 < r.2.Vary.length → Has ar_1) ∧ (0 < r.2.Ah.length → Has ar_2) ∧ H' = [qgv b0 aT aM aS [str r.2.Ae, str r.2.Af, .slice ar_0 r.2.Ag.length cr_0, .slice ar_1 r.2.Vary.length cr_1, .slice ar_2 r.2.Ah.length cr_2, .int .i64 r.2.TTL, .int .i64 r.2.Ai, .int .i64 r.2.Aj, .bool r.2.Ak, .bool r.2.Al], OwnL Jc.enc ar_0 41 2 cr_0 r.2.Ag, OwnL eS ar_1 9 1 cr_1 r.2.Vary, OwnL eS ar_2 9 1 cr_2 r.2.Ah]) := by
 obtain ⟨ae, bA, bo, hG⟩ := hX
 refine Fn.enter Tryz.func115 Tryz.call115 rfl fun F => ?_
 unfold JcC at hm
 refine qar ?_
 intro b5
 obtain ⟨bf, aV, hm⟩ := bnd hm
 refine jD (σ := (Int)) (rg 7 19) [0, 1, 2, 3, 4, 5] (fun ba => [(7, .int .i64 ba)]) (fun ba => []) (fun ba => ba = bf) (And.intro ?_ ?_)
 refine qam rfl ?_
 obtain ⟨bg, aX, aV⟩ := bnd aV
 refine jR (σ := Bool) (rg 8 11) (fun bb => [(8, .bool bb)]) (fun bb => bb = bg) ?_ ?_
 replace aX := bsm aX
 refine qaj rfl ?_
 refine qaq ?_
 refine qaf ?_ ?_ <;> intro aY
 refine ct aY (ct aY ?_)
 obtain ⟨bK, a8, aX⟩ := bnd aX
 replace a8 := ift (qco aY) a8
 refine cT (cT (cT ?_))
 exact eMq aX _ ⟨bq (si a8), trivial⟩
 refine cf aY (qaq (cf aY ?_))
 obtain ⟨bK, a8, aX⟩ := bnd aX
 refine qaf ?_ ?_ <;> intro a6
 replace a8 := ift (qi2 aY a6) a8
 refine ct a6 (ct a6 ?_)
 exact eMq aX _ ⟨bq (si a8), trivial⟩
 replace a8 := qbd (qf1 aY a6) a8
 refine cf a6 ?_
 refine cb a8 fun ca bI a8 => cg0 (Jbh bI :) ?_
 refine cf a6 ?_
 exact eMq aX _ ⟨bq (si a8), trivial⟩
 rintro bb rfl bJ
 refine cs rfl rfl aV ?_ ?_ <;> intro w8 aV
 exact eM aV _
 refine qaj rfl ?_
 refine qaq ?_
 refine qaf ?_ ?_ <;> intro aZ
 refine ct aZ (ct aZ (qac rfl (cT ?_)))
 replace aV := ift (qco aZ) aV
 exact eM aV _
 refine cf aZ (qaq (cf aZ (qac rfl ?_)))
 refine qaf ?_ ?_ <;> intro bz
 replace aV := ift (qi2 aZ bz) aV
 exact eM aV _
 replace aV := qbd (qf1 aZ bz) aV
 exact eM aV _
 rintro ba rfl bM
 refine fa rfl (ro (ld r0 rfl rfl (qbb ?_)))
 refine cs rfl rfl hm ?_ ?_ <;> intro bS hm
 refine qas rfl ?_
 exact eE hm
 refine qam rfl ?_
 refine qaq (cs rfl rfl hm ?_ ?_) <;> intro bX hm
 refine fa rfl (ro (ld r0 rfl rfl (qah ?_)))
 refine qc6 (j' := 0) rfl rfl ?_
 refine qen r1 rfl ?_
 refine ⟨rfl, rfl, (nl rfl), ?_⟩
 exact eE hm
 refine qaq (cs rfl rfl hm ?_ ?_) <;> intro bP hm
 refine fa rfl (ro (ld r0 rfl rfl (qah ?_)))
 refine qc6 (j' := 1) rfl rfl ?_
 refine qen r1 rfl ?_
 refine ⟨rfl, rfl, (nl rfl), ?_⟩
 exact eE hm
 refine qaq (cs rfl rfl hm ?_ ?_) <;> intro bQ hm
 refine qba ⟨⟨[], false⟩, _, [(_, _), (_, _)], []⟩ (by kernel_rfl) ⟨Hp.Le.refl _, (sc [1,0] rfl), ci0⟩ ?_
 refine qah ?_
 refine qc6 (j' := 4) rfl rfl ?_
 refine qap m0 rfl (qle rfl) (fa rfl (qap m1 rfl rfl ?_))
 refine cb hm fun bN bH hm => ck0 (Fn.lend Tryz.call53 (fun bB bh bc => (JY (v' := x.s) bH ⟨bc, rfl⟩)) (by exact fun _ _ _ _ h => h)) ?_
 rintro _ _ _ ⟨_, rfl, rfl, rfl⟩
 refine qk (sc [2,1] rfl) ?_
 refine qav ?_
 refine cs rfl rfl hm ?_ ?_ <;> intro bZ hm
 refine qa6 ⟨⟨[], false⟩, _, [(_, _), (_, _)], []⟩ 9 rfl (by kernel_rfl) ⟨Hp.Le.refl _, (sc [2,1] rfl), ci0⟩ ?_
 refine qah ?_
 refine qc6 (j' := 4) rfl rfl ?_
 refine qap m0 rfl (qle rfl) (fa rfl (qap m1 rfl rfl ?_))
 refine bsO (len := 1) (enc := eS) (l := [x.s]) (cl := [str x.s]) qca rfl rfl (fun _ _ => rfl) rfl rfl rfl ?_ fun bY => ?_
 · conv => whnf
   refine cT ?_
   first | done | rfl
 refine qk (sc [3,2] rfl) ?_
 obtain ⟨bL, hm⟩ := qax hm
 refine apE rfl r1 qca (qaz rfl r0 rfl (fun _ => rfl) (fun _ => rfl)) bL ?_
 intro cd bU bT
 refine qk (sc [3,2] rfl) ?_
 refine qah ?_
 refine qc6 (j' := 4) rfl rfl ?_
 refine qen r3 rfl ?_
 refine ⟨rfl, rfl, (nl rfl), ?_⟩
 refine ⟨⟨Hp.emp_le _, (pf rfl), ci0⟩, ?_⟩
 exact eE hm
 exact eE hm
 refine qaq (cs rfl rfl hm ?_ ?_) <;> intro bV hm
 refine fa rfl (ro (ld r0 rfl rfl (ro (qcl (qah ?_)))))
 refine qc6 (j' := 5) rfl rfl ?_
 refine qen r1 rfl ?_
 refine ⟨rfl, rfl, (nl rfl), ?_⟩
 exact eE hm
 refine qaq (cs rfl rfl hm ?_ ?_) <;> intro bO hm
 refine fa rfl (ro (ld r0 rfl rfl (qah ?_)))
 refine qc6 (j' := 6) rfl rfl ?_
 refine qen r1 rfl ?_
 refine ⟨rfl, rfl, (nl rfl), ?_⟩
 refine qaj rfl ?_
 refine fa rfl (ro (ld r1 rfl rfl ?_))
 refine qaf ?_ ?_ <;> intro aW
 refine ct aW (ct aW (ct aW (qac rfl (cT ?_))))
 replace hm := ift (qco aW) hm
 refine qah ?_
 refine qc6 (j' := 6) rfl rfl ?_
 refine qen r0 rfl ?_
 refine ⟨rfl, rfl, (nl rfl), ?_⟩
 exact eE hm
 refine fa rfl (cf aW (ro (ld r1 rfl rfl (cf aW (cf aW (qac rfl ?_))))))
 refine qaf ?_ ?_ <;> intro bv
 replace hm := ift (qi2 aW bv) hm
 refine qah ?_
 refine qc6 (j' := 6) rfl rfl ?_
 refine qen r0 rfl ?_
 refine ⟨rfl, rfl, (nl rfl), ?_⟩
 exact eE hm
 replace hm := qbd (qf1 aW bv) hm
 exact eE hm
 refine qaq (cs rfl rfl hm ?_ ?_) <;> intro bR hm
 refine qah ?_
 refine qc6 (j' := 8) rfl rfl ?_
 refine qen r1 rfl ?_
 refine ⟨rfl, rfl, (nl rfl), ?_⟩
 exact eE hm
 refine qaq (cs rfl rfl hm ?_ ?_) <;> intro bF hm
 refine qah ?_
 refine qc6 (j' := 9) rfl rfl ?_
 refine qen r1 rfl ?_
 refine ⟨rfl, rfl, (nl rfl), ?_⟩
 exact eE hm
 refine ro (qab r0 rfl (nl rfl) ?_)
 refine cb hm fun bW bG hm => ckx (Jdy bG :) ?_
 rintro _ _ _ ⟨bt, bm, bD, bn, bp, bj, rfl, bu, bC, bw, rfl⟩
 exact eE hm
