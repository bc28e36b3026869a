/- Functions of the program: mirrors, and that a call returns what the mirror says. Printed by gen.py. -/
import Derived.Test.YtiaaooopklhobaaGreatDoorG2
set_option linter.unusedVariables false
set_option linter.unusedSimpArgs false
open Go Go.SL Go.Proofs
noncomputable section
set_option maxRecDepth 1000000
set_option maxHeartbeats 8000000
def J6 : Nat → Ja → Option (Bool)
  | 0, _ => none
  | n + 1, n' =>
    if decide (n'.Ab = 2) then
    (if ((decide (n'.Ac ≠ ([] : Str)) || decide ((n'.Aa.length : Int) < 2)) || decide ((n'.Aa.length : Int) > 3)) then some true else (ix n'.Aa 0).bind fun aY =>
    (JL n aY).bind fun bf =>
    some (!bf)).bind fun ba =>
    (if ba then some true else (ix n'.Aa 1).bind fun bm =>
    (Jcy (J6 n) n bm).bind fun bl =>
    some (!bl)).bind fun aZ =>
    if aZ then
    some false
    else
    (if decide ((n'.Aa.length : Int) = 2) then some true else (ix n'.Aa 2).bind fun bg =>
    (Jcy (J6 n) n bg).bind fun bd =>
    some bd).bind fun a6 =>
    if a6 then
    some true
    else
    (ix n'.Aa 2).bind fun bc =>
    (if decide (bc.Ab = 2) then (ix n'.Aa 2).bind fun bh =>
    ((J6 n) bh).bind fun bb =>
    some bb else some false).bind fun a8 =>
    some a8
    else
    if decide (n'.Ab = 6) then
    (JN n'.Ac).bind fun bj =>
    some (bj && decide ((n'.Aa.length : Int) = 0))
    else
    if decide (n'.Ab = 10) then
    some (decide (n'.Ac = ([] : Str)) && decide ((n'.Aa.length : Int) = 0))
    else
    if decide (n'.Ab = 11) then
    some (decide (n'.Ac = ([] : Str)) && decide ((n'.Aa.length : Int) = 0))
    else
    if decide (n'.Ab = 3) then
    (Jct n n'.Ac).bind fun aX =>
    if (!aX) then
    some false
    else
    (if decide ((n'.Aa.length : Int) = 1) then (ix n'.Aa 0).bind fun aT =>
    (JL n aT).bind fun aU =>
    some aU else some false).bind fun aV =>
    some aV
    else
    if decide (n'.Ab = 4) then
    if (decide (n'.Ac ≠ ([112, 97, 116, 104] : Str)) && decide (n'.Ac ≠ ([113, 117, 101, 114, 121] : Str))) then
    some false
    else
    (if decide ((n'.Aa.length : Int) = 1) then (ix n'.Aa 0).bind fun aT =>
    (JL n aT).bind fun aU =>
    some aU else some false).bind fun aV =>
    some aV
    else
    if decide (n'.Ab = 5) then
    (JN n'.Ac).bind fun aW =>
    if (!aW) then
    some false
    else
    (if decide ((n'.Aa.length : Int) = 1) then (ix n'.Aa 0).bind fun aT =>
    (JL n aT).bind fun aU =>
    some aU else some false).bind fun aV =>
    some aV
    else
    if decide (n'.Ab = 7) then
    if decide (n'.Ac ≠ ([] : Str)) then
    some false
    else
    (if decide ((n'.Aa.length : Int) = 1) then (ix n'.Aa 0).bind fun aT =>
    (JL n aT).bind fun aU =>
    some aU else some false).bind fun aV =>
    some aV
    else
    if decide (n'.Ab = 8) then
    if decide (n'.Ac ≠ ([] : Str)) then
    some false
    else
    (if decide ((n'.Aa.length : Int) = 1) then (ix n'.Aa 0).bind fun aT =>
    (JL n aT).bind fun aU =>
    some aU else some false).bind fun aV =>
    some aV
    else
    if decide (n'.Ab = 9) then
    if decide (n'.Ac ≠ ([] : Str)) then
    some false
    else
    (if decide ((n'.Aa.length : Int) = 1) then (ix n'.Aa 0).bind fun aT =>
    (JL n aT).bind fun aU =>
    some aU else some false).bind fun aV =>
    some aV
    else
    some false
theorem Jd1 : ∀ {n : Nat} {n' : Ja} {aa : Option Addr} {ab : Nat} {K : Hp} {r : Bool}
    (hm : J6 n n' = some r) (hX : LiC Ja.R K aa ab 4 n'.Aa ∧ GG K),
    Fn Tryz.prog 190 [.agg #[.int .i64 n'.Ab, str n'.Ac, .slice aa n'.Aa.length ab, .int .i64 n'.Ad]] K [] (fun v K' H' => v = .bool r ∧ H' = []) := by
 intro n
 induction n with
 | zero =>
   intro n' aa ab K r hm hX
   rw [J6.eq_1] at hm; cases hm
 | succ n ih =>
   intro n' aa ab K r hm hX
   obtain ⟨ae, hG⟩ := hX
   refine Fn.enter Tryz.func190 Tryz.call190 rfl fun F => ?_
   rw [J6.eq_2] at hm
   refine qas ?_
   intro b1
   refine fa rfl (ro (ld r0 rfl rfl ?_))
   refine qam rfl ?_
   refine qag (cs rfl rfl hm ?_ ?_) <;> intro w6 hm
   refine fa rfl (ro (ld r0 rfl rfl (ro (qal rfl ?_))))
   refine qaf rfl ?_
   refine fa rfl (ro (ld r0 rfl rfl (qbr ?_)))
   refine qah ?_ ?_ <;> intro bn
   refine ct bn (ct bn (cT (cT (cT ?_))))
   obtain ⟨cw, bu, hm⟩ := bnd hm
   replace bu := ift (qbv (qbv bn)) bu
   refine cT (cT (cT (cT (cT (cT (cT ?_))))))
   obtain ⟨bY, bp, hm⟩ := bnd hm
   replace bp := ift (si bu).symm bp
   refine cT (cT (cT (cT (cT (cT (cT (qac rfl ?_)))))))
   refine cT ?_
   replace hm := ift (si bp).symm hm
   exact eE hm
   refine cf bn (cf bn ?_)
   refine qah ?_ ?_ <;> intro bo
   refine ct bo (ct bo ?_)
   obtain ⟨cw, bu, hm⟩ := bnd hm
   replace bu := ift (qbv (qf2 bn bo)) bu
   refine cT (cT (cT (cT (cT (cT (cT ?_))))))
   obtain ⟨bY, bp, hm⟩ := bnd hm
   replace bp := ift (si bu).symm bp
   refine cT (cT (cT (cT (cT (cT (cT (qac rfl ?_)))))))
   refine cT ?_
   replace hm := ift (si bp).symm hm
   exact eE hm
   refine cf bo (cf bo ?_)
   obtain ⟨cw, bu, hm⟩ := bnd hm
   refine qah ?_ ?_ <;> intro aY
   replace bu := ift (qf2 (qc4 bn bo) aY) bu
   refine ct aY (ct aY (ct aY (ct aY (ct aY (ct aY ?_)))))
   obtain ⟨bY, bp, hm⟩ := bnd hm
   replace bp := ift (si bu).symm bp
   refine cT (cT (cT (cT (cT (cT (cT (qac rfl ?_)))))))
   refine cT ?_
   replace hm := ift (si bp).symm hm
   exact eE hm
   replace bu := qbb (qc4 (qc4 bn bo) aY) bu
   refine fa rfl (cf aY (ro (ld r0 rfl rfl (cf aY ?_))))
   obtain ⟨dw, cK, bH, bu⟩ := ixb bu
   refine RStep.ofN (qae rfl rfl (qc8 ae.rd bH) cK (qaz rfl cK bH) (cf aY ?_))
   obtain ⟨cW, cY, bQ, bS, bJ⟩ := LiR.get ae.rd bH
   obtain ⟨cy, cr, rfl, cI⟩ := Ja.out bJ
   refine ro (qao ((0 : Int).toNat) _ bQ rfl bS rfl (cf aY ?_))
   refine cb bu fun dk c9 bu => cgx (Jah c9 :) ?_
   refine cf aY (qax (cf aY ?_))
   obtain ⟨bY, bp, hm⟩ := bnd hm
   refine qah ?_ ?_ <;> intro aZ
   replace bp := ift ((si bu).symm.trans (qfp (qlg aZ))) bp
   refine ct aZ (ct aZ (ct aZ (ct aZ (ct aZ (ct aZ (qac rfl (cT ?_)))))))
   replace hm := ift (si bp).symm hm
   exact eE hm
   replace bp := qbb ((si bu).symm.trans (qdo (qio aZ))) bp
   refine fa rfl (cf aZ (ro (ld r0 rfl rfl (cf aZ ?_))))
   obtain ⟨dv, cD, bZ, bp⟩ := ixb bp
   refine RStep.ofN (qae rfl rfl (qc8 ae.rd bZ) cD (qaz rfl cD bZ) (cf aZ ?_))
   obtain ⟨cQ, cN, bO, cd, ca⟩ := LiR.get ae.rd bZ
   obtain ⟨cn, cB, rfl, cz⟩ := Ja.out ca
   refine ro (qao ((1 : Int).toNat) _ bO rfl cd rfl (cf aZ ?_))
   refine cb bp fun di cO bp => cgx (Jdi ih cO :) ?_
   refine cf aZ (qax (cf aZ (qac rfl ?_)))
   refine qah ?_ ?_ <;> intro cG
   replace hm := ift ((si bp).symm.trans (qfp (qlg cG))) hm
   exact eE hm
   replace hm := qbb ((si bp).symm.trans (qdo (qio cG))) hm
   refine qaf rfl ?_
   refine qag ?_
   obtain ⟨dq, bA, hm⟩ := bnd hm
   refine cS bA (fun bf bA => ?_) fun bf bA => ?_
   refine ct bf (ct bf (ct bf (ct bf (ct bf ?_))))
   replace hm := ift (si bA).symm hm
   refine cT (cT (cT (cT (cT (cT (cT (cT ?_)))))))
   refine cT ?_
   exact eE hm
   refine fa rfl (cf bf (ro (ld r0 rfl rfl (cf bf ?_))))
   obtain ⟨dy, co, bV, bA⟩ := ixb bA
   refine RStep.ofN (qae rfl rfl (qc8 ae.rd bV) co (qaz rfl co bV) (cf bf ?_))
   obtain ⟨cR, de, bU, bW, bN⟩ := LiR.get ae.rd bV
   obtain ⟨cA, cu, rfl, cq⟩ := Ja.out bN
   refine ro (qao ((2 : Int).toNat) _ bU rfl bW rfl (cf bf ?_))
   refine cb bA fun dt c4 bA => cgx (Jdi ih c4 :) ?_
   refine cf bf ?_
   refine qah ?_ ?_ <;> intro aW
   replace hm := ift ((si bA).symm.trans aW) hm
   refine ct aW (ct aW (ct aW (ct aW (ct aW (ct aW (ct aW (ct aW ?_)))))))
   exact eE hm
   replace hm := qbb ((si bA).symm.trans aW) hm
   refine fa rfl (cf aW (ro (ld r0 rfl rfl (cf aW ?_))))
   obtain ⟨dm, cL, bG, hm⟩ := ixb hm
   refine RStep.ofN (qae rfl rfl (qc8 ae.rd bG) cL (qaz rfl cL bG) (cf aW (qbd rfl (qc8 ae.rd bG) (cf aW ?_))))
   obtain ⟨c5, cV, bX, bP, bM⟩ := LiR.get ae.rd bG
   obtain ⟨cj, cm, rfl, cC⟩ := Ja.out bM
   refine ro (qcw ((2 : Int).toNat) 0 _ _ bX rfl bP rfl rfl (cf aW (qag (cf aW ?_))))
   obtain ⟨dj, bC, hm⟩ := bnd hm
   refine cS bC (fun bd bC => ?_) fun bd bC => ?_
   refine fa rfl (ct bd (ro (ld r0 rfl rfl (ct bd ?_))))
   obtain ⟨dg, cE, bK, bC⟩ := ixb bC
   refine RStep.ofN (qae rfl rfl (qc8 ae.rd bK) cE (qaz rfl cE bK) (ct bd ?_))
   obtain ⟨c6, cX, bL, bI, bR⟩ := LiR.get ae.rd bK
   obtain ⟨cp, cH, rfl, ce⟩ := Ja.out bR
   refine ro (qao ((2 : Int).toNat) _ bL rfl bI rfl (ct bd ?_))
   refine cb bC fun df cM bC => cgx (ih cM :) ?_
   refine cf aW (ct bd (cf aW ?_))
   exact bE (si bC) (eE hm)
   refine cf bd (cf bd (cf bd (cf bd (cf aW (cf bd (cf aW ?_))))))
   exact bE (si bC) (eE hm)
   refine qag (cs rfl rfl hm ?_ ?_) <;> intro dz hm
   refine qaf rfl ?_
   refine fa rfl (ro (ld r0 rfl rfl ?_))
   refine cb hm fun du cZ hm => cg0 (Jch cZ :) ?_
   refine qah ?_ ?_ <;> intro bg
   refine fa rfl (ct bg (ro (ld r0 rfl rfl (ct bg (ro (qal rfl (ct bg (qag (ct bg ?_)))))))))
   exact bE (qcz (b := decide ((n'.Aa.length : Int) = 0)) bg) (eE hm)
   refine cf bg (cf bg (cf bg (cf bg ?_)))
   exact bE (((qbe bg)).symm) (eE hm)
   refine qag (cs rfl rfl hm ?_ ?_) <;> intro cJ hm
   refine qac rfl (ct cJ ?_)
   refine qaf rfl ?_
   refine fa rfl (ro (ld r0 rfl rfl (qaq ?_)))
   refine qah ?_ ?_ <;> intro aV
   refine fa rfl (ct aV (ro (ld r0 rfl rfl (ct aV (ro (qal rfl (ct aV (qag (ct aV ?_)))))))))
   exact bE (qcz (b := decide ((n'.Aa.length : Int) = 0)) aV) (eE hm)
   refine cf aV (cf aV (cf aV (cf aV ?_)))
   exact bE (((qbe aV)).symm) (eE hm)
   refine qag (cs rfl rfl hm ?_ ?_) <;> intro cJ hm
   refine qaf rfl ?_
   refine fa rfl (ro (ld r0 rfl rfl (qaq ?_)))
   refine qah ?_ ?_ <;> intro aV
   refine fa rfl (ct aV (ro (ld r0 rfl rfl (ct aV (ro (qal rfl (ct aV (qag (ct aV ?_)))))))))
   exact bE (qcz (b := decide ((n'.Aa.length : Int) = 0)) aV) (eE hm)
   refine cf aV (cf aV (cf aV (cf aV ?_)))
   exact bE (((qbe aV)).symm) (eE hm)
   refine qag (cs rfl rfl hm ?_ ?_) <;> intro dh hm
   refine fa rfl (ro (ld r0 rfl rfl ?_))
   refine cb hm fun dn dc hm => cgx (JcU dc :) ?_
   refine qax ?_
   refine cs rfl rfl hm ?_ ?_ <;> intro dp hm
   exact eE hm
   refine qaf rfl ?_
   refine fa rfl (ro (ld r0 rfl rfl (ro (qal rfl (qag ?_)))))
   obtain ⟨bw, aU, hm⟩ := bnd hm
   refine cS aU (fun aT aU => ?_) fun aT aU => ?_
   refine fa rfl (ct aT (ro (ld r0 rfl rfl (ct aT ?_))))
   obtain ⟨bz, bb, aX, aU⟩ := ixb aU
   refine RStep.ofN (qae rfl rfl (qc8 ae.rd aX) bb (qaz rfl bb aX) (ct aT ?_))
   obtain ⟨bt, br, a6, a8, ba⟩ := LiR.get ae.rd aX
   obtain ⟨bm, bh, rfl, bj⟩ := Ja.out ba
   refine ro (qao ((0 : Int).toNat) _ a6 rfl a8 rfl (ct aT ?_))
   refine cb aU fun bv bl aU => cgx (Jah bl :) ?_
   refine ct aT ?_
   exact bE (si aU) (eE hm)
   refine cf aT (cf aT (cf aT (cf aT (cf aT ?_))))
   exact bE (si aU) (eE hm)
   refine qag (cs rfl rfl hm ?_ ?_) <;> intro dx hm
   refine qaf rfl ?_
   refine fa rfl (ro (ld r0 rfl rfl (qbr ?_)))
   refine qah ?_ ?_ <;> intro bc
   refine fa rfl (ct bc (ro (ld r0 rfl rfl (ct bc (qbr (ct bc (qac rfl ?_)))))))
   refine qah ?_ ?_ <;> intro bD
   replace hm := ift (qcx bc bD) hm
   exact eE hm
   replace hm := qbb (qcy bc bD) hm
   refine qaf rfl ?_
   refine fa rfl (ro (ld r0 rfl rfl (ro (qal rfl (qag ?_)))))
   obtain ⟨bw, aU, hm⟩ := bnd hm
   refine cS aU (fun aT aU => ?_) fun aT aU => ?_
   refine fa rfl (ct aT (ro (ld r0 rfl rfl (ct aT ?_))))
   obtain ⟨bz, bb, aX, aU⟩ := ixb aU
   refine RStep.ofN (qae rfl rfl (qc8 ae.rd aX) bb (qaz rfl bb aX) (ct aT ?_))
   obtain ⟨bt, br, a6, a8, ba⟩ := LiR.get ae.rd aX
   obtain ⟨bm, bh, rfl, bj⟩ := Ja.out ba
   refine ro (qao ((0 : Int).toNat) _ a6 rfl a8 rfl (ct aT ?_))
   refine cb aU fun bv bl aU => cgx (Jah bl :) ?_
   refine ct aT ?_
   exact bE (si aU) (eE hm)
   refine cf aT (cf aT (cf aT (cf aT (cf aT ?_))))
   exact bE (si aU) (eE hm)
   refine cf bc (cf bc (cf bc (qac rfl (cF ?_))))
   replace hm := qbb (qbe bc) hm
   refine qaf rfl ?_
   refine fa rfl (ro (ld r0 rfl rfl (ro (qal rfl (qag ?_)))))
   obtain ⟨bw, aU, hm⟩ := bnd hm
   refine cS aU (fun aT aU => ?_) fun aT aU => ?_
   refine fa rfl (ct aT (ro (ld r0 rfl rfl (ct aT ?_))))
   obtain ⟨bz, bb, aX, aU⟩ := ixb aU
   refine RStep.ofN (qae rfl rfl (qc8 ae.rd aX) bb (qaz rfl bb aX) (ct aT ?_))
   obtain ⟨bt, br, a6, a8, ba⟩ := LiR.get ae.rd aX
   obtain ⟨bm, bh, rfl, bj⟩ := Ja.out ba
   refine ro (qao ((0 : Int).toNat) _ a6 rfl a8 rfl (ct aT ?_))
   refine cb aU fun bv bl aU => cgx (Jah bl :) ?_
   refine ct aT ?_
   exact bE (si aU) (eE hm)
   refine cf aT (cf aT (cf aT (cf aT (cf aT ?_))))
   exact bE (si aU) (eE hm)
   refine qag (cs rfl rfl hm ?_ ?_) <;> intro cU hm
   refine fa rfl (ro (ld r0 rfl rfl ?_))
   refine cb hm fun cP bT hm => cg0 (Jch bT :) ?_
   refine qax ?_
   refine cs rfl rfl hm ?_ ?_ <;> intro c8 hm
   exact eE hm
   refine qaf rfl ?_
   refine fa rfl (ro (ld r0 rfl rfl (ro (qal rfl (qag ?_)))))
   obtain ⟨bw, aU, hm⟩ := bnd hm
   refine cS aU (fun aT aU => ?_) fun aT aU => ?_
   refine fa rfl (ct aT (ro (ld r0 rfl rfl (ct aT ?_))))
   obtain ⟨bz, bb, aX, aU⟩ := ixb aU
   refine RStep.ofN (qae rfl rfl (qc8 ae.rd aX) bb (qaz rfl bb aX) (ct aT ?_))
   obtain ⟨bt, br, a6, a8, ba⟩ := LiR.get ae.rd aX
   obtain ⟨bm, bh, rfl, bj⟩ := Ja.out ba
   refine ro (qao ((0 : Int).toNat) _ a6 rfl a8 rfl (ct aT ?_))
   refine cb aU fun bv bl aU => cgx (Jah bl :) ?_
   refine ct aT ?_
   exact bE (si aU) (eE hm)
   refine cf aT (cf aT (cf aT (cf aT (cf aT ?_))))
   exact bE (si aU) (eE hm)
   refine qag (cs rfl rfl hm ?_ ?_) <;> intro bB hm
   refine qac rfl (ct bB (fa rfl (ro (ld r0 rfl rfl (qbr ?_)))))
   refine cs rfl rfl hm ?_ ?_ <;> intro bF hm
   exact eE hm
   refine qaf rfl ?_
   refine fa rfl (ro (ld r0 rfl rfl (ro (qal rfl (qag ?_)))))
   obtain ⟨bw, aU, hm⟩ := bnd hm
   refine cS aU (fun aT aU => ?_) fun aT aU => ?_
   refine fa rfl (ct aT (ro (ld r0 rfl rfl (ct aT ?_))))
   obtain ⟨bz, bb, aX, aU⟩ := ixb aU
   refine RStep.ofN (qae rfl rfl (qc8 ae.rd aX) bb (qaz rfl bb aX) (ct aT ?_))
   obtain ⟨bt, br, a6, a8, ba⟩ := LiR.get ae.rd aX
   obtain ⟨bm, bh, rfl, bj⟩ := Ja.out ba
   refine ro (qao ((0 : Int).toNat) _ a6 rfl a8 rfl (ct aT ?_))
   refine cb aU fun bv bl aU => cgx (Jah bl :) ?_
   refine ct aT ?_
   exact bE (si aU) (eE hm)
   refine cf aT (cf aT (cf aT (cf aT (cf aT ?_))))
   exact bE (si aU) (eE hm)
   refine qag (cs rfl rfl hm ?_ ?_) <;> intro bB hm
   refine qac rfl (ct bB (fa rfl (ro (ld r0 rfl rfl (qbr ?_)))))
   refine cs rfl rfl hm ?_ ?_ <;> intro bF hm
   exact eE hm
   refine qaf rfl ?_
   refine fa rfl (ro (ld r0 rfl rfl (ro (qal rfl (qag ?_)))))
   obtain ⟨bw, aU, hm⟩ := bnd hm
   refine cS aU (fun aT aU => ?_) fun aT aU => ?_
   refine fa rfl (ct aT (ro (ld r0 rfl rfl (ct aT ?_))))
   obtain ⟨bz, bb, aX, aU⟩ := ixb aU
   refine RStep.ofN (qae rfl rfl (qc8 ae.rd aX) bb (qaz rfl bb aX) (ct aT ?_))
   obtain ⟨bt, br, a6, a8, ba⟩ := LiR.get ae.rd aX
   obtain ⟨bm, bh, rfl, bj⟩ := Ja.out ba
   refine ro (qao ((0 : Int).toNat) _ a6 rfl a8 rfl (ct aT ?_))
   refine cb aU fun bv bl aU => cgx (Jah bl :) ?_
   refine ct aT ?_
   exact bE (si aU) (eE hm)
   refine cf aT (cf aT (cf aT (cf aT (cf aT ?_))))
   exact bE (si aU) (eE hm)
   refine qag (cs rfl rfl hm ?_ ?_) <;> intro bB hm
   refine fa rfl (ro (ld r0 rfl rfl (qbr ?_)))
   refine cs rfl rfl hm ?_ ?_ <;> intro bF hm
   exact eE hm
   refine qaf rfl ?_
   refine fa rfl (ro (ld r0 rfl rfl (ro (qal rfl (qag ?_)))))
   obtain ⟨bw, aU, hm⟩ := bnd hm
   refine cS aU (fun aT aU => ?_) fun aT aU => ?_
   refine fa rfl (ct aT (ro (ld r0 rfl rfl (ct aT ?_))))
   obtain ⟨bz, bb, aX, aU⟩ := ixb aU
   refine RStep.ofN (qae rfl rfl (qc8 ae.rd aX) bb (qaz rfl bb aX) (ct aT ?_))
   obtain ⟨bt, br, a6, a8, ba⟩ := LiR.get ae.rd aX
   obtain ⟨bm, bh, rfl, bj⟩ := Ja.out ba
   refine ro (qao ((0 : Int).toNat) _ a6 rfl a8 rfl (ct aT ?_))
   refine cb aU fun bv bl aU => cgx (Jah bl :) ?_
   refine ct aT ?_
   exact bE (si aU) (eE hm)
   refine cf aT (cf aT (cf aT (cf aT (cf aT ?_))))
   exact bE (si aU) (eE hm)
   exact eE hm

def Jas (n : Nat) : List Ja → Nat → Option (Fl (Bool) (Unit))
  | [], _ => some (Fl.go ())
  | e0 :: aT, i0 =>
    (J6 n e0).bind fun aU =>
    if (!aU) then
    some (Fl.ret false)
    else
    Jas n aT (i0 + 1)
def Jaz (n : Nat) (n' : Ja) : Option (Bool) :=
  if (decide (n'.Ab ≠ 1) || decide (n'.Ac ≠ ([] : Str))) then
  some false
  else
  (JaQ n n' 512 32).bind fun aT =>
  if (!aT.1) then
  some false
  else
  (chk (n'.Aa.length ≤ qa7)).bind fun _ =>
  (Jas n n'.Aa 0).bind fun s0 => s0.el some fun t0 =>
  some true
theorem Jd7 {n : Nat} {n' : Ja} {aa : Option Addr} {ab : Nat} {K : Hp} {r : Bool}
    (hm : Jaz n n' = some r) (hX : LiC Ja.R K aa ab 4 n'.Aa ∧ GG K) :
    Fn Tryz.prog 140 [.agg #[.int .i64 n'.Ab, str n'.Ac, .slice aa n'.Aa.length ab, .int .i64 n'.Ad]] K [] (fun v K' H' => v = .bool r ∧ H' = []) := by
 obtain ⟨ae, hG⟩ := hX
 refine Fn.enter Tryz.func140 Tryz.call140 rfl fun F => ?_
 unfold Jaz at hm
 refine qas ?_
 intro b1
 refine qai rfl fun b3 => ?_
 refine qaa r0 rfl ⟨rfl, rfl, (nl rfl), ?_⟩
 refine qaf rfl ?_
 refine fa rfl (ro (ld r1 rfl rfl (qa8 ?_)))
 refine qah ?_ ?_ <;> intro aU
 refine ct aU (ct aU (ct aU ?_))
 replace hm := ift (qbv aU) hm
 refine cT (cT (cT (cT (qac rfl (cT ?_)))))
 exact eE hm
 refine fa rfl (cf aU (ro (ld r1 rfl rfl (cf aU (qbr (cf aU ?_))))))
 refine qah ?_ ?_ <;> intro aT
 replace hm := ift (qf2 aU aT) hm
 refine ct aT (ct aT (ct aT (qac rfl (cT ?_))))
 exact eE hm
 replace hm := qbb (qc4 aU aT) hm
 refine ro (qab r1 rfl (nl rfl) (cf aT ?_))
 refine cb hm fun bl bh hm => cgx (Jd6 bh :) ?_
 refine cf aT (qax (cf aT ?_))
 refine cs rfl rfl hm ?_ ?_ <;> intro bm hm
 exact eE hm
 refine fa rfl (ro (ld r1 rfl rfl (ro (qal rfl ?_))))
 obtain ⟨bc, hm⟩ := qaw hm
 obtain ⟨s0, aV, hm⟩ := bnd hm
 refine lD (σ := (Unit)) ([2,5] ++ rg 22 8) [0, 1, 2] (fun i0 => [(22, .int .i64 (i0 : Int))]) (fun _ => []) (fun _ => []) (fun _ => True) (fun i0 _ => Jas n (n'.Aa.drop i0) i0 = some s0) (fun t0 => s0 = Fl.go t0) (fun i0 => n'.Aa.length - i0) 0 () aV (And.intro qe (And.intro ?_ ?_))
 clear aV
 rintro i0 _ _ aV j0
 conv at aV => whnf
 refine qac rfl ?_
 refine qah ?_ ?_ <;> intro w0
 obtain ⟨e0, aW, bg⟩ := ltx w0
 rw [bg, Jas.eq_2] at aV
 refine qam rfl ?_
 refine RStep.ofN (qae rfl rfl (qc8 ae.rd aW) (nn _) (qbs aW) ?_)
 obtain ⟨bb, bd, aZ, aX, aY⟩ := LiR.get ae.rd aW
 obtain ⟨a6, ba, rfl, a8⟩ := Ja.out aY
 refine ro (qao i0 _ aZ rfl aX rfl ?_)
 refine qai rfl fun b5 => ?_
 refine qaa r0 rfl ⟨rfl, rfl, (nl rfl), ?_⟩
 refine ro (qab r0 rfl (nl rfl) ?_)
 refine cb aV fun bj bf aV => cgx (Jd1 bf :) ?_
 refine qax ?_
 refine cs rfl rfl aV ?_ ?_ <;> intro bn aV
 exact eE (er aV hm)
 refine qan (qbu aW bc) ?_
 exact eR aV (_, ())
 rw [lty w0, Jas.eq_1] at aV
 refine cT ?_
 exact eM aV _
 rintro t0 _ rfl j0
 replace hm := elg hm
 exact eE hm

def Jcs (name : Str) : Option (Bool) :=
  some (((decide (name = ([109, 101, 116, 104, 111, 100] : Str)) || decide (name = ([104, 111, 115, 116] : Str))) || decide (name = ([112, 97, 116, 104] : Str))) || decide (name = ([113, 117, 101, 114, 121] : Str)))
theorem Jdz {name : Str} {K : Hp} {r : Bool}
    (hm : Jcs name = some r)  :
    Fn Tryz.prog 243 [str name] K [] (fun v K' H' => v = .bool r ∧ H' = []) := by
 refine Fn.enter Tryz.func243 Tryz.call243 rfl fun F => ?_
 unfold Jcs at hm
 refine qaf rfl ?_
 refine qaq ?_
 refine qah ?_ ?_ <;> intro aU
 refine ct aU (ct aU (cT (cT (cT (cT (cT (cT ?_)))))))
 exact bE (((qbv (qbv (qbv aU)))).symm) (eE hm)
 refine cf aU (qaq (cf aU ?_))
 refine qah ?_ ?_ <;> intro aV
 refine ct aV (ct aV (cT (cT (cT ?_))))
 exact bE (((qbv (qbv (qf2 aU aV)))).symm) (eE hm)
 refine cf aV (qaq (cf aV ?_))
 refine qah ?_ ?_ <;> intro aT
 refine ct aT (ct aT ?_)
 exact bE (((qbv (qf2 (qc4 aU aV) aT))).symm) (eE hm)
 refine cf aT (qaq (cf aT ?_))
 exact bE (qhb (b := decide (name = ([113, 117, 101, 114, 121] : Str))) (qc4 (qc4 aU aV) aT)) (eE hm)

def JbA (env : (List Jl)) (name : Str) : Nat → Int → Option (Fl (Int) (Int))
  | 0, _ => none
  | aT + 1, ac =>
    if decide (ac ≥ 0) then
    (ix env ac).bind fun aV =>
    if decide (aV.Name = name) then
    (ix env ac).bind fun aU =>
    some (Fl.ret aU.Ar)
    else
    (chk (InI (ac - 1))).bind fun _ =>
    JbA env name aT (ac - 1)
    else
    some (Fl.go ac)
def Jci (n : Nat) (name : Str) (env : (List Jl)) : Option (Int) :=
  (chk (InI ((env.length : Int) - 1))).bind fun _ =>
  (JbA env name n ((env.length : Int) - 1)).bind fun s0 => s0.el some fun t0 =>
  (Jcs name).bind fun aT =>
  if aT then
  some 1
  else
  some 0
theorem JcK {n : Nat} {name : Str} {env : (List Jl)} {af : Option Addr} {ag : Nat} {n1 : Nat} {K : Hp} {r : Int}
    (hm : Jci n name env = some r) (hX : RdC Jl.enc K af ag 2 env ∧ n1 = env.length) :
    Fn Tryz.prog 227 [str name, .slice af n1 ag] K [] (fun v K' H' => v = .int .i64 r ∧ H' = []) := by
 obtain ⟨ai, aZ⟩ := hX
 subst aZ
 refine Fn.enter Tryz.func227 Tryz.call227 rfl fun F => ?_
 unfold Jci at hm
 refine ro (qal rfl ?_)
 refine ci hm fun hm => ?_
 obtain ⟨s0, aT, hm⟩ := bnd hm
 refine lD (σ := (Int)) ([4,5] ++ rg 9 16) [0] (fun _ => []) (fun t0 => [(5, .int .i64 t0)]) (fun _ => []) (fun _ => True) (fun i0 t0 => JbA env name i0 t0 = some s0) (fun t0 => s0 = Fl.go t0) (fun i0 => i0) n _ aT (And.intro qe (And.intro ?_ ?_))
 clear aT
 rintro i0 ac _ aT j0
 conv at aT => whnf
 cases i0 with
 | zero => rw [JbA.eq_1] at aT; cases aT
 | succ i0 =>
  rw [JbA.eq_2] at aT
  refine cs rfl rfl aT ?_ ?_ <;> intro bd aT
  refine qam rfl ?_
  obtain ⟨a8, aW, aV, aT⟩ := ixb aT
  refine RStep.ofN (qae rfl rfl (qf3 ai.rd aV) aW (qaz rfl aW aV) (qbd rfl (qf3 ai.rd aV) (ro (qcw ((ac).toNat) 0 _ _ ai.rd rfl (mp aV) rfl rfl (qaq ?_)))))
  refine cs rfl rfl aT ?_ ?_ <;> intro bb aT
  obtain ⟨a6, aX, aU, aT⟩ := ixb aT
  refine RStep.ofN (qae rfl rfl (qf3 ai.rd aU) aX (qaz rfl aX aU) (qbd rfl (qf3 ai.rd aU) (ro (qcw ((ac).toNat) 1 _ _ ai.rd rfl (mp aU) rfl rfl ?_))))
  exact eE (er aT hm)
  refine ci aT fun aT => ?_
  exact eR aT (_, _)
  refine cT ?_
  exact eM aT _
 rintro t0 _ rfl j0
 replace hm := elg hm
 refine cb hm fun ba aY hm => cg0 (Jdz aY :) ?_
 refine cs rfl rfl hm ?_ ?_ <;> intro bc hm
 exact eE hm
 exact eE hm

def Jac (c : Jm) (n' : Ja) (err : Err) : Option (Jm) :=
  if c.err.isNone then
  some (⟨n'.Ad, err⟩ : Jm)
  else
  some c
theorem J9 {c : Jm} {n' : Ja} {err : Err} {b0 : Nat} {af : Option Addr} {ag : Nat} {K : Hp} {r : Jm}
    (hm : Jac c n' err = some r) (ai : LiC Ja.R K af ag 4 n'.Aa) :
    Fn Tryz.prog 193 [.pointer (some ⟨b0, 0, none⟩), .agg #[.int .i64 n'.Ab, str n'.Ac, .slice af n'.Aa.length ag, .int .i64 n'.Ad], qc5 48 err] K [Cells b0 204 [.int .i64 c.line, qc5 48 c.err]] (fun v K' H' => v = .tuple #[] ∧ H' = [Cells b0 204 [.int .i64 r.line, qc5 48 r.err]]) := by
 refine Fn.enter Tryz.func193 Tryz.call193 rfl fun F => ?_
 unfold Jac at hm
 refine qas ?_
 intro b4
 refine qaj (fa rfl (ro (ld r1 rfl rfl (qbn rfl ?_))))
 refine cs rfl rfl hm ?_ ?_ <;> intro aT hm
 refine fa rfl (ro (ld r0 rfl rfl (qaj (fa rfl ?_))))
 refine qaa r1 rfl ⟨rfl, rfl, (nl rfl), ?_⟩
 refine qaj (fa rfl ?_)
 refine qmh r0 rfl rfl ?_
 exact eE hm
 exact eE hm

def JcV (name : Str) : Option (Int × Int) :=
  if decide (name = ([104, 101, 97, 100, 101, 114] : Str)) then
  some (1, 1)
  else
  if decide (name = ([97, 114, 103] : Str)) then
  some (1, 1)
  else
  if decide (name = ([108, 111, 119, 101, 114] : Str)) then
  some (1, 1)
  else
  if decide (name = ([104, 97, 115] : Str)) then
  some (1, 3)
  else
  if decide (name = ([108, 101, 110] : Str)) then
  some (1, 2)
  else
  if decide (name = ([110, 117, 109, 98, 101, 114] : Str)) then
  some (1, 2)
  else
  if decide (name = ([112, 97, 114, 116] : Str)) then
  some (2, 1)
  else
  if decide (name = ([116, 101, 120, 116] : Str)) then
  some (2, 1)
  else
  some (0, 0)
theorem JdU {name : Str} {K : Hp} {r : Int × Int}
    (hm : JcV name = some r)  :
    Fn Tryz.prog 244 [str name] K [] (fun v K' H' => v = .tuple #[.int .i64 r.1, .int .i64 r.2] ∧ H' = []) := by
 refine Fn.enter Tryz.func244 Tryz.call244 rfl fun F => ?_
 unfold JcV at hm
 refine qam rfl ?_
 refine qaq (cs rfl rfl hm ?_ ?_) <;> intro w5 hm
 refine qac rfl (ct w5 ?_)
 exact eE hm
 refine qaq (cs rfl rfl hm ?_ ?_) <;> intro w5 hm
 refine qac rfl (ct w5 ?_)
 exact eE hm
 refine qaq (cs rfl rfl hm ?_ ?_) <;> intro w5 hm
 exact eE hm
 refine qaq (cs rfl rfl hm ?_ ?_) <;> intro w9 hm
 exact eE hm
 refine qaq (cs rfl rfl hm ?_ ?_) <;> intro aU hm
 refine qac rfl (ct aU ?_)
 exact eE hm
 refine qaq (cs rfl rfl hm ?_ ?_) <;> intro aU hm
 exact eE hm
 refine qaq (cs rfl rfl hm ?_ ?_) <;> intro aT hm
 refine qac rfl (ct aT ?_)
 exact eE hm
 refine qaq (cs rfl rfl hm ?_ ?_) <;> intro aT hm
 exact eE hm
 exact eE hm

def JbB (c : Jm) (n' : Ja) (args : (List Int)) : Option (Int × Jm) :=
  (JcV n'.Ac).bind fun al =>
  if decide (al.2 = 0) then
  (Jac c n' (some 8)).bind fun aT =>
  some (al.2, aT)
  else
  (if decide ((args.length : Int) ≠ 1) then some true else (ix args 0).bind fun aV =>
  some (decide (aV ≠ al.1))).bind fun aU =>
  if aU then
  (Jac c n' (some 9)).bind fun aW =>
  some (al.2, aW)
  else
  some (al.2, c)
theorem JcC {c : Jm} {n' : Ja} {args : (List Int)} {b0 : Nat} {af : Option Addr} {ag : Nat} {aq : Option Addr} {ar : Nat} {n2 : Nat} {K : Hp} {r : Int × Jm}
    (hm : JbB c n' args = some r) (hX : LiC Ja.R K af ag 4 n'.Aa ∧ RdC eN K aq ar 1 args ∧ n2 = args.length) :
    Fn Tryz.prog 228 [.pointer (some ⟨b0, 0, none⟩), .agg #[.int .i64 n'.Ab, str n'.Ac, .slice af n'.Aa.length ag, .int .i64 n'.Ad], .slice aq n2 ar] K [Cells b0 204 [.int .i64 c.line, qc5 48 c.err]] (fun v K' H' => v = .int .i64 r.1 ∧ H' = [Cells b0 204 [.int .i64 r.2.line, qc5 48 r.2.err]]) := by
 obtain ⟨ai, aU, bb⟩ := hX
 subst bb
 refine Fn.enter Tryz.func228 Tryz.call228 rfl fun F => ?_
 unfold JbB at hm
 refine qas ?_
 intro b4
 refine fa rfl (ro (ld r0 rfl rfl ?_))
 refine cb hm fun al a6 hm => cg0 (JdU a6 :) ?_
 refine qag (cs rfl rfl hm ?_ ?_) <;> intro bc hm
 refine ro (qab r0 rfl (nl rfl) ?_)
 refine qat rfl ?_
 refine cb hm fun bd ba hm => cgx (J9 ba :) ?_
 exact eE hm
 refine qaf rfl ?_
 refine ro (qal rfl (qa8 ?_))
 obtain ⟨bg, aV, hm⟩ := bnd hm
 refine cS aV (fun aT aV => ?_) fun aT aV => ?_
 refine ct aT (ct aT (ct aT (ct aT (ct aT (qac rfl (cT ?_))))))
 replace hm := ift (si aV).symm hm
 refine ro (qab r0 rfl (nl rfl) ?_)
 refine qat rfl ?_
 refine cb hm fun a8 aW hm => cgx (J9 aW :) ?_
 exact eE hm
 refine cf aT ?_
 obtain ⟨bf, aZ, aX, aV⟩ := ixb aV
 refine RStep.ofN (qae rfl rfl (qf3 aU.rd aX) aZ (qaz rfl aZ aX) (cf aT (ro (qcw ((0 : Int).toNat) 0 _ _ aU.rd rfl (mp aX) rfl rfl (cf aT (cf aT (qa8 (cf aT (qac rfl ?_)))))))))
 refine qah ?_ ?_ <;> intro aY
 replace hm := ift ((si aV).symm.trans aY) hm
 refine ro (qab r0 rfl (nl rfl) ?_)
 refine qat rfl ?_
 refine cb hm fun a8 aW hm => cgx (J9 aW :) ?_
 exact eE hm
 replace hm := qbb ((si aV).symm.trans aY) hm
 exact eE hm

def Ja4 (t : Int) : List Int → Nat → Option (Fl (Bool) (Unit))
  | [], _ => some (Fl.go ())
  | e0 :: aT, i0 =>
    if decide (e0 ≠ t) then
    some (Fl.ret false)
    else
    Ja4 t aT (i0 + 1)
def J1 (t : Int) (aN : (List Int)) : Option (Bool) :=
  (chk (aN.length ≤ qa7)).bind fun _ =>
  (Ja4 t aN 0).bind fun s0 => s0.el some fun t0 =>
  some true
theorem JY {t : Int} {aN : (List Int)} {b1 : Nat} {af : Option Addr} {ag : Nat} {K : Hp} {r : Bool}
    (hm : J1 t aN = some r) (ai : RdC eN K af ag 1 aN) :
    Fn Tryz.prog 245 [.int .i64 t, .pointer (some ⟨b1, 0, none⟩)] K [Cells b1 284 [.slice af aN.length ag]] (fun v K' H' => v = .bool r ∧ H' = [Cells b1 284 [.slice af aN.length ag]]) := by
 refine Fn.enter Tryz.func245 Tryz.call245 rfl fun F => ?_
 unfold J1 at hm
 refine ro (ld r0 rfl rfl (ro (qal rfl ?_)))
 obtain ⟨aV, hm⟩ := qaw hm
 obtain ⟨s0, aT, hm⟩ := bnd hm
 refine lD (σ := (Unit)) ([3,5] ++ rg 8 8) [0, 1] (fun i0 => [(8, .int .i64 (i0 : Int))]) (fun _ => []) (fun _ => []) (fun _ => True) (fun i0 _ => Ja4 t (aN.drop i0) i0 = some s0) (fun t0 => s0 = Fl.go t0) (fun i0 => aN.length - i0) 0 () aT (And.intro qe (And.intro ?_ ?_))
 clear aT
 rintro i0 _ _ aT j0
 conv at aT => whnf
 refine qac rfl ?_
 refine qah ?_ ?_ <;> intro w0
 obtain ⟨e0, aU, aW⟩ := ltx w0
 rw [aW, Ja4.eq_2] at aT
 refine qam rfl ?_
 refine RStep.ofN (qae rfl rfl (qf3 ai.rd aU) (nn _) (qbs aU) (ro (qcw i0 0 _ _ ai.rd rfl (mp aU) rfl rfl (qa8 ?_))))
 refine cs rfl rfl aT ?_ ?_ <;> intro aX aT
 exact eE (er aT hm)
 refine qan (qbu aU aV) ?_
 exact eR aT (_, ())
 rw [lty w0, Ja4.eq_1] at aT
 refine cT ?_
 exact eM aT _
 rintro t0 _ rfl j0
 replace hm := elg hm
 exact eE hm

def Jcm (n' : Ja) (args : (List Int)) : Option (Int) :=
  if decide (n'.Ab = 17) then
  (J1 1 args).bind fun al =>
  if al then
  some 1
  else
  (J1 2 args).bind fun aY =>
  if aY then
  some 2
  else
  some 0
  else
  if decide (n'.Ab = 18) then
  (J1 2 args).bind fun aW =>
  if aW then
  some 2
  else
  some 0
  else
  if decide (n'.Ab = 19) then
  (J1 2 args).bind fun aW =>
  if aW then
  some 2
  else
  some 0
  else
  if decide (n'.Ab = 13) then
  (J1 3 args).bind fun aT =>
  if aT then
  some 3
  else
  some 0
  else
  if decide (n'.Ab = 14) then
  (J1 3 args).bind fun aT =>
  if aT then
  some 3
  else
  some 0
  else
  if decide (n'.Ab = 15) then
  (J1 3 args).bind fun aT =>
  if aT then
  some 3
  else
  some 0
  else
  if decide (n'.Ab = 16) then
  if decide (n'.Ac = ([61, 61] : Str)) then
  (ix args 0).bind fun aV =>
  (ix args 1).bind fun aU =>
  if decide (aV = aU) then
  some 3
  else
  some 0
  else
  if decide (n'.Ac = ([33, 61] : Str)) then
  (ix args 0).bind fun aV =>
  (ix args 1).bind fun aU =>
  if decide (aV = aU) then
  some 3
  else
  some 0
  else
  if decide (n'.Ac = ([60] : Str)) then
  (J1 2 args).bind fun aX =>
  if aX then
  some 3
  else
  some 0
  else
  if decide (n'.Ac = ([60, 61] : Str)) then
  (J1 2 args).bind fun aX =>
  if aX then
  some 3
  else
  some 0
  else
  (J1 1 args).bind fun aZ =>
  if aZ then
  some 3
  else
  some 0
  else
  some 0
theorem Jda {n' : Ja} {args : (List Int)} {aa : Option Addr} {ab : Nat} {af : Option Addr} {ag : Nat} {n1 : Nat} {K : Hp} {r : Int}
    (hm : Jcm n' args = some r) (hX : LiC Ja.R K aa ab 4 n'.Aa ∧ RdC eN K af ag 1 args ∧ n1 = args.length) :
    Fn Tryz.prog 229 [.agg #[.int .i64 n'.Ab, str n'.Ac, .slice aa n'.Aa.length ab, .int .i64 n'.Ad], .slice af n1 ag] K [] (fun v K' H' => v = .int .i64 r ∧ H' = []) := by
 obtain ⟨ae, ai, bt⟩ := hX
 subst bt
 refine Fn.enter Tryz.func229 Tryz.call229 rfl fun F => ?_
 unfold Jcm at hm
 refine qas ?_
 intro b2
 refine qas ?_
 intro b3
 refine mkFunc ?_
 refine fa rfl (ro (ld r1 rfl rfl ?_))
 refine qam rfl ?_
 refine qag (cs rfl rfl hm ?_ ?_) <;> intro w9 hm
 refine cb hm fun al bn hm => cgx (JY bn :) ?_
 refine cs rfl rfl hm ?_ ?_ <;> intro bB hm
 exact eE hm
 refine cb hm fun bA bm hm => cgx (JY bm :) ?_
 refine cs rfl rfl hm ?_ ?_ <;> intro bz hm
 exact eE hm
 exact eE hm
 refine qag (cs rfl rfl hm ?_ ?_) <;> intro bb hm
 refine qac rfl (ct bb ?_)
 refine cb hm fun bg a6 hm => cgx (JY a6 :) ?_
 refine cs rfl rfl hm ?_ ?_ <;> intro br hm
 exact eE hm
 exact eE hm
 refine qag (cs rfl rfl hm ?_ ?_) <;> intro bb hm
 refine cb hm fun bg a6 hm => cgx (JY a6 :) ?_
 refine cs rfl rfl hm ?_ ?_ <;> intro br hm
 exact eE hm
 exact eE hm
 refine qag (cs rfl rfl hm ?_ ?_) <;> intro aY hm
 refine qac rfl (ct aY ?_)
 refine cb hm fun ba aX hm => cgx (JY aX :) ?_
 refine cs rfl rfl hm ?_ ?_ <;> intro a8 hm
 exact eE hm
 exact eE hm
 refine qag (cs rfl rfl hm ?_ ?_) <;> intro aY hm
 refine qac rfl (ct aY ?_)
 refine cb hm fun ba aX hm => cgx (JY aX :) ?_
 refine cs rfl rfl hm ?_ ?_ <;> intro a8 hm
 exact eE hm
 exact eE hm
 refine qag (cs rfl rfl hm ?_ ?_) <;> intro aY hm
 refine cb hm fun ba aX hm => cgx (JY aX :) ?_
 refine cs rfl rfl hm ?_ ?_ <;> intro a8 hm
 exact eE hm
 exact eE hm
 refine qag (cs rfl rfl hm ?_ ?_) <;> intro bw hm
 refine fa rfl (ro (ld r1 rfl rfl ?_))
 refine qam rfl ?_
 refine qaq (cs rfl rfl hm ?_ ?_) <;> intro bc hm
 refine qac rfl (ct bc ?_)
 refine qa4 ⟨⟨[], false⟩, _, [(_, _)], []⟩ (by kernel_rfl) ⟨Hp.Le.refl _, (pf rfl), ci0⟩ ?_
 refine qap m0 rfl rfl ?_
 obtain ⟨bp, aV, aT, hm⟩ := ixb hm
 refine qae rfl rfl (qf3 ai.rd aT) aV (qaz rfl aV aT) (qdn ((0 : Int).toNat) 0 _ _ ai.rd rfl (mp aT) rfl rfl (qap m0 rfl rfl ?_))
 obtain ⟨bf, aW, aU, hm⟩ := ixb hm
 refine qae rfl rfl (qf3 ai.rd aU) aW (qaz rfl aW aU) (qdn ((1 : Int).toNat) 0 _ _ ai.rd rfl (mp aU) rfl rfl (qag ?_))
 refine cs rfl rfl hm ?_ ?_ <;> intro bo hm
 exact eE hm
 exact eE hm
 refine qaq (cs rfl rfl hm ?_ ?_) <;> intro bc hm
 refine qa4 ⟨⟨[], false⟩, _, [(_, _)], []⟩ (by kernel_rfl) ⟨Hp.Le.refl _, (pf rfl), ci0⟩ ?_
 refine qap m0 rfl rfl ?_
 obtain ⟨bp, aV, aT, hm⟩ := ixb hm
 refine qae rfl rfl (qf3 ai.rd aT) aV (qaz rfl aV aT) (qdn ((0 : Int).toNat) 0 _ _ ai.rd rfl (mp aT) rfl rfl (qap m0 rfl rfl ?_))
 obtain ⟨bf, aW, aU, hm⟩ := ixb hm
 refine qae rfl rfl (qf3 ai.rd aU) aW (qaz rfl aW aU) (qdn ((1 : Int).toNat) 0 _ _ ai.rd rfl (mp aU) rfl rfl (qag ?_))
 refine cs rfl rfl hm ?_ ?_ <;> intro bo hm
 exact eE hm
 exact eE hm
 refine qaq (cs rfl rfl hm ?_ ?_) <;> intro bd hm
 refine qac rfl (ct bd ?_)
 refine cb hm fun bh aZ hm => cgx (JY aZ :) ?_
 refine cs rfl rfl hm ?_ ?_ <;> intro bl hm
 exact eE hm
 exact eE hm
 refine qaq (cs rfl rfl hm ?_ ?_) <;> intro bd hm
 refine cb hm fun bh aZ hm => cgx (JY aZ :) ?_
 refine cs rfl rfl hm ?_ ?_ <;> intro bl hm
 exact eE hm
 exact eE hm
 refine cb hm fun bv bj hm => cgx (JY bj :) ?_
 refine cs rfl rfl hm ?_ ?_ <;> intro bu hm
 exact eE hm
 exact eE hm
 exact eE hm

def JaM (rec_ : (Jm → Ja → (List Jl) → Option (Int × Jm))) (env : (List Jl)) : List Ja → Nat → (List Int) → Int → Err → Option (Fl (Int × Jm) ((List Int) × Int × Err))
  | [], _, ac, aU, aT => some (Fl.go (ac, aU, aT))
  | e0 :: aW, i0, ac, aU, aT =>
    (rec_ (⟨aU, aT⟩ : Jm) e0 env).bind fun aV =>
    (chk (ac.length + [aV.1].length ≤ lim)).bind fun _ =>
    if aV.2.err.isSome then
    some (Fl.ret (0, aV.2))
    else
    JaM rec_ env aW (i0 + 1) (ac ++ [aV.1]) aV.2.line aV.2.err
def JaN : Nat → Jm → Ja → (List Jl) → Option (Int × Jm)
  | 0, _, _, _ => none
  | n + 1, c, n', env =>
    (chk (n'.Aa.length ≤ qa7)).bind fun _ =>
    (JaM (JaN n) env n'.Aa 0 [] c.line c.err).bind fun s0 => s0.el some fun t0 =>
    if decide (n'.Ab = 20) then
    some (2, (⟨t0.2.1, t0.2.2⟩ : Jm))
    else
    if decide (n'.Ab = 21) then
    some (1, (⟨t0.2.1, t0.2.2⟩ : Jm))
    else
    if decide (n'.Ab = 22) then
    some (3, (⟨t0.2.1, t0.2.2⟩ : Jm))
    else
    if decide (n'.Ab = 23) then
    (Jci n n'.Ac env).bind fun aT =>
    if decide (aT = 0) then
    (Jac (⟨t0.2.1, t0.2.2⟩ : Jm) n' (some 8)).bind fun aX =>
    some (aT, aX)
    else
    some (aT, (⟨t0.2.1, t0.2.2⟩ : Jm))
    else
    if decide (n'.Ab = 24) then
    (JbB (⟨t0.2.1, t0.2.2⟩ : Jm) n' t0.1).bind fun aV =>
    some (aV.1, aV.2)
    else
    (Jcm n' t0.1).bind fun aU =>
    if decide (aU = 0) then
    (Jac (⟨t0.2.1, t0.2.2⟩ : Jm) n' (some 9)).bind fun aW =>
    some (aU, aW)
    else
    some (aU, (⟨t0.2.1, t0.2.2⟩ : Jm))
theorem Jdv : ∀ {n : Nat} {c : Jm} {n' : Ja} {env : (List Jl)} {b0 : Nat} {af : Option Addr} {ag : Nat} {aq : Option Addr} {ar : Nat} {n2 : Nat} {K : Hp} {r : Int × Jm}
    (hm : JaN n c n' env = some r) (hX : LiC Ja.R K af ag 4 n'.Aa ∧ RdC Jl.enc K aq ar 2 env ∧ n2 = env.length),
    Fn Tryz.prog 191 [.pointer (some ⟨b0, 0, none⟩), .agg #[.int .i64 n'.Ab, str n'.Ac, .slice af n'.Aa.length ag, .int .i64 n'.Ad], .slice aq n2 ar] K [Cells b0 204 [.int .i64 c.line, qc5 48 c.err]] (fun v K' H' => v = .int .i64 r.1 ∧ H' = [Cells b0 204 [.int .i64 r.2.line, qc5 48 r.2.err]]) := by
 intro n
 induction n with
 | zero =>
   intro c n' env b0 af ag aq ar n2 K r hm hX
   rw [JaN.eq_1] at hm; cases hm
 | succ n ih =>
   intro c n' env b0 af ag aq ar n2 K r hm hX
   obtain ⟨ai, bp, bC⟩ := hX
   subst bC
   refine Fn.enter Tryz.func191 Tryz.call191 rfl fun F => ?_
   rw [JaN.eq_2] at hm
   refine qas ?_
   intro b4
   refine fa rfl (ro (ld r0 rfl rfl (ro (qal rfl ?_))))
   obtain ⟨bB, hm⟩ := qaw hm
   obtain ⟨s0, aV, hm⟩ := bnd hm
   refine qhp eN 3 1 ?_
   refine lD (σ := ((List Int) × Int × Err) × Option Addr × Nat) ([6,7,9] ++ rg 15 17) [1, 3] (fun i0 => [(15, .int .i64 (i0 : Int))]) (fun (t0, aT, aU) => [(7, .slice aT t0.1.length aU)]) (fun (t0, aT, aU) => [qau eN aT 3 1 aU t0.1, Cells b0 204 [.int .i64 t0.2.1, qc5 48 t0.2.2]]) (fun (t0, aT, aU) => (0 < t0.1.length → Has aT) ∧ True) (fun i0 (t0, aT, aU) => JaM (JaN n) env (n'.Aa.drop i0) i0 t0.1 t0.2.1 t0.2.2 = some s0) (fun (t0, aT, aU) => s0 = Fl.go t0) (fun i0 => n'.Aa.length - i0) 0 ((_, _, _), _, _) aV (And.intro qe (And.intro ?_ ?_))
   clear aV
   rintro i0 ⟨⟨ac, br, bG⟩, bg, bf⟩ ⟨bc, _⟩ aV j0
   dsimp only at aV ⊢
   refine qac rfl ?_
   refine qah ?_ ?_ <;> intro w0
   obtain ⟨e0, a6, bz⟩ := ltx w0
   rw [bz, JaM.eq_2] at aV
   refine qam rfl ?_
   refine RStep.ofN (qae rfl rfl (qc8 ai.rd a6) (nn _) (qbs a6) ?_)
   obtain ⟨bv, bD, a8, ba, bb⟩ := LiR.get ai.rd a6
   obtain ⟨bh, bn, rfl, bl⟩ := Ja.out bb
   refine ro (qao i0 _ a8 rfl ba rfl ?_)
   refine qai rfl fun b9 => ?_
   refine qaa r0 rfl ⟨rfl, rfl, (nl rfl), ?_⟩
   refine ro (qab r0 rfl (nl rfl) ?_)
   refine cb aV fun bj bw aV => cgx (ih bw :) ?_
   refine bsO (len := 1) (enc := eN) (l := [bj.1]) (cl := [.int .i64 bj.1]) qko rfl rfl (fun _ _ => rfl) rfl rfl rfl ?_ fun bK => ?_
   · conv => whnf
     refine cT ?_
     first | done | rfl
   obtain ⟨bA, aV⟩ := qaw aV
   refine apE rfl r3 qko (qay rfl r0 rfl (fun _ => rfl) (fun _ => rfl)) bA ?_
   intro bR bM bL
   refine qaj (fa rfl (ro (ld r2 rfl rfl (qa9 rfl ?_))))
   refine cs rfl rfl aV ?_ ?_ <;> intro bO aV
   exact eE (er aV hm)
   refine qan (qbu a6 bB) ?_
   exact eR aV (_, (_, _, _), _, _)
   rw [lty w0, JaM.eq_1] at aV
   refine cT ?_
   exact eM aV (_, _, _)
   rintro ⟨t0, aT, aU⟩ ⟨bm, _⟩ rfl j0
   replace hm := elg hm
   refine fa rfl (ro (ld r2 rfl rfl ?_))
   refine qam rfl ?_
   refine qag (cs rfl rfl hm ?_ ?_) <;> intro bP hm
   exact eE hm
   refine qag (cs rfl rfl hm ?_ ?_) <;> intro bX hm
   exact eE hm
   refine qag (cs rfl rfl hm ?_ ?_) <;> intro bU hm
   exact eE hm
   refine qag (cs rfl rfl hm ?_ ?_) <;> intro bV hm
   refine fa rfl (ro (ld r2 rfl rfl ?_))
   refine cb hm fun bS bF hm => cgx (JcK bF :) ?_
   refine qag (cs rfl rfl hm ?_ ?_) <;> intro bZ hm
   refine ro (qab r2 rfl (nl rfl) ?_)
   refine qat rfl ?_
   refine cb hm fun bN bH hm => cgx (J9 bH :) ?_
   exact eE hm
   exact eE hm
   refine qag (cs rfl rfl hm ?_ ?_) <;> intro bT hm
   refine ro (qab r2 rfl (nl rfl) ?_)
   refine cb hm fun bJ bu hm => ck0 (Fn.lend Tryz.call228 (fun bd aZ aY => (JcC (c := (⟨t0.2.1, t0.2.2⟩ : Jm)) (n' := n') bu ⟨(LiC.mono Ja.R_ok aZ ai), aY, rfl⟩)) (by exact fun _ _ _ _ h => h)) ?_
   rintro _ _ _ ⟨_, rfl, rfl, rfl⟩
   exact eE hm
   refine ro (qab r2 rfl (nl rfl) ?_)
   refine cb hm fun bW bI hm => ck0 (Fn.lend Tryz.call229 (fun bo aW aX => (Jda (n' := n') bI ⟨(LiC.mono Ja.R_ok aW ai), aX, rfl⟩)) (by exact fun _ _ _ _ h => h)) ?_
   rintro _ _ _ ⟨_, rfl, rfl, rfl⟩
   refine qag (cs rfl rfl hm ?_ ?_) <;> intro bQ hm
   refine ro (qab r2 rfl (nl rfl) ?_)
   refine qat rfl ?_
   refine cb hm fun bY bt hm => cgx (J9 bt :) ?_
   exact eE hm
   exact eE hm

def Jdn (n' : Ja) : Option (Int) :=
  if decide (n'.Ab = 2) then
  some 3
  else
  if decide (n'.Ab = 4) then
  some 1
  else
  if decide (n'.Ab = 5) then
  some 1
  else
  if decide (n'.Ab = 7) then
  some 1
  else
  if decide (n'.Ab = 8) then
  some 2
  else
  if decide (n'.Ab = 9) then
  some 2
  else
  some 0
theorem Jd8 {n' : Ja} {aa : Option Addr} {ab : Nat} {K : Hp} {r : Int}
    (hm : Jdn n' = some r) (ae : LiC Ja.R K aa ab 4 n'.Aa) :
    Fn Tryz.prog 192 [.agg #[.int .i64 n'.Ab, str n'.Ac, .slice aa n'.Aa.length ab, .int .i64 n'.Ad]] K [] (fun v K' H' => v = .int .i64 r ∧ H' = []) := by
 refine Fn.enter Tryz.func192 Tryz.call192 rfl fun F => ?_
 unfold Jdn at hm
 refine qas ?_
 intro b1
 refine fa rfl (ro (ld r0 rfl rfl ?_))
 refine qam rfl ?_
 refine qag (cs rfl rfl hm ?_ ?_) <;> intro w5 hm
 exact eE hm
 refine qag (cs rfl rfl hm ?_ ?_) <;> intro w7 hm
 refine qac rfl (ct w7 ?_)
 exact eE hm
 refine qag (cs rfl rfl hm ?_ ?_) <;> intro w7 hm
 refine qac rfl (ct w7 ?_)
 exact eE hm
 refine qag (cs rfl rfl hm ?_ ?_) <;> intro w7 hm
 exact eE hm
 refine qag (cs rfl rfl hm ?_ ?_) <;> intro aT hm
 refine qac rfl (ct aT ?_)
 exact eE hm
 refine qag (cs rfl rfl hm ?_ ?_) <;> intro aT hm
 exact eE hm
 exact eE hm

def Jcn (n : Nat) (name : Str) (env : (List Jl)) : Option (Bool) :=
  (Jci n name env).bind fun x7 =>
  some (decide (x7 ≠ 0))
theorem Jdb {n : Nat} {name : Str} {env : (List Jl)} {af : Option Addr} {ag : Nat} {n1 : Nat} {K : Hp} {r : Bool}
    (hm : Jcn n name env = some r) (hX : RdC Jl.enc K af ag 2 env ∧ n1 = env.length) :
    Fn Tryz.prog 194 [str name, .slice af n1 ag] K [] (fun v K' H' => v = .bool r ∧ H' = []) := by
 obtain ⟨ai, aT⟩ := hX
 subst aT
 refine Fn.enter Tryz.func194 Tryz.call194 rfl fun F => ?_
 unfold Jcn at hm
 refine cb hm fun x7 q7 hm => cgx (JcK q7 :) ?_
 refine qa8 ?_
 exact eE hm

def Ja7 (env : (List Jl)) (name : Str) (t : Int) : Option ((List Jl)) :=
  (chk (InI ((env.length : Int) + 1))).bind fun _ =>
  (chk ((0 : Int) ≤ ((env.length : Int) + 1) ∧ ((env.length : Int) + 1) ≤ (lim : Int))).bind fun _ =>
  (chk (([] : List Jl).length + env.length ≤ lim)).bind fun _ =>
  (chk ((([] : List Jl) ++ env).length + [(⟨name, t⟩ : Jl)].length ≤ lim)).bind fun _ =>
  some ((([] : List Jl) ++ env) ++ [(⟨name, t⟩ : Jl)])
theorem Jbn {env : (List Jl)} {name : Str} {t : Int} {aa : Option Addr} {ab : Nat} {n0 : Nat} {K : Hp} {r : (List Jl)}
    (hm : Ja7 env name t = some r) (hX : RdC Jl.enc K aa ab 2 env ∧ n0 = env.length) :
    Fn Tryz.prog 195 [.slice aa n0 ab, str name, .int .i64 t] K [] (fun v K' H' => ∃ ar_0 : Option Addr, ∃ cr_0 : Nat, v = .slice ar_0 r.length cr_0 ∧ (0 < r.length → Has ar_0) ∧ H' = [qau Jl.enc ar_0 288 2 cr_0 r]) := by
 obtain ⟨ae, aW⟩ := hX
 subst aW
 refine Fn.enter Tryz.func195 Tryz.call195 rfl fun F => ?_
 unfold Ja7 at hm
 refine ro (qal rfl ?_)
 refine ci hm fun hm => ?_
 obtain ⟨aV, hm⟩ := qaw hm
 refine qqa (enc := Jl.enc) qkp rfl aV fun a6 => ?_
 obtain ⟨aU, hm⟩ := qaw hm
 refine apE rfl r0 qkp (qq9 rfl ae.rd rfl) aU ?_
 intro aX bc bb
 refine qad rfl rfl (cT (cT ?_))
 refine bsO (len := 1) (enc := Jl.enc) (l := [(⟨name, t⟩ : Jl)]) (cl := [str name, .int .i64 t]) qkp rfl rfl (fun _ _ => rfl) rfl rfl rfl ?_ fun aY => ?_
 · conv => whnf
   refine cT ?_
   first | done | rfl
 obtain ⟨aT, hm⟩ := qaw hm
 refine apE rfl r1 qkp (qay rfl r0 rfl (fun _ => rfl) (fun _ => rfl)) aT ?_
 intro aZ a8 ba
 exact eE hm

def Jcj (n' : Ja) : Option ((List Ja)) :=
  if decide (n'.Ab = 12) then
  some n'.Aa
  else
  some [n']
theorem Jcd {n' : Ja} {aa : Option Addr} {ab : Nat} {K : Hp} {r : (List Ja)}
    (hm : Jcj n' = some r) (ae : LiC Ja.R K aa ab 4 n'.Aa) :
    Fn Tryz.prog 196 [.agg #[.int .i64 n'.Ab, str n'.Ac, .slice aa n'.Aa.length ab, .int .i64 n'.Ad]] K [] (fun v K' H' => ∃ ar_0 : Option Addr, ∃ cr_0 : Nat, v = .slice ar_0 r.length cr_0 ∧ LiC Ja.R K' ar_0 cr_0 4 r ∧ H' = []) := by
 refine Fn.enter Tryz.func196 Tryz.call196 rfl fun F => ?_
 unfold Jcj at hm
 refine qas ?_
 intro b1
 refine fa rfl (ro (ld r0 rfl rfl (qag ?_)))
 refine cs rfl rfl hm ?_ ?_ <;> intro w5 hm
 refine fa rfl (ro (ld r0 rfl rfl ?_))
 exact eE hm
 refine ro (qab r0 rfl (nl rfl) ?_)
 refine qj2 (R := Ja.R) (len := 1) (l := [n']) (css := [[.int .i64 n'.Ab, str n'.Ac, .slice aa n'.Aa.length ab, .int .i64 n'.Ad]]) (cl := [.int .i64 n'.Ab, str n'.Ac, .slice aa n'.Aa.length ab, .int .i64 n'.Ad]) Ja.R_ok qbz rfl rfl (LR.snoc LR.nil (Ja.of (x := n') ⟨aa, ab, rfl, ae⟩)) rfl rfl rfl ?_ fun b9 => ?_
 · conv => whnf
   refine cT ?_
   first | done | rfl
 refine qt9 Ja.R_ok r0 (show LR Ja.R _ [[.int .i64 n'.Ab, str n'.Ac, .slice aa n'.Aa.length ab, .int .i64 n'.Ad]] [n'] from (LR.snoc LR.nil (Ja.of (x := n') ⟨aa, ab, rfl, ae⟩))) fun aU aT aV => ?_
 exact eE hm

def JU (rec_ : (Jm → (List Ja) → (List Jl) → Option (Jm))) (ac : (List Jl)) : List Ja → Nat → Int → Err → Option (Int × Err)
  | [], _, aT, aU => some (aT, aU)
  | e3 :: aX, i3, aT, aU =>
    (Jcj e3).bind fun aW =>
    (rec_ (⟨aT, aU⟩ : Jm) aW ac).bind fun aV =>
    JU rec_ ac aX (i3 + 1) aV.line aV.err
def JC (n : Nat) (rec_ : (Jm → (List Ja) → (List Jl) → Option (Jm))) : List Ja → Nat → (List Jl) → Int → Err → Option (Fl (Jm) ((List Jl) × Int × Err))
  | [], _, ac, aY, aW => some (Fl.go (ac, aY, aW))
  | e0 :: aX, i0, ac, aY, aW =>
    if decide ((e0.Aa.length : Int) = 0) then
    JC n rec_ aX (i0 + 1) ac aY aW
    else
    (ix e0.Aa 0).bind fun ba =>
    (JaN n (⟨aY, aW⟩ : Jm) ba ac).bind fun aT =>
    (Jdn e0).bind fun a8 =>
    if ((aT.2.err.isNone && decide (a8 ≠ 0)) && decide (aT.1 ≠ a8)) then
    (Jac aT.2 e0 (some 9)).bind fun aU =>
    if aU.err.isSome then
    some (Fl.ret aU)
    else
    if decide (e0.Ab = 3) then
    (Jcn n e0.Ac ac).bind fun a6 =>
    if a6 then
    (Jac aU e0 (some 4)).bind fun aV =>
    (Ja7 ac e0.Ac aT.1).bind fun aZ =>
    if aV.err.isSome then
    some (Fl.ret aV)
    else
    JC n rec_ aX (i0 + 1) aZ aV.line aV.err
    else
    (Ja7 ac e0.Ac aT.1).bind fun aZ =>
    if aU.err.isSome then
    some (Fl.ret aU)
    else
    JC n rec_ aX (i0 + 1) aZ aU.line aU.err
    else
    if decide (e0.Ab = 2) then
    (chk (0 ≤ (1 : Int) ∧ (1 : Int) ≤ (e0.Aa.length : Int) ∧ (e0.Aa.length : Int) ≤ (e0.Aa.length : Int))).bind fun _ =>
    (chk ((subL e0.Aa (1 : Int) (e0.Aa.length : Int)).length ≤ qa7)).bind fun _ =>
    (JU rec_ ac (subL e0.Aa (1 : Int) (e0.Aa.length : Int)) 0 aU.line aU.err).bind fun t3 =>
    if t3.2.isSome then
    some (Fl.ret (⟨t3.1, t3.2⟩ : Jm))
    else
    JC n rec_ aX (i0 + 1) ac t3.1 t3.2
    else
    if aU.err.isSome then
    some (Fl.ret aU)
    else
    JC n rec_ aX (i0 + 1) ac aU.line aU.err
    else
    if aT.2.err.isSome then
    some (Fl.ret aT.2)
    else
    if decide (e0.Ab = 3) then
    (Jcn n e0.Ac ac).bind fun a6 =>
    if a6 then
    (Jac aT.2 e0 (some 4)).bind fun aV =>
    (Ja7 ac e0.Ac aT.1).bind fun aZ =>
    if aV.err.isSome then
    some (Fl.ret aV)
    else
    JC n rec_ aX (i0 + 1) aZ aV.line aV.err
    else
    (Ja7 ac e0.Ac aT.1).bind fun aZ =>
    if aT.2.err.isSome then
    some (Fl.ret aT.2)
    else
    JC n rec_ aX (i0 + 1) aZ aT.2.line aT.2.err
    else
    if decide (e0.Ab = 2) then
    (chk (0 ≤ (1 : Int) ∧ (1 : Int) ≤ (e0.Aa.length : Int) ∧ (e0.Aa.length : Int) ≤ (e0.Aa.length : Int))).bind fun _ =>
    (chk ((subL e0.Aa (1 : Int) (e0.Aa.length : Int)).length ≤ qa7)).bind fun _ =>
    (JU rec_ ac (subL e0.Aa (1 : Int) (e0.Aa.length : Int)) 0 aT.2.line aT.2.err).bind fun t3 =>
    if t3.2.isSome then
    some (Fl.ret (⟨t3.1, t3.2⟩ : Jm))
    else
    JC n rec_ aX (i0 + 1) ac t3.1 t3.2
    else
    if aT.2.err.isSome then
    some (Fl.ret aT.2)
    else
    JC n rec_ aX (i0 + 1) ac aT.2.line aT.2.err
def J8 : Nat → Jm → (List Ja) → (List Jl) → Option (Jm)
  | 0, _, _, _ => none
  | n + 1, c, list, env =>
    (chk (list.length ≤ qa7)).bind fun _ =>
    (JC n (J8 n) list 0 env c.line c.err).bind fun s0 => s0.el some fun t0 =>
    some (⟨t0.2.1, t0.2.2⟩ : Jm)
theorem Jdo : ∀ {n : Nat} {c : Jm} {list : (List Ja)} {env : (List Jl)} {b0 : Nat} {af : Option Addr} {ag : Nat} {n1 : Nat} {aq : Option Addr} {ar : Nat} {n2 : Nat} {K : Hp} {r : Jm}
    (hm : J8 n c list env = some r) (hX : LiC Ja.R K af ag 4 list ∧ n1 = list.length ∧ RdC Jl.enc K aq ar 2 env ∧ n2 = env.length),
    Fn Tryz.prog 141 [.pointer (some ⟨b0, 0, none⟩), .slice af n1 ag, .slice aq n2 ar] K [Cells b0 204 [.int .i64 c.line, qc5 48 c.err]] (fun v K' H' => v = .tuple #[] ∧ H' = [Cells b0 204 [.int .i64 r.line, qc5 48 r.err]]) := by
 intro n
 induction n with
 | zero =>
   intro c list env b0 af ag n1 aq ar n2 K r hm hX
   rw [J8.eq_1] at hm; cases hm
 | succ n ih =>
   intro c list env b0 af ag n1 aq ar n2 K r hm hX
   obtain ⟨ai, cV, cj, cJ⟩ := hX
   subst cV
   subst cJ
   refine Fn.enter Tryz.func141 Tryz.call141 rfl fun F => ?_
   rw [J8.eq_2] at hm
   refine ro (qal rfl ?_)
   obtain ⟨bj, hm⟩ := qaw hm
   obtain ⟨s0, aT, hm⟩ := bnd hm
   refine lC (σ := ((List Jl) × Int × Err) × Option Addr × Nat) ([2,7,8,9,11] ++ rg 14 79) [1] (fun i0 => [(14, .int .i64 (i0 : Int))]) (fun (t0, aX, aY) => [(2, .slice aX t0.1.length aY)]) (fun (t0, aX, aY) => [Cells b0 204 [.int .i64 t0.2.1, qc5 48 t0.2.2]]) (fun zz K1 => match zz with | (t0, aX, aY) => RdC Jl.enc K1 aX aY 2 t0.1 ∧ True) (fun i0 (t0, aX, aY) => JC n (J8 n) (list.drop i0) i0 t0.1 t0.2.1 t0.2.2 = some s0) (fun (t0, aX, aY) => s0 = Fl.go t0) (fun i0 => list.length - i0) 0 ((_, _, _), _, _) aT (And.intro qe (And.intro ?_ ?_))
   clear aT
   rintro i0 ⟨⟨ac, cr, cP⟩, ca, bX⟩ cX co ⟨bW, _⟩ aT j0
   dsimp only at aT ⊢
   refine qac rfl ?_
   refine qah ?_ ?_ <;> intro w0
   obtain ⟨e0, a6, cB⟩ := ltx w0
   rw [cB, JC.eq_2] at aT
   refine qam rfl ?_
   refine RStep.ofN (qae rfl rfl (qc8 (LiC.mono Ja.R_ok co ai).rd a6) (nn _) (qbs a6) ?_)
   obtain ⟨cQ, cO, bJ, bH, bC⟩ := LiR.get (LiC.mono Ja.R_ok co ai).rd a6
   obtain ⟨bZ, cn, rfl, aZ⟩ := Ja.out bC
   refine ro (qao i0 _ bJ rfl bH rfl ?_)
   refine qai rfl fun b7 => ?_
   refine qaa r0 rfl ⟨rfl, rfl, (nl rfl), ?_⟩
   refine fa rfl (ro (ld r0 rfl rfl (ro (qal rfl (qag ?_)))))
   refine cs rfl rfl aT ?_ ?_ <;> intro cY aT
   refine cT (qan (qbu a6 bj) ?_)
   exact eR aT (_, (_, _, _), _, _)
   refine fa rfl (ro (ld r0 rfl rfl ?_))
   obtain ⟨c4, cp, bB, aT⟩ := ixb aT
   refine RStep.ofN (qae rfl rfl (qc8 aZ.rd bB) cp (qaz rfl cp bB) ?_)
   obtain ⟨cC, cE, bN, bR, bF⟩ := LiR.get aZ.rd bB
   obtain ⟨cd, bY, rfl, cm⟩ := Ja.out bF
   refine ro (qao ((0 : Int).toNat) _ bN rfl bR rfl ?_)
   refine cb aT fun bI cA aT => cgx (Jdv cA :) ?_
   refine ro (qab r1 rfl (nl rfl) ?_)
   refine cb aT fun bS cy aT => cgx (Jd8 cy :) ?_
   refine jR (σ := Unit) (rg 31 14) (fun _ => [(44, .bool ((bI.2.err.isNone && decide (bS ≠ 0)) && decide (bI.1 ≠ bS)))]) (fun cR => True) ?_ ?_
   refine qaf rfl ?_
   refine qaj (fa rfl (ro (ld r0 rfl rfl (qbn rfl ?_))))
   refine qah ?_ ?_ <;> intro aW
   refine ct aW (qa8 (ct aW ?_))
   refine qah ?_ ?_ <;> intro aU
   refine ct aU (ct aU (qa8 (ct aU ?_)))
   exact eMt () ⟨bq (qcz (b := decide (bI.1 ≠ bS)) (qcx aW aU)), trivial⟩
   refine cf aU (cf aU (cf aU ?_))
   exact eMt () ⟨bq (((qbe (qcy aW aU))).symm), trivial⟩
   refine cf aW (cf aW (cF (cF (cF (cF ?_)))))
   exact eMt () ⟨bq (((qbe (qbe aW))).symm), trivial⟩
   rintro _ _ cz
   refine cs rfl rfl aT ?_ ?_ <;> intro c5 aT
   refine ro (qab r1 rfl (nl rfl) ?_)
   refine qat rfl ?_
   refine cb aT fun c6 cN aT => cgx (J9 cN :) ?_
   refine qaj (fa rfl (ro (ld r0 rfl rfl (qa9 rfl ?_))))
   refine cs rfl rfl aT ?_ ?_ <;> intro cG aT
   exact eE (er aT hm)
   refine fa rfl (ro (ld r1 rfl rfl ?_))
   refine qam rfl ?_
   refine qag (cs rfl rfl aT ?_ ?_) <;> intro cq aT
   refine fa rfl (ro (ld r1 rfl rfl ?_))
   refine cb aT fun cL bV aT => cgx (Jdb bV :) ?_
   refine cs rfl rfl aT ?_ ?_ <;> intro cI aT
   refine ro (qab r1 rfl (nl rfl) ?_)
   refine qat rfl ?_
   refine cb aT fun cM bP aT => cgx (J9 bP :) ?_
   refine fa rfl (ro (ld r1 rfl rfl ?_))
   refine cb aT fun bD bm aT => ckx (Jbn bm :) ?_
   rintro _ _ _ ⟨bc, ba, rfl, bf, rfl⟩
   refine qaj (fa rfl (ro (ld r1 rfl rfl (qa9 rfl ?_))))
   refine cs rfl rfl aT ?_ ?_ <;> intro bn aT
   exact eE (er aT hm)
   refine qan (qbu a6 bj) ?_
   refine fRo r0 fun bg a8 bd => ?_
   exact eR aT (_, (_, _, _), _, _)
   refine fa rfl (ro (ld r1 rfl rfl ?_))
   refine cb aT fun bD bm aT => ckx (Jbn bm :) ?_
   rintro _ _ _ ⟨bc, ba, rfl, bf, rfl⟩
   refine qaj (fa rfl (ro (ld r1 rfl rfl (qa9 rfl ?_))))
   refine cs rfl rfl aT ?_ ?_ <;> intro bn aT
   exact eE (er aT hm)
   refine qan (qbu a6 bj) ?_
   refine fRo r0 fun bg a8 bd => ?_
   exact eR aT (_, (_, _, _), _, _)
   refine qag (cs rfl rfl aT ?_ ?_) <;> intro cw aT
   refine fa rfl (ro (ld r1 rfl rfl ?_))
   obtain ⟨br, aT⟩ := qaw aT
   have bb := aZ.subC br
   refine RStep.ofN (qo9 (l := e0.Aa) (lo := (some 1)) (hi := none) (lo' := (1 : Int)) (hi' := (e0.Aa.length : Int)) rfl rfl rfl rfl rfl aZ.le br (ro (qal rfl ?_)))
   obtain ⟨bL, aT⟩ := qaw aT
   obtain ⟨s3, aV, aT⟩ := bnd aT
   refine lD (σ := (Int × Err)) ([11] ++ rg 77 10) [1, 2] (fun i3 => [(77, .int .i64 (i3 : Int))]) (fun _ => []) (fun t3 => [Cells b0 204 [.int .i64 t3.1, qc5 48 t3.2]]) (fun _ => True) (fun i3 t3 => JU (J8 n) ac ((subL e0.Aa (1 : Int) (e0.Aa.length : Int)).drop i3) i3 t3.1 t3.2 = some s3) (fun t3 => t3 = s3) (fun i3 => (subL e0.Aa (1 : Int) (e0.Aa.length : Int)).length - i3) 0 (_, _) aV (And.intro qe (And.intro ?_ ?_))
   clear aV
   rintro i3 ⟨bU, bK⟩ _ aV j3
   dsimp only at aV ⊢
   refine qac rfl ?_
   refine qah ?_ ?_ <;> intro w3
   obtain ⟨e3, bh, bG⟩ := ltx w3
   rw [bG, JU.eq_2] at aV
   refine qam rfl ?_
   refine RStep.ofN (qae rfl rfl (qc8 bb.rd bh) (nn _) (qbs bh) ?_)
   obtain ⟨bO, bT, bp, bo, bl⟩ := LiR.get bb.rd bh
   obtain ⟨bz, bw, rfl, bA⟩ := Ja.out bl
   refine ro (qao i3 _ bp rfl bo rfl ?_)
   refine qai rfl fun cD => ?_
   refine qaa r0 rfl ⟨rfl, rfl, (nl rfl), ?_⟩
   refine ro (qab r0 rfl (nl rfl) ?_)
   refine cb aV fun cK bQ aV => cfx (Jcd bQ :) ?_
   rintro _ cU _ cH ⟨bv, bu, rfl, bt, rfl⟩
   refine cb aV fun cu bM aV => cgx (ih bM :) ?_
   refine qan (qbu bh bL) ?_
   exact eR aV (_, (_, _))
   rw [lty w3, JU.eq_1] at aV
   refine cT ?_
   exact eM aV _
   rintro t3 _ rfl j3
   refine qaj (fa rfl (ro (ld r0 rfl rfl (qa9 rfl ?_))))
   refine cs rfl rfl aT ?_ ?_ <;> intro bn aT
   exact eE (er aT hm)
   refine qan (qbu a6 bj) ?_
   exact eR aT (_, (_, _, _), _, _)
   refine qaj (fa rfl (ro (ld r0 rfl rfl (qa9 rfl ?_))))
   refine cs rfl rfl aT ?_ ?_ <;> intro bn aT
   exact eE (er aT hm)
   refine qan (qbu a6 bj) ?_
   exact eR aT (_, (_, _, _), _, _)
   refine qaj (fa rfl (ro (ld r0 rfl rfl (qa9 rfl ?_))))
   refine cs rfl rfl aT ?_ ?_ <;> intro cG aT
   exact eE (er aT hm)
   refine fa rfl (ro (ld r1 rfl rfl ?_))
   refine qam rfl ?_
   refine qag (cs rfl rfl aT ?_ ?_) <;> intro cq aT
   refine fa rfl (ro (ld r1 rfl rfl ?_))
   refine cb aT fun cL bV aT => cgx (Jdb bV :) ?_
   refine cs rfl rfl aT ?_ ?_ <;> intro cI aT
   refine ro (qab r1 rfl (nl rfl) ?_)
   refine qat rfl ?_
   refine cb aT fun cM bP aT => cgx (J9 bP :) ?_
   refine fa rfl (ro (ld r1 rfl rfl ?_))
   refine cb aT fun bD bm aT => ckx (Jbn bm :) ?_
   rintro _ _ _ ⟨bc, ba, rfl, bf, rfl⟩
   refine qaj (fa rfl (ro (ld r1 rfl rfl (qa9 rfl ?_))))
   refine cs rfl rfl aT ?_ ?_ <;> intro bn aT
   exact eE (er aT hm)
   refine qan (qbu a6 bj) ?_
   refine fRo r0 fun bg a8 bd => ?_
   exact eR aT (_, (_, _, _), _, _)
   refine fa rfl (ro (ld r1 rfl rfl ?_))
   refine cb aT fun bD bm aT => ckx (Jbn bm :) ?_
   rintro _ _ _ ⟨bc, ba, rfl, bf, rfl⟩
   refine qaj (fa rfl (ro (ld r1 rfl rfl (qa9 rfl ?_))))
   refine cs rfl rfl aT ?_ ?_ <;> intro bn aT
   exact eE (er aT hm)
   refine qan (qbu a6 bj) ?_
   refine fRo r0 fun bg a8 bd => ?_
   exact eR aT (_, (_, _, _), _, _)
   refine qag (cs rfl rfl aT ?_ ?_) <;> intro cw aT
   refine fa rfl (ro (ld r1 rfl rfl ?_))
   obtain ⟨br, aT⟩ := qaw aT
   have bb := aZ.subC br
   refine RStep.ofN (qo9 (l := e0.Aa) (lo := (some 1)) (hi := none) (lo' := (1 : Int)) (hi' := (e0.Aa.length : Int)) rfl rfl rfl rfl rfl aZ.le br (ro (qal rfl ?_)))
   obtain ⟨bL, aT⟩ := qaw aT
   obtain ⟨s3, aV, aT⟩ := bnd aT
   refine lD (σ := (Int × Err)) ([11] ++ rg 77 10) [1, 2] (fun i3 => [(77, .int .i64 (i3 : Int))]) (fun _ => []) (fun t3 => [Cells b0 204 [.int .i64 t3.1, qc5 48 t3.2]]) (fun _ => True) (fun i3 t3 => JU (J8 n) ac ((subL e0.Aa (1 : Int) (e0.Aa.length : Int)).drop i3) i3 t3.1 t3.2 = some s3) (fun t3 => t3 = s3) (fun i3 => (subL e0.Aa (1 : Int) (e0.Aa.length : Int)).length - i3) 0 (_, _) aV (And.intro qe (And.intro ?_ ?_))
   clear aV
   rintro i3 ⟨bU, bK⟩ _ aV j3
   dsimp only at aV ⊢
   refine qac rfl ?_
   refine qah ?_ ?_ <;> intro w3
   obtain ⟨e3, bh, bG⟩ := ltx w3
   rw [bG, JU.eq_2] at aV
   refine qam rfl ?_
   refine RStep.ofN (qae rfl rfl (qc8 bb.rd bh) (nn _) (qbs bh) ?_)
   obtain ⟨bO, bT, bp, bo, bl⟩ := LiR.get bb.rd bh
   obtain ⟨bz, bw, rfl, bA⟩ := Ja.out bl
   refine ro (qao i3 _ bp rfl bo rfl ?_)
   refine qai rfl fun cD => ?_
   refine qaa r0 rfl ⟨rfl, rfl, (nl rfl), ?_⟩
   refine ro (qab r0 rfl (nl rfl) ?_)
   refine cb aV fun cK bQ aV => cfx (Jcd bQ :) ?_
   rintro _ cU _ cH ⟨bv, bu, rfl, bt, rfl⟩
   refine cb aV fun cu bM aV => cgx (ih bM :) ?_
   refine qan (qbu bh bL) ?_
   exact eR aV (_, (_, _))
   rw [lty w3, JU.eq_1] at aV
   refine cT ?_
   exact eM aV _
   rintro t3 _ rfl j3
   refine qaj (fa rfl (ro (ld r0 rfl rfl (qa9 rfl ?_))))
   refine cs rfl rfl aT ?_ ?_ <;> intro bn aT
   exact eE (er aT hm)
   refine qan (qbu a6 bj) ?_
   exact eR aT (_, (_, _, _), _, _)
   refine qaj (fa rfl (ro (ld r0 rfl rfl (qa9 rfl ?_))))
   refine cs rfl rfl aT ?_ ?_ <;> intro bn aT
   exact eE (er aT hm)
   refine qan (qbu a6 bj) ?_
   exact eR aT (_, (_, _, _), _, _)
   rw [lty w0, JC.eq_1] at aT
   refine cT ?_
   exact eM aT (_, _, _)
   rintro ⟨t0, aX, aY⟩ cZ cW ⟨ce, _⟩ rfl j0
   replace hm := elg hm
   exact eE hm

def Jbq (n : Nat) (program : Ja) : Option (Int × Err) :=
  (Jaz n program).bind fun x6 =>
  if (!x6) then
  some (0, (some 2))
  else
  (J8 n (⟨0, none⟩ : Jm) program.Aa []).bind fun aT =>
  some (aT.line, aT.err)
theorem JcW {n : Nat} {program : Ja} {aa : Option Addr} {ab : Nat} {K : Hp} {r : Int × Err}
    (hm : Jbq n program = some r) (hX : LiC Ja.R K aa ab 4 program.Aa ∧ GG K) :
    Fn Tryz.prog 89 [.agg #[.int .i64 program.Ab, str program.Ac, .slice aa program.Aa.length ab, .int .i64 program.Ad]] K [] (fun v K' H' => v = .tuple #[.int .i64 r.1, qc5 48 r.2] ∧ H' = []) := by
 obtain ⟨ae, hG⟩ := hX
 refine Fn.enter Tryz.func89 Tryz.call89 rfl fun F => ?_
 unfold Jbq at hm
 refine qas ?_
 intro b1
 refine ro (qab r0 rfl (nl rfl) ?_)
 refine cb hm fun x6 q6 hm => cgx (Jd7 q6 :) ?_
 refine qax ?_
 refine cs rfl rfl hm ?_ ?_ <;> intro w7 hm
 refine qat rfl ?_
 exact eE hm
 refine qad rfl rfl ?_
 refine qas ?_
 intro aV
 refine fa rfl (ro (ld r1 rfl rfl ?_))
 refine cb hm fun aU aT hm => cgx (Jdo aT :) ?_
 refine qa4 ⟨⟨[], false⟩, _, [(_, _)], []⟩ (by kernel_rfl) ⟨Hp.Le.refl _, (pf rfl), ci0⟩ ?_
 refine qaj (fa rfl (qap m0 rfl rfl (qaj (fa rfl (qap m0 rfl rfl ?_)))))
 exact eE hm

def Jj (c : Jd) (op : Int) (n' : Int) (s : Str) : Option (Int × Jd) :=
  (chk (c.code.length + [(⟨op, n', s⟩ : Jg)].length ≤ lim)).bind fun _ =>
  (chk (InI ((((c.code ++ [(⟨op, n', s⟩ : Jg)]).length) : Int) - 1))).bind fun _ =>
  some (((((c.code ++ [(⟨op, n', s⟩ : Jg)]).length) : Int) - 1), (⟨(c.code ++ [(⟨op, n', s⟩ : Jg)]), c.names, c.Ap⟩ : Jd))
theorem Ji {c : Jd} {op : Int} {n' : Int} {s : Str} {b0 : Nat} {aa : Option Addr} {ab : Nat} {ah : Option Addr} {ak : Nat} {K : Hp} {r : Int × Jd}
    (hm : Jj c op n' s = some r) (hX : (0 < c.code.length → Has aa) ∧ (0 < c.names.length → Has ah)) :
    Fn Tryz.prog 143 [.pointer (some ⟨b0, 0, none⟩), .int .i64 op, .int .i64 n', str s] K [Cells b0 209 [.slice aa c.code.length ab, .slice ah c.names.length ak, .int .i64 c.Ap], qau Jg.enc aa 135 3 ab c.code, qau Jr.enc ah 290 2 ak c.names] (fun v K' H' => ∃ ar_0 : Option Addr, ∃ cr_0 : Nat, ∃ ar_1 : Option Addr, ∃ cr_1 : Nat, v = .int .i64 r.1 ∧ (0 < r.2.code.length → Has ar_0) ∧ (0 < r.2.names.length → Has ar_1) ∧ H' = [Cells b0 209 [.slice ar_0 r.2.code.length cr_0, .slice ar_1 r.2.names.length cr_1, .int .i64 r.2.Ap], qau Jg.enc ar_0 135 3 cr_0 r.2.code, qau Jr.enc ar_1 290 2 cr_1 r.2.names]) := by
 obtain ⟨ae, aT⟩ := hX
 refine Fn.enter Tryz.func143 Tryz.call143 rfl fun F => ?_
 unfold Jj at hm
 refine qaj (fa rfl (ro (ld r0 rfl rfl (qad rfl rfl (cT (cT (cT ?_)))))))
 refine bsO (len := 1) (enc := Jg.enc) (l := [(⟨op, n', s⟩ : Jg)]) (cl := [.int .i64 op, .int .i64 n', str s]) qq3 rfl rfl (fun _ _ => rfl) rfl rfl rfl ?_ fun aV => ?_
 · conv => whnf
   refine cT ?_
   first | done | rfl
 obtain ⟨aU, hm⟩ := qaw hm
 refine apE rfl r2 qq3 (qay rfl r0 rfl (fun _ => rfl) (fun _ => rfl)) aU ?_
 intro aW aX aY
 refine qaj (fa rfl ?_)
 refine qaa r2 rfl ⟨rfl, rfl, (nl rfl), ?_⟩
 refine qaj (fa rfl (ro (ld r0 rfl rfl (ro (qal rfl ?_)))))
 refine ci hm fun hm => ?_
 exact eE hm

def JaW (c : Jd) (yes : Bool) : Option (Jd) :=
  if yes then
  (Jj c 1 0 ([] : Str)).bind fun x7 =>
  (Jj x7.2 1 0 ([] : Str)).bind fun aT =>
  (Jj aT.2 7 0 ([61, 61] : Str)).bind fun al =>
  some al.2
  else
  (Jj c 1 0 ([] : Str)).bind fun x7 =>
  (Jj x7.2 1 1 ([] : Str)).bind fun aT =>
  (Jj aT.2 7 0 ([61, 61] : Str)).bind fun al =>
  some al.2
theorem Jbx {c : Jd} {yes : Bool} {b0 : Nat} {aa : Option Addr} {ab : Nat} {ah : Option Addr} {ak : Nat} {K : Hp} {r : Jd}
    (hm : JaW c yes = some r) (hX : (0 < c.code.length → Has aa) ∧ (0 < c.names.length → Has ah)) :
    Fn Tryz.prog 248 [.pointer (some ⟨b0, 0, none⟩), .bool yes] K [Cells b0 209 [.slice aa c.code.length ab, .slice ah c.names.length ak, .int .i64 c.Ap], qau Jg.enc aa 135 3 ab c.code, qau Jr.enc ah 290 2 ak c.names] (fun v K' H' => ∃ ar_0 : Option Addr, ∃ cr_0 : Nat, ∃ ar_1 : Option Addr, ∃ cr_1 : Nat, v = .tuple #[] ∧ (0 < r.code.length → Has ar_0) ∧ (0 < r.names.length → Has ar_1) ∧ H' = [Cells b0 209 [.slice ar_0 r.code.length cr_0, .slice ar_1 r.names.length cr_1, .int .i64 r.Ap], qau Jg.enc ar_0 135 3 cr_0 r.code, qau Jr.enc ar_1 290 2 cr_1 r.names]) := by
 obtain ⟨ae, bo⟩ := hX
 refine Fn.enter Tryz.func248 Tryz.call248 rfl fun F => ?_
 unfold JaW at hm
 refine cs rfl rfl hm ?_ ?_ <;> intro w5 hm
 refine cb hm fun x7 q7 hm => ckx (Ji q7 :) ?_
 rintro _ _ _ ⟨bl, bm, bj, bf, rfl, bh, bn, rfl⟩
 refine cb hm fun bp bd hm => ckx (Ji bd :) ?_
 rintro _ _ _ ⟨bc, aW, ba, aY, rfl, a6, a8, rfl⟩
 refine cb hm fun al bg hm => ckx (Ji bg :) ?_
 rintro _ _ _ ⟨aX, aV, aT, aZ, rfl, aU, bb, rfl⟩
 exact eE hm
 refine cb hm fun x7 q7 hm => ckx (Ji q7 :) ?_
 rintro _ _ _ ⟨bl, bm, bj, bf, rfl, bh, bn, rfl⟩
 refine cb hm fun bp bd hm => ckx (Ji bd :) ?_
 rintro _ _ _ ⟨bc, aW, ba, aY, rfl, a6, a8, rfl⟩
 refine cb hm fun al bg hm => ckx (Ji bg :) ?_
 rintro _ _ _ ⟨aX, aV, aT, aZ, rfl, aU, bb, rfl⟩
 exact eE hm

def JaG (c : Jd) (s : Str) : Nat → Int → Option (Fl (Jd) (Int))
  | 0, _ => none
  | aU + 1, ac =>
    if decide (ac ≥ 0) then
    (ix c.names ac).bind fun aT =>
    if decide (aT.name = s) then
    (ix c.names ac).bind fun aW =>
    (Jj c 3 aW.slot ([] : Str)).bind fun aV =>
    some (Fl.ret aV.2)
    else
    (chk (InI (ac - 1))).bind fun _ =>
    JaG c s aU (ac - 1)
    else
    some (Fl.go ac)
def Jcc (n : Nat) (c : Jd) (s : Str) : Option (Jd) :=
  (chk (InI ((c.names.length : Int) - 1))).bind fun _ =>
  (JaG c s n ((c.names.length : Int) - 1)).bind fun s0 => s0.el some fun t0 =>
  (Jj c 5 0 s).bind fun aT =>
  some aT.2
theorem Jdp {n : Nat} {c : Jd} {s : Str} {b0 : Nat} {aa : Option Addr} {ab : Nat} {ah : Option Addr} {ak : Nat} {K : Hp} {r : Jd}
    (hm : Jcc n c s = some r) (hX : (0 < c.code.length → Has aa) ∧ (0 < c.names.length → Has ah)) :
    Fn Tryz.prog 249 [.pointer (some ⟨b0, 0, none⟩), str s] K [Cells b0 209 [.slice aa c.code.length ab, .slice ah c.names.length ak, .int .i64 c.Ap], qau Jg.enc aa 135 3 ab c.code, qau Jr.enc ah 290 2 ak c.names] (fun v K' H' => ∃ ar_0 : Option Addr, ∃ cr_0 : Nat, ∃ ar_1 : Option Addr, ∃ cr_1 : Nat, v = .tuple #[] ∧ (0 < r.code.length → Has ar_0) ∧ (0 < r.names.length → Has ar_1) ∧ H' = [Cells b0 209 [.slice ar_0 r.code.length cr_0, .slice ar_1 r.names.length cr_1, .int .i64 r.Ap], qau Jg.enc ar_0 135 3 cr_0 r.code, qau Jr.enc ar_1 290 2 cr_1 r.names]) := by
 obtain ⟨ae, aU⟩ := hX
 refine Fn.enter Tryz.func249 Tryz.call249 rfl fun F => ?_
 unfold Jcc at hm
 refine qaj (fa rfl (ro (ld r0 rfl rfl (ro (qal rfl ?_)))))
 refine ci hm fun hm => ?_
 obtain ⟨s0, aT, hm⟩ := bnd hm
 refine lD (σ := (Int)) ([4] ++ rg 11 24) [0, 1, 2, 3] (fun _ => []) (fun t0 => [(4, .int .i64 t0)]) (fun _ => []) (fun _ => True) (fun i0 t0 => JaG c s i0 t0 = some s0) (fun t0 => s0 = Fl.go t0) (fun i0 => i0) n _ aT (And.intro qe (And.intro ?_ ?_))
 clear aT
 rintro i0 ac _ aT j0
 conv at aT => whnf
 cases i0 with
 | zero => rw [JaG.eq_1] at aT; cases aT
 | succ i0 =>
  rw [JaG.eq_2] at aT
  refine cs rfl rfl aT ?_ ?_ <;> intro bv aT
  refine qam rfl ?_
  refine qaj (fa rfl (ro (ld r0 rfl rfl ?_)))
  obtain ⟨bt, bf, aW, aT⟩ := ixb aT
  refine RStep.ofN (qae rfl rfl (qcv aU aW) bf (qaz rfl bf aW) (qbd rfl (qcv aU aW) (ro (qb1 (i := (ac).toNat) (o := 0) r2 rfl aW rfl rfl (qaq ?_)))))
  refine cs rfl rfl aT ?_ ?_ <;> intro bp aT
  refine qaj (fa rfl (ro (ld r0 rfl rfl ?_)))
  obtain ⟨bo, bc, aV, aT⟩ := ixb aT
  refine RStep.ofN (qae rfl rfl (qcv aU aV) bc (qaz rfl bc aV) (qbd rfl (qcv aU aV) (ro (qb1 (i := (ac).toNat) (o := 1) r2 rfl aV rfl rfl ?_))))
  refine cb aT fun br bm aT => ckx (Ji bm :) ?_
  rintro _ _ _ ⟨aZ, aY, bd, a8, rfl, bl, bg, rfl⟩
  exact eE (er aT hm)
  refine ci aT fun aT => ?_
  exact eR aT (_, _)
  refine cT ?_
  exact eM aT _
 rintro t0 _ rfl j0
 replace hm := elg hm
 refine cb hm fun bu bn hm => ckx (Ji bn :) ?_
 rintro _ _ _ ⟨bb, ba, bj, aX, rfl, a6, bh, rfl⟩
 exact eE hm

def JZ (c : Jd) (jump : Int) : Option (Jd) :=
  (ix c.code jump).bind fun aT =>
  some (⟨(c.code.set ((jump).toNat) (⟨aT.Op, (c.code.length : Int), aT.S⟩ : Jg)), c.names, c.Ap⟩ : Jd)
theorem J5 {c : Jd} {jump : Int} {b0 : Nat} {aa : Option Addr} {ab : Nat} {ah : Option Addr} {ak : Nat} {K : Hp} {r : Jd}
    (hm : JZ c jump = some r) (hX : (0 < c.code.length → Has aa) ∧ (0 < c.names.length → Has ah)) :
    Fn Tryz.prog 246 [.pointer (some ⟨b0, 0, none⟩), .int .i64 jump] K [Cells b0 209 [.slice aa c.code.length ab, .slice ah c.names.length ak, .int .i64 c.Ap], qau Jg.enc aa 135 3 ab c.code, qau Jr.enc ah 290 2 ak c.names] (fun v K' H' => ∃ ar_0 : Option Addr, ∃ cr_0 : Nat, ∃ ar_1 : Option Addr, ∃ cr_1 : Nat, v = .tuple #[] ∧ (0 < r.code.length → Has ar_0) ∧ (0 < r.names.length → Has ar_1) ∧ H' = [Cells b0 209 [.slice ar_0 r.code.length cr_0, .slice ar_1 r.names.length cr_1, .int .i64 r.Ap], qau Jg.enc ar_0 135 3 cr_0 r.code, qau Jr.enc ar_1 290 2 cr_1 r.names]) := by
 obtain ⟨ae, aU⟩ := hX
 refine Fn.enter Tryz.func246 Tryz.call246 rfl fun F => ?_
 unfold JZ at hm
 refine qa4 ⟨⟨[], false⟩, _, [(_, _)], []⟩ (by kernel_rfl) ⟨Hp.Le.refl _, (pf rfl), ci0⟩ ?_
 refine qaj (fa rfl (qap m0 rfl rfl (qaj (fa rfl (qap m0 rfl rfl (qce rfl ?_))))))
 obtain ⟨aT, aW, aV, hm⟩ := ixb hm
 refine qae rfl rfl (qcv ae aV) aW (qaz rfl aW aV) (qbd rfl (qcv ae aV) ?_)
 refine qe7 (o := 1) (y := (⟨aT.Op, (c.code.length : Int), aT.S⟩ : Jg)) aT r1 rfl aV rfl (by (conv => whnf); exact ⟨rfl, rfl, (nl rfl), rfl, rfl, rfl⟩) ?_
 refine qk (sc [1] rfl) ?_
 obtain rfl := si hm
 refine qrl r1 (congrArg (fun q_ : Nat => ([.slice aa q_ ab, .slice ah c.names.length ak, .int .i64 c.Ap] : List Value)) (show c.code.length = (c.code.set ((jump).toNat) (⟨aT.Op, (c.code.length : Int), aT.S⟩ : Jg)).length from ((rfl).trans List.length_set.symm))) ?_
 exact en lr ⟨aa, ab, ah, ak, rfl, (by first | simpa using ae | exact fun _ => ⟨_, _, rfl⟩), aU, rfl⟩ (pf rfl)

def JaF (aG : (Jd → Ja → Option (Jd))) (n : Nat) (c : Jd) (n' : Ja) (operator : Str) : Option (Jd) :=
  (ix n'.Aa 0).bind fun x9 =>
  (aG c x9).bind fun aU =>
  (ix n'.Aa 1).bind fun aV =>
  (aG aU aV).bind fun aW =>
  (Jj aW 7 0 operator).bind fun aT =>
  some aT.2
theorem Jbb {aG : (Jd → Ja → Option (Jd))} (ihrec3_0 : ∀ {c : Jd} {n' : Ja} {b0 : Nat} {aa : Option Addr} {ab : Nat} {ah : Option Addr} {ak : Nat} {af : Option Addr} {ag : Nat} {K : Hp} {r : Jd} (hm : aG c n' = some r) (hX : (0 < c.code.length → Has aa) ∧ (0 < c.names.length → Has ah) ∧ LiC Ja.R K af ag 4 n'.Aa), Fn Tryz.prog 231 [.pointer (some ⟨b0, 0, none⟩), .agg #[.int .i64 n'.Ab, str n'.Ac, .slice af n'.Aa.length ag, .int .i64 n'.Ad]] K [Cells b0 209 [.slice aa c.code.length ab, .slice ah c.names.length ak, .int .i64 c.Ap], qau Jg.enc aa 135 3 ab c.code, qau Jr.enc ah 290 2 ak c.names] (fun v K' H' => ∃ ar_0 : Option Addr, ∃ cr_0 : Nat, ∃ ar_1 : Option Addr, ∃ cr_1 : Nat, v = .tuple #[] ∧ (0 < r.code.length → Has ar_0) ∧ (0 < r.names.length → Has ar_1) ∧ H' = [Cells b0 209 [.slice ar_0 r.code.length cr_0, .slice ar_1 r.names.length cr_1, .int .i64 r.Ap], qau Jg.enc ar_0 135 3 cr_0 r.code, qau Jr.enc ar_1 290 2 cr_1 r.names])) {n : Nat} {c : Jd} {n' : Ja} {operator : Str} {b0 : Nat} {aa : Option Addr} {ab : Nat} {ah : Option Addr} {ak : Nat} {af : Option Addr} {ag : Nat} {K : Hp} {r : Jd}
    (hm : JaF aG n c n' operator = some r) (hX : (0 < c.code.length → Has aa) ∧ (0 < c.names.length → Has ah) ∧ LiC Ja.R K af ag 4 n'.Aa) :
    Fn Tryz.prog 250 [.pointer (some ⟨b0, 0, none⟩), .agg #[.int .i64 n'.Ab, str n'.Ac, .slice af n'.Aa.length ag, .int .i64 n'.Ad], str operator] K [Cells b0 209 [.slice aa c.code.length ab, .slice ah c.names.length ak, .int .i64 c.Ap], qau Jg.enc aa 135 3 ab c.code, qau Jr.enc ah 290 2 ak c.names] (fun v K' H' => ∃ ar_0 : Option Addr, ∃ cr_0 : Nat, ∃ ar_1 : Option Addr, ∃ cr_1 : Nat, v = .tuple #[] ∧ (0 < r.code.length → Has ar_0) ∧ (0 < r.names.length → Has ar_1) ∧ H' = [Cells b0 209 [.slice ar_0 r.code.length cr_0, .slice ar_1 r.names.length cr_1, .int .i64 r.Ap], qau Jg.enc ar_0 135 3 cr_0 r.code, qau Jr.enc ar_1 290 2 cr_1 r.names]) := by
 obtain ⟨ae, bB, ai⟩ := hX
 refine Fn.enter Tryz.func250 Tryz.call250 rfl fun F => ?_
 unfold JaF at hm
 refine qas ?_
 intro b4
 refine fa rfl (ro (ld r0 rfl rfl ?_))
 obtain ⟨x9, l9, k9, hm⟩ := ixb hm
 refine RStep.ofN (qae rfl rfl (qc8 ai.rd k9) l9 (qaz rfl l9 k9) ?_)
 obtain ⟨bI, bM, aV, aX, aZ⟩ := LiR.get ai.rd k9
 obtain ⟨bD, bc, rfl, br⟩ := Ja.out aZ
 refine ro (qao ((0 : Int).toNat) _ aV rfl aX rfl ?_)
 refine cb hm fun bN bL hm => ckx (ihrec3_0 bL :) ?_
 rintro _ _ _ ⟨a8, bg, bo, bn, rfl, bu, bA, rfl⟩
 refine fa rfl (ro (ld r3 rfl rfl ?_))
 obtain ⟨bO, a6, aU, hm⟩ := ixb hm
 refine RStep.ofN (qae rfl rfl (qc8 ai.rd aU) a6 (qaz rfl a6 aU) ?_)
 obtain ⟨bH, bJ, aY, aW, aT⟩ := LiR.get ai.rd aU
 obtain ⟨bh, bj, rfl, bC⟩ := Ja.out aT
 refine ro (qao ((1 : Int).toNat) _ aY rfl aW rfl ?_)
 refine cb hm fun bQ bK hm => ckx (ihrec3_0 bK :) ?_
 rintro _ _ _ ⟨bt, bz, ba, bl, rfl, bv, bd, rfl⟩
 refine cb hm fun bP bG hm => ckx (Ji bG :) ?_
 rintro _ _ _ ⟨bb, bp, bF, bm, rfl, bw, bf, rfl⟩
 exact eE hm

def Jz : Nat → Jd → Ja → Option (Jd)
  | 0, _, _ => none
  | n + 1, c, n' =>
    if decide (n'.Ab = 20) then
    (qoe n'.Ac).bind fun bl =>
    if bl.2.isSome then
    (Jj c 1 0 ([] : Str)).bind fun a8 =>
    some a8.2
    else
    (Jj c 1 bl.1 ([] : Str)).bind fun a8 =>
    some a8.2
    else
    if decide (n'.Ab = 21) then
    (Jj c 2 0 n'.Ac).bind fun bB =>
    some bB.2
    else
    if decide (n'.Ab = 22) then
    (JaW c (decide (n'.Ac = ([116, 114, 117, 101] : Str)))).bind fun bt =>
    some bt
    else
    if decide (n'.Ab = 23) then
    (Jcc n c n'.Ac).bind fun bv =>
    some bv
    else
    if decide (n'.Ab = 24) then
    (ix n'.Aa 0).bind fun bA =>
    ((Jz n) c bA).bind fun br =>
    (Jj br 6 0 n'.Ac).bind fun bC =>
    some bC.2
    else
    if decide (n'.Ab = 15) then
    (ix n'.Aa 0).bind fun bF =>
    ((Jz n) c bF).bind fun bn =>
    (Jj bn 8 0 ([] : Str)).bind fun bm =>
    some bm.2
    else
    if decide (n'.Ab = 17) then
    (JaF (Jz n) n c n' ([43] : Str)).bind fun bw =>
    some bw
    else
    if decide (n'.Ab = 18) then
    (JaF (Jz n) n c n' ([45] : Str)).bind fun bu =>
    some bu
    else
    if decide (n'.Ab = 19) then
    (JaF (Jz n) n c n' ([42] : Str)).bind fun bz =>
    some bz
    else
    if decide (n'.Ab = 16) then
    (JaF (Jz n) n c n' n'.Ac).bind fun bp =>
    some bp
    else
    if decide (n'.Ab = 14) then
    (ix n'.Aa 0).bind fun bo =>
    ((Jz n) c bo).bind fun bD =>
    (Jj bD 10 0 ([] : Str)).bind fun bj =>
    (ix n'.Aa 1).bind fun bb =>
    ((Jz n) bj.2 bb).bind fun a6 =>
    (Jj a6 9 0 ([] : Str)).bind fun aT =>
    (JZ aT.2 bj.1).bind fun bg =>
    (JaW bg false).bind fun ba =>
    (JZ ba aT.1).bind fun bf =>
    some bf
    else
    if decide (n'.Ab = 13) then
    (ix n'.Aa 0).bind fun bc =>
    ((Jz n) c bc).bind fun aX =>
    (Jj aX 10 0 ([] : Str)).bind fun aU =>
    (JaW aU.2 true).bind fun bh =>
    (Jj bh 9 0 ([] : Str)).bind fun aV =>
    (JZ aV.2 aU.1).bind fun aZ =>
    (ix n'.Aa 1).bind fun bd =>
    ((Jz n) aZ bd).bind fun aW =>
    (JZ aW aV.1).bind fun aY =>
    some aY
    else
    some c
theorem Jcu : ∀ {n : Nat} {c : Jd} {n' : Ja} {b0 : Nat} {aa : Option Addr} {ab : Nat} {ah : Option Addr} {ak : Nat} {af : Option Addr} {ag : Nat} {K : Hp} {r : Jd}
    (hm : Jz n c n' = some r) (hX : (0 < c.code.length → Has aa) ∧ (0 < c.names.length → Has ah) ∧ LiC Ja.R K af ag 4 n'.Aa),
    Fn Tryz.prog 231 [.pointer (some ⟨b0, 0, none⟩), .agg #[.int .i64 n'.Ab, str n'.Ac, .slice af n'.Aa.length ag, .int .i64 n'.Ad]] K [Cells b0 209 [.slice aa c.code.length ab, .slice ah c.names.length ak, .int .i64 c.Ap], qau Jg.enc aa 135 3 ab c.code, qau Jr.enc ah 290 2 ak c.names] (fun v K' H' => ∃ ar_0 : Option Addr, ∃ cr_0 : Nat, ∃ ar_1 : Option Addr, ∃ cr_1 : Nat, v = .tuple #[] ∧ (0 < r.code.length → Has ar_0) ∧ (0 < r.names.length → Has ar_1) ∧ H' = [Cells b0 209 [.slice ar_0 r.code.length cr_0, .slice ar_1 r.names.length cr_1, .int .i64 r.Ap], qau Jg.enc ar_0 135 3 cr_0 r.code, qau Jr.enc ar_1 290 2 cr_1 r.names]) := by
 intro n
 induction n with
 | zero =>
   intro c n' b0 aa ab ah ak af ag K r hm hX
   rw [Jz.eq_1] at hm; cases hm
 | succ n ih =>
   intro c n' b0 aa ab ah ak af ag K r hm hX
   obtain ⟨ae, eH, ai⟩ := hX
   refine Fn.enter Tryz.func231 Tryz.call231 rfl fun F => ?_
   rw [Jz.eq_2] at hm
   refine qas ?_
   intro b3
   refine fa rfl (ro (ld r0 rfl rfl ?_))
   refine qam rfl ?_
   refine qag (cs rfl rfl hm ?_ ?_) <;> intro ie hm
   refine fa rfl (ro (ld r0 rfl rfl ?_))
   refine cb hm fun gP gf hm => cg0 (qqy (E := 48) gf) ?_
   refine qa9 rfl ?_
   refine cs rfl rfl hm ?_ ?_ <;> intro gV hm
   refine cb hm fun gc bC hm => ckx (Ji bC :) ?_
   rintro _ _ _ ⟨bb, bg, bj, ba, rfl, bm, aW, rfl⟩
   exact eE hm
   refine cb hm fun gc bC hm => ckx (Ji bC :) ?_
   rintro _ _ _ ⟨bb, bg, bj, ba, rfl, bm, aW, rfl⟩
   exact eE hm
   refine qag (cs rfl rfl hm ?_ ?_) <;> intro gR hm
   refine fa rfl (ro (ld r0 rfl rfl ?_))
   refine cb hm fun hY gI hm => ckx (Ji gI :) ?_
   rintro _ _ _ ⟨ew, fC, fL, fB, rfl, fp, fH, rfl⟩
   exact eE hm
   refine qag (cs rfl rfl hm ?_ ?_) <;> intro gQ hm
   refine fa rfl (ro (ld r0 rfl rfl (qaq ?_)))
   refine cb hm fun ic gu hm => ckx (Jbx gu :) ?_
   rintro _ _ _ ⟨fN, d9, eJ, ff, rfl, dP, eG, rfl⟩
   exact eE hm
   refine qag (cs rfl rfl hm ?_ ?_) <;> intro g9 hm
   refine fa rfl (ro (ld r0 rfl rfl ?_))
   refine cb hm fun gS gD hm => ckx (Jdp gD :) ?_
   rintro _ _ _ ⟨f8, fU, eD, ey, rfl, dQ, eu, rfl⟩
   exact eE hm
   refine qag (cs rfl rfl hm ?_ ?_) <;> intro hJ hm
   refine fa rfl (ro (ld r0 rfl rfl ?_))
   obtain ⟨gY, fb, cO, hm⟩ := ixb hm
   refine RStep.ofN (qae rfl rfl (qc8 ai.rd cO) fb (qaz rfl fb cO) ?_)
   obtain ⟨gx, gF, bv, cM, bY⟩ := LiR.get ai.rd cO
   obtain ⟨ef, dU, rfl, d4⟩ := Ja.out bY
   refine ro (qao ((0 : Int).toNat) _ bv rfl cM rfl ?_)
   refine cb hm fun gU gp hm => ckx (ih gp :) ?_
   rintro _ _ _ ⟨fT, eY, e5, dT, rfl, fl, dZ, rfl⟩
   refine fa rfl (ro (ld r3 rfl rfl ?_))
   refine cb hm fun hZ gb hm => ckx (Ji gb :) ?_
   rintro _ _ _ ⟨fZ, ez, d6, fX, rfl, eV, d5, rfl⟩
   exact eE hm
   refine qag (cs rfl rfl hm ?_ ?_) <;> intro gT hm
   refine fa rfl (ro (ld r0 rfl rfl ?_))
   obtain ⟨ia, fQ, dw, hm⟩ := ixb hm
   refine RStep.ofN (qae rfl rfl (qc8 ai.rd dw) fQ (qaz rfl fQ dw) ?_)
   obtain ⟨gm, gi, cR, c6, cC⟩ := LiR.get ai.rd dw
   obtain ⟨fh, fV, rfl, eg⟩ := Ja.out cC
   refine ro (qao ((0 : Int).toNat) _ cR rfl c6 rfl ?_)
   refine cb hm fun gN ge hm => ckx (ih ge :) ?_
   rintro _ _ _ ⟨dV, fE, eh, ft, rfl, dS, fy, rfl⟩
   refine cb hm fun ib gd hm => ckx (Ji gd :) ?_
   rintro _ _ _ ⟨fg, d8, eC, e8, rfl, fG, fk, rfl⟩
   exact eE hm
   refine qag (cs rfl rfl hm ?_ ?_) <;> intro hS hm
   refine ro (qab r0 rfl (nl rfl) ?_)
   refine cb hm fun gZ gB hm => ckx (Jbb ih gB :) ?_
   rintro _ _ _ ⟨dW, fJ, fK, fu, rfl, e6, d7, rfl⟩
   exact eE hm
   refine qag (cs rfl rfl hm ?_ ?_) <;> intro hP hm
   refine ro (qab r0 rfl (nl rfl) ?_)
   refine cb hm fun gW gE hm => ckx (Jbb ih gE :) ?_
   rintro _ _ _ ⟨eL, fv, fI, fq, rfl, fe, eW, rfl⟩
   exact eE hm
   refine qag (cs rfl rfl hm ?_ ?_) <;> intro hU hm
   refine ro (qab r0 rfl (nl rfl) ?_)
   refine cb hm fun g7 gH hm => ckx (Jbb ih gH :) ?_
   rintro _ _ _ ⟨ei, e9, eQ, fO, rfl, ek, ee, rfl⟩
   exact eE hm
   refine qag (cs rfl rfl hm ?_ ?_) <;> intro hO hm
   refine ro (qab r0 rfl (nl rfl) (fa rfl (ro (ld r0 rfl rfl ?_))))
   refine cb hm fun hE gk hm => ckx (Jbb ih gk :) ?_
   rintro _ _ _ ⟨dY, fY, fD, fR, rfl, eP, eX, rfl⟩
   exact eE hm
   refine qag (cs rfl rfl hm ?_ ?_) <;> intro gO hm
   refine fa rfl (ro (ld r0 rfl rfl ?_))
   obtain ⟨gX, ep, de, hm⟩ := ixb hm
   refine RStep.ofN (qae rfl rfl (qc8 ai.rd de) ep (qaz rfl ep de) ?_)
   obtain ⟨gq, gL, cL, cY, cA⟩ := LiR.get ai.rd de
   obtain ⟨e7, fc, rfl, ej⟩ := Ja.out cA
   refine ro (qao ((0 : Int).toNat) _ cL rfl cY rfl ?_)
   refine cb hm fun ig gh hm => ckx (ih gh :) ?_
   rintro _ _ _ ⟨dX, fo, dR, fj, rfl, dN, eA, rfl⟩
   refine cb hm fun g8 gA hm => ckx (Ji gA :) ?_
   rintro _ _ _ ⟨fP, fS, eT, f9, rfl, dO, fw, rfl⟩
   refine fa rfl (ro (ld r3 rfl rfl ?_))
   obtain ⟨gy, bl, aT, hm⟩ := ixb hm
   refine RStep.ofN (qae rfl rfl (qc8 ai.rd aT) bl (qaz rfl bl aT) ?_)
   obtain ⟨fm, eK, bf, aY, bn⟩ := LiR.get ai.rd aT
   obtain ⟨cE, bP, rfl, cn⟩ := Ja.out bn
   refine ro (qao ((1 : Int).toNat) _ bf rfl aY rfl ?_)
   refine cb hm fun gw bX hm => ckx (ih bX :) ?_
   rintro _ _ _ ⟨dm, bt, bI, dM, rfl, bQ, dk, rfl⟩
   refine cb hm fun gj cw hm => ckx (Ji cw :) ?_
   rintro _ _ _ ⟨bD, cd, cJ, dK, rfl, bK, br, rfl⟩
   refine cb hm fun gM cW hm => ckx (J5 cW :) ?_
   rintro _ _ _ ⟨cP, dn, bH, ce, rfl, dE, dA, rfl⟩
   refine cb hm fun gg cN hm => ckx (Jbx cN :) ?_
   rintro _ _ _ ⟨dq, bM, cU, cK, rfl, bV, bw, rfl⟩
   refine cb hm fun gz dI hm => ckx (J5 dI :) ?_
   rintro _ _ _ ⟨cj, dL, cH, bR, rfl, dC, cV, rfl⟩
   exact eE hm
   refine qag (cs rfl rfl hm ?_ ?_) <;> intro gn hm
   refine fa rfl (ro (ld r0 rfl rfl ?_))
   obtain ⟨gC, bh, aU, hm⟩ := ixb hm
   refine RStep.ofN (qae rfl rfl (qc8 ai.rd aU) bh (qaz rfl bh aU) ?_)
   obtain ⟨eF, eZ, a6, aZ, bo⟩ := LiR.get ai.rd aU
   obtain ⟨bu, bT, rfl, cz⟩ := Ja.out bo
   refine ro (qao ((0 : Int).toNat) _ a6 rfl aZ rfl ?_)
   refine cb hm fun gK dc hm => ckx (ih dc :) ?_
   rintro _ _ _ ⟨dJ, dD, co, bJ, rfl, cm, bL, rfl⟩
   refine cb hm fun ga dF hm => ckx (Ji dF :) ?_
   rintro _ _ _ ⟨cX, bN, cy, c5, rfl, bp, dy, rfl⟩
   refine cb hm fun gt dt hm => ckx (Jbx dt :) ?_
   rintro _ _ _ ⟨bW, c4, cp, cB, rfl, cq, ca, rfl⟩
   refine cb hm fun gr bO hm => ckx (Ji bO :) ?_
   rintro _ _ _ ⟨dh, bF, cD, c9, rfl, dj, du, rfl⟩
   refine cb hm fun gl bA hm => ckx (J5 bA :) ?_
   rintro _ _ _ ⟨dG, c8, di, df, rfl, dx, cQ, rfl⟩
   refine fa rfl (ro (ld r3 rfl rfl ?_))
   obtain ⟨gJ, bd, aV, hm⟩ := ixb hm
   refine RStep.ofN (qae rfl rfl (qc8 ai.rd aV) bd (qaz rfl bd aV) ?_)
   obtain ⟨fM, eO, aX, a8, bc⟩ := LiR.get ai.rd aV
   obtain ⟨cu, dp, rfl, cI⟩ := Ja.out bc
   refine ro (qao ((1 : Int).toNat) _ aX rfl a8 rfl ?_)
   refine cb hm fun gv bS hm => ckx (ih bS :) ?_
   rintro _ _ _ ⟨bG, bZ, cZ, dH, rfl, bU, dv, rfl⟩
   refine cb hm fun gG bB hm => ckx (J5 bB :) ?_
   rintro _ _ _ ⟨cr, cG, dz, bz, rfl, dg, dB, rfl⟩
   exact eE hm
   exact eE hm

def JaO (av : (Jd → (List Ja) → Option (Jd))) : Nat → Jd → Ja → Option (Jd)
  | 0, _, _ => none
  | n + 1, c, n' =>
    (ix n'.Aa 0).bind fun x9 =>
    (Jz n c x9).bind fun a6 =>
    (Jj a6 10 0 ([] : Str)).bind fun aU =>
    (ix n'.Aa 1).bind fun bb =>
    (av aU.2 bb.Aa).bind fun aW =>
    if decide ((n'.Aa.length : Int) = 2) then
    (JZ aW aU.1).bind fun bc =>
    some bc
    else
    (Jj aW 9 0 ([] : Str)).bind fun aV =>
    (JZ aV.2 aU.1).bind fun aX =>
    (ix n'.Aa 2).bind fun bd =>
    if decide (bd.Ab = 2) then
    (ix n'.Aa 2).bind fun aY =>
    ((JaO av n) aX aY).bind fun aZ =>
    (JZ aZ aV.1).bind fun aT =>
    some aT
    else
    (ix n'.Aa 2).bind fun ba =>
    (av aX ba.Aa).bind fun a8 =>
    (JZ a8 aV.1).bind fun aT =>
    some aT
theorem Jdj {av : (Jd → (List Ja) → Option (Jd))} (ihrec4_0 : ∀ {c : Jd} {list : (List Ja)} {b0 : Nat} {aa : Option Addr} {ab : Nat} {ah : Option Addr} {ak : Nat} {af : Option Addr} {ag : Nat} {n1 : Nat} {K : Hp} {r : Jd} (hm : av c list = some r) (hX : (0 < c.code.length → Has aa) ∧ (0 < c.names.length → Has ah) ∧ LiC Ja.R K af ag 4 list ∧ n1 = list.length), Fn Tryz.prog 142 [.pointer (some ⟨b0, 0, none⟩), .slice af n1 ag] K [Cells b0 209 [.slice aa c.code.length ab, .slice ah c.names.length ak, .int .i64 c.Ap], qau Jg.enc aa 135 3 ab c.code, qau Jr.enc ah 290 2 ak c.names] (fun v K' H' => ∃ ar_0 : Option Addr, ∃ cr_0 : Nat, ∃ ar_1 : Option Addr, ∃ cr_1 : Nat, v = .tuple #[] ∧ (0 < r.code.length → Has ar_0) ∧ (0 < r.names.length → Has ar_1) ∧ H' = [Cells b0 209 [.slice ar_0 r.code.length cr_0, .slice ar_1 r.names.length cr_1, .int .i64 r.Ap], qau Jg.enc ar_0 135 3 cr_0 r.code, qau Jr.enc ar_1 290 2 cr_1 r.names])) : ∀ {n : Nat} {c : Jd} {n' : Ja} {b0 : Nat} {aa : Option Addr} {ab : Nat} {ah : Option Addr} {ak : Nat} {af : Option Addr} {ag : Nat} {K : Hp} {r : Jd}
    (hm : JaO av n c n' = some r) (hX : (0 < c.code.length → Has aa) ∧ (0 < c.names.length → Has ah) ∧ LiC Ja.R K af ag 4 n'.Aa),
    Fn Tryz.prog 230 [.pointer (some ⟨b0, 0, none⟩), .agg #[.int .i64 n'.Ab, str n'.Ac, .slice af n'.Aa.length ag, .int .i64 n'.Ad]] K [Cells b0 209 [.slice aa c.code.length ab, .slice ah c.names.length ak, .int .i64 c.Ap], qau Jg.enc aa 135 3 ab c.code, qau Jr.enc ah 290 2 ak c.names] (fun v K' H' => ∃ ar_0 : Option Addr, ∃ cr_0 : Nat, ∃ ar_1 : Option Addr, ∃ cr_1 : Nat, v = .tuple #[] ∧ (0 < r.code.length → Has ar_0) ∧ (0 < r.names.length → Has ar_1) ∧ H' = [Cells b0 209 [.slice ar_0 r.code.length cr_0, .slice ar_1 r.names.length cr_1, .int .i64 r.Ap], qau Jg.enc ar_0 135 3 cr_0 r.code, qau Jr.enc ar_1 290 2 cr_1 r.names]) := by
 intro n
 induction n with
 | zero =>
   intro c n' b0 aa ab ah ak af ag K r hm hX
   rw [JaO.eq_1] at hm; cases hm
 | succ n ih =>
   intro c n' b0 aa ab ah ak af ag K r hm hX
   obtain ⟨ae, cK, ai⟩ := hX
   refine Fn.enter Tryz.func230 Tryz.call230 rfl fun F => ?_
   rw [JaO.eq_2] at hm
   refine qas ?_
   intro b3
   refine fa rfl (ro (ld r0 rfl rfl ?_))
   obtain ⟨x9, l9, k9, hm⟩ := ixb hm
   refine RStep.ofN (qae rfl rfl (qc8 ai.rd k9) l9 (qaz rfl l9 k9) ?_)
   obtain ⟨df, dn, bu, bt, bv⟩ := LiR.get ai.rd k9
   obtain ⟨cL, bC, rfl, bN⟩ := Ja.out bv
   refine ro (qao ((0 : Int).toNat) _ bu rfl bt rfl ?_)
   refine cb hm fun dK dv hm => ckx (Jcu dv :) ?_
   rintro _ _ _ ⟨bz, bF, cj, bK, rfl, cq, cu, rfl⟩
   refine cb hm fun dI dj hm => ckx (Ji dj :) ?_
   rintro _ _ _ ⟨c6, cw, bD, bX, rfl, c4, cZ, rfl⟩
   refine fa rfl (ro (ld r3 rfl rfl ?_))
   obtain ⟨dC, cG, a8, hm⟩ := ixb hm
   refine RStep.ofN (qae rfl rfl (qc8 ai.rd a8) cG (qaz rfl cG a8) (qbd rfl (qc8 ai.rd a8) ?_))
   obtain ⟨dq, du, bm, bf, bc⟩ := LiR.get ai.rd a8
   obtain ⟨bS, cH, rfl, cV⟩ := Ja.out bc
   refine ro (qcw ((1 : Int).toNat) 2 _ _ bm rfl bf rfl rfl ?_)
   refine cb hm fun dE c9 hm => ckx (ihrec4_0 c9 :) ?_
   rintro _ _ _ ⟨cN, ce, cM, cU, rfl, cr, cQ, rfl⟩
   refine fa rfl (ro (ld r3 rfl rfl (ro (qal rfl (qag ?_)))))
   refine cs rfl rfl hm ?_ ?_ <;> intro dA hm
   refine cb hm fun dJ dy hm => ckx (J5 dy :) ?_
   rintro _ _ _ ⟨cI, bQ, cn, bH, rfl, cm, cA, rfl⟩
   exact eE hm
   refine cb hm fun dB dg hm => ckx (Ji dg :) ?_
   rintro _ _ _ ⟨cy, bO, cP, bw, rfl, bW, bB, rfl⟩
   refine cb hm fun dL de hm => ckx (J5 de :) ?_
   rintro _ _ _ ⟨bU, ca, cz, bM, rfl, cX, bT, rfl⟩
   refine fa rfl (ro (ld r3 rfl rfl ?_))
   obtain ⟨dH, co, a6, hm⟩ := ixb hm
   refine RStep.ofN (qae rfl rfl (qc8 ai.rd a6) co (qaz rfl co a6) (qbd rfl (qc8 ai.rd a6) ?_))
   obtain ⟨dh, dt, bn, bl, bo⟩ := LiR.get ai.rd a6
   obtain ⟨cD, cd, rfl, bG⟩ := Ja.out bo
   refine ro (qcw ((2 : Int).toNat) 0 _ _ bn rfl bl rfl rfl (qag ?_))
   refine cs rfl rfl hm ?_ ?_ <;> intro dD hm
   refine fa rfl (ro (ld r3 rfl rfl ?_))
   obtain ⟨dz, c8, bh, hm⟩ := ixb hm
   refine RStep.ofN (qae rfl rfl (qc8 ai.rd bh) c8 (qaz rfl c8 bh) ?_)
   obtain ⟨dw, dp, bp, bb, bj⟩ := LiR.get ai.rd bh
   obtain ⟨c5, cR, rfl, bI⟩ := Ja.out bj
   refine ro (qao ((2 : Int).toNat) _ bp rfl bb rfl ?_)
   refine cb hm fun dF dk hm => ckx (ih dk :) ?_
   rintro _ _ _ ⟨bV, cE, bJ, cJ, rfl, cB, bA, rfl⟩
   refine cb hm fun dm bg hm => ckx (J5 bg :) ?_
   rintro _ _ _ ⟨aY, aV, aX, aU, rfl, aW, aT, rfl⟩
   exact eE hm
   refine fa rfl (ro (ld r3 rfl rfl ?_))
   obtain ⟨dM, cC, aZ, hm⟩ := ixb hm
   refine RStep.ofN (qae rfl rfl (qc8 ai.rd aZ) cC (qaz rfl cC aZ) (qbd rfl (qc8 ai.rd aZ) ?_))
   obtain ⟨dc, di, bd, ba, br⟩ := LiR.get ai.rd aZ
   obtain ⟨cp, bR, rfl, bZ⟩ := Ja.out br
   refine ro (qcw ((2 : Int).toNat) 2 _ _ bd rfl ba rfl rfl ?_)
   refine cb hm fun dG dx hm => ckx (ihrec4_0 dx :) ?_
   rintro _ _ _ ⟨cO, cW, cY, bP, rfl, bL, bY, rfl⟩
   refine cb hm fun dm bg hm => ckx (J5 bg :) ?_
   rintro _ _ _ ⟨aY, aV, aX, aU, rfl, aW, aT, rfl⟩
   exact eE hm
