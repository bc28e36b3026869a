/- Functions of the program: mirrors, and that a call returns what the mirror says. Printed by gen.py. -/
import Derived.Test.YtiaaooopklhobaaGreatDoorG2
set_option linter.unusedVariables false
set_option linter.unusedSimpArgs false
open Go Go.SL Go.Proofs
noncomputable section
set_option maxRecDepth 1000000
set_option maxHeartbeats 8000000
def JaZ : Nat → Ja → Option (Bool)
  | 0, _ => none
  | n + 1, n' =>
    if decide (n'.Ab = 2) then
    (if ((decide (n'.Ac ≠ ([] : Str)) || decide ((n'.Aa.length : Int) < 2)) || decide ((n'.Aa.length : Int) > 3)) then some true else (ix n'.Aa 0).bind fun aX =>
    (JL n aX).bind fun bd =>
    some (!bd)).bind fun a8 =>
    (if a8 then some true else (ix n'.Aa 1).bind fun bl =>
    (Jcb (JaZ n) n bl).bind fun bj =>
    some (!bj)).bind fun aY =>
    if aY then
    some false
    else
    (if decide ((n'.Aa.length : Int) = 2) then some true else (ix n'.Aa 2).bind fun bf =>
    (Jcb (JaZ n) n bf).bind fun bc =>
    some bc).bind fun aZ =>
    if aZ then
    some true
    else
    (ix n'.Aa 2).bind fun bb =>
    (if decide (bb.Ab = 2) then (ix n'.Aa 2).bind fun bg =>
    ((JaZ n) bg).bind fun ba =>
    some ba else some false).bind fun a6 =>
    some a6
    else
    if decide (n'.Ab = 6) then
    (Ja9 n'.Ac).bind fun bh =>
    some (bh && decide ((n'.Aa.length : Int) = 0))
    else
    if decide (n'.Ab = 10) then
    some (decide (n'.Ac = ([] : Str)) && decide ((n'.Aa.length : Int) = 0))
    else
    if decide (n'.Ab = 11) then
    some (decide (n'.Ac = ([] : Str)) && decide ((n'.Aa.length : Int) = 0))
    else
    if decide (n'.Ab = 3) then
    (Jb6 n n'.Ac).bind fun aW =>
    if (!aW) then
    some false
    else
    (if decide ((n'.Aa.length : Int) = 1) then (ix n'.Aa 0).bind fun aS =>
    (JL n aS).bind fun aT =>
    some aT else some false).bind fun aU =>
    some aU
    else
    if decide (n'.Ab = 4) then
    if (decide (n'.Ac ≠ ([112, 97, 116, 104] : Str)) && decide (n'.Ac ≠ ([113, 117, 101, 114, 121] : Str))) then
    some false
    else
    (if decide ((n'.Aa.length : Int) = 1) then (ix n'.Aa 0).bind fun aS =>
    (JL n aS).bind fun aT =>
    some aT else some false).bind fun aU =>
    some aU
    else
    if decide (n'.Ab = 5) then
    (Ja9 n'.Ac).bind fun aV =>
    if (!aV) then
    some false
    else
    (if decide ((n'.Aa.length : Int) = 1) then (ix n'.Aa 0).bind fun aS =>
    (JL n aS).bind fun aT =>
    some aT else some false).bind fun aU =>
    some aU
    else
    if decide (n'.Ab = 7) then
    if decide (n'.Ac ≠ ([] : Str)) then
    some false
    else
    (if decide ((n'.Aa.length : Int) = 1) then (ix n'.Aa 0).bind fun aS =>
    (JL n aS).bind fun aT =>
    some aT else some false).bind fun aU =>
    some aU
    else
    if decide (n'.Ab = 8) then
    if decide (n'.Ac ≠ ([] : Str)) then
    some false
    else
    (if decide ((n'.Aa.length : Int) = 1) then (ix n'.Aa 0).bind fun aS =>
    (JL n aS).bind fun aT =>
    some aT else some false).bind fun aU =>
    some aU
    else
    if decide (n'.Ab = 9) then
    if decide (n'.Ac ≠ ([] : Str)) then
    some false
    else
    (if decide ((n'.Aa.length : Int) = 1) then (ix n'.Aa 0).bind fun aS =>
    (JL n aS).bind fun aT =>
    some aT else some false).bind fun aU =>
    some aU
    else
    some false
theorem JdX : ∀ {n : Nat} {n' : Ja} {aa : Option Addr} {ab : Nat} {K : Hp} {r : Bool}
    (hm : JaZ n n' = some r) (hX : LiC Ja.R K aa ab 4 n'.Aa ∧ GG K),
    Fn Tryz.prog 190 [.agg #[.int .i64 n'.Ab, str n'.Ac, .slice aa n'.Aa.length ab, .int .i64 n'.Ad]] K [] (fun v K' H' => v = .bool r ∧ H' = []) := by
 intro n
 induction n with
 | zero =>
   intro n' aa ab K r hm hX
   rw [JaZ.eq_1] at hm; cases hm
 | succ n ih =>
   intro n' aa ab K r hm hX
   obtain ⟨ae, hG⟩ := hX
   refine Fn.enter Tryz.func190 Tryz.call190 rfl fun F => ?_
   rw [JaZ.eq_2] at hm
   refine qaq ?_
   intro b1
   refine fa rfl (ro (ld r0 rfl rfl ?_))
   refine qal rfl ?_
   refine qaf (cs rfl rfl hm ?_ ?_) <;> intro w6 hm
   refine fa rfl (ro (ld r0 rfl rfl (ro (qak rfl ?_))))
   refine qaj rfl ?_
   refine fa rfl (ro (ld r0 rfl rfl (qbn ?_)))
   refine qae ?_ ?_ <;> intro bm
   refine ct bm (ct bm (cT (cT (cT ?_))))
   obtain ⟨cz, bt, hm⟩ := bnd hm
   replace bt := ift (qbq (qbq bm)) bt
   refine cT (cT (cT (cT (cT (cT (cT ?_))))))
   obtain ⟨bX, bo, hm⟩ := bnd hm
   replace bo := ift (si bt).symm bo
   refine cT (cT (cT (cT (cT (cT (cT (qac rfl ?_)))))))
   refine cT ?_
   replace hm := ift (si bo).symm hm
   exact eE hm
   refine cf bm (cf bm ?_)
   refine qae ?_ ?_ <;> intro bn
   refine ct bn (ct bn ?_)
   obtain ⟨cz, bt, hm⟩ := bnd hm
   replace bt := ift (qbq (qfr bm bn)) bt
   refine cT (cT (cT (cT (cT (cT (cT ?_))))))
   obtain ⟨bX, bo, hm⟩ := bnd hm
   replace bo := ift (si bt).symm bo
   refine cT (cT (cT (cT (cT (cT (cT (qac rfl ?_)))))))
   refine cT ?_
   replace hm := ift (si bo).symm hm
   exact eE hm
   refine cf bn (cf bn ?_)
   obtain ⟨cz, bt, hm⟩ := bnd hm
   refine qae ?_ ?_ <;> intro aX
   replace bt := ift (qfr (qc0 bm bn) aX) bt
   refine ct aX (ct aX (ct aX (ct aX (ct aX (ct aX ?_)))))
   obtain ⟨bX, bo, hm⟩ := bnd hm
   replace bo := ift (si bt).symm bo
   refine cT (cT (cT (cT (cT (cT (cT (qac rfl ?_)))))))
   refine cT ?_
   replace hm := ift (si bo).symm hm
   exact eE hm
   replace bt := qba (qc0 (qc0 bm bn) aX) bt
   refine fa rfl (cf aX (ro (ld r0 rfl rfl (cf aX ?_))))
   obtain ⟨dy, cM, bG, bt⟩ := ixb bt
   refine RStep.ofN (qad rfl rfl (qc2 ae.rd bG) cM (qax rfl cM bG) (cf aX ?_))
   obtain ⟨cY, c4, bP, bR, bI⟩ := LiR.get ae.rd bG
   obtain ⟨cA, cw, rfl, cK⟩ := Ja.out bI
   refine ro (qan ((0 : Int).toNat) _ bP rfl bR rfl (cf aX ?_))
   refine cb bt fun dn de bt => cgx (JX de :) ?_
   refine cf aX (qau (cf aX ?_))
   obtain ⟨bX, bo, hm⟩ := bnd hm
   refine qae ?_ ?_ <;> intro aY
   replace bo := ift ((si bt).symm.trans (qef (qjb aY))) bo
   refine ct aY (ct aY (ct aY (ct aY (ct aY (ct aY (qac rfl (cT ?_)))))))
   replace hm := ift (si bo).symm hm
   exact eE hm
   replace bo := qba ((si bt).symm.trans (qc5 (qhc aY))) bo
   refine fa rfl (cf aY (ro (ld r0 rfl rfl (cf aY ?_))))
   obtain ⟨dx, cG, bY, bo⟩ := ixb bo
   refine RStep.ofN (qad rfl rfl (qc2 ae.rd bY) cG (qax rfl cG bY) (cf aY ?_))
   obtain ⟨cU, cP, bN, ca, bZ⟩ := LiR.get ae.rd bY
   obtain ⟨cn, cD, rfl, cB⟩ := Ja.out bZ
   refine ro (qan ((1 : Int).toNat) _ bN rfl ca rfl (cf aY ?_))
   refine cb bo fun dk cQ bo => cgx (JcZ ih cQ :) ?_
   refine cf aY (qau (cf aY (qac rfl ?_)))
   refine qae ?_ ?_ <;> intro cI
   replace hm := ift ((si bo).symm.trans (qef (qjb cI))) hm
   exact eE hm
   replace hm := qba ((si bo).symm.trans (qc5 (qhc cI))) hm
   refine qaj rfl ?_
   refine qaf ?_
   obtain ⟨du, bz, hm⟩ := bnd hm
   refine cS bz (fun bd bz => ?_) fun bd bz => ?_
   refine ct bd (ct bd (ct bd (ct bd (ct bd ?_))))
   replace hm := ift (si bz).symm hm
   refine cT (cT (cT (cT (cT (cT (cT (cT ?_)))))))
   refine cT ?_
   exact eE hm
   refine fa rfl (cf bd (ro (ld r0 rfl rfl (cf bd ?_))))
   obtain ⟨dA, co, bU, bz⟩ := ixb bz
   refine RStep.ofN (qad rfl rfl (qc2 ae.rd bU) co (qax rfl co bU) (cf bd ?_))
   obtain ⟨cV, dg, bT, bV, bM⟩ := LiR.get ae.rd bU
   obtain ⟨cC, cy, rfl, cu⟩ := Ja.out bM
   refine ro (qan ((2 : Int).toNat) _ bT rfl bV rfl (cf bd ?_))
   refine cb bz fun dv c6 bz => cgx (JcZ ih c6 :) ?_
   refine cf bd ?_
   refine qae ?_ ?_ <;> intro aV
   replace hm := ift ((si bz).symm.trans aV) hm
   refine ct aV (ct aV (ct aV (ct aV (ct aV (ct aV (ct aV (ct aV ?_)))))))
   exact eE hm
   replace hm := qba ((si bz).symm.trans aV) hm
   refine fa rfl (cf aV (ro (ld r0 rfl rfl (cf aV ?_))))
   obtain ⟨dp, cN, bF, hm⟩ := ixb hm
   refine RStep.ofN (qad rfl rfl (qc2 ae.rd bF) cN (qax rfl cN bF) (cf aV (qbb rfl (qc2 ae.rd bF) (cf aV ?_))))
   obtain ⟨c8, cX, bW, bO, bL⟩ := LiR.get ae.rd bF
   obtain ⟨cj, cm, rfl, cE⟩ := Ja.out bL
   refine ro (qcv ((2 : Int).toNat) 0 _ _ bW rfl bO rfl rfl (cf aV (qaf (cf aV ?_))))
   obtain ⟨dm, bB, hm⟩ := bnd hm
   refine cS bB (fun bc bB => ?_) fun bc bB => ?_
   refine fa rfl (ct bc (ro (ld r0 rfl rfl (ct bc ?_))))
   obtain ⟨di, cH, bJ, bB⟩ := ixb bB
   refine RStep.ofN (qad rfl rfl (qc2 ae.rd bJ) cH (qax rfl cH bJ) (ct bc ?_))
   obtain ⟨c9, cZ, bK, bH, bQ⟩ := LiR.get ae.rd bJ
   obtain ⟨cr, cJ, rfl, ce⟩ := Ja.out bQ
   refine ro (qan ((2 : Int).toNat) _ bK rfl bH rfl (ct bc ?_))
   refine cb bB fun dh cO bB => cgx (ih cO :) ?_
   refine cf aV (ct bc (cf aV ?_))
   exact bE (si bB) (eE hm)
   refine cf bc (cf bc (cf bc (cf bc (cf aV (cf bc (cf aV ?_))))))
   exact bE (si bB) (eE hm)
   refine qaf (cs rfl rfl hm ?_ ?_) <;> intro dB hm
   refine qaj rfl ?_
   refine fa rfl (ro (ld r0 rfl rfl ?_))
   refine cb hm fun dw c5 hm => cg0 (JbT c5 :) ?_
   refine qae ?_ ?_ <;> intro bf
   refine fa rfl (ct bf (ro (ld r0 rfl rfl (ct bf (ro (qak rfl (ct bf (qaf (ct bf ?_)))))))))
   exact bE (qcw (b := decide ((n'.Aa.length : Int) = 0)) bf) (eE hm)
   refine cf bf (cf bf (cf bf (cf bf ?_)))
   exact bE (((qav bf)).symm) (eE hm)
   refine qaf (cs rfl rfl hm ?_ ?_) <;> intro cL hm
   refine qac rfl (ct cL ?_)
   refine qaj rfl ?_
   refine fa rfl (ro (ld r0 rfl rfl (qap ?_)))
   refine qae ?_ ?_ <;> intro aU
   refine fa rfl (ct aU (ro (ld r0 rfl rfl (ct aU (ro (qak rfl (ct aU (qaf (ct aU ?_)))))))))
   exact bE (qcw (b := decide ((n'.Aa.length : Int) = 0)) aU) (eE hm)
   refine cf aU (cf aU (cf aU (cf aU ?_)))
   exact bE (((qav aU)).symm) (eE hm)
   refine qaf (cs rfl rfl hm ?_ ?_) <;> intro cL hm
   refine qaj rfl ?_
   refine fa rfl (ro (ld r0 rfl rfl (qap ?_)))
   refine qae ?_ ?_ <;> intro aU
   refine fa rfl (ct aU (ro (ld r0 rfl rfl (ct aU (ro (qak rfl (ct aU (qaf (ct aU ?_)))))))))
   exact bE (qcw (b := decide ((n'.Aa.length : Int) = 0)) aU) (eE hm)
   refine cf aU (cf aU (cf aU (cf aU ?_)))
   exact bE (((qav aU)).symm) (eE hm)
   refine qaf (cs rfl rfl hm ?_ ?_) <;> intro dj hm
   refine fa rfl (ro (ld r0 rfl rfl ?_))
   refine cb hm fun dq df hm => cgx (JcB df :) ?_
   refine qau ?_
   refine cs rfl rfl hm ?_ ?_ <;> intro dt hm
   exact eE hm
   refine qaj rfl ?_
   refine fa rfl (ro (ld r0 rfl rfl (ro (qak rfl (qaf ?_)))))
   obtain ⟨bv, aT, hm⟩ := bnd hm
   refine cS aT (fun aS aT => ?_) fun aS aT => ?_
   refine fa rfl (ct aS (ro (ld r0 rfl rfl (ct aS ?_))))
   obtain ⟨bw, ba, aW, aT⟩ := ixb aT
   refine RStep.ofN (qad rfl rfl (qc2 ae.rd aW) ba (qax rfl ba aW) (ct aS ?_))
   obtain ⟨br, bp, aZ, a6, a8⟩ := LiR.get ae.rd aW
   obtain ⟨bl, bg, rfl, bh⟩ := Ja.out a8
   refine ro (qan ((0 : Int).toNat) _ aZ rfl a6 rfl (ct aS ?_))
   refine cb aT fun bu bj aT => cgx (JX bj :) ?_
   refine ct aS ?_
   exact bE (si aT) (eE hm)
   refine cf aS (cf aS (cf aS (cf aS (cf aS ?_))))
   exact bE (si aT) (eE hm)
   refine qaf (cs rfl rfl hm ?_ ?_) <;> intro dz hm
   refine qaj rfl ?_
   refine fa rfl (ro (ld r0 rfl rfl (qbn ?_)))
   refine qae ?_ ?_ <;> intro bb
   refine fa rfl (ct bb (ro (ld r0 rfl rfl (ct bb (qbn (ct bb (qac rfl ?_)))))))
   refine qae ?_ ?_ <;> intro bC
   replace hm := ift (qa5 bb bC) hm
   exact eE hm
   replace hm := qba (qbs bb bC) hm
   refine qaj rfl ?_
   refine fa rfl (ro (ld r0 rfl rfl (ro (qak rfl (qaf ?_)))))
   obtain ⟨bv, aT, hm⟩ := bnd hm
   refine cS aT (fun aS aT => ?_) fun aS aT => ?_
   refine fa rfl (ct aS (ro (ld r0 rfl rfl (ct aS ?_))))
   obtain ⟨bw, ba, aW, aT⟩ := ixb aT
   refine RStep.ofN (qad rfl rfl (qc2 ae.rd aW) ba (qax rfl ba aW) (ct aS ?_))
   obtain ⟨br, bp, aZ, a6, a8⟩ := LiR.get ae.rd aW
   obtain ⟨bl, bg, rfl, bh⟩ := Ja.out a8
   refine ro (qan ((0 : Int).toNat) _ aZ rfl a6 rfl (ct aS ?_))
   refine cb aT fun bu bj aT => cgx (JX bj :) ?_
   refine ct aS ?_
   exact bE (si aT) (eE hm)
   refine cf aS (cf aS (cf aS (cf aS (cf aS ?_))))
   exact bE (si aT) (eE hm)
   refine cf bb (cf bb (cf bb (qac rfl (cF ?_))))
   replace hm := qba (qav bb) hm
   refine qaj rfl ?_
   refine fa rfl (ro (ld r0 rfl rfl (ro (qak rfl (qaf ?_)))))
   obtain ⟨bv, aT, hm⟩ := bnd hm
   refine cS aT (fun aS aT => ?_) fun aS aT => ?_
   refine fa rfl (ct aS (ro (ld r0 rfl rfl (ct aS ?_))))
   obtain ⟨bw, ba, aW, aT⟩ := ixb aT
   refine RStep.ofN (qad rfl rfl (qc2 ae.rd aW) ba (qax rfl ba aW) (ct aS ?_))
   obtain ⟨br, bp, aZ, a6, a8⟩ := LiR.get ae.rd aW
   obtain ⟨bl, bg, rfl, bh⟩ := Ja.out a8
   refine ro (qan ((0 : Int).toNat) _ aZ rfl a6 rfl (ct aS ?_))
   refine cb aT fun bu bj aT => cgx (JX bj :) ?_
   refine ct aS ?_
   exact bE (si aT) (eE hm)
   refine cf aS (cf aS (cf aS (cf aS (cf aS ?_))))
   exact bE (si aT) (eE hm)
   refine qaf (cs rfl rfl hm ?_ ?_) <;> intro cW hm
   refine fa rfl (ro (ld r0 rfl rfl ?_))
   refine cb hm fun cR bS hm => cg0 (JbT bS :) ?_
   refine qau ?_
   refine cs rfl rfl hm ?_ ?_ <;> intro dc hm
   exact eE hm
   refine qaj rfl ?_
   refine fa rfl (ro (ld r0 rfl rfl (ro (qak rfl (qaf ?_)))))
   obtain ⟨bv, aT, hm⟩ := bnd hm
   refine cS aT (fun aS aT => ?_) fun aS aT => ?_
   refine fa rfl (ct aS (ro (ld r0 rfl rfl (ct aS ?_))))
   obtain ⟨bw, ba, aW, aT⟩ := ixb aT
   refine RStep.ofN (qad rfl rfl (qc2 ae.rd aW) ba (qax rfl ba aW) (ct aS ?_))
   obtain ⟨br, bp, aZ, a6, a8⟩ := LiR.get ae.rd aW
   obtain ⟨bl, bg, rfl, bh⟩ := Ja.out a8
   refine ro (qan ((0 : Int).toNat) _ aZ rfl a6 rfl (ct aS ?_))
   refine cb aT fun bu bj aT => cgx (JX bj :) ?_
   refine ct aS ?_
   exact bE (si aT) (eE hm)
   refine cf aS (cf aS (cf aS (cf aS (cf aS ?_))))
   exact bE (si aT) (eE hm)
   refine qaf (cs rfl rfl hm ?_ ?_) <;> intro bA hm
   refine qac rfl (ct bA (fa rfl (ro (ld r0 rfl rfl (qbn ?_)))))
   refine cs rfl rfl hm ?_ ?_ <;> intro bD hm
   exact eE hm
   refine qaj rfl ?_
   refine fa rfl (ro (ld r0 rfl rfl (ro (qak rfl (qaf ?_)))))
   obtain ⟨bv, aT, hm⟩ := bnd hm
   refine cS aT (fun aS aT => ?_) fun aS aT => ?_
   refine fa rfl (ct aS (ro (ld r0 rfl rfl (ct aS ?_))))
   obtain ⟨bw, ba, aW, aT⟩ := ixb aT
   refine RStep.ofN (qad rfl rfl (qc2 ae.rd aW) ba (qax rfl ba aW) (ct aS ?_))
   obtain ⟨br, bp, aZ, a6, a8⟩ := LiR.get ae.rd aW
   obtain ⟨bl, bg, rfl, bh⟩ := Ja.out a8
   refine ro (qan ((0 : Int).toNat) _ aZ rfl a6 rfl (ct aS ?_))
   refine cb aT fun bu bj aT => cgx (JX bj :) ?_
   refine ct aS ?_
   exact bE (si aT) (eE hm)
   refine cf aS (cf aS (cf aS (cf aS (cf aS ?_))))
   exact bE (si aT) (eE hm)
   refine qaf (cs rfl rfl hm ?_ ?_) <;> intro bA hm
   refine qac rfl (ct bA (fa rfl (ro (ld r0 rfl rfl (qbn ?_)))))
   refine cs rfl rfl hm ?_ ?_ <;> intro bD hm
   exact eE hm
   refine qaj rfl ?_
   refine fa rfl (ro (ld r0 rfl rfl (ro (qak rfl (qaf ?_)))))
   obtain ⟨bv, aT, hm⟩ := bnd hm
   refine cS aT (fun aS aT => ?_) fun aS aT => ?_
   refine fa rfl (ct aS (ro (ld r0 rfl rfl (ct aS ?_))))
   obtain ⟨bw, ba, aW, aT⟩ := ixb aT
   refine RStep.ofN (qad rfl rfl (qc2 ae.rd aW) ba (qax rfl ba aW) (ct aS ?_))
   obtain ⟨br, bp, aZ, a6, a8⟩ := LiR.get ae.rd aW
   obtain ⟨bl, bg, rfl, bh⟩ := Ja.out a8
   refine ro (qan ((0 : Int).toNat) _ aZ rfl a6 rfl (ct aS ?_))
   refine cb aT fun bu bj aT => cgx (JX bj :) ?_
   refine ct aS ?_
   exact bE (si aT) (eE hm)
   refine cf aS (cf aS (cf aS (cf aS (cf aS ?_))))
   exact bE (si aT) (eE hm)
   refine qaf (cs rfl rfl hm ?_ ?_) <;> intro bA hm
   refine fa rfl (ro (ld r0 rfl rfl (qbn ?_)))
   refine cs rfl rfl hm ?_ ?_ <;> intro bD hm
   exact eE hm
   refine qaj rfl ?_
   refine fa rfl (ro (ld r0 rfl rfl (ro (qak rfl (qaf ?_)))))
   obtain ⟨bv, aT, hm⟩ := bnd hm
   refine cS aT (fun aS aT => ?_) fun aS aT => ?_
   refine fa rfl (ct aS (ro (ld r0 rfl rfl (ct aS ?_))))
   obtain ⟨bw, ba, aW, aT⟩ := ixb aT
   refine RStep.ofN (qad rfl rfl (qc2 ae.rd aW) ba (qax rfl ba aW) (ct aS ?_))
   obtain ⟨br, bp, aZ, a6, a8⟩ := LiR.get ae.rd aW
   obtain ⟨bl, bg, rfl, bh⟩ := Ja.out a8
   refine ro (qan ((0 : Int).toNat) _ aZ rfl a6 rfl (ct aS ?_))
   refine cb aT fun bu bj aT => cgx (JX bj :) ?_
   refine ct aS ?_
   exact bE (si aT) (eE hm)
   refine cf aS (cf aS (cf aS (cf aS (cf aS ?_))))
   exact bE (si aT) (eE hm)
   exact eE hm

def Jbr (n : Nat) : List Ja → Nat → Option (Fl (Bool) (Unit))
  | [], _ => some (Fl.go ())
  | e0 :: aS, i0 =>
    (JaZ n e0).bind fun aT =>
    if (!aT) then
    some (Fl.ret false)
    else
    Jbr n aS (i0 + 1)
def Jc8 (n : Nat) (n' : Ja) : Option (Bool) :=
  if (decide (n'.Ab ≠ 1) || decide (n'.Ac ≠ ([] : Str))) then
  some false
  else
  (JbH n n' 512 32).bind fun aS =>
  if (!aS.1) then
  some false
  else
  (chk (n'.Aa.length ≤ qbh)).bind fun _ =>
  (Jbr n n'.Aa 0).bind fun s0 => s0.el some fun t0 =>
  some true
theorem Jd4 {n : Nat} {n' : Ja} {aa : Option Addr} {ab : Nat} {K : Hp} {r : Bool}
    (hm : Jc8 n n' = some r) (hX : LiC Ja.R K aa ab 4 n'.Aa ∧ GG K) :
    Fn Tryz.prog 140 [.agg #[.int .i64 n'.Ab, str n'.Ac, .slice aa n'.Aa.length ab, .int .i64 n'.Ad]] K [] (fun v K' H' => v = .bool r ∧ H' = []) := by
 obtain ⟨ae, hG⟩ := hX
 refine Fn.enter Tryz.func140 Tryz.call140 rfl fun F => ?_
 unfold Jc8 at hm
 refine qaq ?_
 intro b1
 refine qai rfl fun b3 => ?_
 refine qaa r0 rfl ⟨rfl, rfl, (nl rfl), ?_⟩
 refine qaj rfl ?_
 refine fa rfl (ro (ld r1 rfl rfl (qa8 ?_)))
 refine qae ?_ ?_ <;> intro aT
 refine ct aT (ct aT (ct aT ?_))
 replace hm := ift (qbq aT) hm
 refine cT (cT (cT (cT (qac rfl (cT ?_)))))
 exact eE hm
 refine fa rfl (cf aT (ro (ld r1 rfl rfl (cf aT (qbn (cf aT ?_))))))
 refine qae ?_ ?_ <;> intro aS
 replace hm := ift (qfr aT aS) hm
 refine ct aS (ct aS (ct aS (qac rfl (cT ?_))))
 exact eE hm
 replace hm := qba (qc0 aT aS) hm
 refine ro (qab r1 rfl (nl rfl) (cf aS ?_))
 refine cb hm fun bj bg hm => cgx (Jd3 bg :) ?_
 refine cf aS (qau (cf aS ?_))
 refine cs rfl rfl hm ?_ ?_ <;> intro bl hm
 exact eE hm
 refine fa rfl (ro (ld r1 rfl rfl (ro (qak rfl ?_))))
 obtain ⟨bb, hm⟩ := qaw hm
 obtain ⟨s0, aU, hm⟩ := bnd hm
 refine lD (σ := (Unit)) ([2,5] ++ rg 22 8) [0, 1, 2] (fun i0 => [(22, .int .i64 (i0 : Int))]) (fun _ => []) (fun _ => []) (fun _ => True) (fun i0 _ => Jbr n (n'.Aa.drop i0) i0 = some s0) (fun t0 => s0 = Fl.go t0) (fun i0 => n'.Aa.length - i0) 0 () aU (And.intro qe (And.intro ?_ ?_))
 clear aU
 rintro i0 _ _ aU j0
 conv at aU => whnf
 refine qac rfl ?_
 refine qae ?_ ?_ <;> intro w0
 obtain ⟨e0, aV, bf⟩ := ltx w0
 rw [bf, Jbr.eq_2] at aU
 refine qal rfl ?_
 refine RStep.ofN (qad rfl rfl (qc2 ae.rd aV) (nn _) (qbo aV) ?_)
 obtain ⟨ba, bc, aY, aW, aX⟩ := LiR.get ae.rd aV
 obtain ⟨aZ, a8, rfl, a6⟩ := Ja.out aX
 refine ro (qan i0 _ aY rfl aW rfl ?_)
 refine qai rfl fun b5 => ?_
 refine qaa r0 rfl ⟨rfl, rfl, (nl rfl), ?_⟩
 refine ro (qab r0 rfl (nl rfl) ?_)
 refine cb aU fun bh bd aU => cgx (JdX bd :) ?_
 refine qau ?_
 refine cs rfl rfl aU ?_ ?_ <;> intro bm aU
 exact eE (er aU hm)
 refine qam (qbu aV bb) ?_
 exact eR aU (_, ())
 rw [lty w0, Jbr.eq_1] at aU
 refine cT ?_
 exact eM aU _
 rintro t0 _ rfl j0
 replace hm := elg hm
 exact eE hm

def Jb5 (name : Str) : Option (Bool) :=
  some (((decide (name = ([109, 101, 116, 104, 111, 100] : Str)) || decide (name = ([104, 111, 115, 116] : Str))) || decide (name = ([112, 97, 116, 104] : Str))) || decide (name = ([113, 117, 101, 114, 121] : Str)))
theorem Jdo {name : Str} {K : Hp} {r : Bool}
    (hm : Jb5 name = some r)  :
    Fn Tryz.prog 243 [str name] K [] (fun v K' H' => v = .bool r ∧ H' = []) := by
 refine Fn.enter Tryz.func243 Tryz.call243 rfl fun F => ?_
 unfold Jb5 at hm
 refine qaj rfl ?_
 refine qap ?_
 refine qae ?_ ?_ <;> intro aT
 refine ct aT (ct aT (cT (cT (cT (cT (cT (cT ?_)))))))
 exact bE (((qbq (qbq (qbq aT)))).symm) (eE hm)
 refine cf aT (qap (cf aT ?_))
 refine qae ?_ ?_ <;> intro aU
 refine ct aU (ct aU (cT (cT (cT ?_))))
 exact bE (((qbq (qbq (qfr aT aU)))).symm) (eE hm)
 refine cf aU (qap (cf aU ?_))
 refine qae ?_ ?_ <;> intro aS
 refine ct aS (ct aS ?_)
 exact bE (((qbq (qfr (qc0 aT aU) aS))).symm) (eE hm)
 refine cf aS (qap (cf aS ?_))
 exact bE (qgx (b := decide (name = ([113, 117, 101, 114, 121] : Str))) (qc0 (qc0 aT aU) aS)) (eE hm)

def Jba (env : (List Jk)) (name : Str) : Nat → Int → Option (Fl (Int) (Int))
  | 0, _ => none
  | aS + 1, ac =>
    if decide (ac ≥ 0) then
    (ix env ac).bind fun aU =>
    if decide (aU.Name = name) then
    (ix env ac).bind fun aT =>
    some (Fl.ret aT.Ar)
    else
    (chk (InI (ac - 1))).bind fun _ =>
    Jba env name aS (ac - 1)
    else
    some (Fl.go ac)
def JbU (n : Nat) (name : Str) (env : (List Jk)) : Option (Int) :=
  (chk (InI ((env.length : Int) - 1))).bind fun _ =>
  (Jba env name n ((env.length : Int) - 1)).bind fun s0 => s0.el some fun t0 =>
  (Jb5 name).bind fun aS =>
  if aS then
  some 1
  else
  some 0
theorem Jcq {n : Nat} {name : Str} {env : (List Jk)} {af : Option Addr} {ag : Nat} {n1 : Nat} {K : Hp} {r : Int}
    (hm : JbU n name env = some r) (hX : RdC Jk.enc K af ag 2 env ∧ n1 = env.length) :
    Fn Tryz.prog 227 [str name, .slice af n1 ag] K [] (fun v K' H' => v = .int .i64 r ∧ H' = []) := by
 obtain ⟨ai, aY⟩ := hX
 subst aY
 refine Fn.enter Tryz.func227 Tryz.call227 rfl fun F => ?_
 unfold JbU at hm
 refine ro (qak rfl ?_)
 refine ci hm fun hm => ?_
 obtain ⟨s0, aS, hm⟩ := bnd hm
 refine lD (σ := (Int)) ([4,5] ++ rg 9 16) [0] (fun _ => []) (fun t0 => [(5, .int .i64 t0)]) (fun _ => []) (fun _ => True) (fun i0 t0 => Jba env name i0 t0 = some s0) (fun t0 => s0 = Fl.go t0) (fun i0 => i0) n _ aS (And.intro qe (And.intro ?_ ?_))
 clear aS
 rintro i0 ac _ aS j0
 conv at aS => whnf
 cases i0 with
 | zero => rw [Jba.eq_1] at aS; cases aS
 | succ i0 =>
  rw [Jba.eq_2] at aS
  refine cs rfl rfl aS ?_ ?_ <;> intro bc aS
  refine qal rfl ?_
  obtain ⟨a6, aV, aU, aS⟩ := ixb aS
  refine RStep.ofN (qad rfl rfl (qfs ai.rd aU) aV (qax rfl aV aU) (qbb rfl (qfs ai.rd aU) (ro (qcv ((ac).toNat) 0 _ _ ai.rd rfl (mp aU) rfl rfl (qap ?_)))))
  refine cs rfl rfl aS ?_ ?_ <;> intro ba aS
  obtain ⟨aZ, aW, aT, aS⟩ := ixb aS
  refine RStep.ofN (qad rfl rfl (qfs ai.rd aT) aW (qax rfl aW aT) (qbb rfl (qfs ai.rd aT) (ro (qcv ((ac).toNat) 1 _ _ ai.rd rfl (mp aT) rfl rfl ?_))))
  exact eE (er aS hm)
  refine ci aS fun aS => ?_
  exact eR aS (_, _)
  refine cT ?_
  exact eM aS _
 rintro t0 _ rfl j0
 replace hm := elg hm
 refine cb hm fun a8 aX hm => cg0 (Jdo aX :) ?_
 refine cs rfl rfl hm ?_ ?_ <;> intro bb hm
 exact eE hm
 exact eE hm

def JT (c : Jn) (n' : Ja) (err : Err) : Option (Jn) :=
  if c.err.isNone then
  some (⟨n'.Ad, err⟩ : Jn)
  else
  some c
theorem JS {c : Jn} {n' : Ja} {err : Err} {b0 : Nat} {af : Option Addr} {ag : Nat} {K : Hp} {r : Jn}
    (hm : JT c n' err = some r) (ai : LiC Ja.R K af ag 4 n'.Aa) :
    Fn Tryz.prog 193 [.pointer (some ⟨b0, 0, none⟩), .agg #[.int .i64 n'.Ab, str n'.Ac, .slice af n'.Aa.length ag, .int .i64 n'.Ad], qcs 48 err] K [Cells b0 204 [.int .i64 c.line, qcs 48 c.err]] (fun v K' H' => v = .tuple #[] ∧ H' = [Cells b0 204 [.int .i64 r.line, qcs 48 r.err]]) := by
 refine Fn.enter Tryz.func193 Tryz.call193 rfl fun F => ?_
 unfold JT at hm
 refine qaq ?_
 intro b4
 refine qah (fa rfl (ro (ld r1 rfl rfl (qdq rfl ?_))))
 refine cs rfl rfl hm ?_ ?_ <;> intro aS hm
 refine fa rfl (ro (ld r0 rfl rfl (qah (fa rfl ?_))))
 refine qaa r1 rfl ⟨rfl, rfl, (nl rfl), ?_⟩
 refine qah (fa rfl ?_)
 refine qlu r0 rfl rfl ?_
 exact eE hm
 exact eE hm

def JcD (name : Str) : Option (Int × Int) :=
  if decide (name = ([104, 101, 97, 100, 101, 114] : Str)) then
  some (1, 1)
  else
  if decide (name = ([97, 114, 103] : Str)) then
  some (1, 1)
  else
  if decide (name = ([108, 111, 119, 101, 114] : Str)) then
  some (1, 1)
  else
  if decide (name = ([104, 97, 115] : Str)) then
  some (1, 3)
  else
  if decide (name = ([108, 101, 110] : Str)) then
  some (1, 2)
  else
  if decide (name = ([110, 117, 109, 98, 101, 114] : Str)) then
  some (1, 2)
  else
  if decide (name = ([112, 97, 114, 116] : Str)) then
  some (2, 1)
  else
  if decide (name = ([116, 101, 120, 116] : Str)) then
  some (2, 1)
  else
  some (0, 0)
theorem JdM {name : Str} {K : Hp} {r : Int × Int}
    (hm : JcD name = some r)  :
    Fn Tryz.prog 244 [str name] K [] (fun v K' H' => v = .tuple #[.int .i64 r.1, .int .i64 r.2] ∧ H' = []) := by
 refine Fn.enter Tryz.func244 Tryz.call244 rfl fun F => ?_
 unfold JcD at hm
 refine qal rfl ?_
 refine qap (cs rfl rfl hm ?_ ?_) <;> intro w5 hm
 refine qac rfl (ct w5 ?_)
 exact eE hm
 refine qap (cs rfl rfl hm ?_ ?_) <;> intro w5 hm
 refine qac rfl (ct w5 ?_)
 exact eE hm
 refine qap (cs rfl rfl hm ?_ ?_) <;> intro w5 hm
 exact eE hm
 refine qap (cs rfl rfl hm ?_ ?_) <;> intro w9 hm
 exact eE hm
 refine qap (cs rfl rfl hm ?_ ?_) <;> intro aT hm
 refine qac rfl (ct aT ?_)
 exact eE hm
 refine qap (cs rfl rfl hm ?_ ?_) <;> intro aT hm
 exact eE hm
 refine qap (cs rfl rfl hm ?_ ?_) <;> intro aS hm
 refine qac rfl (ct aS ?_)
 exact eE hm
 refine qap (cs rfl rfl hm ?_ ?_) <;> intro aS hm
 exact eE hm
 exact eE hm

def Jbb (c : Jn) (n' : Ja) (args : (List Int)) : Option (Int × Jn) :=
  (JcD n'.Ac).bind fun al =>
  if decide (al.2 = 0) then
  (JT c n' (some 8)).bind fun aS =>
  some (al.2, aS)
  else
  (if decide ((args.length : Int) ≠ 1) then some true else (ix args 0).bind fun aU =>
  some (decide (aU ≠ al.1))).bind fun aT =>
  if aT then
  (JT c n' (some 9)).bind fun aV =>
  some (al.2, aV)
  else
  some (al.2, c)
theorem Jch {c : Jn} {n' : Ja} {args : (List Int)} {b0 : Nat} {af : Option Addr} {ag : Nat} {ar : Option Addr} {au : Nat} {n2 : Nat} {K : Hp} {r : Int × Jn}
    (hm : Jbb c n' args = some r) (hX : LiC Ja.R K af ag 4 n'.Aa ∧ RdC eN K ar au 1 args ∧ n2 = args.length) :
    Fn Tryz.prog 228 [.pointer (some ⟨b0, 0, none⟩), .agg #[.int .i64 n'.Ab, str n'.Ac, .slice af n'.Aa.length ag, .int .i64 n'.Ad], .slice ar n2 au] K [Cells b0 204 [.int .i64 c.line, qcs 48 c.err]] (fun v K' H' => v = .int .i64 r.1 ∧ H' = [Cells b0 204 [.int .i64 r.2.line, qcs 48 r.2.err]]) := by
 obtain ⟨ai, aT, ba⟩ := hX
 subst ba
 refine Fn.enter Tryz.func228 Tryz.call228 rfl fun F => ?_
 unfold Jbb at hm
 refine qaq ?_
 intro b4
 refine fa rfl (ro (ld r0 rfl rfl ?_))
 refine cb hm fun al aZ hm => cg0 (JdM aZ :) ?_
 refine qaf (cs rfl rfl hm ?_ ?_) <;> intro bb hm
 refine ro (qab r0 rfl (nl rfl) ?_)
 refine qar rfl ?_
 refine cb hm fun bc a8 hm => cgx (JS a8 :) ?_
 exact eE hm
 refine qaj rfl ?_
 refine ro (qak rfl (qa8 ?_))
 obtain ⟨bf, aU, hm⟩ := bnd hm
 refine cS aU (fun aS aU => ?_) fun aS aU => ?_
 refine ct aS (ct aS (ct aS (ct aS (ct aS (qac rfl (cT ?_))))))
 replace hm := ift (si aU).symm hm
 refine ro (qab r0 rfl (nl rfl) ?_)
 refine qar rfl ?_
 refine cb hm fun a6 aV hm => cgx (JS aV :) ?_
 exact eE hm
 refine cf aS ?_
 obtain ⟨bd, aY, aW, aU⟩ := ixb aU
 refine RStep.ofN (qad rfl rfl (qfs aT.rd aW) aY (qax rfl aY aW) (cf aS (ro (qcv ((0 : Int).toNat) 0 _ _ aT.rd rfl (mp aW) rfl rfl (cf aS (cf aS (qa8 (cf aS (qac rfl ?_)))))))))
 refine qae ?_ ?_ <;> intro aX
 replace hm := ift ((si aU).symm.trans aX) hm
 refine ro (qab r0 rfl (nl rfl) ?_)
 refine qar rfl ?_
 refine cb hm fun a6 aV hm => cgx (JS aV :) ?_
 exact eE hm
 replace hm := qba ((si aU).symm.trans aX) hm
 exact eE hm

def JaC (t : Int) : List Int → Nat → Option (Fl (Bool) (Unit))
  | [], _ => some (Fl.go ())
  | e0 :: aS, i0 =>
    if decide (e0 ≠ t) then
    some (Fl.ret false)
    else
    JaC t aS (i0 + 1)
def JQ (t : Int) (aM : (List Int)) : Option (Bool) :=
  (chk (aM.length ≤ qbh)).bind fun _ =>
  (JaC t aM 0).bind fun s0 => s0.el some fun t0 =>
  some true
theorem JO {t : Int} {aM : (List Int)} {b1 : Nat} {af : Option Addr} {ag : Nat} {K : Hp} {r : Bool}
    (hm : JQ t aM = some r) (ai : RdC eN K af ag 1 aM) :
    Fn Tryz.prog 245 [.int .i64 t, .pointer (some ⟨b1, 0, none⟩)] K [Cells b1 284 [.slice af aM.length ag]] (fun v K' H' => v = .bool r ∧ H' = [Cells b1 284 [.slice af aM.length ag]]) := by
 refine Fn.enter Tryz.func245 Tryz.call245 rfl fun F => ?_
 unfold JQ at hm
 refine ro (ld r0 rfl rfl (ro (qak rfl ?_)))
 obtain ⟨aU, hm⟩ := qaw hm
 obtain ⟨s0, aS, hm⟩ := bnd hm
 refine lD (σ := (Unit)) ([3,5] ++ rg 8 8) [0, 1] (fun i0 => [(8, .int .i64 (i0 : Int))]) (fun _ => []) (fun _ => []) (fun _ => True) (fun i0 _ => JaC t (aM.drop i0) i0 = some s0) (fun t0 => s0 = Fl.go t0) (fun i0 => aM.length - i0) 0 () aS (And.intro qe (And.intro ?_ ?_))
 clear aS
 rintro i0 _ _ aS j0
 conv at aS => whnf
 refine qac rfl ?_
 refine qae ?_ ?_ <;> intro w0
 obtain ⟨e0, aT, aV⟩ := ltx w0
 rw [aV, JaC.eq_2] at aS
 refine qal rfl ?_
 refine RStep.ofN (qad rfl rfl (qfs ai.rd aT) (nn _) (qbo aT) (ro (qcv i0 0 _ _ ai.rd rfl (mp aT) rfl rfl (qa8 ?_))))
 refine cs rfl rfl aS ?_ ?_ <;> intro aW aS
 exact eE (er aS hm)
 refine qam (qbu aT aU) ?_
 exact eR aS (_, ())
 rw [lty w0, JaC.eq_1] at aS
 refine cT ?_
 exact eM aS _
 rintro t0 _ rfl j0
 replace hm := elg hm
 exact eE hm

def JbZ (n' : Ja) (args : (List Int)) : Option (Int) :=
  if decide (n'.Ab = 17) then
  (JQ 1 args).bind fun al =>
  if al then
  some 1
  else
  (JQ 2 args).bind fun aX =>
  if aX then
  some 2
  else
  some 0
  else
  if decide (n'.Ab = 18) then
  (JQ 2 args).bind fun aV =>
  if aV then
  some 2
  else
  some 0
  else
  if decide (n'.Ab = 19) then
  (JQ 2 args).bind fun aV =>
  if aV then
  some 2
  else
  some 0
  else
  if decide (n'.Ab = 13) then
  (JQ 3 args).bind fun aS =>
  if aS then
  some 3
  else
  some 0
  else
  if decide (n'.Ab = 14) then
  (JQ 3 args).bind fun aS =>
  if aS then
  some 3
  else
  some 0
  else
  if decide (n'.Ab = 15) then
  (JQ 3 args).bind fun aS =>
  if aS then
  some 3
  else
  some 0
  else
  if decide (n'.Ab = 16) then
  if decide (n'.Ac = ([61, 61] : Str)) then
  (ix args 0).bind fun aU =>
  (ix args 1).bind fun aT =>
  if decide (aU = aT) then
  some 3
  else
  some 0
  else
  if decide (n'.Ac = ([33, 61] : Str)) then
  (ix args 0).bind fun aU =>
  (ix args 1).bind fun aT =>
  if decide (aU = aT) then
  some 3
  else
  some 0
  else
  if decide (n'.Ac = ([60] : Str)) then
  (JQ 2 args).bind fun aW =>
  if aW then
  some 3
  else
  some 0
  else
  if decide (n'.Ac = ([60, 61] : Str)) then
  (JQ 2 args).bind fun aW =>
  if aW then
  some 3
  else
  some 0
  else
  (JQ 1 args).bind fun aY =>
  if aY then
  some 3
  else
  some 0
  else
  some 0
theorem JcQ {n' : Ja} {args : (List Int)} {aa : Option Addr} {ab : Nat} {af : Option Addr} {ag : Nat} {n1 : Nat} {K : Hp} {r : Int}
    (hm : JbZ n' args = some r) (hX : LiC Ja.R K aa ab 4 n'.Aa ∧ RdC eN K af ag 1 args ∧ n1 = args.length) :
    Fn Tryz.prog 229 [.agg #[.int .i64 n'.Ab, str n'.Ac, .slice aa n'.Aa.length ab, .int .i64 n'.Ad], .slice af n1 ag] K [] (fun v K' H' => v = .int .i64 r ∧ H' = []) := by
 obtain ⟨ae, ai, br⟩ := hX
 subst br
 refine Fn.enter Tryz.func229 Tryz.call229 rfl fun F => ?_
 unfold JbZ at hm
 refine qaq ?_
 intro b2
 refine qaq ?_
 intro b3
 refine mkFunc ?_
 refine fa rfl (ro (ld r1 rfl rfl ?_))
 refine qal rfl ?_
 refine qaf (cs rfl rfl hm ?_ ?_) <;> intro w9 hm
 refine cb hm fun al bm hm => cgx (JO bm :) ?_
 refine cs rfl rfl hm ?_ ?_ <;> intro bA hm
 exact eE hm
 refine cb hm fun bz bl hm => cgx (JO bl :) ?_
 refine cs rfl rfl hm ?_ ?_ <;> intro bw hm
 exact eE hm
 exact eE hm
 refine qaf (cs rfl rfl hm ?_ ?_) <;> intro ba hm
 refine qac rfl (ct ba ?_)
 refine cb hm fun bf aZ hm => cgx (JO aZ :) ?_
 refine cs rfl rfl hm ?_ ?_ <;> intro bp hm
 exact eE hm
 exact eE hm
 refine qaf (cs rfl rfl hm ?_ ?_) <;> intro ba hm
 refine cb hm fun bf aZ hm => cgx (JO aZ :) ?_
 refine cs rfl rfl hm ?_ ?_ <;> intro bp hm
 exact eE hm
 exact eE hm
 refine qaf (cs rfl rfl hm ?_ ?_) <;> intro aX hm
 refine qac rfl (ct aX ?_)
 refine cb hm fun a8 aW hm => cgx (JO aW :) ?_
 refine cs rfl rfl hm ?_ ?_ <;> intro a6 hm
 exact eE hm
 exact eE hm
 refine qaf (cs rfl rfl hm ?_ ?_) <;> intro aX hm
 refine qac rfl (ct aX ?_)
 refine cb hm fun a8 aW hm => cgx (JO aW :) ?_
 refine cs rfl rfl hm ?_ ?_ <;> intro a6 hm
 exact eE hm
 exact eE hm
 refine qaf (cs rfl rfl hm ?_ ?_) <;> intro aX hm
 refine cb hm fun a8 aW hm => cgx (JO aW :) ?_
 refine cs rfl rfl hm ?_ ?_ <;> intro a6 hm
 exact eE hm
 exact eE hm
 refine qaf (cs rfl rfl hm ?_ ?_) <;> intro bv hm
 refine fa rfl (ro (ld r1 rfl rfl ?_))
 refine qal rfl ?_
 refine qap (cs rfl rfl hm ?_ ?_) <;> intro bb hm
 refine qac rfl (ct bb ?_)
 refine qa4 ⟨⟨[], false⟩, _, [(_, _)], []⟩ (by kernel_rfl) ⟨Hp.Le.refl _, (pf rfl), ci0⟩ ?_
 refine qao m0 rfl rfl ?_
 obtain ⟨bo, aU, aS, hm⟩ := ixb hm
 refine qad rfl rfl (qfs ai.rd aS) aU (qax rfl aU aS) (qdj ((0 : Int).toNat) 0 _ _ ai.rd rfl (mp aS) rfl rfl (qao m0 rfl rfl ?_))
 obtain ⟨bd, aV, aT, hm⟩ := ixb hm
 refine qad rfl rfl (qfs ai.rd aT) aV (qax rfl aV aT) (qdj ((1 : Int).toNat) 0 _ _ ai.rd rfl (mp aT) rfl rfl (qaf ?_))
 refine cs rfl rfl hm ?_ ?_ <;> intro bn hm
 exact eE hm
 exact eE hm
 refine qap (cs rfl rfl hm ?_ ?_) <;> intro bb hm
 refine qa4 ⟨⟨[], false⟩, _, [(_, _)], []⟩ (by kernel_rfl) ⟨Hp.Le.refl _, (pf rfl), ci0⟩ ?_
 refine qao m0 rfl rfl ?_
 obtain ⟨bo, aU, aS, hm⟩ := ixb hm
 refine qad rfl rfl (qfs ai.rd aS) aU (qax rfl aU aS) (qdj ((0 : Int).toNat) 0 _ _ ai.rd rfl (mp aS) rfl rfl (qao m0 rfl rfl ?_))
 obtain ⟨bd, aV, aT, hm⟩ := ixb hm
 refine qad rfl rfl (qfs ai.rd aT) aV (qax rfl aV aT) (qdj ((1 : Int).toNat) 0 _ _ ai.rd rfl (mp aT) rfl rfl (qaf ?_))
 refine cs rfl rfl hm ?_ ?_ <;> intro bn hm
 exact eE hm
 exact eE hm
 refine qap (cs rfl rfl hm ?_ ?_) <;> intro bc hm
 refine qac rfl (ct bc ?_)
 refine cb hm fun bg aY hm => cgx (JO aY :) ?_
 refine cs rfl rfl hm ?_ ?_ <;> intro bj hm
 exact eE hm
 exact eE hm
 refine qap (cs rfl rfl hm ?_ ?_) <;> intro bc hm
 refine cb hm fun bg aY hm => cgx (JO aY :) ?_
 refine cs rfl rfl hm ?_ ?_ <;> intro bj hm
 exact eE hm
 exact eE hm
 refine cb hm fun bu bh hm => cgx (JO bh :) ?_
 refine cs rfl rfl hm ?_ ?_ <;> intro bt hm
 exact eE hm
 exact eE hm
 exact eE hm

def Jap (rec_ : (Jn → Ja → (List Jk) → Option (Int × Jn))) (env : (List Jk)) : List Ja → Nat → (List Int) → Int → Err → Option (Fl (Int × Jn) ((List Int) × Int × Err))
  | [], _, ac, aT, aS => some (Fl.go (ac, aT, aS))
  | e0 :: aV, i0, ac, aT, aS =>
    (rec_ (⟨aT, aS⟩ : Jn) e0 env).bind fun aU =>
    (chk (ac.length + [aU.1].length ≤ lim)).bind fun _ =>
    if aU.2.err.isSome then
    some (Fl.ret (0, aU.2))
    else
    Jap rec_ env aV (i0 + 1) (ac ++ [aU.1]) aU.2.line aU.2.err
def Jaq : Nat → Jn → Ja → (List Jk) → Option (Int × Jn)
  | 0, _, _, _ => none
  | n + 1, c, n', env =>
    (chk (n'.Aa.length ≤ qbh)).bind fun _ =>
    (Jap (Jaq n) env n'.Aa 0 [] c.line c.err).bind fun s0 => s0.el some fun t0 =>
    if decide (n'.Ab = 20) then
    some (2, (⟨t0.2.1, t0.2.2⟩ : Jn))
    else
    if decide (n'.Ab = 21) then
    some (1, (⟨t0.2.1, t0.2.2⟩ : Jn))
    else
    if decide (n'.Ab = 22) then
    some (3, (⟨t0.2.1, t0.2.2⟩ : Jn))
    else
    if decide (n'.Ab = 23) then
    (JbU n n'.Ac env).bind fun aS =>
    if decide (aS = 0) then
    (JT (⟨t0.2.1, t0.2.2⟩ : Jn) n' (some 8)).bind fun aW =>
    some (aS, aW)
    else
    some (aS, (⟨t0.2.1, t0.2.2⟩ : Jn))
    else
    if decide (n'.Ab = 24) then
    (Jbb (⟨t0.2.1, t0.2.2⟩ : Jn) n' t0.1).bind fun aU =>
    some (aU.1, aU.2)
    else
    (JbZ n' t0.1).bind fun aT =>
    if decide (aT = 0) then
    (JT (⟨t0.2.1, t0.2.2⟩ : Jn) n' (some 9)).bind fun aV =>
    some (aT, aV)
    else
    some (aT, (⟨t0.2.1, t0.2.2⟩ : Jn))
theorem Jdk : ∀ {n : Nat} {c : Jn} {n' : Ja} {env : (List Jk)} {b0 : Nat} {af : Option Addr} {ag : Nat} {ar : Option Addr} {au : Nat} {n2 : Nat} {K : Hp} {r : Int × Jn}
    (hm : Jaq n c n' env = some r) (hX : LiC Ja.R K af ag 4 n'.Aa ∧ RdC Jk.enc K ar au 2 env ∧ n2 = env.length),
    Fn Tryz.prog 191 [.pointer (some ⟨b0, 0, none⟩), .agg #[.int .i64 n'.Ab, str n'.Ac, .slice af n'.Aa.length ag, .int .i64 n'.Ad], .slice ar n2 au] K [Cells b0 204 [.int .i64 c.line, qcs 48 c.err]] (fun v K' H' => v = .int .i64 r.1 ∧ H' = [Cells b0 204 [.int .i64 r.2.line, qcs 48 r.2.err]]) := by
 intro n
 induction n with
 | zero =>
   intro c n' env b0 af ag ar au n2 K r hm hX
   rw [Jaq.eq_1] at hm; cases hm
 | succ n ih =>
   intro c n' env b0 af ag ar au n2 K r hm hX
   obtain ⟨ai, bo, bB⟩ := hX
   subst bB
   refine Fn.enter Tryz.func191 Tryz.call191 rfl fun F => ?_
   rw [Jaq.eq_2] at hm
   refine qaq ?_
   intro b4
   refine fa rfl (ro (ld r0 rfl rfl (ro (qak rfl ?_))))
   obtain ⟨bA, hm⟩ := qaw hm
   obtain ⟨s0, aU, hm⟩ := bnd hm
   refine qhd eN 3 1 ?_
   refine lD (σ := ((List Int) × Int × Err) × Option Addr × Nat) ([6,7,9] ++ rg 15 17) [1, 3] (fun i0 => [(15, .int .i64 (i0 : Int))]) (fun (t0, aS, aT) => [(7, .slice aS t0.1.length aT)]) (fun (t0, aS, aT) => [qas eN aS 3 1 aT t0.1, Cells b0 204 [.int .i64 t0.2.1, qcs 48 t0.2.2]]) (fun (t0, aS, aT) => (0 < t0.1.length → Has aS) ∧ True) (fun i0 (t0, aS, aT) => Jap (Jaq n) env (n'.Aa.drop i0) i0 t0.1 t0.2.1 t0.2.2 = some s0) (fun (t0, aS, aT) => s0 = Fl.go t0) (fun i0 => n'.Aa.length - i0) 0 ((_, _, _), _, _) aU (And.intro qe (And.intro ?_ ?_))
   clear aU
   rintro i0 ⟨⟨ac, bp, bF⟩, bf, bd⟩ ⟨bb, _⟩ aU j0
   dsimp only at aU ⊢
   refine qac rfl ?_
   refine qae ?_ ?_ <;> intro w0
   obtain ⟨e0, aZ, bw⟩ := ltx w0
   rw [bw, Jap.eq_2] at aU
   refine qal rfl ?_
   refine RStep.ofN (qad rfl rfl (qc2 ai.rd aZ) (nn _) (qbo aZ) ?_)
   obtain ⟨bu, bC, a6, a8, ba⟩ := LiR.get ai.rd aZ
   obtain ⟨bg, bm, rfl, bj⟩ := Ja.out ba
   refine ro (qan i0 _ a6 rfl a8 rfl ?_)
   refine qai rfl fun b9 => ?_
   refine qaa r0 rfl ⟨rfl, rfl, (nl rfl), ?_⟩
   refine ro (qab r0 rfl (nl rfl) ?_)
   refine cb aU fun bh bv aU => cgx (ih bv :) ?_
   refine bsO (len := 1) (enc := eN) (l := [bh.1]) (cl := [.int .i64 bh.1]) qj0 rfl rfl (fun _ _ => rfl) rfl rfl rfl ?_ fun bJ => ?_
   · conv => whnf
     refine cT ?_
     first | done | rfl
   obtain ⟨bz, aU⟩ := qaw aU
   refine apE rfl r3 qj0 (qay rfl r0 rfl (fun _ => rfl) (fun _ => rfl)) bz ?_
   intro bQ bL bK
   refine qah (fa rfl (ro (ld r2 rfl rfl (qa6 rfl ?_))))
   refine cs rfl rfl aU ?_ ?_ <;> intro bN aU
   exact eE (er aU hm)
   refine qam (qbu aZ bA) ?_
   exact eR aU (_, (_, _, _), _, _)
   rw [lty w0, Jap.eq_1] at aU
   refine cT ?_
   exact eM aU (_, _, _)
   rintro ⟨t0, aS, aT⟩ ⟨bl, _⟩ rfl j0
   replace hm := elg hm
   refine fa rfl (ro (ld r2 rfl rfl ?_))
   refine qal rfl ?_
   refine qaf (cs rfl rfl hm ?_ ?_) <;> intro bO hm
   exact eE hm
   refine qaf (cs rfl rfl hm ?_ ?_) <;> intro bW hm
   exact eE hm
   refine qaf (cs rfl rfl hm ?_ ?_) <;> intro bT hm
   exact eE hm
   refine qaf (cs rfl rfl hm ?_ ?_) <;> intro bU hm
   refine fa rfl (ro (ld r2 rfl rfl ?_))
   refine cb hm fun bR bD hm => cgx (Jcq bD :) ?_
   refine qaf (cs rfl rfl hm ?_ ?_) <;> intro bY hm
   refine ro (qab r2 rfl (nl rfl) ?_)
   refine qar rfl ?_
   refine cb hm fun bM bG hm => cgx (JS bG :) ?_
   exact eE hm
   exact eE hm
   refine qaf (cs rfl rfl hm ?_ ?_) <;> intro bS hm
   refine ro (qab r2 rfl (nl rfl) ?_)
   refine cb hm fun bI bt hm => ck0 (Fn.lend Tryz.call228 (fun bc aY aX => (Jch (c := (⟨t0.2.1, t0.2.2⟩ : Jn)) (n' := n') bt ⟨(LiC.mono Ja.R_ok aY ai), aX, rfl⟩)) (by exact fun _ _ _ _ h => h)) ?_
   rintro _ _ _ ⟨_, rfl, rfl, rfl⟩
   exact eE hm
   refine ro (qab r2 rfl (nl rfl) ?_)
   refine cb hm fun bV bH hm => ck0 (Fn.lend Tryz.call229 (fun bn aV aW => (JcQ (n' := n') bH ⟨(LiC.mono Ja.R_ok aV ai), aW, rfl⟩)) (by exact fun _ _ _ _ h => h)) ?_
   rintro _ _ _ ⟨_, rfl, rfl, rfl⟩
   refine qaf (cs rfl rfl hm ?_ ?_) <;> intro bP hm
   refine ro (qab r2 rfl (nl rfl) ?_)
   refine qar rfl ?_
   refine cb hm fun bX br hm => cgx (JS br :) ?_
   exact eE hm
   exact eE hm

def Jc9 (n' : Ja) : Option (Int) :=
  if decide (n'.Ab = 2) then
  some 3
  else
  if decide (n'.Ab = 4) then
  some 1
  else
  if decide (n'.Ab = 5) then
  some 1
  else
  if decide (n'.Ab = 7) then
  some 1
  else
  if decide (n'.Ab = 8) then
  some 2
  else
  if decide (n'.Ab = 9) then
  some 2
  else
  some 0
theorem Jd5 {n' : Ja} {aa : Option Addr} {ab : Nat} {K : Hp} {r : Int}
    (hm : Jc9 n' = some r) (ae : LiC Ja.R K aa ab 4 n'.Aa) :
    Fn Tryz.prog 192 [.agg #[.int .i64 n'.Ab, str n'.Ac, .slice aa n'.Aa.length ab, .int .i64 n'.Ad]] K [] (fun v K' H' => v = .int .i64 r ∧ H' = []) := by
 refine Fn.enter Tryz.func192 Tryz.call192 rfl fun F => ?_
 unfold Jc9 at hm
 refine qaq ?_
 intro b1
 refine fa rfl (ro (ld r0 rfl rfl ?_))
 refine qal rfl ?_
 refine qaf (cs rfl rfl hm ?_ ?_) <;> intro w5 hm
 exact eE hm
 refine qaf (cs rfl rfl hm ?_ ?_) <;> intro w7 hm
 refine qac rfl (ct w7 ?_)
 exact eE hm
 refine qaf (cs rfl rfl hm ?_ ?_) <;> intro w7 hm
 refine qac rfl (ct w7 ?_)
 exact eE hm
 refine qaf (cs rfl rfl hm ?_ ?_) <;> intro w7 hm
 exact eE hm
 refine qaf (cs rfl rfl hm ?_ ?_) <;> intro aS hm
 refine qac rfl (ct aS ?_)
 exact eE hm
 refine qaf (cs rfl rfl hm ?_ ?_) <;> intro aS hm
 exact eE hm
 exact eE hm

def Jb0 (n : Nat) (name : Str) (env : (List Jk)) : Option (Bool) :=
  (JbU n name env).bind fun x7 =>
  some (decide (x7 ≠ 0))
theorem JcR {n : Nat} {name : Str} {env : (List Jk)} {af : Option Addr} {ag : Nat} {n1 : Nat} {K : Hp} {r : Bool}
    (hm : Jb0 n name env = some r) (hX : RdC Jk.enc K af ag 2 env ∧ n1 = env.length) :
    Fn Tryz.prog 194 [str name, .slice af n1 ag] K [] (fun v K' H' => v = .bool r ∧ H' = []) := by
 obtain ⟨ai, aS⟩ := hX
 subst aS
 refine Fn.enter Tryz.func194 Tryz.call194 rfl fun F => ?_
 unfold Jb0 at hm
 refine cb hm fun x7 q7 hm => cgx (Jcq q7 :) ?_
 refine qa8 ?_
 exact eE hm

def JaG (env : (List Jk)) (name : Str) (t : Int) : Option ((List Jk)) :=
  (chk (InI ((env.length : Int) + 1))).bind fun _ =>
  (chk ((0 : Int) ≤ ((env.length : Int) + 1) ∧ ((env.length : Int) + 1) ≤ (lim : Int))).bind fun _ =>
  (chk (([] : List Jk).length + env.length ≤ lim)).bind fun _ =>
  (chk ((([] : List Jk) ++ env).length + [(⟨name, t⟩ : Jk)].length ≤ lim)).bind fun _ =>
  some ((([] : List Jk) ++ env) ++ [(⟨name, t⟩ : Jk)])
theorem JaS {env : (List Jk)} {name : Str} {t : Int} {aa : Option Addr} {ab : Nat} {n0 : Nat} {K : Hp} {r : (List Jk)}
    (hm : JaG env name t = some r) (hX : RdC Jk.enc K aa ab 2 env ∧ n0 = env.length) :
    Fn Tryz.prog 195 [.slice aa n0 ab, str name, .int .i64 t] K [] (fun v K' H' => ∃ ar_0 : Option Addr, ∃ cr_0 : Nat, v = .slice ar_0 r.length cr_0 ∧ (0 < r.length → Has ar_0) ∧ H' = [qas Jk.enc ar_0 288 2 cr_0 r]) := by
 obtain ⟨ae, aV⟩ := hX
 subst aV
 refine Fn.enter Tryz.func195 Tryz.call195 rfl fun F => ?_
 unfold JaG at hm
 refine ro (qak rfl ?_)
 refine ci hm fun hm => ?_
 obtain ⟨aU, hm⟩ := qaw hm
 refine qop (enc := Jk.enc) qj1 rfl aU fun aZ => ?_
 obtain ⟨aT, hm⟩ := qaw hm
 refine apE rfl r0 qj1 (qpf rfl ae.rd rfl) aT ?_
 intro aW bb ba
 refine qag rfl rfl (cT (cT ?_))
 refine bsO (len := 1) (enc := Jk.enc) (l := [(⟨name, t⟩ : Jk)]) (cl := [str name, .int .i64 t]) qj1 rfl rfl (fun _ _ => rfl) rfl rfl rfl ?_ fun aX => ?_
 · conv => whnf
   refine cT ?_
   first | done | rfl
 obtain ⟨aS, hm⟩ := qaw hm
 refine apE rfl r1 qj1 (qay rfl r0 rfl (fun _ => rfl) (fun _ => rfl)) aS ?_
 intro aY a6 a8
 exact eE hm

def JbV (n' : Ja) : Option ((List Ja)) :=
  if decide (n'.Ab = 12) then
  some n'.Aa
  else
  some [n']
theorem JbP {n' : Ja} {aa : Option Addr} {ab : Nat} {K : Hp} {r : (List Ja)}
    (hm : JbV n' = some r) (ae : LiC Ja.R K aa ab 4 n'.Aa) :
    Fn Tryz.prog 196 [.agg #[.int .i64 n'.Ab, str n'.Ac, .slice aa n'.Aa.length ab, .int .i64 n'.Ad]] K [] (fun v K' H' => ∃ ar_0 : Option Addr, ∃ cr_0 : Nat, v = .slice ar_0 r.length cr_0 ∧ LiC Ja.R K' ar_0 cr_0 4 r ∧ H' = []) := by
 refine Fn.enter Tryz.func196 Tryz.call196 rfl fun F => ?_
 unfold JbV at hm
 refine qaq ?_
 intro b1
 refine fa rfl (ro (ld r0 rfl rfl (qaf ?_)))
 refine cs rfl rfl hm ?_ ?_ <;> intro w5 hm
 refine fa rfl (ro (ld r0 rfl rfl ?_))
 exact eE hm
 refine ro (qab r0 rfl (nl rfl) ?_)
 refine qje (R := Ja.R) (len := 1) (l := [n']) (css := [[.int .i64 n'.Ab, str n'.Ac, .slice aa n'.Aa.length ab, .int .i64 n'.Ad]]) (cl := [.int .i64 n'.Ab, str n'.Ac, .slice aa n'.Aa.length ab, .int .i64 n'.Ad]) Ja.R_ok qbx rfl rfl (LR.snoc LR.nil (Ja.of (x := n') ⟨aa, ab, rfl, ae⟩)) rfl rfl rfl ?_ fun b9 => ?_
 · conv => whnf
   refine cT ?_
   first | done | rfl
 refine qrh Ja.R_ok r0 (show LR Ja.R _ [[.int .i64 n'.Ab, str n'.Ac, .slice aa n'.Aa.length ab, .int .i64 n'.Ad]] [n'] from (LR.snoc LR.nil (Ja.of (x := n') ⟨aa, ab, rfl, ae⟩))) fun aT aS aU => ?_
 exact eE hm

def JN (rec_ : (Jn → (List Ja) → (List Jk) → Option (Jn))) (ac : (List Jk)) : List Ja → Nat → Int → Err → Option (Int × Err)
  | [], _, aS, aT => some (aS, aT)
  | e3 :: aW, i3, aS, aT =>
    (JbV e3).bind fun aV =>
    (rec_ (⟨aS, aT⟩ : Jn) aV ac).bind fun aU =>
    JN rec_ ac aW (i3 + 1) aU.line aU.err
def JA (n : Nat) (rec_ : (Jn → (List Ja) → (List Jk) → Option (Jn))) : List Ja → Nat → (List Jk) → Int → Err → Option (Fl (Jn) ((List Jk) × Int × Err))
  | [], _, ac, aX, aV => some (Fl.go (ac, aX, aV))
  | e0 :: aW, i0, ac, aX, aV =>
    if decide ((e0.Aa.length : Int) = 0) then
    JA n rec_ aW (i0 + 1) ac aX aV
    else
    (ix e0.Aa 0).bind fun a8 =>
    (Jaq n (⟨aX, aV⟩ : Jn) a8 ac).bind fun aS =>
    (Jc9 e0).bind fun a6 =>
    if ((aS.2.err.isNone && decide (a6 ≠ 0)) && decide (aS.1 ≠ a6)) then
    (JT aS.2 e0 (some 9)).bind fun aT =>
    if aT.err.isSome then
    some (Fl.ret aT)
    else
    if decide (e0.Ab = 3) then
    (Jb0 n e0.Ac ac).bind fun aZ =>
    if aZ then
    (JT aT e0 (some 4)).bind fun aU =>
    (JaG ac e0.Ac aS.1).bind fun aY =>
    if aU.err.isSome then
    some (Fl.ret aU)
    else
    JA n rec_ aW (i0 + 1) aY aU.line aU.err
    else
    (JaG ac e0.Ac aS.1).bind fun aY =>
    if aT.err.isSome then
    some (Fl.ret aT)
    else
    JA n rec_ aW (i0 + 1) aY aT.line aT.err
    else
    if decide (e0.Ab = 2) then
    (chk (0 ≤ (1 : Int) ∧ (1 : Int) ≤ (e0.Aa.length : Int) ∧ (e0.Aa.length : Int) ≤ (e0.Aa.length : Int))).bind fun _ =>
    (chk ((subL e0.Aa (1 : Int) (e0.Aa.length : Int)).length ≤ qbh)).bind fun _ =>
    (JN rec_ ac (subL e0.Aa (1 : Int) (e0.Aa.length : Int)) 0 aT.line aT.err).bind fun t3 =>
    if t3.2.isSome then
    some (Fl.ret (⟨t3.1, t3.2⟩ : Jn))
    else
    JA n rec_ aW (i0 + 1) ac t3.1 t3.2
    else
    if aT.err.isSome then
    some (Fl.ret aT)
    else
    JA n rec_ aW (i0 + 1) ac aT.line aT.err
    else
    if aS.2.err.isSome then
    some (Fl.ret aS.2)
    else
    if decide (e0.Ab = 3) then
    (Jb0 n e0.Ac ac).bind fun aZ =>
    if aZ then
    (JT aS.2 e0 (some 4)).bind fun aU =>
    (JaG ac e0.Ac aS.1).bind fun aY =>
    if aU.err.isSome then
    some (Fl.ret aU)
    else
    JA n rec_ aW (i0 + 1) aY aU.line aU.err
    else
    (JaG ac e0.Ac aS.1).bind fun aY =>
    if aS.2.err.isSome then
    some (Fl.ret aS.2)
    else
    JA n rec_ aW (i0 + 1) aY aS.2.line aS.2.err
    else
    if decide (e0.Ab = 2) then
    (chk (0 ≤ (1 : Int) ∧ (1 : Int) ≤ (e0.Aa.length : Int) ∧ (e0.Aa.length : Int) ≤ (e0.Aa.length : Int))).bind fun _ =>
    (chk ((subL e0.Aa (1 : Int) (e0.Aa.length : Int)).length ≤ qbh)).bind fun _ =>
    (JN rec_ ac (subL e0.Aa (1 : Int) (e0.Aa.length : Int)) 0 aS.2.line aS.2.err).bind fun t3 =>
    if t3.2.isSome then
    some (Fl.ret (⟨t3.1, t3.2⟩ : Jn))
    else
    JA n rec_ aW (i0 + 1) ac t3.1 t3.2
    else
    if aS.2.err.isSome then
    some (Fl.ret aS.2)
    else
    JA n rec_ aW (i0 + 1) ac aS.2.line aS.2.err
def JY : Nat → Jn → (List Ja) → (List Jk) → Option (Jn)
  | 0, _, _, _ => none
  | n + 1, c, list, env =>
    (chk (list.length ≤ qbh)).bind fun _ =>
    (JA n (JY n) list 0 env c.line c.err).bind fun s0 => s0.el some fun t0 =>
    some (⟨t0.2.1, t0.2.2⟩ : Jn)
theorem Jda : ∀ {n : Nat} {c : Jn} {list : (List Ja)} {env : (List Jk)} {b0 : Nat} {af : Option Addr} {ag : Nat} {n1 : Nat} {ar : Option Addr} {au : Nat} {n2 : Nat} {K : Hp} {r : Jn}
    (hm : JY n c list env = some r) (hX : LiC Ja.R K af ag 4 list ∧ n1 = list.length ∧ RdC Jk.enc K ar au 2 env ∧ n2 = env.length),
    Fn Tryz.prog 141 [.pointer (some ⟨b0, 0, none⟩), .slice af n1 ag, .slice ar n2 au] K [Cells b0 204 [.int .i64 c.line, qcs 48 c.err]] (fun v K' H' => v = .tuple #[] ∧ H' = [Cells b0 204 [.int .i64 r.line, qcs 48 r.err]]) := by
 intro n
 induction n with
 | zero =>
   intro c list env b0 af ag n1 ar au n2 K r hm hX
   rw [JY.eq_1] at hm; cases hm
 | succ n ih =>
   intro c list env b0 af ag n1 ar au n2 K r hm hX
   obtain ⟨ai, cX, cj, cL⟩ := hX
   subst cX
   subst cL
   refine Fn.enter Tryz.func141 Tryz.call141 rfl fun F => ?_
   rw [JY.eq_2] at hm
   refine ro (qak rfl ?_)
   obtain ⟨bh, hm⟩ := qaw hm
   obtain ⟨s0, aS, hm⟩ := bnd hm
   refine lC (σ := ((List Jk) × Int × Err) × Option Addr × Nat) ([2,7,8,9,11] ++ rg 14 79) [1] (fun i0 => [(14, .int .i64 (i0 : Int))]) (fun (t0, aW, aX) => [(2, .slice aW t0.1.length aX)]) (fun (t0, aW, aX) => [Cells b0 204 [.int .i64 t0.2.1, qcs 48 t0.2.2]]) (fun zz K1 => match zz with | (t0, aW, aX) => RdC Jk.enc K1 aW aX 2 t0.1 ∧ True) (fun i0 (t0, aW, aX) => JA n (JY n) (list.drop i0) i0 t0.1 t0.2.1 t0.2.2 = some s0) (fun (t0, aW, aX) => s0 = Fl.go t0) (fun i0 => list.length - i0) 0 ((_, _, _), _, _) aS (And.intro qe (And.intro ?_ ?_))
   clear aS
   rintro i0 ⟨⟨ac, cw, cR⟩, bZ, bW⟩ cZ co ⟨bV, _⟩ aS j0
   dsimp only at aS ⊢
   refine qac rfl ?_
   refine qae ?_ ?_ <;> intro w0
   obtain ⟨e0, aZ, cD⟩ := ltx w0
   rw [cD, JA.eq_2] at aS
   refine qal rfl ?_
   refine RStep.ofN (qad rfl rfl (qc2 (LiC.mono Ja.R_ok co ai).rd aZ) (nn _) (qbo aZ) ?_)
   obtain ⟨cU, cQ, bI, bG, bB⟩ := LiR.get (LiC.mono Ja.R_ok co ai).rd aZ
   obtain ⟨bY, cn, rfl, aY⟩ := Ja.out bB
   refine ro (qan i0 _ bI rfl bG rfl ?_)
   refine qai rfl fun b7 => ?_
   refine qaa r0 rfl ⟨rfl, rfl, (nl rfl), ?_⟩
   refine fa rfl (ro (ld r0 rfl rfl (ro (qak rfl (qaf ?_)))))
   refine cs rfl rfl aS ?_ ?_ <;> intro c4 aS
   refine cT (qam (qbu aZ bh) ?_)
   exact eR aS (_, (_, _, _), _, _)
   refine fa rfl (ro (ld r0 rfl rfl ?_))
   obtain ⟨c6, cr, bA, aS⟩ := ixb aS
   refine RStep.ofN (qad rfl rfl (qc2 aY.rd bA) cr (qax rfl cr bA) ?_)
   obtain ⟨cE, cH, bM, bQ, bD⟩ := LiR.get aY.rd bA
   obtain ⟨ca, bX, rfl, cm⟩ := Ja.out bD
   refine ro (qan ((0 : Int).toNat) _ bM rfl bQ rfl ?_)
   refine cb aS fun bH cC aS => cgx (Jdk cC :) ?_
   refine ro (qab r1 rfl (nl rfl) ?_)
   refine cb aS fun bR cA aS => cgx (Jd5 cA :) ?_
   refine jR (σ := Unit) (rg 31 14) (fun _ => [(44, .bool ((bH.2.err.isNone && decide (bR ≠ 0)) && decide (bH.1 ≠ bR)))]) (fun cV => True) ?_ ?_
   refine qaj rfl ?_
   refine qah (fa rfl (ro (ld r0 rfl rfl (qdq rfl ?_))))
   refine qae ?_ ?_ <;> intro aV
   refine ct aV (qa8 (ct aV ?_))
   refine qae ?_ ?_ <;> intro aT
   refine ct aT (ct aT (qa8 (ct aT ?_)))
   exact eMt () ⟨bq (qcw (b := decide (bH.1 ≠ bR)) (qa5 aV aT)), trivial⟩
   refine cf aT (cf aT (cf aT ?_))
   exact eMt () ⟨bq (((qav (qbs aV aT))).symm), trivial⟩
   refine cf aV (cf aV (cF (cF (cF (cF ?_)))))
   exact eMt () ⟨bq (((qav (qav aV))).symm), trivial⟩
   rintro _ _ cB
   refine cs rfl rfl aS ?_ ?_ <;> intro c8 aS
   refine ro (qab r1 rfl (nl rfl) ?_)
   refine qar rfl ?_
   refine cb aS fun c9 cP aS => cgx (JS cP :) ?_
   refine qah (fa rfl (ro (ld r0 rfl rfl (qa6 rfl ?_))))
   refine cs rfl rfl aS ?_ ?_ <;> intro cI aS
   exact eE (er aS hm)
   refine fa rfl (ro (ld r1 rfl rfl ?_))
   refine qal rfl ?_
   refine qaf (cs rfl rfl aS ?_ ?_) <;> intro cu aS
   refine fa rfl (ro (ld r1 rfl rfl ?_))
   refine cb aS fun cN bU aS => cgx (JcR bU :) ?_
   refine cs rfl rfl aS ?_ ?_ <;> intro cK aS
   refine ro (qab r1 rfl (nl rfl) ?_)
   refine qar rfl ?_
   refine cb aS fun cO bO aS => cgx (JS bO :) ?_
   refine fa rfl (ro (ld r1 rfl rfl ?_))
   refine cb aS fun bC bl aS => ckx (JaS bl :) ?_
   rintro _ _ _ ⟨bb, a8, rfl, bd, rfl⟩
   refine qah (fa rfl (ro (ld r1 rfl rfl (qa6 rfl ?_))))
   refine cs rfl rfl aS ?_ ?_ <;> intro bm aS
   exact eE (er aS hm)
   refine qam (qbu aZ bh) ?_
   refine fRo r0 fun bf a6 bc => ?_
   exact eR aS (_, (_, _, _), _, _)
   refine fa rfl (ro (ld r1 rfl rfl ?_))
   refine cb aS fun bC bl aS => ckx (JaS bl :) ?_
   rintro _ _ _ ⟨bb, a8, rfl, bd, rfl⟩
   refine qah (fa rfl (ro (ld r1 rfl rfl (qa6 rfl ?_))))
   refine cs rfl rfl aS ?_ ?_ <;> intro bm aS
   exact eE (er aS hm)
   refine qam (qbu aZ bh) ?_
   refine fRo r0 fun bf a6 bc => ?_
   exact eR aS (_, (_, _, _), _, _)
   refine qaf (cs rfl rfl aS ?_ ?_) <;> intro cz aS
   refine fa rfl (ro (ld r1 rfl rfl ?_))
   obtain ⟨bp, aS⟩ := qaw aS
   have ba := aY.subC bp
   refine RStep.ofN (qnt (l := e0.Aa) (lo := (some 1)) (hi := none) (lo' := (1 : Int)) (hi' := (e0.Aa.length : Int)) rfl rfl rfl rfl rfl aY.le bp (ro (qak rfl ?_)))
   obtain ⟨bK, aS⟩ := qaw aS
   obtain ⟨s3, aU, aS⟩ := bnd aS
   refine lD (σ := (Int × Err)) ([11] ++ rg 77 10) [1, 2] (fun i3 => [(77, .int .i64 (i3 : Int))]) (fun _ => []) (fun t3 => [Cells b0 204 [.int .i64 t3.1, qcs 48 t3.2]]) (fun _ => True) (fun i3 t3 => JN (JY n) ac ((subL e0.Aa (1 : Int) (e0.Aa.length : Int)).drop i3) i3 t3.1 t3.2 = some s3) (fun t3 => t3 = s3) (fun i3 => (subL e0.Aa (1 : Int) (e0.Aa.length : Int)).length - i3) 0 (_, _) aU (And.intro qe (And.intro ?_ ?_))
   clear aU
   rintro i3 ⟨bT, bJ⟩ _ aU j3
   dsimp only at aU ⊢
   refine qac rfl ?_
   refine qae ?_ ?_ <;> intro w3
   obtain ⟨e3, bg, bF⟩ := ltx w3
   rw [bF, JN.eq_2] at aU
   refine qal rfl ?_
   refine RStep.ofN (qad rfl rfl (qc2 ba.rd bg) (nn _) (qbo bg) ?_)
   obtain ⟨bN, bS, bo, bn, bj⟩ := LiR.get ba.rd bg
   obtain ⟨bw, bv, rfl, bz⟩ := Ja.out bj
   refine ro (qan i3 _ bo rfl bn rfl ?_)
   refine qai rfl fun cG => ?_
   refine qaa r0 rfl ⟨rfl, rfl, (nl rfl), ?_⟩
   refine ro (qab r0 rfl (nl rfl) ?_)
   refine cb aU fun cM bP aU => cfx (JbP bP :) ?_
   rintro _ cW _ cJ ⟨bu, bt, rfl, br, rfl⟩
   refine cb aU fun cy bL aU => cgx (ih bL :) ?_
   refine qam (qbu bg bK) ?_
   exact eR aU (_, (_, _))
   rw [lty w3, JN.eq_1] at aU
   refine cT ?_
   exact eM aU _
   rintro t3 _ rfl j3
   refine qah (fa rfl (ro (ld r0 rfl rfl (qa6 rfl ?_))))
   refine cs rfl rfl aS ?_ ?_ <;> intro bm aS
   exact eE (er aS hm)
   refine qam (qbu aZ bh) ?_
   exact eR aS (_, (_, _, _), _, _)
   refine qah (fa rfl (ro (ld r0 rfl rfl (qa6 rfl ?_))))
   refine cs rfl rfl aS ?_ ?_ <;> intro bm aS
   exact eE (er aS hm)
   refine qam (qbu aZ bh) ?_
   exact eR aS (_, (_, _, _), _, _)
   refine qah (fa rfl (ro (ld r0 rfl rfl (qa6 rfl ?_))))
   refine cs rfl rfl aS ?_ ?_ <;> intro cI aS
   exact eE (er aS hm)
   refine fa rfl (ro (ld r1 rfl rfl ?_))
   refine qal rfl ?_
   refine qaf (cs rfl rfl aS ?_ ?_) <;> intro cu aS
   refine fa rfl (ro (ld r1 rfl rfl ?_))
   refine cb aS fun cN bU aS => cgx (JcR bU :) ?_
   refine cs rfl rfl aS ?_ ?_ <;> intro cK aS
   refine ro (qab r1 rfl (nl rfl) ?_)
   refine qar rfl ?_
   refine cb aS fun cO bO aS => cgx (JS bO :) ?_
   refine fa rfl (ro (ld r1 rfl rfl ?_))
   refine cb aS fun bC bl aS => ckx (JaS bl :) ?_
   rintro _ _ _ ⟨bb, a8, rfl, bd, rfl⟩
   refine qah (fa rfl (ro (ld r1 rfl rfl (qa6 rfl ?_))))
   refine cs rfl rfl aS ?_ ?_ <;> intro bm aS
   exact eE (er aS hm)
   refine qam (qbu aZ bh) ?_
   refine fRo r0 fun bf a6 bc => ?_
   exact eR aS (_, (_, _, _), _, _)
   refine fa rfl (ro (ld r1 rfl rfl ?_))
   refine cb aS fun bC bl aS => ckx (JaS bl :) ?_
   rintro _ _ _ ⟨bb, a8, rfl, bd, rfl⟩
   refine qah (fa rfl (ro (ld r1 rfl rfl (qa6 rfl ?_))))
   refine cs rfl rfl aS ?_ ?_ <;> intro bm aS
   exact eE (er aS hm)
   refine qam (qbu aZ bh) ?_
   refine fRo r0 fun bf a6 bc => ?_
   exact eR aS (_, (_, _, _), _, _)
   refine qaf (cs rfl rfl aS ?_ ?_) <;> intro cz aS
   refine fa rfl (ro (ld r1 rfl rfl ?_))
   obtain ⟨bp, aS⟩ := qaw aS
   have ba := aY.subC bp
   refine RStep.ofN (qnt (l := e0.Aa) (lo := (some 1)) (hi := none) (lo' := (1 : Int)) (hi' := (e0.Aa.length : Int)) rfl rfl rfl rfl rfl aY.le bp (ro (qak rfl ?_)))
   obtain ⟨bK, aS⟩ := qaw aS
   obtain ⟨s3, aU, aS⟩ := bnd aS
   refine lD (σ := (Int × Err)) ([11] ++ rg 77 10) [1, 2] (fun i3 => [(77, .int .i64 (i3 : Int))]) (fun _ => []) (fun t3 => [Cells b0 204 [.int .i64 t3.1, qcs 48 t3.2]]) (fun _ => True) (fun i3 t3 => JN (JY n) ac ((subL e0.Aa (1 : Int) (e0.Aa.length : Int)).drop i3) i3 t3.1 t3.2 = some s3) (fun t3 => t3 = s3) (fun i3 => (subL e0.Aa (1 : Int) (e0.Aa.length : Int)).length - i3) 0 (_, _) aU (And.intro qe (And.intro ?_ ?_))
   clear aU
   rintro i3 ⟨bT, bJ⟩ _ aU j3
   dsimp only at aU ⊢
   refine qac rfl ?_
   refine qae ?_ ?_ <;> intro w3
   obtain ⟨e3, bg, bF⟩ := ltx w3
   rw [bF, JN.eq_2] at aU
   refine qal rfl ?_
   refine RStep.ofN (qad rfl rfl (qc2 ba.rd bg) (nn _) (qbo bg) ?_)
   obtain ⟨bN, bS, bo, bn, bj⟩ := LiR.get ba.rd bg
   obtain ⟨bw, bv, rfl, bz⟩ := Ja.out bj
   refine ro (qan i3 _ bo rfl bn rfl ?_)
   refine qai rfl fun cG => ?_
   refine qaa r0 rfl ⟨rfl, rfl, (nl rfl), ?_⟩
   refine ro (qab r0 rfl (nl rfl) ?_)
   refine cb aU fun cM bP aU => cfx (JbP bP :) ?_
   rintro _ cW _ cJ ⟨bu, bt, rfl, br, rfl⟩
   refine cb aU fun cy bL aU => cgx (ih bL :) ?_
   refine qam (qbu bg bK) ?_
   exact eR aU (_, (_, _))
   rw [lty w3, JN.eq_1] at aU
   refine cT ?_
   exact eM aU _
   rintro t3 _ rfl j3
   refine qah (fa rfl (ro (ld r0 rfl rfl (qa6 rfl ?_))))
   refine cs rfl rfl aS ?_ ?_ <;> intro bm aS
   exact eE (er aS hm)
   refine qam (qbu aZ bh) ?_
   exact eR aS (_, (_, _, _), _, _)
   refine qah (fa rfl (ro (ld r0 rfl rfl (qa6 rfl ?_))))
   refine cs rfl rfl aS ?_ ?_ <;> intro bm aS
   exact eE (er aS hm)
   refine qam (qbu aZ bh) ?_
   exact eR aS (_, (_, _, _), _, _)
   rw [lty w0, JA.eq_1] at aS
   refine cT ?_
   exact eM aS (_, _, _)
   rintro ⟨t0, aW, aX⟩ c5 cY ⟨ce, _⟩ rfl j0
   replace hm := elg hm
   exact eE hm

def Jb7 (n : Nat) (program : Ja) : Option (Int × Err) :=
  (Jc8 n program).bind fun x6 =>
  if (!x6) then
  some (0, (some 2))
  else
  (JY n (⟨0, none⟩ : Jn) program.Aa []).bind fun aS =>
  some (aS.line, aS.err)
theorem JcE {n : Nat} {program : Ja} {aa : Option Addr} {ab : Nat} {K : Hp} {r : Int × Err}
    (hm : Jb7 n program = some r) (hX : LiC Ja.R K aa ab 4 program.Aa ∧ GG K) :
    Fn Tryz.prog 89 [.agg #[.int .i64 program.Ab, str program.Ac, .slice aa program.Aa.length ab, .int .i64 program.Ad]] K [] (fun v K' H' => v = .tuple #[.int .i64 r.1, qcs 48 r.2] ∧ H' = []) := by
 obtain ⟨ae, hG⟩ := hX
 refine Fn.enter Tryz.func89 Tryz.call89 rfl fun F => ?_
 unfold Jb7 at hm
 refine qaq ?_
 intro b1
 refine ro (qab r0 rfl (nl rfl) ?_)
 refine cb hm fun x6 q6 hm => cgx (Jd4 q6 :) ?_
 refine qau ?_
 refine cs rfl rfl hm ?_ ?_ <;> intro w7 hm
 refine qar rfl ?_
 exact eE hm
 refine qag rfl rfl ?_
 refine qaq ?_
 intro aU
 refine fa rfl (ro (ld r1 rfl rfl ?_))
 refine cb hm fun aT aS hm => cgx (Jda aS :) ?_
 refine qa4 ⟨⟨[], false⟩, _, [(_, _)], []⟩ (by kernel_rfl) ⟨Hp.Le.refl _, (pf rfl), ci0⟩ ?_
 refine qah (fa rfl (qao m0 rfl rfl (qah (fa rfl (qao m0 rfl rfl ?_)))))
 exact eE hm

def Jj (c : Jd) (op : Int) (n' : Int) (s : Str) : Option (Int × Jd) :=
  (chk (c.code.length + [(⟨op, n', s⟩ : Jf)].length ≤ lim)).bind fun _ =>
  (chk (InI ((((c.code ++ [(⟨op, n', s⟩ : Jf)]).length) : Int) - 1))).bind fun _ =>
  some (((((c.code ++ [(⟨op, n', s⟩ : Jf)]).length) : Int) - 1), (⟨(c.code ++ [(⟨op, n', s⟩ : Jf)]), c.names, c.Ap⟩ : Jd))
theorem Jg {c : Jd} {op : Int} {n' : Int} {s : Str} {b0 : Nat} {aa : Option Addr} {ab : Nat} {ah : Option Addr} {ak : Nat} {K : Hp} {r : Int × Jd}
    (hm : Jj c op n' s = some r) (hX : (0 < c.code.length → Has aa) ∧ (0 < c.names.length → Has ah)) :
    Fn Tryz.prog 143 [.pointer (some ⟨b0, 0, none⟩), .int .i64 op, .int .i64 n', str s] K [Cells b0 209 [.slice aa c.code.length ab, .slice ah c.names.length ak, .int .i64 c.Ap], qas Jf.enc aa 135 3 ab c.code, qas Jr.enc ah 290 2 ak c.names] (fun v K' H' => ∃ ar_0 : Option Addr, ∃ cr_0 : Nat, ∃ ar_1 : Option Addr, ∃ cr_1 : Nat, v = .int .i64 r.1 ∧ (0 < r.2.code.length → Has ar_0) ∧ (0 < r.2.names.length → Has ar_1) ∧ H' = [Cells b0 209 [.slice ar_0 r.2.code.length cr_0, .slice ar_1 r.2.names.length cr_1, .int .i64 r.2.Ap], qas Jf.enc ar_0 135 3 cr_0 r.2.code, qas Jr.enc ar_1 290 2 cr_1 r.2.names]) := by
 obtain ⟨ae, aS⟩ := hX
 refine Fn.enter Tryz.func143 Tryz.call143 rfl fun F => ?_
 unfold Jj at hm
 refine qah (fa rfl (ro (ld r0 rfl rfl (qag rfl rfl (cT (cT (cT ?_)))))))
 refine bsO (len := 1) (enc := Jf.enc) (l := [(⟨op, n', s⟩ : Jf)]) (cl := [.int .i64 op, .int .i64 n', str s]) qo8 rfl rfl (fun _ _ => rfl) rfl rfl rfl ?_ fun aU => ?_
 · conv => whnf
   refine cT ?_
   first | done | rfl
 obtain ⟨aT, hm⟩ := qaw hm
 refine apE rfl r2 qo8 (qay rfl r0 rfl (fun _ => rfl) (fun _ => rfl)) aT ?_
 intro aV aW aX
 refine qah (fa rfl ?_)
 refine qaa r2 rfl ⟨rfl, rfl, (nl rfl), ?_⟩
 refine qah (fa rfl (ro (ld r0 rfl rfl (ro (qak rfl ?_)))))
 refine ci hm fun hm => ?_
 exact eE hm

def Jaw (c : Jd) (yes : Bool) : Option (Jd) :=
  if yes then
  (Jj c 1 0 ([] : Str)).bind fun x7 =>
  (Jj x7.2 1 0 ([] : Str)).bind fun aS =>
  (Jj aS.2 7 0 ([61, 61] : Str)).bind fun al =>
  some al.2
  else
  (Jj c 1 0 ([] : Str)).bind fun x7 =>
  (Jj x7.2 1 1 ([] : Str)).bind fun aS =>
  (Jj aS.2 7 0 ([61, 61] : Str)).bind fun al =>
  some al.2
theorem Ja3 {c : Jd} {yes : Bool} {b0 : Nat} {aa : Option Addr} {ab : Nat} {ah : Option Addr} {ak : Nat} {K : Hp} {r : Jd}
    (hm : Jaw c yes = some r) (hX : (0 < c.code.length → Has aa) ∧ (0 < c.names.length → Has ah)) :
    Fn Tryz.prog 248 [.pointer (some ⟨b0, 0, none⟩), .bool yes] K [Cells b0 209 [.slice aa c.code.length ab, .slice ah c.names.length ak, .int .i64 c.Ap], qas Jf.enc aa 135 3 ab c.code, qas Jr.enc ah 290 2 ak c.names] (fun v K' H' => ∃ ar_0 : Option Addr, ∃ cr_0 : Nat, ∃ ar_1 : Option Addr, ∃ cr_1 : Nat, v = .tuple #[] ∧ (0 < r.code.length → Has ar_0) ∧ (0 < r.names.length → Has ar_1) ∧ H' = [Cells b0 209 [.slice ar_0 r.code.length cr_0, .slice ar_1 r.names.length cr_1, .int .i64 r.Ap], qas Jf.enc ar_0 135 3 cr_0 r.code, qas Jr.enc ar_1 290 2 cr_1 r.names]) := by
 obtain ⟨ae, bn⟩ := hX
 refine Fn.enter Tryz.func248 Tryz.call248 rfl fun F => ?_
 unfold Jaw at hm
 refine cs rfl rfl hm ?_ ?_ <;> intro w5 hm
 refine cb hm fun x7 q7 hm => ckx (Jg q7 :) ?_
 rintro _ _ _ ⟨bj, bl, bh, bd, rfl, bg, bm, rfl⟩
 refine cb hm fun bo bc hm => ckx (Jg bc :) ?_
 rintro _ _ _ ⟨bb, aV, a8, aX, rfl, aZ, a6, rfl⟩
 refine cb hm fun al bf hm => ckx (Jg bf :) ?_
 rintro _ _ _ ⟨aW, aU, aS, aY, rfl, aT, ba, rfl⟩
 exact eE hm
 refine cb hm fun x7 q7 hm => ckx (Jg q7 :) ?_
 rintro _ _ _ ⟨bj, bl, bh, bd, rfl, bg, bm, rfl⟩
 refine cb hm fun bo bc hm => ckx (Jg bc :) ?_
 rintro _ _ _ ⟨bb, aV, a8, aX, rfl, aZ, a6, rfl⟩
 refine cb hm fun al bf hm => ckx (Jg bf :) ?_
 rintro _ _ _ ⟨aW, aU, aS, aY, rfl, aT, ba, rfl⟩
 exact eE hm

def Jam (c : Jd) (s : Str) : Nat → Int → Option (Fl (Jd) (Int))
  | 0, _ => none
  | aT + 1, ac =>
    if decide (ac ≥ 0) then
    (ix c.names ac).bind fun aS =>
    if decide (aS.name = s) then
    (ix c.names ac).bind fun aV =>
    (Jj c 3 aV.slot ([] : Str)).bind fun aU =>
    some (Fl.ret aU.2)
    else
    (chk (InI (ac - 1))).bind fun _ =>
    Jam c s aT (ac - 1)
    else
    some (Fl.go ac)
def JbO (n : Nat) (c : Jd) (s : Str) : Option (Jd) :=
  (chk (InI ((c.names.length : Int) - 1))).bind fun _ =>
  (Jam c s n ((c.names.length : Int) - 1)).bind fun s0 => s0.el some fun t0 =>
  (Jj c 5 0 s).bind fun aS =>
  some aS.2
theorem Jdb {n : Nat} {c : Jd} {s : Str} {b0 : Nat} {aa : Option Addr} {ab : Nat} {ah : Option Addr} {ak : Nat} {K : Hp} {r : Jd}
    (hm : JbO n c s = some r) (hX : (0 < c.code.length → Has aa) ∧ (0 < c.names.length → Has ah)) :
    Fn Tryz.prog 249 [.pointer (some ⟨b0, 0, none⟩), str s] K [Cells b0 209 [.slice aa c.code.length ab, .slice ah c.names.length ak, .int .i64 c.Ap], qas Jf.enc aa 135 3 ab c.code, qas Jr.enc ah 290 2 ak c.names] (fun v K' H' => ∃ ar_0 : Option Addr, ∃ cr_0 : Nat, ∃ ar_1 : Option Addr, ∃ cr_1 : Nat, v = .tuple #[] ∧ (0 < r.code.length → Has ar_0) ∧ (0 < r.names.length → Has ar_1) ∧ H' = [Cells b0 209 [.slice ar_0 r.code.length cr_0, .slice ar_1 r.names.length cr_1, .int .i64 r.Ap], qas Jf.enc ar_0 135 3 cr_0 r.code, qas Jr.enc ar_1 290 2 cr_1 r.names]) := by
 obtain ⟨ae, aT⟩ := hX
 refine Fn.enter Tryz.func249 Tryz.call249 rfl fun F => ?_
 unfold JbO at hm
 refine qah (fa rfl (ro (ld r0 rfl rfl (ro (qak rfl ?_)))))
 refine ci hm fun hm => ?_
 obtain ⟨s0, aS, hm⟩ := bnd hm
 refine lD (σ := (Int)) ([4] ++ rg 11 24) [0, 1, 2, 3] (fun _ => []) (fun t0 => [(4, .int .i64 t0)]) (fun _ => []) (fun _ => True) (fun i0 t0 => Jam c s i0 t0 = some s0) (fun t0 => s0 = Fl.go t0) (fun i0 => i0) n _ aS (And.intro qe (And.intro ?_ ?_))
 clear aS
 rintro i0 ac _ aS j0
 conv at aS => whnf
 cases i0 with
 | zero => rw [Jam.eq_1] at aS; cases aS
 | succ i0 =>
  rw [Jam.eq_2] at aS
  refine cs rfl rfl aS ?_ ?_ <;> intro bu aS
  refine qal rfl ?_
  refine qah (fa rfl (ro (ld r0 rfl rfl ?_)))
  obtain ⟨br, bd, aV, aS⟩ := ixb aS
  refine RStep.ofN (qad rfl rfl (qcu aT aV) bd (qax rfl bd aV) (qbb rfl (qcu aT aV) (ro (qbz (i := (ac).toNat) (o := 0) r2 rfl aV rfl rfl (qap ?_)))))
  refine cs rfl rfl aS ?_ ?_ <;> intro bo aS
  refine qah (fa rfl (ro (ld r0 rfl rfl ?_)))
  obtain ⟨bn, bb, aU, aS⟩ := ixb aS
  refine RStep.ofN (qad rfl rfl (qcu aT aU) bb (qax rfl bb aU) (qbb rfl (qcu aT aU) (ro (qbz (i := (ac).toNat) (o := 1) r2 rfl aU rfl rfl ?_))))
  refine cb aS fun bp bl aS => ckx (Jg bl :) ?_
  rintro _ _ _ ⟨aY, aX, bc, a6, rfl, bj, bf, rfl⟩
  exact eE (er aS hm)
  refine ci aS fun aS => ?_
  exact eR aS (_, _)
  refine cT ?_
  exact eM aS _
 rintro t0 _ rfl j0
 replace hm := elg hm
 refine cb hm fun bt bm hm => ckx (Jg bm :) ?_
 rintro _ _ _ ⟨ba, a8, bh, aW, rfl, aZ, bg, rfl⟩
 exact eE hm

def JP (c : Jd) (jump : Int) : Option (Jd) :=
  (ix c.code jump).bind fun aS =>
  some (⟨(c.code.set ((jump).toNat) (⟨aS.Op, (c.code.length : Int), aS.S⟩ : Jf)), c.names, c.Ap⟩ : Jd)
theorem JR {c : Jd} {jump : Int} {b0 : Nat} {aa : Option Addr} {ab : Nat} {ah : Option Addr} {ak : Nat} {K : Hp} {r : Jd}
    (hm : JP c jump = some r) (hX : (0 < c.code.length → Has aa) ∧ (0 < c.names.length → Has ah)) :
    Fn Tryz.prog 246 [.pointer (some ⟨b0, 0, none⟩), .int .i64 jump] K [Cells b0 209 [.slice aa c.code.length ab, .slice ah c.names.length ak, .int .i64 c.Ap], qas Jf.enc aa 135 3 ab c.code, qas Jr.enc ah 290 2 ak c.names] (fun v K' H' => ∃ ar_0 : Option Addr, ∃ cr_0 : Nat, ∃ ar_1 : Option Addr, ∃ cr_1 : Nat, v = .tuple #[] ∧ (0 < r.code.length → Has ar_0) ∧ (0 < r.names.length → Has ar_1) ∧ H' = [Cells b0 209 [.slice ar_0 r.code.length cr_0, .slice ar_1 r.names.length cr_1, .int .i64 r.Ap], qas Jf.enc ar_0 135 3 cr_0 r.code, qas Jr.enc ar_1 290 2 cr_1 r.names]) := by
 obtain ⟨ae, aT⟩ := hX
 refine Fn.enter Tryz.func246 Tryz.call246 rfl fun F => ?_
 unfold JP at hm
 refine qa4 ⟨⟨[], false⟩, _, [(_, _)], []⟩ (by kernel_rfl) ⟨Hp.Le.refl _, (pf rfl), ci0⟩ ?_
 refine qah (fa rfl (qao m0 rfl rfl (qah (fa rfl (qao m0 rfl rfl (qce rfl ?_))))))
 obtain ⟨aS, aV, aU, hm⟩ := ixb hm
 refine qad rfl rfl (qcu ae aU) aV (qax rfl aV aU) (qbb rfl (qcu ae aU) ?_)
 refine qex (o := 1) (y := (⟨aS.Op, (c.code.length : Int), aS.S⟩ : Jf)) aS r1 rfl aU rfl (by (conv => whnf); exact ⟨rfl, rfl, (nl rfl), rfl, rfl, rfl⟩) ?_
 refine qk (sc [1] rfl) ?_
 obtain rfl := si hm
 refine qpr r1 (congrArg (fun q_ : Nat => ([.slice aa q_ ab, .slice ah c.names.length ak, .int .i64 c.Ap] : List Value)) (show c.code.length = (c.code.set ((jump).toNat) (⟨aS.Op, (c.code.length : Int), aS.S⟩ : Jf)).length from ((rfl).trans List.length_set.symm))) ?_
 exact en lr ⟨aa, ab, ah, ak, rfl, (by first | simpa using ae | exact fun _ => ⟨_, _, rfl⟩), aT, rfl⟩ (pf rfl)

def Jal (aF : (Jd → Ja → Option (Jd))) (n : Nat) (c : Jd) (n' : Ja) (operator : Str) : Option (Jd) :=
  (ix n'.Aa 0).bind fun x9 =>
  (aF c x9).bind fun aT =>
  (ix n'.Aa 1).bind fun aU =>
  (aF aT aU).bind fun aV =>
  (Jj aV 7 0 operator).bind fun aS =>
  some aS.2
theorem JaH {aF : (Jd → Ja → Option (Jd))} (ihrec3_0 : ∀ {c : Jd} {n' : Ja} {b0 : Nat} {aa : Option Addr} {ab : Nat} {ah : Option Addr} {ak : Nat} {af : Option Addr} {ag : Nat} {K : Hp} {r : Jd} (hm : aF c n' = some r) (hX : (0 < c.code.length → Has aa) ∧ (0 < c.names.length → Has ah) ∧ LiC Ja.R K af ag 4 n'.Aa), Fn Tryz.prog 231 [.pointer (some ⟨b0, 0, none⟩), .agg #[.int .i64 n'.Ab, str n'.Ac, .slice af n'.Aa.length ag, .int .i64 n'.Ad]] K [Cells b0 209 [.slice aa c.code.length ab, .slice ah c.names.length ak, .int .i64 c.Ap], qas Jf.enc aa 135 3 ab c.code, qas Jr.enc ah 290 2 ak c.names] (fun v K' H' => ∃ ar_0 : Option Addr, ∃ cr_0 : Nat, ∃ ar_1 : Option Addr, ∃ cr_1 : Nat, v = .tuple #[] ∧ (0 < r.code.length → Has ar_0) ∧ (0 < r.names.length → Has ar_1) ∧ H' = [Cells b0 209 [.slice ar_0 r.code.length cr_0, .slice ar_1 r.names.length cr_1, .int .i64 r.Ap], qas Jf.enc ar_0 135 3 cr_0 r.code, qas Jr.enc ar_1 290 2 cr_1 r.names])) {n : Nat} {c : Jd} {n' : Ja} {operator : Str} {b0 : Nat} {aa : Option Addr} {ab : Nat} {ah : Option Addr} {ak : Nat} {af : Option Addr} {ag : Nat} {K : Hp} {r : Jd}
    (hm : Jal aF n c n' operator = some r) (hX : (0 < c.code.length → Has aa) ∧ (0 < c.names.length → Has ah) ∧ LiC Ja.R K af ag 4 n'.Aa) :
    Fn Tryz.prog 250 [.pointer (some ⟨b0, 0, none⟩), .agg #[.int .i64 n'.Ab, str n'.Ac, .slice af n'.Aa.length ag, .int .i64 n'.Ad], str operator] K [Cells b0 209 [.slice aa c.code.length ab, .slice ah c.names.length ak, .int .i64 c.Ap], qas Jf.enc aa 135 3 ab c.code, qas Jr.enc ah 290 2 ak c.names] (fun v K' H' => ∃ ar_0 : Option Addr, ∃ cr_0 : Nat, ∃ ar_1 : Option Addr, ∃ cr_1 : Nat, v = .tuple #[] ∧ (0 < r.code.length → Has ar_0) ∧ (0 < r.names.length → Has ar_1) ∧ H' = [Cells b0 209 [.slice ar_0 r.code.length cr_0, .slice ar_1 r.names.length cr_1, .int .i64 r.Ap], qas Jf.enc ar_0 135 3 cr_0 r.code, qas Jr.enc ar_1 290 2 cr_1 r.names]) := by
 obtain ⟨ae, bA, ai⟩ := hX
 refine Fn.enter Tryz.func250 Tryz.call250 rfl fun F => ?_
 unfold Jal at hm
 refine qaq ?_
 intro b4
 refine fa rfl (ro (ld r0 rfl rfl ?_))
 obtain ⟨x9, l9, k9, hm⟩ := ixb hm
 refine RStep.ofN (qad rfl rfl (qc2 ai.rd k9) l9 (qax rfl l9 k9) ?_)
 obtain ⟨bH, bL, aU, aW, aY⟩ := LiR.get ai.rd k9
 obtain ⟨bC, bb, rfl, bp⟩ := Ja.out aY
 refine ro (qan ((0 : Int).toNat) _ aU rfl aW rfl ?_)
 refine cb hm fun bM bK hm => ckx (ihrec3_0 bK :) ?_
 rintro _ _ _ ⟨a6, bf, bn, bm, rfl, bt, bz, rfl⟩
 refine fa rfl (ro (ld r3 rfl rfl ?_))
 obtain ⟨bN, aZ, aT, hm⟩ := ixb hm
 refine RStep.ofN (qad rfl rfl (qc2 ai.rd aT) aZ (qax rfl aZ aT) ?_)
 obtain ⟨bG, bI, aX, aV, aS⟩ := LiR.get ai.rd aT
 obtain ⟨bg, bh, rfl, bB⟩ := Ja.out aS
 refine ro (qan ((1 : Int).toNat) _ aX rfl aV rfl ?_)
 refine cb hm fun bP bJ hm => ckx (ihrec3_0 bJ :) ?_
 rintro _ _ _ ⟨br, bw, a8, bj, rfl, bu, bc, rfl⟩
 refine cb hm fun bO bF hm => ckx (Jg bF :) ?_
 rintro _ _ _ ⟨ba, bo, bD, bl, rfl, bv, bd, rfl⟩
 exact eE hm

def JB : Nat → Jd → Ja → Option (Jd)
  | 0, _, _ => none
  | n + 1, c, n' =>
    if decide (n'.Ab = 20) then
    (qm2 n'.Ac).bind fun bj =>
    if bj.2.isSome then
    (Jj c 1 0 ([] : Str)).bind fun a6 =>
    some a6.2
    else
    (Jj c 1 bj.1 ([] : Str)).bind fun a6 =>
    some a6.2
    else
    if decide (n'.Ab = 21) then
    (Jj c 2 0 n'.Ac).bind fun bA =>
    some bA.2
    else
    if decide (n'.Ab = 22) then
    (Jaw c (decide (n'.Ac = ([116, 114, 117, 101] : Str)))).bind fun br =>
    some br
    else
    if decide (n'.Ab = 23) then
    (JbO n c n'.Ac).bind fun bu =>
    some bu
    else
    if decide (n'.Ab = 24) then
    (ix n'.Aa 0).bind fun bz =>
    ((JB n) c bz).bind fun bp =>
    (Jj bp 6 0 n'.Ac).bind fun bB =>
    some bB.2
    else
    if decide (n'.Ab = 15) then
    (ix n'.Aa 0).bind fun bD =>
    ((JB n) c bD).bind fun bm =>
    (Jj bm 8 0 ([] : Str)).bind fun bl =>
    some bl.2
    else
    if decide (n'.Ab = 17) then
    (Jal (JB n) n c n' ([43] : Str)).bind fun bv =>
    some bv
    else
    if decide (n'.Ab = 18) then
    (Jal (JB n) n c n' ([45] : Str)).bind fun bt =>
    some bt
    else
    if decide (n'.Ab = 19) then
    (Jal (JB n) n c n' ([42] : Str)).bind fun bw =>
    some bw
    else
    if decide (n'.Ab = 16) then
    (Jal (JB n) n c n' n'.Ac).bind fun bo =>
    some bo
    else
    if decide (n'.Ab = 14) then
    (ix n'.Aa 0).bind fun bn =>
    ((JB n) c bn).bind fun bC =>
    (Jj bC 10 0 ([] : Str)).bind fun bh =>
    (ix n'.Aa 1).bind fun ba =>
    ((JB n) bh.2 ba).bind fun aZ =>
    (Jj aZ 9 0 ([] : Str)).bind fun aS =>
    (JP aS.2 bh.1).bind fun bf =>
    (Jaw bf false).bind fun a8 =>
    (JP a8 aS.1).bind fun bd =>
    some bd
    else
    if decide (n'.Ab = 13) then
    (ix n'.Aa 0).bind fun bb =>
    ((JB n) c bb).bind fun aW =>
    (Jj aW 10 0 ([] : Str)).bind fun aT =>
    (Jaw aT.2 true).bind fun bg =>
    (Jj bg 9 0 ([] : Str)).bind fun aU =>
    (JP aU.2 aT.1).bind fun aY =>
    (ix n'.Aa 1).bind fun bc =>
    ((JB n) aY bc).bind fun aV =>
    (JP aV aU.1).bind fun aX =>
    some aX
    else
    some c
theorem Jb8 : ∀ {n : Nat} {c : Jd} {n' : Ja} {b0 : Nat} {aa : Option Addr} {ab : Nat} {ah : Option Addr} {ak : Nat} {af : Option Addr} {ag : Nat} {K : Hp} {r : Jd}
    (hm : JB n c n' = some r) (hX : (0 < c.code.length → Has aa) ∧ (0 < c.names.length → Has ah) ∧ LiC Ja.R K af ag 4 n'.Aa),
    Fn Tryz.prog 231 [.pointer (some ⟨b0, 0, none⟩), .agg #[.int .i64 n'.Ab, str n'.Ac, .slice af n'.Aa.length ag, .int .i64 n'.Ad]] K [Cells b0 209 [.slice aa c.code.length ab, .slice ah c.names.length ak, .int .i64 c.Ap], qas Jf.enc aa 135 3 ab c.code, qas Jr.enc ah 290 2 ak c.names] (fun v K' H' => ∃ ar_0 : Option Addr, ∃ cr_0 : Nat, ∃ ar_1 : Option Addr, ∃ cr_1 : Nat, v = .tuple #[] ∧ (0 < r.code.length → Has ar_0) ∧ (0 < r.names.length → Has ar_1) ∧ H' = [Cells b0 209 [.slice ar_0 r.code.length cr_0, .slice ar_1 r.names.length cr_1, .int .i64 r.Ap], qas Jf.enc ar_0 135 3 cr_0 r.code, qas Jr.enc ar_1 290 2 cr_1 r.names]) := by
 intro n
 induction n with
 | zero =>
   intro c n' b0 aa ab ah ak af ag K r hm hX
   rw [JB.eq_1] at hm; cases hm
 | succ n ih =>
   intro c n' b0 aa ab ah ak af ag K r hm hX
   obtain ⟨ae, eK, ai⟩ := hX
   refine Fn.enter Tryz.func231 Tryz.call231 rfl fun F => ?_
   rw [JB.eq_2] at hm
   refine qaq ?_
   intro b3
   refine fa rfl (ro (ld r0 rfl rfl ?_))
   refine qal rfl ?_
   refine qaf (cs rfl rfl hm ?_ ?_) <;> intro ii hm
   refine fa rfl (ro (ld r0 rfl rfl ?_))
   refine cb hm fun gR gh hm => cg0 (qo3 (E := 48) gh) ?_
   refine qa6 rfl ?_
   refine cs rfl rfl hm ?_ ?_ <;> intro gX hm
   refine cb hm fun ge bB hm => ckx (Jg bB :) ?_
   rintro _ _ _ ⟨ba, bf, bh, a8, rfl, bl, aV, rfl⟩
   exact eE hm
   refine cb hm fun ge bB hm => ckx (Jg bB :) ?_
   rintro _ _ _ ⟨ba, bf, bh, a8, rfl, bl, aV, rfl⟩
   exact eE hm
   refine qaf (cs rfl rfl hm ?_ ?_) <;> intro gT hm
   refine fa rfl (ro (ld r0 rfl rfl ?_))
   refine cb hm fun ia gK hm => ckx (Jg gK :) ?_
   rintro _ _ _ ⟨ey, fD, fN, fC, rfl, ft, fJ, rfl⟩
   exact eE hm
   refine qaf (cs rfl rfl hm ?_ ?_) <;> intro gS hm
   refine fa rfl (ro (ld r0 rfl rfl (qap ?_)))
   refine cb hm fun ig gw hm => ckx (Ja3 gw :) ?_
   rintro _ _ _ ⟨fP, ee, eL, fh, rfl, dR, eJ, rfl⟩
   exact eE hm
   refine qaf (cs rfl rfl hm ?_ ?_) <;> intro hJ hm
   refine fa rfl (ro (ld r0 rfl rfl ?_))
   refine cb hm fun gU gF hm => ckx (Jdb gF :) ?_
   rintro _ _ _ ⟨ga, fX, eG, eA, rfl, dS, ew, rfl⟩
   exact eE hm
   refine qaf (cs rfl rfl hm ?_ ?_) <;> intro hP hm
   refine fa rfl (ro (ld r0 rfl rfl ?_))
   obtain ⟨g7, fe, cQ, hm⟩ := ixb hm
   refine RStep.ofN (qad rfl rfl (qc2 ai.rd cQ) fe (qax rfl fe cQ) ?_)
   obtain ⟨gz, gH, bu, cO, bX⟩ := LiR.get ai.rd cQ
   obtain ⟨eg, dW, rfl, d5⟩ := Ja.out bX
   refine ro (qan ((0 : Int).toNat) _ bu rfl cO rfl ?_)
   refine cb hm fun gW gr hm => ckx (ih gr :) ?_
   rintro _ _ _ ⟨fV, e5, e7, dV, rfl, fo, d4, rfl⟩
   refine fa rfl (ro (ld r3 rfl rfl ?_))
   refine cb hm fun ib gd hm => ckx (Jg gd :) ?_
   rintro _ _ _ ⟨f9, eC, d7, fZ, rfl, eX, d6, rfl⟩
   exact eE hm
   refine qaf (cs rfl rfl hm ?_ ?_) <;> intro gV hm
   refine fa rfl (ro (ld r0 rfl rfl ?_))
   obtain ⟨ic, fS, dy, hm⟩ := ixb hm
   refine RStep.ofN (qad rfl rfl (qc2 ai.rd dy) fS (qax rfl fS dy) ?_)
   obtain ⟨gp, gk, cV, c9, cE⟩ := LiR.get ai.rd dy
   obtain ⟨fk, fY, rfl, eh⟩ := Ja.out cE
   refine ro (qan ((0 : Int).toNat) _ cV rfl c9 rfl ?_)
   refine cb hm fun gP gg hm => ckx (ih gg :) ?_
   rintro _ _ _ ⟨dX, fG, ei, fv, rfl, dU, fB, rfl⟩
   refine cb hm fun ie gf hm => ckx (Jg gf :) ?_
   rintro _ _ _ ⟨fj, d9, eF, fb, rfl, fI, fm, rfl⟩
   exact eE hm
   refine qaf (cs rfl rfl hm ?_ ?_) <;> intro hY hm
   refine ro (qab r0 rfl (nl rfl) ?_)
   refine cb hm fun g8 gD hm => ckx (JaH ih gD :) ?_
   rintro _ _ _ ⟨dY, fL, fM, fw, rfl, e8, d8, rfl⟩
   exact eE hm
   refine qaf (cs rfl rfl hm ?_ ?_) <;> intro hU hm
   refine ro (qab r0 rfl (nl rfl) ?_)
   refine cb hm fun gY gG hm => ckx (JaH ih gG :) ?_
   rintro _ _ _ ⟨eP, fy, fK, fu, rfl, fg, eY, rfl⟩
   exact eE hm
   refine qaf (cs rfl rfl hm ?_ ?_) <;> intro hZ hm
   refine ro (qab r0 rfl (nl rfl) ?_)
   refine cb hm fun g9 gJ hm => ckx (JaH ih gJ :) ?_
   rintro _ _ _ ⟨ej, fc, eV, fQ, rfl, ep, ef, rfl⟩
   exact eE hm
   refine qaf (cs rfl rfl hm ?_ ?_) <;> intro hS hm
   refine ro (qab r0 rfl (nl rfl) (fa rfl (ro (ld r0 rfl rfl ?_))))
   refine cb hm fun hO gm hm => ckx (JaH ih gm :) ?_
   rintro _ _ _ ⟨d3, f8, fE, fT, rfl, eT, eZ, rfl⟩
   exact eE hm
   refine qaf (cs rfl rfl hm ?_ ?_) <;> intro gQ hm
   refine fa rfl (ro (ld r0 rfl rfl ?_))
   obtain ⟨gZ, eu, dg, hm⟩ := ixb hm
   refine RStep.ofN (qad rfl rfl (qc2 ai.rd dg) eu (qax rfl eu dg) ?_)
   obtain ⟨gt, gN, cN, c4, cC⟩ := LiR.get ai.rd dg
   obtain ⟨e9, ff, rfl, ek⟩ := Ja.out cC
   refine ro (qan ((0 : Int).toNat) _ cN rfl c4 rfl ?_)
   refine cb hm fun ij gj hm => ckx (ih gj :) ?_
   rintro _ _ _ ⟨dZ, fq, dT, fl, rfl, dP, eD, rfl⟩
   refine cb hm fun hE gC hm => ckx (Jg gC :) ?_
   rintro _ _ _ ⟨fR, fU, eW, gb, rfl, dQ, fA, rfl⟩
   refine fa rfl (ro (ld r3 rfl rfl ?_))
   obtain ⟨gA, bj, aS, hm⟩ := ixb hm
   refine RStep.ofN (qad rfl rfl (qc2 ai.rd aS) bj (qax rfl bj aS) ?_)
   obtain ⟨fp, eO, bd, aX, bm⟩ := LiR.get ai.rd aS
   obtain ⟨cH, bO, rfl, cn⟩ := Ja.out bm
   refine ro (qan ((1 : Int).toNat) _ bd rfl aX rfl ?_)
   refine cb hm fun gy bW hm => ckx (ih bW :) ?_
   rintro _ _ _ ⟨dp, br, bH, dO, rfl, bP, dn, rfl⟩
   refine cb hm fun gl cz hm => ckx (Jg cz :) ?_
   rintro _ _ _ ⟨bC, ca, cL, dM, rfl, bJ, bp, rfl⟩
   refine cb hm fun gO cY hm => ckx (JR cY :) ?_
   rintro _ _ _ ⟨cR, dq, bG, ce, rfl, dG, dC, rfl⟩
   refine cb hm fun gi cP hm => ckx (Ja3 cP :) ?_
   rintro _ _ _ ⟨du, bL, cW, cM, rfl, bU, bv, rfl⟩
   refine cb hm fun gB dK hm => ckx (JR dK :) ?_
   rintro _ _ _ ⟨cj, dN, cJ, bQ, rfl, dE, cX, rfl⟩
   exact eE hm
   refine qaf (cs rfl rfl hm ?_ ?_) <;> intro gq hm
   refine fa rfl (ro (ld r0 rfl rfl ?_))
   obtain ⟨gE, bg, aT, hm⟩ := ixb hm
   refine RStep.ofN (qad rfl rfl (qc2 ai.rd aT) bg (qax rfl bg aT) ?_)
   obtain ⟨eH, e6, aZ, aY, bn⟩ := LiR.get ai.rd aT
   obtain ⟨bt, bS, rfl, cB⟩ := Ja.out bn
   refine ro (qan ((0 : Int).toNat) _ aZ rfl aY rfl ?_)
   refine cb hm fun gM df hm => ckx (ih df :) ?_
   rintro _ _ _ ⟨dL, dF, co, bI, rfl, cm, bK, rfl⟩
   refine cb hm fun gc dH hm => ckx (Jg dH :) ?_
   rintro _ _ _ ⟨cZ, bM, cA, c8, rfl, bo, dA, rfl⟩
   refine cb hm fun gv dv hm => ckx (Ja3 dv :) ?_
   rintro _ _ _ ⟨bV, c6, cr, cD, rfl, cu, bZ, rfl⟩
   refine cb hm fun gu bN hm => ckx (Jg bN :) ?_
   rintro _ _ _ ⟨dj, bD, cG, de, rfl, dm, dw, rfl⟩
   refine cb hm fun gn bz hm => ckx (JR bz :) ?_
   rintro _ _ _ ⟨dI, dc, dk, dh, rfl, dz, cU, rfl⟩
   refine fa rfl (ro (ld r3 rfl rfl ?_))
   obtain ⟨gL, bc, aU, hm⟩ := ixb hm
   refine RStep.ofN (qad rfl rfl (qc2 ai.rd aU) bc (qax rfl bc aU) ?_)
   obtain ⟨fO, eQ, aW, a6, bb⟩ := LiR.get ai.rd aU
   obtain ⟨cy, dt, rfl, cK⟩ := Ja.out bb
   refine ro (qan ((1 : Int).toNat) _ aW rfl a6 rfl ?_)
   refine cb hm fun gx bR hm => ckx (ih bR :) ?_
   rintro _ _ _ ⟨bF, bY, c5, dJ, rfl, bT, dx, rfl⟩
   refine cb hm fun gI bA hm => ckx (JR bA :) ?_
   rintro _ _ _ ⟨cw, cI, dB, bw, rfl, di, dD, rfl⟩
   exact eE hm
   exact eE hm

def Jar (av : (Jd → (List Ja) → Option (Jd))) : Nat → Jd → Ja → Option (Jd)
  | 0, _, _ => none
  | n + 1, c, n' =>
    (ix n'.Aa 0).bind fun x9 =>
    (JB n c x9).bind fun aZ =>
    (Jj aZ 10 0 ([] : Str)).bind fun aT =>
    (ix n'.Aa 1).bind fun ba =>
    (av aT.2 ba.Aa).bind fun aV =>
    if decide ((n'.Aa.length : Int) = 2) then
    (JP aV aT.1).bind fun bb =>
    some bb
    else
    (Jj aV 9 0 ([] : Str)).bind fun aU =>
    (JP aU.2 aT.1).bind fun aW =>
    (ix n'.Aa 2).bind fun bc =>
    if decide (bc.Ab = 2) then
    (ix n'.Aa 2).bind fun aX =>
    ((Jar av n) aW aX).bind fun aY =>
    (JP aY aU.1).bind fun aS =>
    some aS
    else
    (ix n'.Aa 2).bind fun a8 =>
    (av aW a8.Aa).bind fun a6 =>
    (JP a6 aU.1).bind fun aS =>
    some aS
theorem Jc0 {av : (Jd → (List Ja) → Option (Jd))} (ihrec4_0 : ∀ {c : Jd} {list : (List Ja)} {b0 : Nat} {aa : Option Addr} {ab : Nat} {ah : Option Addr} {ak : Nat} {af : Option Addr} {ag : Nat} {n1 : Nat} {K : Hp} {r : Jd} (hm : av c list = some r) (hX : (0 < c.code.length → Has aa) ∧ (0 < c.names.length → Has ah) ∧ LiC Ja.R K af ag 4 list ∧ n1 = list.length), Fn Tryz.prog 142 [.pointer (some ⟨b0, 0, none⟩), .slice af n1 ag] K [Cells b0 209 [.slice aa c.code.length ab, .slice ah c.names.length ak, .int .i64 c.Ap], qas Jf.enc aa 135 3 ab c.code, qas Jr.enc ah 290 2 ak c.names] (fun v K' H' => ∃ ar_0 : Option Addr, ∃ cr_0 : Nat, ∃ ar_1 : Option Addr, ∃ cr_1 : Nat, v = .tuple #[] ∧ (0 < r.code.length → Has ar_0) ∧ (0 < r.names.length → Has ar_1) ∧ H' = [Cells b0 209 [.slice ar_0 r.code.length cr_0, .slice ar_1 r.names.length cr_1, .int .i64 r.Ap], qas Jf.enc ar_0 135 3 cr_0 r.code, qas Jr.enc ar_1 290 2 cr_1 r.names])) : ∀ {n : Nat} {c : Jd} {n' : Ja} {b0 : Nat} {aa : Option Addr} {ab : Nat} {ah : Option Addr} {ak : Nat} {af : Option Addr} {ag : Nat} {K : Hp} {r : Jd}
    (hm : Jar av n c n' = some r) (hX : (0 < c.code.length → Has aa) ∧ (0 < c.names.length → Has ah) ∧ LiC Ja.R K af ag 4 n'.Aa),
    Fn Tryz.prog 230 [.pointer (some ⟨b0, 0, none⟩), .agg #[.int .i64 n'.Ab, str n'.Ac, .slice af n'.Aa.length ag, .int .i64 n'.Ad]] K [Cells b0 209 [.slice aa c.code.length ab, .slice ah c.names.length ak, .int .i64 c.Ap], qas Jf.enc aa 135 3 ab c.code, qas Jr.enc ah 290 2 ak c.names] (fun v K' H' => ∃ ar_0 : Option Addr, ∃ cr_0 : Nat, ∃ ar_1 : Option Addr, ∃ cr_1 : Nat, v = .tuple #[] ∧ (0 < r.code.length → Has ar_0) ∧ (0 < r.names.length → Has ar_1) ∧ H' = [Cells b0 209 [.slice ar_0 r.code.length cr_0, .slice ar_1 r.names.length cr_1, .int .i64 r.Ap], qas Jf.enc ar_0 135 3 cr_0 r.code, qas Jr.enc ar_1 290 2 cr_1 r.names]) := by
 intro n
 induction n with
 | zero =>
   intro c n' b0 aa ab ah ak af ag K r hm hX
   rw [Jar.eq_1] at hm; cases hm
 | succ n ih =>
   intro c n' b0 aa ab ah ak af ag K r hm hX
   obtain ⟨ae, cM, ai⟩ := hX
   refine Fn.enter Tryz.func230 Tryz.call230 rfl fun F => ?_
   rw [Jar.eq_2] at hm
   refine qaq ?_
   intro b3
   refine fa rfl (ro (ld r0 rfl rfl ?_))
   obtain ⟨x9, l9, k9, hm⟩ := ixb hm
   refine RStep.ofN (qad rfl rfl (qc2 ai.rd k9) l9 (qax rfl l9 k9) ?_)
   obtain ⟨dh, dq, bt, br, bu⟩ := LiR.get ai.rd k9
   obtain ⟨cN, bB, rfl, bM⟩ := Ja.out bu
   refine ro (qan ((0 : Int).toNat) _ bt rfl br rfl ?_)
   refine cb hm fun dM dx hm => ckx (Jb8 dx :) ?_
   rintro _ _ _ ⟨bw, bD, cj, bJ, rfl, cu, cy, rfl⟩
   refine cb hm fun dK dm hm => ckx (Jg dm :) ?_
   rintro _ _ _ ⟨c9, cz, bC, bW, rfl, c6, c5, rfl⟩
   refine fa rfl (ro (ld r3 rfl rfl ?_))
   obtain ⟨dE, cI, a6, hm⟩ := ixb hm
   refine RStep.ofN (qad rfl rfl (qc2 ai.rd a6) cI (qax rfl cI a6) (qbb rfl (qc2 ai.rd a6) ?_))
   obtain ⟨du, dw, bl, bd, bb⟩ := LiR.get ai.rd a6
   obtain ⟨bR, cJ, rfl, cX⟩ := Ja.out bb
   refine ro (qcv ((1 : Int).toNat) 2 _ _ bl rfl bd rfl rfl ?_)
   refine cb hm fun dG de hm => ckx (ihrec4_0 de :) ?_
   rintro _ _ _ ⟨cP, ce, cO, cW, rfl, cw, cU, rfl⟩
   refine fa rfl (ro (ld r3 rfl rfl (ro (qak rfl (qaf ?_)))))
   refine cs rfl rfl hm ?_ ?_ <;> intro dC hm
   refine cb hm fun dL dA hm => ckx (JR dA :) ?_
   rintro _ _ _ ⟨cK, bP, cn, bG, rfl, cm, cC, rfl⟩
   exact eE hm
   refine cb hm fun dD di hm => ckx (Jg di :) ?_
   rintro _ _ _ ⟨cA, bN, cR, bv, rfl, bV, bA, rfl⟩
   refine cb hm fun dN dg hm => ckx (JR dg :) ?_
   rintro _ _ _ ⟨bT, bZ, cB, bL, rfl, cZ, bS, rfl⟩
   refine fa rfl (ro (ld r3 rfl rfl ?_))
   obtain ⟨dJ, co, aZ, hm⟩ := ixb hm
   refine RStep.ofN (qad rfl rfl (qc2 ai.rd aZ) co (qax rfl co aZ) (qbb rfl (qc2 ai.rd aZ) ?_))
   obtain ⟨dj, dv, bm, bj, bn⟩ := LiR.get ai.rd aZ
   obtain ⟨cG, ca, rfl, bF⟩ := Ja.out bn
   refine ro (qcv ((2 : Int).toNat) 0 _ _ bm rfl bj rfl rfl (qaf ?_))
   refine cs rfl rfl hm ?_ ?_ <;> intro dF hm
   refine fa rfl (ro (ld r3 rfl rfl ?_))
   obtain ⟨dB, dc, bg, hm⟩ := ixb hm
   refine RStep.ofN (qad rfl rfl (qc2 ai.rd bg) dc (qax rfl dc bg) ?_)
   obtain ⟨dy, dt, bo, ba, bh⟩ := LiR.get ai.rd bg
   obtain ⟨c8, cV, rfl, bH⟩ := Ja.out bh
   refine ro (qan ((2 : Int).toNat) _ bo rfl ba rfl ?_)
   refine cb hm fun dH dn hm => ckx (ih dn :) ?_
   rintro _ _ _ ⟨bU, cH, bI, cL, rfl, cD, bz, rfl⟩
   refine cb hm fun dp bf hm => ckx (JR bf :) ?_
   rintro _ _ _ ⟨aX, aU, aW, aT, rfl, aV, aS, rfl⟩
   exact eE hm
   refine fa rfl (ro (ld r3 rfl rfl ?_))
   obtain ⟨dO, cE, aY, hm⟩ := ixb hm
   refine RStep.ofN (qad rfl rfl (qc2 ai.rd aY) cE (qax rfl cE aY) (qbb rfl (qc2 ai.rd aY) ?_))
   obtain ⟨df, dk, bc, a8, bp⟩ := LiR.get ai.rd aY
   obtain ⟨cr, bQ, rfl, bY⟩ := Ja.out bp
   refine ro (qcv ((2 : Int).toNat) 2 _ _ bc rfl a8 rfl rfl ?_)
   refine cb hm fun dI dz hm => ckx (ihrec4_0 dz :) ?_
   rintro _ _ _ ⟨cQ, cY, c4, bO, rfl, bK, bX, rfl⟩
   refine cb hm fun dp bf hm => ckx (JR bf :) ?_
   rintro _ _ _ ⟨aX, aU, aW, aT, rfl, aV, aS, rfl⟩
   exact eE hm
