/- Functions of the program: mirrors, and that a call returns what the mirror says. Printed by gen.py. -/
import Derived.Test.YtiaaooopklhobaaGreatDoorG2
set_option linter.unusedVariables false
set_option linter.unusedSimpArgs false
open Go Go.SL Go.Proofs
noncomputable section
set_option maxRecDepth 1000000
set_option maxHeartbeats 8000000
def JaZ : Nat → Ja → Option (Bool)
  | 0, _ => none
  | n + 1, n' =>
    if decide (n'.Ab = 2) then
    (if ((decide (n'.Ac ≠ ([] : Str)) || decide ((n'.Aa.length : Int) < 2)) || decide ((n'.Aa.length : Int) > 3)) then some true else (ix n'.Aa 0).bind fun aX =>
    (JL n aX).bind fun bd =>
    some (!bd)).bind fun a8 =>
    (if a8 then some true else (ix n'.Aa 1).bind fun bl =>
    (Jcd (JaZ n) n bl).bind fun bj =>
    some (!bj)).bind fun aY =>
    if aY then
    some false
    else
    (if decide ((n'.Aa.length : Int) = 2) then some true else (ix n'.Aa 2).bind fun bf =>
    (Jcd (JaZ n) n bf).bind fun bc =>
    some bc).bind fun aZ =>
    if aZ then
    some true
    else
    (ix n'.Aa 2).bind fun bb =>
    (if decide (bb.Ab = 2) then (ix n'.Aa 2).bind fun bg =>
    ((JaZ n) bg).bind fun ba =>
    some ba else some false).bind fun a6 =>
    some a6
    else
    if decide (n'.Ab = 6) then
    (Ja7 n'.Ac).bind fun bh =>
    some (bh && decide ((n'.Aa.length : Int) = 0))
    else
    if decide (n'.Ab = 10) then
    some (decide (n'.Ac = ([] : Str)) && decide ((n'.Aa.length : Int) = 0))
    else
    if decide (n'.Ab = 11) then
    some (decide (n'.Ac = ([] : Str)) && decide ((n'.Aa.length : Int) = 0))
    else
    if decide (n'.Ab = 3) then
    (Jb8 n n'.Ac).bind fun aW =>
    if (!aW) then
    some false
    else
    (if decide ((n'.Aa.length : Int) = 1) then (ix n'.Aa 0).bind fun aS =>
    (JL n aS).bind fun aT =>
    some aT else some false).bind fun aU =>
    some aU
    else
    if decide (n'.Ab = 4) then
    if (decide (n'.Ac ≠ ([112, 97, 116, 104] : Str)) && decide (n'.Ac ≠ ([113, 117, 101, 114, 121] : Str))) then
    some false
    else
    (if decide ((n'.Aa.length : Int) = 1) then (ix n'.Aa 0).bind fun aS =>
    (JL n aS).bind fun aT =>
    some aT else some false).bind fun aU =>
    some aU
    else
    if decide (n'.Ab = 5) then
    (Ja7 n'.Ac).bind fun aV =>
    if (!aV) then
    some false
    else
    (if decide ((n'.Aa.length : Int) = 1) then (ix n'.Aa 0).bind fun aS =>
    (JL n aS).bind fun aT =>
    some aT else some false).bind fun aU =>
    some aU
    else
    if decide (n'.Ab = 7) then
    if decide (n'.Ac ≠ ([] : Str)) then
    some false
    else
    (if decide ((n'.Aa.length : Int) = 1) then (ix n'.Aa 0).bind fun aS =>
    (JL n aS).bind fun aT =>
    some aT else some false).bind fun aU =>
    some aU
    else
    if decide (n'.Ab = 8) then
    if decide (n'.Ac ≠ ([] : Str)) then
    some false
    else
    (if decide ((n'.Aa.length : Int) = 1) then (ix n'.Aa 0).bind fun aS =>
    (JL n aS).bind fun aT =>
    some aT else some false).bind fun aU =>
    some aU
    else
    if decide (n'.Ab = 9) then
    if decide (n'.Ac ≠ ([] : Str)) then
    some false
    else
    (if decide ((n'.Aa.length : Int) = 1) then (ix n'.Aa 0).bind fun aS =>
    (JL n aS).bind fun aT =>
    some aT else some false).bind fun aU =>
    some aU
    else
    some false
theorem Jd0 : ∀ {n : Nat} {n' : Ja} {aa : Option Addr} {ab : Nat} {K : Hp} {r : Bool}
    (hm : JaZ n n' = some r) (hX : LiC Ja.R K aa ab 4 n'.Aa ∧ GG K),
    Fn Tryz.prog 190 [.agg #[.int .i64 n'.Ab, str n'.Ac, .slice aa n'.Aa.length ab, .int .i64 n'.Ad]] K [] (fun v K' H' => v = .bool r ∧ H' = []) := by
 intro n
 induction n with
 | zero =>
   intro n' aa ab K r hm hX
   rw [JaZ.eq_1] at hm; cases hm
 | succ n ih =>
   intro n' aa ab K r hm hX
   obtain ⟨ae, hG⟩ := hX
   refine Fn.enter Tryz.func190 Tryz.call190 rfl fun F => ?_
   rw [JaZ.eq_2] at hm
   refine qaq ?_
   intro b1
   refine fa rfl (ro (ld r0 rfl rfl ?_))
   refine qal rfl ?_
   refine qag (cs rfl rfl hm ?_ ?_) <;> intro w6 hm
   refine fa rfl (ro (ld r0 rfl rfl (ro (qak rfl ?_))))
   refine qai rfl ?_
   refine fa rfl (ro (ld r0 rfl rfl (qbl ?_)))
   refine qae ?_ ?_ <;> intro bm
   refine ct bm (ct bm (cT (cT (cT ?_))))
   obtain ⟨cu, bt, hm⟩ := bnd hm
   replace bt := ift (qbt (qbt bm)) bt
   refine cT (cT (cT (cT (cT (cT (cT ?_))))))
   obtain ⟨bX, bo, hm⟩ := bnd hm
   replace bo := ift (si bt).symm bo
   refine cT (cT (cT (cT (cT (cT (cT (qac rfl ?_)))))))
   refine cT ?_
   replace hm := ift (si bo).symm hm
   exact eE hm
   refine cf bm (cf bm ?_)
   refine qae ?_ ?_ <;> intro bn
   refine ct bn (ct bn ?_)
   obtain ⟨cu, bt, hm⟩ := bnd hm
   replace bt := ift (qbt (qfg bm bn)) bt
   refine cT (cT (cT (cT (cT (cT (cT ?_))))))
   obtain ⟨bX, bo, hm⟩ := bnd hm
   replace bo := ift (si bt).symm bo
   refine cT (cT (cT (cT (cT (cT (cT (qac rfl ?_)))))))
   refine cT ?_
   replace hm := ift (si bo).symm hm
   exact eE hm
   refine cf bn (cf bn ?_)
   obtain ⟨cu, bt, hm⟩ := bnd hm
   refine qae ?_ ?_ <;> intro aX
   replace bt := ift (qfg (qcy bm bn) aX) bt
   refine ct aX (ct aX (ct aX (ct aX (ct aX (ct aX ?_)))))
   obtain ⟨bX, bo, hm⟩ := bnd hm
   replace bo := ift (si bt).symm bo
   refine cT (cT (cT (cT (cT (cT (cT (qac rfl ?_)))))))
   refine cT ?_
   replace hm := ift (si bo).symm hm
   exact eE hm
   replace bt := qa9 (qcy (qcy bm bn) aX) bt
   refine fa rfl (cf aX (ro (ld r0 rfl rfl (cf aX ?_))))
   obtain ⟨du, cL, bG, bt⟩ := ixb bt
   refine RStep.ofN (qad rfl rfl (qc2 ae.rd bG) cL (qaw rfl cL bG) (cf aX ?_))
   obtain ⟨cY, c3, bP, bR, bI⟩ := LiR.get ae.rd bG
   obtain ⟨cw, cq, rfl, cJ⟩ := Ja.out bI
   refine ro (qan ((0 : Int).toNat) _ bP rfl bR rfl (cf aX ?_))
   refine cb bt fun dj da bt => cgx (JZ da :) ?_
   refine cf aX (qav (cf aX ?_))
   obtain ⟨bX, bo, hm⟩ := bnd hm
   refine qae ?_ ?_ <;> intro aY
   replace bo := ift ((si bt).symm.trans (qfh (qj4 aY))) bo
   refine ct aY (ct aY (ct aY (ct aY (ct aY (ct aY (qac rfl (cT ?_)))))))
   replace hm := ift (si bo).symm hm
   exact eE hm
   replace bo := qa9 ((si bt).symm.trans (qdj (qh0 aY))) bo
   refine fa rfl (cf aY (ro (ld r0 rfl rfl (cf aY ?_))))
   obtain ⟨dt, cE, bY, bo⟩ := ixb bo
   refine RStep.ofN (qad rfl rfl (qc2 ae.rd bY) cE (qaw rfl cE bY) (cf aY ?_))
   obtain ⟨cR, cO, bN, ca, bZ⟩ := LiR.get ae.rd bY
   obtain ⟨cm, cC, rfl, cy⟩ := Ja.out bZ
   refine ro (qan ((1 : Int).toNat) _ bN rfl ca rfl (cf aY ?_))
   refine cb bo fun dh cP bo => cgx (Jc1 ih cP :) ?_
   refine cf aY (qav (cf aY (qac rfl ?_)))
   refine qae ?_ ?_ <;> intro cH
   replace hm := ift ((si bo).symm.trans (qfh (qj4 cH))) hm
   exact eE hm
   replace hm := qa9 ((si bo).symm.trans (qdj (qh0 cH))) hm
   refine qai rfl ?_
   refine qag ?_
   obtain ⟨dn, bz, hm⟩ := bnd hm
   refine cS bz (fun bd bz => ?_) fun bd bz => ?_
   refine ct bd (ct bd (ct bd (ct bd (ct bd ?_))))
   replace hm := ift (si bz).symm hm
   refine cT (cT (cT (cT (cT (cT (cT (cT ?_)))))))
   refine cT ?_
   exact eE hm
   refine fa rfl (cf bd (ro (ld r0 rfl rfl (cf bd ?_))))
   obtain ⟨dw, cn, bU, bz⟩ := ixb bz
   refine RStep.ofN (qad rfl rfl (qc2 ae.rd bU) cn (qaw rfl cn bU) (cf bd ?_))
   obtain ⟨cU, dc, bT, bV, bM⟩ := LiR.get ae.rd bU
   obtain ⟨cz, cr, rfl, cp⟩ := Ja.out bM
   refine ro (qan ((2 : Int).toNat) _ bT rfl bV rfl (cf bd ?_))
   refine cb bz fun dp c5 bz => cgx (Jc1 ih c5 :) ?_
   refine cf bd ?_
   refine qae ?_ ?_ <;> intro aV
   replace hm := ift ((si bz).symm.trans aV) hm
   refine ct aV (ct aV (ct aV (ct aV (ct aV (ct aV (ct aV (ct aV ?_)))))))
   exact eE hm
   replace hm := qa9 ((si bz).symm.trans aV) hm
   refine fa rfl (cf aV (ro (ld r0 rfl rfl (cf aV ?_))))
   obtain ⟨dk, cM, bF, hm⟩ := ixb hm
   refine RStep.ofN (qad rfl rfl (qc2 ae.rd bF) cM (qaw rfl cM bF) (cf aV (qba rfl (qc2 ae.rd bF) (cf aV ?_))))
   obtain ⟨c6, cW, bW, bO, bL⟩ := LiR.get ae.rd bF
   obtain ⟨ce, cj, rfl, cD⟩ := Ja.out bL
   refine ro (qbq ((2 : Int).toNat) 0 _ _ bW rfl bO rfl rfl (cf aV (qag (cf aV ?_))))
   obtain ⟨di, bB, hm⟩ := bnd hm
   refine cS bB (fun bc bB => ?_) fun bc bB => ?_
   refine fa rfl (ct bc (ro (ld r0 rfl rfl (ct bc ?_))))
   obtain ⟨df, cG, bJ, bB⟩ := ixb bB
   refine RStep.ofN (qad rfl rfl (qc2 ae.rd bJ) cG (qaw rfl cG bJ) (ct bc ?_))
   obtain ⟨c8, cZ, bK, bH, bQ⟩ := LiR.get ae.rd bJ
   obtain ⟨co, cI, rfl, cd⟩ := Ja.out bQ
   refine ro (qan ((2 : Int).toNat) _ bK rfl bH rfl (ct bc ?_))
   refine cb bB fun de cN bB => cgx (ih cN :) ?_
   refine cf aV (ct bc (cf aV ?_))
   exact bE (si bB) (eE hm)
   refine cf bc (cf bc (cf bc (cf bc (cf aV (cf bc (cf aV ?_))))))
   exact bE (si bB) (eE hm)
   refine qag (cs rfl rfl hm ?_ ?_) <;> intro dx hm
   refine qai rfl ?_
   refine fa rfl (ro (ld r0 rfl rfl ?_))
   refine cb hm fun dq c4 hm => cg0 (JbR c4 :) ?_
   refine qae ?_ ?_ <;> intro bf
   refine fa rfl (ct bf (ro (ld r0 rfl rfl (ct bf (ro (qak rfl (ct bf (qag (ct bf ?_)))))))))
   exact bE (qcw (b := decide ((n'.Aa.length : Int) = 0)) bf) (eE hm)
   refine cf bf (cf bf (cf bf (cf bf ?_)))
   exact bE (((qbc bf)).symm) (eE hm)
   refine qag (cs rfl rfl hm ?_ ?_) <;> intro cK hm
   refine qac rfl (ct cK ?_)
   refine qai rfl ?_
   refine fa rfl (ro (ld r0 rfl rfl (qap ?_)))
   refine qae ?_ ?_ <;> intro aU
   refine fa rfl (ct aU (ro (ld r0 rfl rfl (ct aU (ro (qak rfl (ct aU (qag (ct aU ?_)))))))))
   exact bE (qcw (b := decide ((n'.Aa.length : Int) = 0)) aU) (eE hm)
   refine cf aU (cf aU (cf aU (cf aU ?_)))
   exact bE (((qbc aU)).symm) (eE hm)
   refine qag (cs rfl rfl hm ?_ ?_) <;> intro cK hm
   refine qai rfl ?_
   refine fa rfl (ro (ld r0 rfl rfl (qap ?_)))
   refine qae ?_ ?_ <;> intro aU
   refine fa rfl (ct aU (ro (ld r0 rfl rfl (ct aU (ro (qak rfl (ct aU (qag (ct aU ?_)))))))))
   exact bE (qcw (b := decide ((n'.Aa.length : Int) = 0)) aU) (eE hm)
   refine cf aU (cf aU (cf aU (cf aU ?_)))
   exact bE (((qbc aU)).symm) (eE hm)
   refine qag (cs rfl rfl hm ?_ ?_) <;> intro dg hm
   refine fa rfl (ro (ld r0 rfl rfl ?_))
   refine cb hm fun dl db hm => cgx (JcB db :) ?_
   refine qav ?_
   refine cs rfl rfl hm ?_ ?_ <;> intro dm hm
   exact eE hm
   refine qai rfl ?_
   refine fa rfl (ro (ld r0 rfl rfl (ro (qak rfl (qag ?_)))))
   obtain ⟨bv, aT, hm⟩ := bnd hm
   refine cS aT (fun aS aT => ?_) fun aS aT => ?_
   refine fa rfl (ct aS (ro (ld r0 rfl rfl (ct aS ?_))))
   obtain ⟨bw, ba, aW, aT⟩ := ixb aT
   refine RStep.ofN (qad rfl rfl (qc2 ae.rd aW) ba (qaw rfl ba aW) (ct aS ?_))
   obtain ⟨br, bp, aZ, a6, a8⟩ := LiR.get ae.rd aW
   obtain ⟨bl, bg, rfl, bh⟩ := Ja.out a8
   refine ro (qan ((0 : Int).toNat) _ aZ rfl a6 rfl (ct aS ?_))
   refine cb aT fun bu bj aT => cgx (JZ bj :) ?_
   refine ct aS ?_
   exact bE (si aT) (eE hm)
   refine cf aS (cf aS (cf aS (cf aS (cf aS ?_))))
   exact bE (si aT) (eE hm)
   refine qag (cs rfl rfl hm ?_ ?_) <;> intro dv hm
   refine qai rfl ?_
   refine fa rfl (ro (ld r0 rfl rfl (qbl ?_)))
   refine qae ?_ ?_ <;> intro bb
   refine fa rfl (ct bb (ro (ld r0 rfl rfl (ct bb (qbl (ct bb (qac rfl ?_)))))))
   refine qae ?_ ?_ <;> intro bC
   replace hm := ift (qct bb bC) hm
   exact eE hm
   replace hm := qa9 (qcu bb bC) hm
   refine qai rfl ?_
   refine fa rfl (ro (ld r0 rfl rfl (ro (qak rfl (qag ?_)))))
   obtain ⟨bv, aT, hm⟩ := bnd hm
   refine cS aT (fun aS aT => ?_) fun aS aT => ?_
   refine fa rfl (ct aS (ro (ld r0 rfl rfl (ct aS ?_))))
   obtain ⟨bw, ba, aW, aT⟩ := ixb aT
   refine RStep.ofN (qad rfl rfl (qc2 ae.rd aW) ba (qaw rfl ba aW) (ct aS ?_))
   obtain ⟨br, bp, aZ, a6, a8⟩ := LiR.get ae.rd aW
   obtain ⟨bl, bg, rfl, bh⟩ := Ja.out a8
   refine ro (qan ((0 : Int).toNat) _ aZ rfl a6 rfl (ct aS ?_))
   refine cb aT fun bu bj aT => cgx (JZ bj :) ?_
   refine ct aS ?_
   exact bE (si aT) (eE hm)
   refine cf aS (cf aS (cf aS (cf aS (cf aS ?_))))
   exact bE (si aT) (eE hm)
   refine cf bb (cf bb (cf bb (qac rfl (cF ?_))))
   replace hm := qa9 (qbc bb) hm
   refine qai rfl ?_
   refine fa rfl (ro (ld r0 rfl rfl (ro (qak rfl (qag ?_)))))
   obtain ⟨bv, aT, hm⟩ := bnd hm
   refine cS aT (fun aS aT => ?_) fun aS aT => ?_
   refine fa rfl (ct aS (ro (ld r0 rfl rfl (ct aS ?_))))
   obtain ⟨bw, ba, aW, aT⟩ := ixb aT
   refine RStep.ofN (qad rfl rfl (qc2 ae.rd aW) ba (qaw rfl ba aW) (ct aS ?_))
   obtain ⟨br, bp, aZ, a6, a8⟩ := LiR.get ae.rd aW
   obtain ⟨bl, bg, rfl, bh⟩ := Ja.out a8
   refine ro (qan ((0 : Int).toNat) _ aZ rfl a6 rfl (ct aS ?_))
   refine cb aT fun bu bj aT => cgx (JZ bj :) ?_
   refine ct aS ?_
   exact bE (si aT) (eE hm)
   refine cf aS (cf aS (cf aS (cf aS (cf aS ?_))))
   exact bE (si aT) (eE hm)
   refine qag (cs rfl rfl hm ?_ ?_) <;> intro cV hm
   refine fa rfl (ro (ld r0 rfl rfl ?_))
   refine cb hm fun cQ bS hm => cg0 (JbR bS :) ?_
   refine qav ?_
   refine cs rfl rfl hm ?_ ?_ <;> intro c9 hm
   exact eE hm
   refine qai rfl ?_
   refine fa rfl (ro (ld r0 rfl rfl (ro (qak rfl (qag ?_)))))
   obtain ⟨bv, aT, hm⟩ := bnd hm
   refine cS aT (fun aS aT => ?_) fun aS aT => ?_
   refine fa rfl (ct aS (ro (ld r0 rfl rfl (ct aS ?_))))
   obtain ⟨bw, ba, aW, aT⟩ := ixb aT
   refine RStep.ofN (qad rfl rfl (qc2 ae.rd aW) ba (qaw rfl ba aW) (ct aS ?_))
   obtain ⟨br, bp, aZ, a6, a8⟩ := LiR.get ae.rd aW
   obtain ⟨bl, bg, rfl, bh⟩ := Ja.out a8
   refine ro (qan ((0 : Int).toNat) _ aZ rfl a6 rfl (ct aS ?_))
   refine cb aT fun bu bj aT => cgx (JZ bj :) ?_
   refine ct aS ?_
   exact bE (si aT) (eE hm)
   refine cf aS (cf aS (cf aS (cf aS (cf aS ?_))))
   exact bE (si aT) (eE hm)
   refine qag (cs rfl rfl hm ?_ ?_) <;> intro bA hm
   refine qac rfl (ct bA (fa rfl (ro (ld r0 rfl rfl (qbl ?_)))))
   refine cs rfl rfl hm ?_ ?_ <;> intro bD hm
   exact eE hm
   refine qai rfl ?_
   refine fa rfl (ro (ld r0 rfl rfl (ro (qak rfl (qag ?_)))))
   obtain ⟨bv, aT, hm⟩ := bnd hm
   refine cS aT (fun aS aT => ?_) fun aS aT => ?_
   refine fa rfl (ct aS (ro (ld r0 rfl rfl (ct aS ?_))))
   obtain ⟨bw, ba, aW, aT⟩ := ixb aT
   refine RStep.ofN (qad rfl rfl (qc2 ae.rd aW) ba (qaw rfl ba aW) (ct aS ?_))
   obtain ⟨br, bp, aZ, a6, a8⟩ := LiR.get ae.rd aW
   obtain ⟨bl, bg, rfl, bh⟩ := Ja.out a8
   refine ro (qan ((0 : Int).toNat) _ aZ rfl a6 rfl (ct aS ?_))
   refine cb aT fun bu bj aT => cgx (JZ bj :) ?_
   refine ct aS ?_
   exact bE (si aT) (eE hm)
   refine cf aS (cf aS (cf aS (cf aS (cf aS ?_))))
   exact bE (si aT) (eE hm)
   refine qag (cs rfl rfl hm ?_ ?_) <;> intro bA hm
   refine qac rfl (ct bA (fa rfl (ro (ld r0 rfl rfl (qbl ?_)))))
   refine cs rfl rfl hm ?_ ?_ <;> intro bD hm
   exact eE hm
   refine qai rfl ?_
   refine fa rfl (ro (ld r0 rfl rfl (ro (qak rfl (qag ?_)))))
   obtain ⟨bv, aT, hm⟩ := bnd hm
   refine cS aT (fun aS aT => ?_) fun aS aT => ?_
   refine fa rfl (ct aS (ro (ld r0 rfl rfl (ct aS ?_))))
   obtain ⟨bw, ba, aW, aT⟩ := ixb aT
   refine RStep.ofN (qad rfl rfl (qc2 ae.rd aW) ba (qaw rfl ba aW) (ct aS ?_))
   obtain ⟨br, bp, aZ, a6, a8⟩ := LiR.get ae.rd aW
   obtain ⟨bl, bg, rfl, bh⟩ := Ja.out a8
   refine ro (qan ((0 : Int).toNat) _ aZ rfl a6 rfl (ct aS ?_))
   refine cb aT fun bu bj aT => cgx (JZ bj :) ?_
   refine ct aS ?_
   exact bE (si aT) (eE hm)
   refine cf aS (cf aS (cf aS (cf aS (cf aS ?_))))
   exact bE (si aT) (eE hm)
   refine qag (cs rfl rfl hm ?_ ?_) <;> intro bA hm
   refine fa rfl (ro (ld r0 rfl rfl (qbl ?_)))
   refine cs rfl rfl hm ?_ ?_ <;> intro bD hm
   exact eE hm
   refine qai rfl ?_
   refine fa rfl (ro (ld r0 rfl rfl (ro (qak rfl (qag ?_)))))
   obtain ⟨bv, aT, hm⟩ := bnd hm
   refine cS aT (fun aS aT => ?_) fun aS aT => ?_
   refine fa rfl (ct aS (ro (ld r0 rfl rfl (ct aS ?_))))
   obtain ⟨bw, ba, aW, aT⟩ := ixb aT
   refine RStep.ofN (qad rfl rfl (qc2 ae.rd aW) ba (qaw rfl ba aW) (ct aS ?_))
   obtain ⟨br, bp, aZ, a6, a8⟩ := LiR.get ae.rd aW
   obtain ⟨bl, bg, rfl, bh⟩ := Ja.out a8
   refine ro (qan ((0 : Int).toNat) _ aZ rfl a6 rfl (ct aS ?_))
   refine cb aT fun bu bj aT => cgx (JZ bj :) ?_
   refine ct aS ?_
   exact bE (si aT) (eE hm)
   refine cf aS (cf aS (cf aS (cf aS (cf aS ?_))))
   exact bE (si aT) (eE hm)
   exact eE hm

def Jbp (n : Nat) : List Ja → Nat → Option (Fl (Bool) (Unit))
  | [], _ => some (Fl.go ())
  | e0 :: aS, i0 =>
    (JaZ n e0).bind fun aT =>
    if (!aT) then
    some (Fl.ret false)
    else
    Jbp n aS (i0 + 1)
def Jdc (n : Nat) (n' : Ja) : Option (Bool) :=
  if (decide (n'.Ab ≠ 1) || decide (n'.Ac ≠ ([] : Str))) then
  some false
  else
  (JbE n n' 512 32).bind fun aS =>
  if (!aS.1) then
  some false
  else
  (chk (n'.Aa.length ≤ qbd)).bind fun _ =>
  (Jbp n n'.Aa 0).bind fun s0 => s0.el some fun t0 =>
  some true
theorem Jd8 {n : Nat} {n' : Ja} {aa : Option Addr} {ab : Nat} {K : Hp} {r : Bool}
    (hm : Jdc n n' = some r) (hX : LiC Ja.R K aa ab 4 n'.Aa ∧ GG K) :
    Fn Tryz.prog 140 [.agg #[.int .i64 n'.Ab, str n'.Ac, .slice aa n'.Aa.length ab, .int .i64 n'.Ad]] K [] (fun v K' H' => v = .bool r ∧ H' = []) := by
 obtain ⟨ae, hG⟩ := hX
 refine Fn.enter Tryz.func140 Tryz.call140 rfl fun F => ?_
 unfold Jdc at hm
 refine qaq ?_
 intro b1
 refine qah rfl fun b3 => ?_
 refine qaa r0 rfl ⟨rfl, rfl, (nl rfl), ?_⟩
 refine qai rfl ?_
 refine fa rfl (ro (ld r1 rfl rfl (qa3 ?_)))
 refine qae ?_ ?_ <;> intro aT
 refine ct aT (ct aT (ct aT ?_))
 replace hm := ift (qbt aT) hm
 refine cT (cT (cT (cT (qac rfl (cT ?_)))))
 exact eE hm
 refine fa rfl (cf aT (ro (ld r1 rfl rfl (cf aT (qbl (cf aT ?_))))))
 refine qae ?_ ?_ <;> intro aS
 replace hm := ift (qfg aT aS) hm
 refine ct aS (ct aS (ct aS (qac rfl (cT ?_))))
 exact eE hm
 replace hm := qa9 (qcy aT aS) hm
 refine ro (qab r1 rfl (nl rfl) (cf aS ?_))
 refine cb hm fun bj bg hm => cgx (Jd7 bg :) ?_
 refine cf aS (qav (cf aS ?_))
 refine cs rfl rfl hm ?_ ?_ <;> intro bl hm
 exact eE hm
 refine fa rfl (ro (ld r1 rfl rfl (ro (qak rfl ?_))))
 obtain ⟨bb, hm⟩ := qay hm
 obtain ⟨s0, aU, hm⟩ := bnd hm
 refine lD (σ := (Unit)) ([2,5] ++ rg 22 8) [0, 1, 2] (fun i0 => [(22, .int .i64 (i0 : Int))]) (fun _ => []) (fun _ => []) (fun _ => True) (fun i0 _ => Jbp n (n'.Aa.drop i0) i0 = some s0) (fun t0 => s0 = Fl.go t0) (fun i0 => n'.Aa.length - i0) 0 () aU (And.intro qe (And.intro ?_ ?_))
 clear aU
 rintro i0 _ _ aU j0
 conv at aU => whnf
 refine qac rfl ?_
 refine qae ?_ ?_ <;> intro w0
 obtain ⟨e0, aV, bf⟩ := ltx w0
 rw [bf, Jbp.eq_2] at aU
 refine qal rfl ?_
 refine RStep.ofN (qad rfl rfl (qc2 ae.rd aV) (nn _) (qbm aV) ?_)
 obtain ⟨ba, bc, aY, aW, aX⟩ := LiR.get ae.rd aV
 obtain ⟨aZ, a8, rfl, a6⟩ := Ja.out aX
 refine ro (qan i0 _ aY rfl aW rfl ?_)
 refine qah rfl fun b5 => ?_
 refine qaa r0 rfl ⟨rfl, rfl, (nl rfl), ?_⟩
 refine ro (qab r0 rfl (nl rfl) ?_)
 refine cb aU fun bh bd aU => cgx (Jd0 bd :) ?_
 refine qav ?_
 refine cs rfl rfl aU ?_ ?_ <;> intro bm aU
 exact eE (er aU hm)
 refine qam (qbs aV bb) ?_
 exact eR aU (_, ())
 rw [lty w0, Jbp.eq_1] at aU
 refine cT ?_
 exact eM aU _
 rintro t0 _ rfl j0
 replace hm := elg hm
 exact eE hm

def Jb7 (name : Str) : Option (Bool) :=
  some (((decide (name = ([109, 101, 116, 104, 111, 100] : Str)) || decide (name = ([104, 111, 115, 116] : Str))) || decide (name = ([112, 97, 116, 104] : Str))) || decide (name = ([113, 117, 101, 114, 121] : Str)))
theorem Jds {name : Str} {K : Hp} {r : Bool}
    (hm : Jb7 name = some r)  :
    Fn Tryz.prog 243 [str name] K [] (fun v K' H' => v = .bool r ∧ H' = []) := by
 refine Fn.enter Tryz.func243 Tryz.call243 rfl fun F => ?_
 unfold Jb7 at hm
 refine qai rfl ?_
 refine qap ?_
 refine qae ?_ ?_ <;> intro aT
 refine ct aT (ct aT (cT (cT (cT (cT (cT (cT ?_)))))))
 exact bE (((qbt (qbt (qbt aT)))).symm) (eE hm)
 refine cf aT (qap (cf aT ?_))
 refine qae ?_ ?_ <;> intro aU
 refine ct aU (ct aU (cT (cT (cT ?_))))
 exact bE (((qbt (qbt (qfg aT aU)))).symm) (eE hm)
 refine cf aU (qap (cf aU ?_))
 refine qae ?_ ?_ <;> intro aS
 refine ct aS (ct aS ?_)
 exact bE (((qbt (qfg (qcy aT aU) aS))).symm) (eE hm)
 refine cf aS (qap (cf aS ?_))
 exact bE (qgz (b := decide (name = ([113, 117, 101, 114, 121] : Str))) (qcy (qcy aT aU) aS)) (eE hm)

def Ja8 (env : (List Jk)) (name : Str) : Nat → Int → Option (Fl (Int) (Int))
  | 0, _ => none
  | aS + 1, ac =>
    if decide (ac ≥ 0) then
    (ix env ac).bind fun aU =>
    if decide (aU.Name = name) then
    (ix env ac).bind fun aT =>
    some (Fl.ret aT.Ar)
    else
    (chk (InI (ac - 1))).bind fun _ =>
    Ja8 env name aS (ac - 1)
    else
    some (Fl.go ac)
def JbS (n : Nat) (name : Str) (env : (List Jk)) : Option (Int) :=
  (chk (InI ((env.length : Int) - 1))).bind fun _ =>
  (Ja8 env name n ((env.length : Int) - 1)).bind fun s0 => s0.el some fun t0 =>
  (Jb7 name).bind fun aS =>
  if aS then
  some 1
  else
  some 0
theorem Jcq {n : Nat} {name : Str} {env : (List Jk)} {af : Option Addr} {ag : Nat} {n1 : Nat} {K : Hp} {r : Int}
    (hm : JbS n name env = some r) (hX : RdC Jk.enc K af ag 2 env ∧ n1 = env.length) :
    Fn Tryz.prog 227 [str name, .slice af n1 ag] K [] (fun v K' H' => v = .int .i64 r ∧ H' = []) := by
 obtain ⟨ai, aY⟩ := hX
 subst aY
 refine Fn.enter Tryz.func227 Tryz.call227 rfl fun F => ?_
 unfold JbS at hm
 refine ro (qak rfl ?_)
 refine ci hm fun hm => ?_
 obtain ⟨s0, aS, hm⟩ := bnd hm
 refine lD (σ := (Int)) ([4,5] ++ rg 9 16) [0] (fun _ => []) (fun t0 => [(5, .int .i64 t0)]) (fun _ => []) (fun _ => True) (fun i0 t0 => Ja8 env name i0 t0 = some s0) (fun t0 => s0 = Fl.go t0) (fun i0 => i0) n _ aS (And.intro qe (And.intro ?_ ?_))
 clear aS
 rintro i0 ac _ aS j0
 conv at aS => whnf
 cases i0 with
 | zero => rw [Ja8.eq_1] at aS; cases aS
 | succ i0 =>
  rw [Ja8.eq_2] at aS
  refine cs rfl rfl aS ?_ ?_ <;> intro bc aS
  refine qal rfl ?_
  obtain ⟨a6, aV, aU, aS⟩ := ixb aS
  refine RStep.ofN (qad rfl rfl (qdr ai.rd aU) aV (qaw rfl aV aU) (qba rfl (qdr ai.rd aU) (ro (qbq ((ac).toNat) 0 _ _ ai.rd rfl (mp aU) rfl rfl (qap ?_)))))
  refine cs rfl rfl aS ?_ ?_ <;> intro ba aS
  obtain ⟨aZ, aW, aT, aS⟩ := ixb aS
  refine RStep.ofN (qad rfl rfl (qdr ai.rd aT) aW (qaw rfl aW aT) (qba rfl (qdr ai.rd aT) (ro (qbq ((ac).toNat) 1 _ _ ai.rd rfl (mp aT) rfl rfl ?_))))
  exact eE (er aS hm)
  refine ci aS fun aS => ?_
  exact eR aS (_, _)
  refine cT ?_
  exact eM aS _
 rintro t0 _ rfl j0
 replace hm := elg hm
 refine cb hm fun a8 aX hm => cg0 (Jds aX :) ?_
 refine cs rfl rfl hm ?_ ?_ <;> intro bb hm
 exact eE hm
 exact eE hm

def JW (c : Jm) (n' : Ja) (err : Err) : Option (Jm) :=
  if c.err.isNone then
  some (⟨n'.Ad, err⟩ : Jm)
  else
  some c
theorem JU {c : Jm} {n' : Ja} {err : Err} {b0 : Nat} {af : Option Addr} {ag : Nat} {K : Hp} {r : Jm}
    (hm : JW c n' err = some r) (ai : LiC Ja.R K af ag 4 n'.Aa) :
    Fn Tryz.prog 193 [.pointer (some ⟨b0, 0, none⟩), .agg #[.int .i64 n'.Ab, str n'.Ac, .slice af n'.Aa.length ag, .int .i64 n'.Ad], qcr 48 err] K [Cells b0 204 [.int .i64 c.line, qcr 48 c.err]] (fun v K' H' => v = .tuple #[] ∧ H' = [Cells b0 204 [.int .i64 r.line, qcr 48 r.err]]) := by
 refine Fn.enter Tryz.func193 Tryz.call193 rfl fun F => ?_
 unfold JW at hm
 refine qaq ?_
 intro b4
 refine qaj (fa rfl (ro (ld r1 rfl rfl (qc7 rfl ?_))))
 refine cs rfl rfl hm ?_ ?_ <;> intro aS hm
 refine fa rfl (ro (ld r0 rfl rfl (qaj (fa rfl ?_))))
 refine qaa r1 rfl ⟨rfl, rfl, (nl rfl), ?_⟩
 refine qaj (fa rfl ?_)
 refine qk6 r0 rfl rfl ?_
 exact eE hm
 exact eE hm

def JcD (name : Str) : Option (Int × Int) :=
  if decide (name = ([104, 101, 97, 100, 101, 114] : Str)) then
  some (1, 1)
  else
  if decide (name = ([97, 114, 103] : Str)) then
  some (1, 1)
  else
  if decide (name = ([108, 111, 119, 101, 114] : Str)) then
  some (1, 1)
  else
  if decide (name = ([104, 97, 115] : Str)) then
  some (1, 3)
  else
  if decide (name = ([108, 101, 110] : Str)) then
  some (1, 2)
  else
  if decide (name = ([110, 117, 109, 98, 101, 114] : Str)) then
  some (1, 2)
  else
  if decide (name = ([112, 97, 114, 116] : Str)) then
  some (2, 1)
  else
  if decide (name = ([116, 101, 120, 116] : Str)) then
  some (2, 1)
  else
  some (0, 0)
theorem JdP {name : Str} {K : Hp} {r : Int × Int}
    (hm : JcD name = some r)  :
    Fn Tryz.prog 244 [str name] K [] (fun v K' H' => v = .tuple #[.int .i64 r.1, .int .i64 r.2] ∧ H' = []) := by
 refine Fn.enter Tryz.func244 Tryz.call244 rfl fun F => ?_
 unfold JcD at hm
 refine qal rfl ?_
 refine qap (cs rfl rfl hm ?_ ?_) <;> intro w5 hm
 refine qac rfl (ct w5 ?_)
 exact eE hm
 refine qap (cs rfl rfl hm ?_ ?_) <;> intro w5 hm
 refine qac rfl (ct w5 ?_)
 exact eE hm
 refine qap (cs rfl rfl hm ?_ ?_) <;> intro w5 hm
 exact eE hm
 refine qap (cs rfl rfl hm ?_ ?_) <;> intro w9 hm
 exact eE hm
 refine qap (cs rfl rfl hm ?_ ?_) <;> intro aT hm
 refine qac rfl (ct aT ?_)
 exact eE hm
 refine qap (cs rfl rfl hm ?_ ?_) <;> intro aT hm
 exact eE hm
 refine qap (cs rfl rfl hm ?_ ?_) <;> intro aS hm
 refine qac rfl (ct aS ?_)
 exact eE hm
 refine qap (cs rfl rfl hm ?_ ?_) <;> intro aS hm
 exact eE hm
 exact eE hm

def Ja9 (c : Jm) (n' : Ja) (args : (List Int)) : Option (Int × Jm) :=
  (JcD n'.Ac).bind fun al =>
  if decide (al.2 = 0) then
  (JW c n' (some 8)).bind fun aS =>
  some (al.2, aS)
  else
  (if decide ((args.length : Int) ≠ 1) then some true else (ix args 0).bind fun aU =>
  some (decide (aU ≠ al.1))).bind fun aT =>
  if aT then
  (JW c n' (some 9)).bind fun aV =>
  some (al.2, aV)
  else
  some (al.2, c)
theorem Jck {c : Jm} {n' : Ja} {args : (List Int)} {b0 : Nat} {af : Option Addr} {ag : Nat} {ar : Option Addr} {au : Nat} {n2 : Nat} {K : Hp} {r : Int × Jm}
    (hm : Ja9 c n' args = some r) (hX : LiC Ja.R K af ag 4 n'.Aa ∧ RdC eN K ar au 1 args ∧ n2 = args.length) :
    Fn Tryz.prog 228 [.pointer (some ⟨b0, 0, none⟩), .agg #[.int .i64 n'.Ab, str n'.Ac, .slice af n'.Aa.length ag, .int .i64 n'.Ad], .slice ar n2 au] K [Cells b0 204 [.int .i64 c.line, qcr 48 c.err]] (fun v K' H' => v = .int .i64 r.1 ∧ H' = [Cells b0 204 [.int .i64 r.2.line, qcr 48 r.2.err]]) := by
 obtain ⟨ai, aT, ba⟩ := hX
 subst ba
 refine Fn.enter Tryz.func228 Tryz.call228 rfl fun F => ?_
 unfold Ja9 at hm
 refine qaq ?_
 intro b4
 refine fa rfl (ro (ld r0 rfl rfl ?_))
 refine cb hm fun al aZ hm => cg0 (JdP aZ :) ?_
 refine qag (cs rfl rfl hm ?_ ?_) <;> intro bb hm
 refine ro (qab r0 rfl (nl rfl) ?_)
 refine qar rfl ?_
 refine cb hm fun bc a8 hm => cgx (JU a8 :) ?_
 exact eE hm
 refine qai rfl ?_
 refine ro (qak rfl (qa3 ?_))
 obtain ⟨bf, aU, hm⟩ := bnd hm
 refine cS aU (fun aS aU => ?_) fun aS aU => ?_
 refine ct aS (ct aS (ct aS (ct aS (ct aS (qac rfl (cT ?_))))))
 replace hm := ift (si aU).symm hm
 refine ro (qab r0 rfl (nl rfl) ?_)
 refine qar rfl ?_
 refine cb hm fun a6 aV hm => cgx (JU aV :) ?_
 exact eE hm
 refine cf aS ?_
 obtain ⟨bd, aY, aW, aU⟩ := ixb aU
 refine RStep.ofN (qad rfl rfl (qdr aT.rd aW) aY (qaw rfl aY aW) (cf aS (ro (qbq ((0 : Int).toNat) 0 _ _ aT.rd rfl (mp aW) rfl rfl (cf aS (cf aS (qa3 (cf aS (qac rfl ?_)))))))))
 refine qae ?_ ?_ <;> intro aX
 replace hm := ift ((si aU).symm.trans aX) hm
 refine ro (qab r0 rfl (nl rfl) ?_)
 refine qar rfl ?_
 refine cb hm fun a6 aV hm => cgx (JU aV :) ?_
 exact eE hm
 replace hm := qa9 ((si aU).symm.trans aX) hm
 exact eE hm

def JaD (t : Int) : List Int → Nat → Option (Fl (Bool) (Unit))
  | [], _ => some (Fl.go ())
  | e0 :: aS, i0 =>
    if decide (e0 ≠ t) then
    some (Fl.ret false)
    else
    JaD t aS (i0 + 1)
def JR (t : Int) (aM : (List Int)) : Option (Bool) :=
  (chk (aM.length ≤ qbd)).bind fun _ =>
  (JaD t aM 0).bind fun s0 => s0.el some fun t0 =>
  some true
theorem JP {t : Int} {aM : (List Int)} {b1 : Nat} {af : Option Addr} {ag : Nat} {K : Hp} {r : Bool}
    (hm : JR t aM = some r) (ai : RdC eN K af ag 1 aM) :
    Fn Tryz.prog 245 [.int .i64 t, .pointer (some ⟨b1, 0, none⟩)] K [Cells b1 284 [.slice af aM.length ag]] (fun v K' H' => v = .bool r ∧ H' = [Cells b1 284 [.slice af aM.length ag]]) := by
 refine Fn.enter Tryz.func245 Tryz.call245 rfl fun F => ?_
 unfold JR at hm
 refine ro (ld r0 rfl rfl (ro (qak rfl ?_)))
 obtain ⟨aU, hm⟩ := qay hm
 obtain ⟨s0, aS, hm⟩ := bnd hm
 refine lD (σ := (Unit)) ([3,5] ++ rg 8 8) [0, 1] (fun i0 => [(8, .int .i64 (i0 : Int))]) (fun _ => []) (fun _ => []) (fun _ => True) (fun i0 _ => JaD t (aM.drop i0) i0 = some s0) (fun t0 => s0 = Fl.go t0) (fun i0 => aM.length - i0) 0 () aS (And.intro qe (And.intro ?_ ?_))
 clear aS
 rintro i0 _ _ aS j0
 conv at aS => whnf
 refine qac rfl ?_
 refine qae ?_ ?_ <;> intro w0
 obtain ⟨e0, aT, aV⟩ := ltx w0
 rw [aV, JaD.eq_2] at aS
 refine qal rfl ?_
 refine RStep.ofN (qad rfl rfl (qdr ai.rd aT) (nn _) (qbm aT) (ro (qbq i0 0 _ _ ai.rd rfl (mp aT) rfl rfl (qa3 ?_))))
 refine cs rfl rfl aS ?_ ?_ <;> intro aW aS
 exact eE (er aS hm)
 refine qam (qbs aT aU) ?_
 exact eR aS (_, ())
 rw [lty w0, JaD.eq_1] at aS
 refine cT ?_
 exact eM aS _
 rintro t0 _ rfl j0
 replace hm := elg hm
 exact eE hm

def JbY (n' : Ja) (args : (List Int)) : Option (Int) :=
  if decide (n'.Ab = 17) then
  (JR 1 args).bind fun al =>
  if al then
  some 1
  else
  (JR 2 args).bind fun aX =>
  if aX then
  some 2
  else
  some 0
  else
  if decide (n'.Ab = 18) then
  (JR 2 args).bind fun aV =>
  if aV then
  some 2
  else
  some 0
  else
  if decide (n'.Ab = 19) then
  (JR 2 args).bind fun aV =>
  if aV then
  some 2
  else
  some 0
  else
  if decide (n'.Ab = 13) then
  (JR 3 args).bind fun aS =>
  if aS then
  some 3
  else
  some 0
  else
  if decide (n'.Ab = 14) then
  (JR 3 args).bind fun aS =>
  if aS then
  some 3
  else
  some 0
  else
  if decide (n'.Ab = 15) then
  (JR 3 args).bind fun aS =>
  if aS then
  some 3
  else
  some 0
  else
  if decide (n'.Ab = 16) then
  if decide (n'.Ac = ([61, 61] : Str)) then
  (ix args 0).bind fun aU =>
  (ix args 1).bind fun aT =>
  if decide (aU = aT) then
  some 3
  else
  some 0
  else
  if decide (n'.Ac = ([33, 61] : Str)) then
  (ix args 0).bind fun aU =>
  (ix args 1).bind fun aT =>
  if decide (aU = aT) then
  some 3
  else
  some 0
  else
  if decide (n'.Ac = ([60] : Str)) then
  (JR 2 args).bind fun aW =>
  if aW then
  some 3
  else
  some 0
  else
  if decide (n'.Ac = ([60, 61] : Str)) then
  (JR 2 args).bind fun aW =>
  if aW then
  some 3
  else
  some 0
  else
  (JR 1 args).bind fun aY =>
  if aY then
  some 3
  else
  some 0
  else
  some 0
theorem JcQ {n' : Ja} {args : (List Int)} {aa : Option Addr} {ab : Nat} {af : Option Addr} {ag : Nat} {n1 : Nat} {K : Hp} {r : Int}
    (hm : JbY n' args = some r) (hX : LiC Ja.R K aa ab 4 n'.Aa ∧ RdC eN K af ag 1 args ∧ n1 = args.length) :
    Fn Tryz.prog 229 [.agg #[.int .i64 n'.Ab, str n'.Ac, .slice aa n'.Aa.length ab, .int .i64 n'.Ad], .slice af n1 ag] K [] (fun v K' H' => v = .int .i64 r ∧ H' = []) := by
 obtain ⟨ae, ai, br⟩ := hX
 subst br
 refine Fn.enter Tryz.func229 Tryz.call229 rfl fun F => ?_
 unfold JbY at hm
 refine qaq ?_
 intro b2
 refine qaq ?_
 intro b3
 refine mkFunc ?_
 refine fa rfl (ro (ld r1 rfl rfl ?_))
 refine qal rfl ?_
 refine qag (cs rfl rfl hm ?_ ?_) <;> intro w9 hm
 refine cb hm fun al bm hm => cgx (JP bm :) ?_
 refine cs rfl rfl hm ?_ ?_ <;> intro bA hm
 exact eE hm
 refine cb hm fun bz bl hm => cgx (JP bl :) ?_
 refine cs rfl rfl hm ?_ ?_ <;> intro bw hm
 exact eE hm
 exact eE hm
 refine qag (cs rfl rfl hm ?_ ?_) <;> intro ba hm
 refine qac rfl (ct ba ?_)
 refine cb hm fun bf aZ hm => cgx (JP aZ :) ?_
 refine cs rfl rfl hm ?_ ?_ <;> intro bp hm
 exact eE hm
 exact eE hm
 refine qag (cs rfl rfl hm ?_ ?_) <;> intro ba hm
 refine cb hm fun bf aZ hm => cgx (JP aZ :) ?_
 refine cs rfl rfl hm ?_ ?_ <;> intro bp hm
 exact eE hm
 exact eE hm
 refine qag (cs rfl rfl hm ?_ ?_) <;> intro aX hm
 refine qac rfl (ct aX ?_)
 refine cb hm fun a8 aW hm => cgx (JP aW :) ?_
 refine cs rfl rfl hm ?_ ?_ <;> intro a6 hm
 exact eE hm
 exact eE hm
 refine qag (cs rfl rfl hm ?_ ?_) <;> intro aX hm
 refine qac rfl (ct aX ?_)
 refine cb hm fun a8 aW hm => cgx (JP aW :) ?_
 refine cs rfl rfl hm ?_ ?_ <;> intro a6 hm
 exact eE hm
 exact eE hm
 refine qag (cs rfl rfl hm ?_ ?_) <;> intro aX hm
 refine cb hm fun a8 aW hm => cgx (JP aW :) ?_
 refine cs rfl rfl hm ?_ ?_ <;> intro a6 hm
 exact eE hm
 exact eE hm
 refine qag (cs rfl rfl hm ?_ ?_) <;> intro bv hm
 refine fa rfl (ro (ld r1 rfl rfl ?_))
 refine qal rfl ?_
 refine qap (cs rfl rfl hm ?_ ?_) <;> intro bb hm
 refine qac rfl (ct bb ?_)
 refine qa4 ⟨⟨[], false⟩, _, [(_, _)], []⟩ (by kernel_rfl) ⟨Hp.Le.refl _, (pf rfl), ci0⟩ ?_
 refine qao m0 rfl rfl ?_
 obtain ⟨bo, aU, aS, hm⟩ := ixb hm
 refine qad rfl rfl (qdr ai.rd aS) aU (qaw rfl aU aS) (qcq ((0 : Int).toNat) 0 _ _ ai.rd rfl (mp aS) rfl rfl (qao m0 rfl rfl ?_))
 obtain ⟨bd, aV, aT, hm⟩ := ixb hm
 refine qad rfl rfl (qdr ai.rd aT) aV (qaw rfl aV aT) (qcq ((1 : Int).toNat) 0 _ _ ai.rd rfl (mp aT) rfl rfl (qag ?_))
 refine cs rfl rfl hm ?_ ?_ <;> intro bn hm
 exact eE hm
 exact eE hm
 refine qap (cs rfl rfl hm ?_ ?_) <;> intro bb hm
 refine qa4 ⟨⟨[], false⟩, _, [(_, _)], []⟩ (by kernel_rfl) ⟨Hp.Le.refl _, (pf rfl), ci0⟩ ?_
 refine qao m0 rfl rfl ?_
 obtain ⟨bo, aU, aS, hm⟩ := ixb hm
 refine qad rfl rfl (qdr ai.rd aS) aU (qaw rfl aU aS) (qcq ((0 : Int).toNat) 0 _ _ ai.rd rfl (mp aS) rfl rfl (qao m0 rfl rfl ?_))
 obtain ⟨bd, aV, aT, hm⟩ := ixb hm
 refine qad rfl rfl (qdr ai.rd aT) aV (qaw rfl aV aT) (qcq ((1 : Int).toNat) 0 _ _ ai.rd rfl (mp aT) rfl rfl (qag ?_))
 refine cs rfl rfl hm ?_ ?_ <;> intro bn hm
 exact eE hm
 exact eE hm
 refine qap (cs rfl rfl hm ?_ ?_) <;> intro bc hm
 refine qac rfl (ct bc ?_)
 refine cb hm fun bg aY hm => cgx (JP aY :) ?_
 refine cs rfl rfl hm ?_ ?_ <;> intro bj hm
 exact eE hm
 exact eE hm
 refine qap (cs rfl rfl hm ?_ ?_) <;> intro bc hm
 refine cb hm fun bg aY hm => cgx (JP aY :) ?_
 refine cs rfl rfl hm ?_ ?_ <;> intro bj hm
 exact eE hm
 exact eE hm
 refine cb hm fun bu bh hm => cgx (JP bh :) ?_
 refine cs rfl rfl hm ?_ ?_ <;> intro bt hm
 exact eE hm
 exact eE hm
 exact eE hm

def Jar (rec_ : (Jm → Ja → (List Jk) → Option (Int × Jm))) (env : (List Jk)) : List Ja → Nat → (List Int) → Int → Err → Option (Fl (Int × Jm) ((List Int) × Int × Err))
  | [], _, ac, aT, aS => some (Fl.go (ac, aT, aS))
  | e0 :: aV, i0, ac, aT, aS =>
    (rec_ (⟨aT, aS⟩ : Jm) e0 env).bind fun aU =>
    (chk (ac.length + [aU.1].length ≤ lim)).bind fun _ =>
    if aU.2.err.isSome then
    some (Fl.ret (0, aU.2))
    else
    Jar rec_ env aV (i0 + 1) (ac ++ [aU.1]) aU.2.line aU.2.err
def Jas : Nat → Jm → Ja → (List Jk) → Option (Int × Jm)
  | 0, _, _, _ => none
  | n + 1, c, n', env =>
    (chk (n'.Aa.length ≤ qbd)).bind fun _ =>
    (Jar (Jas n) env n'.Aa 0 [] c.line c.err).bind fun s0 => s0.el some fun t0 =>
    if decide (n'.Ab = 20) then
    some (2, (⟨t0.2.1, t0.2.2⟩ : Jm))
    else
    if decide (n'.Ab = 21) then
    some (1, (⟨t0.2.1, t0.2.2⟩ : Jm))
    else
    if decide (n'.Ab = 22) then
    some (3, (⟨t0.2.1, t0.2.2⟩ : Jm))
    else
    if decide (n'.Ab = 23) then
    (JbS n n'.Ac env).bind fun aS =>
    if decide (aS = 0) then
    (JW (⟨t0.2.1, t0.2.2⟩ : Jm) n' (some 8)).bind fun aW =>
    some (aS, aW)
    else
    some (aS, (⟨t0.2.1, t0.2.2⟩ : Jm))
    else
    if decide (n'.Ab = 24) then
    (Ja9 (⟨t0.2.1, t0.2.2⟩ : Jm) n' t0.1).bind fun aU =>
    some (aU.1, aU.2)
    else
    (JbY n' t0.1).bind fun aT =>
    if decide (aT = 0) then
    (JW (⟨t0.2.1, t0.2.2⟩ : Jm) n' (some 9)).bind fun aV =>
    some (aT, aV)
    else
    some (aT, (⟨t0.2.1, t0.2.2⟩ : Jm))
theorem Jdo : ∀ {n : Nat} {c : Jm} {n' : Ja} {env : (List Jk)} {b0 : Nat} {af : Option Addr} {ag : Nat} {ar : Option Addr} {au : Nat} {n2 : Nat} {K : Hp} {r : Int × Jm}
    (hm : Jas n c n' env = some r) (hX : LiC Ja.R K af ag 4 n'.Aa ∧ RdC Jk.enc K ar au 2 env ∧ n2 = env.length),
    Fn Tryz.prog 191 [.pointer (some ⟨b0, 0, none⟩), .agg #[.int .i64 n'.Ab, str n'.Ac, .slice af n'.Aa.length ag, .int .i64 n'.Ad], .slice ar n2 au] K [Cells b0 204 [.int .i64 c.line, qcr 48 c.err]] (fun v K' H' => v = .int .i64 r.1 ∧ H' = [Cells b0 204 [.int .i64 r.2.line, qcr 48 r.2.err]]) := by
 intro n
 induction n with
 | zero =>
   intro c n' env b0 af ag ar au n2 K r hm hX
   rw [Jas.eq_1] at hm; cases hm
 | succ n ih =>
   intro c n' env b0 af ag ar au n2 K r hm hX
   obtain ⟨ai, bo, bB⟩ := hX
   subst bB
   refine Fn.enter Tryz.func191 Tryz.call191 rfl fun F => ?_
   rw [Jas.eq_2] at hm
   refine qaq ?_
   intro b4
   refine fa rfl (ro (ld r0 rfl rfl (ro (qak rfl ?_))))
   obtain ⟨bA, hm⟩ := qay hm
   obtain ⟨s0, aU, hm⟩ := bnd hm
   refine qgv eN 3 1 ?_
   refine lD (σ := ((List Int) × Int × Err) × Option Addr × Nat) ([6,7,9] ++ rg 15 17) [1, 3] (fun i0 => [(15, .int .i64 (i0 : Int))]) (fun (t0, aS, aT) => [(7, .slice aS t0.1.length aT)]) (fun (t0, aS, aT) => [qat eN aS 3 1 aT t0.1, Cells b0 204 [.int .i64 t0.2.1, qcr 48 t0.2.2]]) (fun (t0, aS, aT) => (0 < t0.1.length → Has aS) ∧ True) (fun i0 (t0, aS, aT) => Jar (Jas n) env (n'.Aa.drop i0) i0 t0.1 t0.2.1 t0.2.2 = some s0) (fun (t0, aS, aT) => s0 = Fl.go t0) (fun i0 => n'.Aa.length - i0) 0 ((_, _, _), _, _) aU (And.intro qe (And.intro ?_ ?_))
   clear aU
   rintro i0 ⟨⟨ac, bp, bF⟩, bf, bd⟩ ⟨bb, _⟩ aU j0
   dsimp only at aU ⊢
   refine qac rfl ?_
   refine qae ?_ ?_ <;> intro w0
   obtain ⟨e0, aZ, bw⟩ := ltx w0
   rw [bw, Jar.eq_2] at aU
   refine qal rfl ?_
   refine RStep.ofN (qad rfl rfl (qc2 ai.rd aZ) (nn _) (qbm aZ) ?_)
   obtain ⟨bu, bC, a6, a8, ba⟩ := LiR.get ai.rd aZ
   obtain ⟨bg, bm, rfl, bj⟩ := Ja.out ba
   refine ro (qan i0 _ a6 rfl a8 rfl ?_)
   refine qah rfl fun b9 => ?_
   refine qaa r0 rfl ⟨rfl, rfl, (nl rfl), ?_⟩
   refine ro (qab r0 rfl (nl rfl) ?_)
   refine cb aU fun bh bv aU => cgx (ih bv :) ?_
   refine bsO (len := 1) (enc := eN) (l := [bh.1]) (cl := [.int .i64 bh.1]) qji rfl rfl (fun _ _ => rfl) rfl rfl rfl ?_ fun bJ => ?_
   · conv => whnf
     refine cT ?_
     first | done | rfl
   obtain ⟨bz, aU⟩ := qay aU
   refine apE rfl r3 qji (qax rfl r0 rfl (fun _ => rfl) (fun _ => rfl)) bz ?_
   intro bQ bL bK
   refine qaj (fa rfl (ro (ld r2 rfl rfl (qa7 rfl ?_))))
   refine cs rfl rfl aU ?_ ?_ <;> intro bN aU
   exact eE (er aU hm)
   refine qam (qbs aZ bA) ?_
   exact eR aU (_, (_, _, _), _, _)
   rw [lty w0, Jar.eq_1] at aU
   refine cT ?_
   exact eM aU (_, _, _)
   rintro ⟨t0, aS, aT⟩ ⟨bl, _⟩ rfl j0
   replace hm := elg hm
   refine fa rfl (ro (ld r2 rfl rfl ?_))
   refine qal rfl ?_
   refine qag (cs rfl rfl hm ?_ ?_) <;> intro bO hm
   exact eE hm
   refine qag (cs rfl rfl hm ?_ ?_) <;> intro bW hm
   exact eE hm
   refine qag (cs rfl rfl hm ?_ ?_) <;> intro bT hm
   exact eE hm
   refine qag (cs rfl rfl hm ?_ ?_) <;> intro bU hm
   refine fa rfl (ro (ld r2 rfl rfl ?_))
   refine cb hm fun bR bD hm => cgx (Jcq bD :) ?_
   refine qag (cs rfl rfl hm ?_ ?_) <;> intro bY hm
   refine ro (qab r2 rfl (nl rfl) ?_)
   refine qar rfl ?_
   refine cb hm fun bM bG hm => cgx (JU bG :) ?_
   exact eE hm
   exact eE hm
   refine qag (cs rfl rfl hm ?_ ?_) <;> intro bS hm
   refine ro (qab r2 rfl (nl rfl) ?_)
   refine cb hm fun bI bt hm => ck0 (Fn.lend Tryz.call228 (fun bc aY aX => (Jck (c := (⟨t0.2.1, t0.2.2⟩ : Jm)) (n' := n') bt ⟨(LiC.mono Ja.R_ok aY ai), aX, rfl⟩)) (by exact fun _ _ _ _ h => h)) ?_
   rintro _ _ _ ⟨_, rfl, rfl, rfl⟩
   exact eE hm
   refine ro (qab r2 rfl (nl rfl) ?_)
   refine cb hm fun bV bH hm => ck0 (Fn.lend Tryz.call229 (fun bn aV aW => (JcQ (n' := n') bH ⟨(LiC.mono Ja.R_ok aV ai), aW, rfl⟩)) (by exact fun _ _ _ _ h => h)) ?_
   rintro _ _ _ ⟨_, rfl, rfl, rfl⟩
   refine qag (cs rfl rfl hm ?_ ?_) <;> intro bP hm
   refine ro (qab r2 rfl (nl rfl) ?_)
   refine qar rfl ?_
   refine cb hm fun bX br hm => cgx (JU br :) ?_
   exact eE hm
   exact eE hm

def Jdd (n' : Ja) : Option (Int) :=
  if decide (n'.Ab = 2) then
  some 3
  else
  if decide (n'.Ab = 4) then
  some 1
  else
  if decide (n'.Ab = 5) then
  some 1
  else
  if decide (n'.Ab = 7) then
  some 1
  else
  if decide (n'.Ab = 8) then
  some 2
  else
  if decide (n'.Ab = 9) then
  some 2
  else
  some 0
theorem Jd9 {n' : Ja} {aa : Option Addr} {ab : Nat} {K : Hp} {r : Int}
    (hm : Jdd n' = some r) (ae : LiC Ja.R K aa ab 4 n'.Aa) :
    Fn Tryz.prog 192 [.agg #[.int .i64 n'.Ab, str n'.Ac, .slice aa n'.Aa.length ab, .int .i64 n'.Ad]] K [] (fun v K' H' => v = .int .i64 r ∧ H' = []) := by
 refine Fn.enter Tryz.func192 Tryz.call192 rfl fun F => ?_
 unfold Jdd at hm
 refine qaq ?_
 intro b1
 refine fa rfl (ro (ld r0 rfl rfl ?_))
 refine qal rfl ?_
 refine qag (cs rfl rfl hm ?_ ?_) <;> intro w5 hm
 exact eE hm
 refine qag (cs rfl rfl hm ?_ ?_) <;> intro w7 hm
 refine qac rfl (ct w7 ?_)
 exact eE hm
 refine qag (cs rfl rfl hm ?_ ?_) <;> intro w7 hm
 refine qac rfl (ct w7 ?_)
 exact eE hm
 refine qag (cs rfl rfl hm ?_ ?_) <;> intro w7 hm
 exact eE hm
 refine qag (cs rfl rfl hm ?_ ?_) <;> intro aS hm
 refine qac rfl (ct aS ?_)
 exact eE hm
 refine qag (cs rfl rfl hm ?_ ?_) <;> intro aS hm
 exact eE hm
 exact eE hm

def JbZ (n : Nat) (name : Str) (env : (List Jk)) : Option (Bool) :=
  (JbS n name env).bind fun x7 =>
  some (decide (x7 ≠ 0))
theorem JcR {n : Nat} {name : Str} {env : (List Jk)} {af : Option Addr} {ag : Nat} {n1 : Nat} {K : Hp} {r : Bool}
    (hm : JbZ n name env = some r) (hX : RdC Jk.enc K af ag 2 env ∧ n1 = env.length) :
    Fn Tryz.prog 194 [str name, .slice af n1 ag] K [] (fun v K' H' => v = .bool r ∧ H' = []) := by
 obtain ⟨ai, aS⟩ := hX
 subst aS
 refine Fn.enter Tryz.func194 Tryz.call194 rfl fun F => ?_
 unfold JbZ at hm
 refine cb hm fun x7 q7 hm => cgx (Jcq q7 :) ?_
 refine qa3 ?_
 exact eE hm

def JaH (env : (List Jk)) (name : Str) (t : Int) : Option ((List Jk)) :=
  (chk (InI ((env.length : Int) + 1))).bind fun _ =>
  (chk ((0 : Int) ≤ ((env.length : Int) + 1) ∧ ((env.length : Int) + 1) ≤ (lim : Int))).bind fun _ =>
  (chk (([] : List Jk).length + env.length ≤ lim)).bind fun _ =>
  (chk ((([] : List Jk) ++ env).length + [(⟨name, t⟩ : Jk)].length ≤ lim)).bind fun _ =>
  some ((([] : List Jk) ++ env) ++ [(⟨name, t⟩ : Jk)])
theorem JaT {env : (List Jk)} {name : Str} {t : Int} {aa : Option Addr} {ab : Nat} {n0 : Nat} {K : Hp} {r : (List Jk)}
    (hm : JaH env name t = some r) (hX : RdC Jk.enc K aa ab 2 env ∧ n0 = env.length) :
    Fn Tryz.prog 195 [.slice aa n0 ab, str name, .int .i64 t] K [] (fun v K' H' => ∃ ar_0 : Option Addr, ∃ cr_0 : Nat, v = .slice ar_0 r.length cr_0 ∧ (0 < r.length → Has ar_0) ∧ H' = [qat Jk.enc ar_0 288 2 cr_0 r]) := by
 obtain ⟨ae, aV⟩ := hX
 subst aV
 refine Fn.enter Tryz.func195 Tryz.call195 rfl fun F => ?_
 unfold JaH at hm
 refine ro (qak rfl ?_)
 refine ci hm fun hm => ?_
 obtain ⟨aU, hm⟩ := qay hm
 refine qnq (enc := Jk.enc) qjj rfl aU fun aZ => ?_
 obtain ⟨aT, hm⟩ := qay hm
 refine apE rfl r0 qjj (qoc rfl ae.rd rfl) aT ?_
 intro aW bb ba
 refine qaf rfl rfl (cT (cT ?_))
 refine bsO (len := 1) (enc := Jk.enc) (l := [(⟨name, t⟩ : Jk)]) (cl := [str name, .int .i64 t]) qjj rfl rfl (fun _ _ => rfl) rfl rfl rfl ?_ fun aX => ?_
 · conv => whnf
   refine cT ?_
   first | done | rfl
 obtain ⟨aS, hm⟩ := qay hm
 refine apE rfl r1 qjj (qax rfl r0 rfl (fun _ => rfl) (fun _ => rfl)) aS ?_
 intro aY a6 a8
 exact eE hm

def JbT (n' : Ja) : Option ((List Ja)) :=
  if decide (n'.Ab = 12) then
  some n'.Aa
  else
  some [n']
theorem JbM {n' : Ja} {aa : Option Addr} {ab : Nat} {K : Hp} {r : (List Ja)}
    (hm : JbT n' = some r) (ae : LiC Ja.R K aa ab 4 n'.Aa) :
    Fn Tryz.prog 196 [.agg #[.int .i64 n'.Ab, str n'.Ac, .slice aa n'.Aa.length ab, .int .i64 n'.Ad]] K [] (fun v K' H' => ∃ ar_0 : Option Addr, ∃ cr_0 : Nat, v = .slice ar_0 r.length cr_0 ∧ LiC Ja.R K' ar_0 cr_0 4 r ∧ H' = []) := by
 refine Fn.enter Tryz.func196 Tryz.call196 rfl fun F => ?_
 unfold JbT at hm
 refine qaq ?_
 intro b1
 refine fa rfl (ro (ld r0 rfl rfl (qag ?_)))
 refine cs rfl rfl hm ?_ ?_ <;> intro w5 hm
 refine fa rfl (ro (ld r0 rfl rfl ?_))
 exact eE hm
 refine ro (qab r0 rfl (nl rfl) ?_)
 refine qi3 (R := Ja.R) (len := 1) (l := [n']) (css := [[.int .i64 n'.Ab, str n'.Ac, .slice aa n'.Aa.length ab, .int .i64 n'.Ad]]) (cl := [.int .i64 n'.Ab, str n'.Ac, .slice aa n'.Aa.length ab, .int .i64 n'.Ad]) Ja.R_ok qbz rfl rfl (LR.snoc LR.nil (Ja.of (x := n') ⟨aa, ab, rfl, ae⟩)) rfl rfl rfl ?_ fun b9 => ?_
 · conv => whnf
   refine cT ?_
   first | done | rfl
 refine qp2 Ja.R_ok r0 (show LR Ja.R _ [[.int .i64 n'.Ab, str n'.Ac, .slice aa n'.Aa.length ab, .int .i64 n'.Ad]] [n'] from (LR.snoc LR.nil (Ja.of (x := n') ⟨aa, ab, rfl, ae⟩))) fun aT aS aU => ?_
 exact eE hm

def JO (rec_ : (Jm → (List Ja) → (List Jk) → Option (Jm))) (ac : (List Jk)) : List Ja → Nat → Int → Err → Option (Int × Err)
  | [], _, aS, aT => some (aS, aT)
  | e3 :: aW, i3, aS, aT =>
    (JbT e3).bind fun aV =>
    (rec_ (⟨aS, aT⟩ : Jm) aV ac).bind fun aU =>
    JO rec_ ac aW (i3 + 1) aU.line aU.err
def JA (n : Nat) (rec_ : (Jm → (List Ja) → (List Jk) → Option (Jm))) : List Ja → Nat → (List Jk) → Int → Err → Option (Fl (Jm) ((List Jk) × Int × Err))
  | [], _, ac, aX, aV => some (Fl.go (ac, aX, aV))
  | e0 :: aW, i0, ac, aX, aV =>
    if decide ((e0.Aa.length : Int) = 0) then
    JA n rec_ aW (i0 + 1) ac aX aV
    else
    (ix e0.Aa 0).bind fun a8 =>
    (Jas n (⟨aX, aV⟩ : Jm) a8 ac).bind fun aS =>
    (Jdd e0).bind fun a6 =>
    if ((aS.2.err.isNone && decide (a6 ≠ 0)) && decide (aS.1 ≠ a6)) then
    (JW aS.2 e0 (some 9)).bind fun aT =>
    if aT.err.isSome then
    some (Fl.ret aT)
    else
    if decide (e0.Ab = 3) then
    (JbZ n e0.Ac ac).bind fun aZ =>
    if aZ then
    (JW aT e0 (some 4)).bind fun aU =>
    (JaH ac e0.Ac aS.1).bind fun aY =>
    if aU.err.isSome then
    some (Fl.ret aU)
    else
    JA n rec_ aW (i0 + 1) aY aU.line aU.err
    else
    (JaH ac e0.Ac aS.1).bind fun aY =>
    if aT.err.isSome then
    some (Fl.ret aT)
    else
    JA n rec_ aW (i0 + 1) aY aT.line aT.err
    else
    if decide (e0.Ab = 2) then
    (chk (0 ≤ (1 : Int) ∧ (1 : Int) ≤ (e0.Aa.length : Int) ∧ (e0.Aa.length : Int) ≤ (e0.Aa.length : Int))).bind fun _ =>
    (chk ((subL e0.Aa (1 : Int) (e0.Aa.length : Int)).length ≤ qbd)).bind fun _ =>
    (JO rec_ ac (subL e0.Aa (1 : Int) (e0.Aa.length : Int)) 0 aT.line aT.err).bind fun t3 =>
    if t3.2.isSome then
    some (Fl.ret (⟨t3.1, t3.2⟩ : Jm))
    else
    JA n rec_ aW (i0 + 1) ac t3.1 t3.2
    else
    if aT.err.isSome then
    some (Fl.ret aT)
    else
    JA n rec_ aW (i0 + 1) ac aT.line aT.err
    else
    if aS.2.err.isSome then
    some (Fl.ret aS.2)
    else
    if decide (e0.Ab = 3) then
    (JbZ n e0.Ac ac).bind fun aZ =>
    if aZ then
    (JW aS.2 e0 (some 4)).bind fun aU =>
    (JaH ac e0.Ac aS.1).bind fun aY =>
    if aU.err.isSome then
    some (Fl.ret aU)
    else
    JA n rec_ aW (i0 + 1) aY aU.line aU.err
    else
    (JaH ac e0.Ac aS.1).bind fun aY =>
    if aS.2.err.isSome then
    some (Fl.ret aS.2)
    else
    JA n rec_ aW (i0 + 1) aY aS.2.line aS.2.err
    else
    if decide (e0.Ab = 2) then
    (chk (0 ≤ (1 : Int) ∧ (1 : Int) ≤ (e0.Aa.length : Int) ∧ (e0.Aa.length : Int) ≤ (e0.Aa.length : Int))).bind fun _ =>
    (chk ((subL e0.Aa (1 : Int) (e0.Aa.length : Int)).length ≤ qbd)).bind fun _ =>
    (JO rec_ ac (subL e0.Aa (1 : Int) (e0.Aa.length : Int)) 0 aS.2.line aS.2.err).bind fun t3 =>
    if t3.2.isSome then
    some (Fl.ret (⟨t3.1, t3.2⟩ : Jm))
    else
    JA n rec_ aW (i0 + 1) ac t3.1 t3.2
    else
    if aS.2.err.isSome then
    some (Fl.ret aS.2)
    else
    JA n rec_ aW (i0 + 1) ac aS.2.line aS.2.err
def J0 : Nat → Jm → (List Ja) → (List Jk) → Option (Jm)
  | 0, _, _, _ => none
  | n + 1, c, list, env =>
    (chk (list.length ≤ qbd)).bind fun _ =>
    (JA n (J0 n) list 0 env c.line c.err).bind fun s0 => s0.el some fun t0 =>
    some (⟨t0.2.1, t0.2.2⟩ : Jm)
theorem Jde : ∀ {n : Nat} {c : Jm} {list : (List Ja)} {env : (List Jk)} {b0 : Nat} {af : Option Addr} {ag : Nat} {n1 : Nat} {ar : Option Addr} {au : Nat} {n2 : Nat} {K : Hp} {r : Jm}
    (hm : J0 n c list env = some r) (hX : LiC Ja.R K af ag 4 list ∧ n1 = list.length ∧ RdC Jk.enc K ar au 2 env ∧ n2 = env.length),
    Fn Tryz.prog 141 [.pointer (some ⟨b0, 0, none⟩), .slice af n1 ag, .slice ar n2 au] K [Cells b0 204 [.int .i64 c.line, qcr 48 c.err]] (fun v K' H' => v = .tuple #[] ∧ H' = [Cells b0 204 [.int .i64 r.line, qcr 48 r.err]]) := by
 intro n
 induction n with
 | zero =>
   intro c list env b0 af ag n1 ar au n2 K r hm hX
   rw [J0.eq_1] at hm; cases hm
 | succ n ih =>
   intro c list env b0 af ag n1 ar au n2 K r hm hX
   obtain ⟨ai, cW, ce, cK⟩ := hX
   subst cW
   subst cK
   refine Fn.enter Tryz.func141 Tryz.call141 rfl fun F => ?_
   rw [J0.eq_2] at hm
   refine ro (qak rfl ?_)
   obtain ⟨bh, hm⟩ := qay hm
   obtain ⟨s0, aS, hm⟩ := bnd hm
   refine lC (σ := ((List Jk) × Int × Err) × Option Addr × Nat) ([2,7,8,9,11] ++ rg 14 79) [1] (fun i0 => [(14, .int .i64 (i0 : Int))]) (fun (t0, aW, aX) => [(2, .slice aW t0.1.length aX)]) (fun (t0, aW, aX) => [Cells b0 204 [.int .i64 t0.2.1, qcr 48 t0.2.2]]) (fun zz K1 => match zz with | (t0, aW, aX) => RdC Jk.enc K1 aW aX 2 t0.1 ∧ True) (fun i0 (t0, aW, aX) => JA n (J0 n) (list.drop i0) i0 t0.1 t0.2.1 t0.2.2 = some s0) (fun (t0, aW, aX) => s0 = Fl.go t0) (fun i0 => list.length - i0) 0 ((_, _, _), _, _) aS (And.intro qe (And.intro ?_ ?_))
   clear aS
   rintro i0 ⟨⟨ac, cq, cQ⟩, bZ, bW⟩ cZ cn ⟨bV, _⟩ aS j0
   dsimp only at aS ⊢
   refine qac rfl ?_
   refine qae ?_ ?_ <;> intro w0
   obtain ⟨e0, aZ, cC⟩ := ltx w0
   rw [cC, JA.eq_2] at aS
   refine qal rfl ?_
   refine RStep.ofN (qad rfl rfl (qc2 (LiC.mono Ja.R_ok cn ai).rd aZ) (nn _) (qbm aZ) ?_)
   obtain ⟨cR, cP, bI, bG, bB⟩ := LiR.get (LiC.mono Ja.R_ok cn ai).rd aZ
   obtain ⟨bY, cm, rfl, aY⟩ := Ja.out bB
   refine ro (qan i0 _ bI rfl bG rfl ?_)
   refine qah rfl fun b7 => ?_
   refine qaa r0 rfl ⟨rfl, rfl, (nl rfl), ?_⟩
   refine fa rfl (ro (ld r0 rfl rfl (ro (qak rfl (qag ?_)))))
   refine cs rfl rfl aS ?_ ?_ <;> intro c3 aS
   refine cT (qam (qbs aZ bh) ?_)
   exact eR aS (_, (_, _, _), _, _)
   refine fa rfl (ro (ld r0 rfl rfl ?_))
   obtain ⟨c5, co, bA, aS⟩ := ixb aS
   refine RStep.ofN (qad rfl rfl (qc2 aY.rd bA) co (qaw rfl co bA) ?_)
   obtain ⟨cD, cG, bM, bQ, bD⟩ := LiR.get aY.rd bA
   obtain ⟨ca, bX, rfl, cj⟩ := Ja.out bD
   refine ro (qan ((0 : Int).toNat) _ bM rfl bQ rfl ?_)
   refine cb aS fun bH cz aS => cgx (Jdo cz :) ?_
   refine ro (qab r1 rfl (nl rfl) ?_)
   refine cb aS fun bR cw aS => cgx (Jd9 cw :) ?_
   refine jR (σ := Unit) (rg 31 14) (fun _ => [(44, .bool ((bH.2.err.isNone && decide (bR ≠ 0)) && decide (bH.1 ≠ bR)))]) (fun cU => True) ?_ ?_
   refine qai rfl ?_
   refine qaj (fa rfl (ro (ld r0 rfl rfl (qc7 rfl ?_))))
   refine qae ?_ ?_ <;> intro aV
   refine ct aV (qa3 (ct aV ?_))
   refine qae ?_ ?_ <;> intro aT
   refine ct aT (ct aT (qa3 (ct aT ?_)))
   exact eMt () ⟨bq (qcw (b := decide (bH.1 ≠ bR)) (qct aV aT)), trivial⟩
   refine cf aT (cf aT (cf aT ?_))
   exact eMt () ⟨bq (((qbc (qcu aV aT))).symm), trivial⟩
   refine cf aV (cf aV (cF (cF (cF (cF ?_)))))
   exact eMt () ⟨bq (((qbc (qbc aV))).symm), trivial⟩
   rintro _ _ cy
   refine cs rfl rfl aS ?_ ?_ <;> intro c6 aS
   refine ro (qab r1 rfl (nl rfl) ?_)
   refine qar rfl ?_
   refine cb aS fun c8 cO aS => cgx (JU cO :) ?_
   refine qaj (fa rfl (ro (ld r0 rfl rfl (qa7 rfl ?_))))
   refine cs rfl rfl aS ?_ ?_ <;> intro cH aS
   exact eE (er aS hm)
   refine fa rfl (ro (ld r1 rfl rfl ?_))
   refine qal rfl ?_
   refine qag (cs rfl rfl aS ?_ ?_) <;> intro cp aS
   refine fa rfl (ro (ld r1 rfl rfl ?_))
   refine cb aS fun cM bU aS => cgx (JcR bU :) ?_
   refine cs rfl rfl aS ?_ ?_ <;> intro cJ aS
   refine ro (qab r1 rfl (nl rfl) ?_)
   refine qar rfl ?_
   refine cb aS fun cN bO aS => cgx (JU bO :) ?_
   refine fa rfl (ro (ld r1 rfl rfl ?_))
   refine cb aS fun bC bl aS => ckx (JaT bl :) ?_
   rintro _ _ _ ⟨bb, a8, rfl, bd, rfl⟩
   refine qaj (fa rfl (ro (ld r1 rfl rfl (qa7 rfl ?_))))
   refine cs rfl rfl aS ?_ ?_ <;> intro bm aS
   exact eE (er aS hm)
   refine qam (qbs aZ bh) ?_
   refine fRo r0 fun bf a6 bc => ?_
   exact eR aS (_, (_, _, _), _, _)
   refine fa rfl (ro (ld r1 rfl rfl ?_))
   refine cb aS fun bC bl aS => ckx (JaT bl :) ?_
   rintro _ _ _ ⟨bb, a8, rfl, bd, rfl⟩
   refine qaj (fa rfl (ro (ld r1 rfl rfl (qa7 rfl ?_))))
   refine cs rfl rfl aS ?_ ?_ <;> intro bm aS
   exact eE (er aS hm)
   refine qam (qbs aZ bh) ?_
   refine fRo r0 fun bf a6 bc => ?_
   exact eR aS (_, (_, _, _), _, _)
   refine qag (cs rfl rfl aS ?_ ?_) <;> intro cu aS
   refine fa rfl (ro (ld r1 rfl rfl ?_))
   obtain ⟨bp, aS⟩ := qay aS
   have ba := aY.subC bp
   refine RStep.ofN (qmy (l := e0.Aa) (lo := (some 1)) (hi := none) (lo' := (1 : Int)) (hi' := (e0.Aa.length : Int)) rfl rfl rfl rfl rfl aY.le bp (ro (qak rfl ?_)))
   obtain ⟨bK, aS⟩ := qay aS
   obtain ⟨s3, aU, aS⟩ := bnd aS
   refine lD (σ := (Int × Err)) ([11] ++ rg 77 10) [1, 2] (fun i3 => [(77, .int .i64 (i3 : Int))]) (fun _ => []) (fun t3 => [Cells b0 204 [.int .i64 t3.1, qcr 48 t3.2]]) (fun _ => True) (fun i3 t3 => JO (J0 n) ac ((subL e0.Aa (1 : Int) (e0.Aa.length : Int)).drop i3) i3 t3.1 t3.2 = some s3) (fun t3 => t3 = s3) (fun i3 => (subL e0.Aa (1 : Int) (e0.Aa.length : Int)).length - i3) 0 (_, _) aU (And.intro qe (And.intro ?_ ?_))
   clear aU
   rintro i3 ⟨bT, bJ⟩ _ aU j3
   dsimp only at aU ⊢
   refine qac rfl ?_
   refine qae ?_ ?_ <;> intro w3
   obtain ⟨e3, bg, bF⟩ := ltx w3
   rw [bF, JO.eq_2] at aU
   refine qal rfl ?_
   refine RStep.ofN (qad rfl rfl (qc2 ba.rd bg) (nn _) (qbm bg) ?_)
   obtain ⟨bN, bS, bo, bn, bj⟩ := LiR.get ba.rd bg
   obtain ⟨bw, bv, rfl, bz⟩ := Ja.out bj
   refine ro (qan i3 _ bo rfl bn rfl ?_)
   refine qah rfl fun cE => ?_
   refine qaa r0 rfl ⟨rfl, rfl, (nl rfl), ?_⟩
   refine ro (qab r0 rfl (nl rfl) ?_)
   refine cb aU fun cL bP aU => cfx (JbM bP :) ?_
   rintro _ cV _ cI ⟨bu, bt, rfl, br, rfl⟩
   refine cb aU fun cr bL aU => cgx (ih bL :) ?_
   refine qam (qbs bg bK) ?_
   exact eR aU (_, (_, _))
   rw [lty w3, JO.eq_1] at aU
   refine cT ?_
   exact eM aU _
   rintro t3 _ rfl j3
   refine qaj (fa rfl (ro (ld r0 rfl rfl (qa7 rfl ?_))))
   refine cs rfl rfl aS ?_ ?_ <;> intro bm aS
   exact eE (er aS hm)
   refine qam (qbs aZ bh) ?_
   exact eR aS (_, (_, _, _), _, _)
   refine qaj (fa rfl (ro (ld r0 rfl rfl (qa7 rfl ?_))))
   refine cs rfl rfl aS ?_ ?_ <;> intro bm aS
   exact eE (er aS hm)
   refine qam (qbs aZ bh) ?_
   exact eR aS (_, (_, _, _), _, _)
   refine qaj (fa rfl (ro (ld r0 rfl rfl (qa7 rfl ?_))))
   refine cs rfl rfl aS ?_ ?_ <;> intro cH aS
   exact eE (er aS hm)
   refine fa rfl (ro (ld r1 rfl rfl ?_))
   refine qal rfl ?_
   refine qag (cs rfl rfl aS ?_ ?_) <;> intro cp aS
   refine fa rfl (ro (ld r1 rfl rfl ?_))
   refine cb aS fun cM bU aS => cgx (JcR bU :) ?_
   refine cs rfl rfl aS ?_ ?_ <;> intro cJ aS
   refine ro (qab r1 rfl (nl rfl) ?_)
   refine qar rfl ?_
   refine cb aS fun cN bO aS => cgx (JU bO :) ?_
   refine fa rfl (ro (ld r1 rfl rfl ?_))
   refine cb aS fun bC bl aS => ckx (JaT bl :) ?_
   rintro _ _ _ ⟨bb, a8, rfl, bd, rfl⟩
   refine qaj (fa rfl (ro (ld r1 rfl rfl (qa7 rfl ?_))))
   refine cs rfl rfl aS ?_ ?_ <;> intro bm aS
   exact eE (er aS hm)
   refine qam (qbs aZ bh) ?_
   refine fRo r0 fun bf a6 bc => ?_
   exact eR aS (_, (_, _, _), _, _)
   refine fa rfl (ro (ld r1 rfl rfl ?_))
   refine cb aS fun bC bl aS => ckx (JaT bl :) ?_
   rintro _ _ _ ⟨bb, a8, rfl, bd, rfl⟩
   refine qaj (fa rfl (ro (ld r1 rfl rfl (qa7 rfl ?_))))
   refine cs rfl rfl aS ?_ ?_ <;> intro bm aS
   exact eE (er aS hm)
   refine qam (qbs aZ bh) ?_
   refine fRo r0 fun bf a6 bc => ?_
   exact eR aS (_, (_, _, _), _, _)
   refine qag (cs rfl rfl aS ?_ ?_) <;> intro cu aS
   refine fa rfl (ro (ld r1 rfl rfl ?_))
   obtain ⟨bp, aS⟩ := qay aS
   have ba := aY.subC bp
   refine RStep.ofN (qmy (l := e0.Aa) (lo := (some 1)) (hi := none) (lo' := (1 : Int)) (hi' := (e0.Aa.length : Int)) rfl rfl rfl rfl rfl aY.le bp (ro (qak rfl ?_)))
   obtain ⟨bK, aS⟩ := qay aS
   obtain ⟨s3, aU, aS⟩ := bnd aS
   refine lD (σ := (Int × Err)) ([11] ++ rg 77 10) [1, 2] (fun i3 => [(77, .int .i64 (i3 : Int))]) (fun _ => []) (fun t3 => [Cells b0 204 [.int .i64 t3.1, qcr 48 t3.2]]) (fun _ => True) (fun i3 t3 => JO (J0 n) ac ((subL e0.Aa (1 : Int) (e0.Aa.length : Int)).drop i3) i3 t3.1 t3.2 = some s3) (fun t3 => t3 = s3) (fun i3 => (subL e0.Aa (1 : Int) (e0.Aa.length : Int)).length - i3) 0 (_, _) aU (And.intro qe (And.intro ?_ ?_))
   clear aU
   rintro i3 ⟨bT, bJ⟩ _ aU j3
   dsimp only at aU ⊢
   refine qac rfl ?_
   refine qae ?_ ?_ <;> intro w3
   obtain ⟨e3, bg, bF⟩ := ltx w3
   rw [bF, JO.eq_2] at aU
   refine qal rfl ?_
   refine RStep.ofN (qad rfl rfl (qc2 ba.rd bg) (nn _) (qbm bg) ?_)
   obtain ⟨bN, bS, bo, bn, bj⟩ := LiR.get ba.rd bg
   obtain ⟨bw, bv, rfl, bz⟩ := Ja.out bj
   refine ro (qan i3 _ bo rfl bn rfl ?_)
   refine qah rfl fun cE => ?_
   refine qaa r0 rfl ⟨rfl, rfl, (nl rfl), ?_⟩
   refine ro (qab r0 rfl (nl rfl) ?_)
   refine cb aU fun cL bP aU => cfx (JbM bP :) ?_
   rintro _ cV _ cI ⟨bu, bt, rfl, br, rfl⟩
   refine cb aU fun cr bL aU => cgx (ih bL :) ?_
   refine qam (qbs bg bK) ?_
   exact eR aU (_, (_, _))
   rw [lty w3, JO.eq_1] at aU
   refine cT ?_
   exact eM aU _
   rintro t3 _ rfl j3
   refine qaj (fa rfl (ro (ld r0 rfl rfl (qa7 rfl ?_))))
   refine cs rfl rfl aS ?_ ?_ <;> intro bm aS
   exact eE (er aS hm)
   refine qam (qbs aZ bh) ?_
   exact eR aS (_, (_, _, _), _, _)
   refine qaj (fa rfl (ro (ld r0 rfl rfl (qa7 rfl ?_))))
   refine cs rfl rfl aS ?_ ?_ <;> intro bm aS
   exact eE (er aS hm)
   refine qam (qbs aZ bh) ?_
   exact eR aS (_, (_, _, _), _, _)
   rw [lty w0, JA.eq_1] at aS
   refine cT ?_
   exact eM aS (_, _, _)
   rintro ⟨t0, aW, aX⟩ c4 cY ⟨cd, _⟩ rfl j0
   replace hm := elg hm
   exact eE hm

def Jb9 (n : Nat) (program : Ja) : Option (Int × Err) :=
  (Jdc n program).bind fun x6 =>
  if (!x6) then
  some (0, (some 2))
  else
  (J0 n (⟨0, none⟩ : Jm) program.Aa []).bind fun aS =>
  some (aS.line, aS.err)
theorem JcE {n : Nat} {program : Ja} {aa : Option Addr} {ab : Nat} {K : Hp} {r : Int × Err}
    (hm : Jb9 n program = some r) (hX : LiC Ja.R K aa ab 4 program.Aa ∧ GG K) :
    Fn Tryz.prog 89 [.agg #[.int .i64 program.Ab, str program.Ac, .slice aa program.Aa.length ab, .int .i64 program.Ad]] K [] (fun v K' H' => v = .tuple #[.int .i64 r.1, qcr 48 r.2] ∧ H' = []) := by
 obtain ⟨ae, hG⟩ := hX
 refine Fn.enter Tryz.func89 Tryz.call89 rfl fun F => ?_
 unfold Jb9 at hm
 refine qaq ?_
 intro b1
 refine ro (qab r0 rfl (nl rfl) ?_)
 refine cb hm fun x6 q6 hm => cgx (Jd8 q6 :) ?_
 refine qav ?_
 refine cs rfl rfl hm ?_ ?_ <;> intro w7 hm
 refine qar rfl ?_
 exact eE hm
 refine qaf rfl rfl ?_
 refine qaq ?_
 intro aU
 refine fa rfl (ro (ld r1 rfl rfl ?_))
 refine cb hm fun aT aS hm => cgx (Jde aS :) ?_
 refine qa4 ⟨⟨[], false⟩, _, [(_, _)], []⟩ (by kernel_rfl) ⟨Hp.Le.refl _, (pf rfl), ci0⟩ ?_
 refine qaj (fa rfl (qao m0 rfl rfl (qaj (fa rfl (qao m0 rfl rfl ?_)))))
 exact eE hm

def Jj (c : Jd) (op : Int) (n' : Int) (s : Str) : Option (Int × Jd) :=
  (chk (c.code.length + [(⟨op, n', s⟩ : Jf)].length ≤ lim)).bind fun _ =>
  (chk (InI ((((c.code ++ [(⟨op, n', s⟩ : Jf)]).length) : Int) - 1))).bind fun _ =>
  some (((((c.code ++ [(⟨op, n', s⟩ : Jf)]).length) : Int) - 1), (⟨(c.code ++ [(⟨op, n', s⟩ : Jf)]), c.names, c.Ap⟩ : Jd))
theorem Jg {c : Jd} {op : Int} {n' : Int} {s : Str} {b0 : Nat} {aa : Option Addr} {ab : Nat} {ah : Option Addr} {ak : Nat} {K : Hp} {r : Int × Jd}
    (hm : Jj c op n' s = some r) (hX : (0 < c.code.length → Has aa) ∧ (0 < c.names.length → Has ah)) :
    Fn Tryz.prog 143 [.pointer (some ⟨b0, 0, none⟩), .int .i64 op, .int .i64 n', str s] K [Cells b0 209 [.slice aa c.code.length ab, .slice ah c.names.length ak, .int .i64 c.Ap], qat Jf.enc aa 135 3 ab c.code, qat Jr.enc ah 290 2 ak c.names] (fun v K' H' => ∃ ar_0 : Option Addr, ∃ cr_0 : Nat, ∃ ar_1 : Option Addr, ∃ cr_1 : Nat, v = .int .i64 r.1 ∧ (0 < r.2.code.length → Has ar_0) ∧ (0 < r.2.names.length → Has ar_1) ∧ H' = [Cells b0 209 [.slice ar_0 r.2.code.length cr_0, .slice ar_1 r.2.names.length cr_1, .int .i64 r.2.Ap], qat Jf.enc ar_0 135 3 cr_0 r.2.code, qat Jr.enc ar_1 290 2 cr_1 r.2.names]) := by
 obtain ⟨ae, aS⟩ := hX
 refine Fn.enter Tryz.func143 Tryz.call143 rfl fun F => ?_
 unfold Jj at hm
 refine qaj (fa rfl (ro (ld r0 rfl rfl (qaf rfl rfl (cT (cT (cT ?_)))))))
 refine bsO (len := 1) (enc := Jf.enc) (l := [(⟨op, n', s⟩ : Jf)]) (cl := [.int .i64 op, .int .i64 n', str s]) qn7 rfl rfl (fun _ _ => rfl) rfl rfl rfl ?_ fun aU => ?_
 · conv => whnf
   refine cT ?_
   first | done | rfl
 obtain ⟨aT, hm⟩ := qay hm
 refine apE rfl r2 qn7 (qax rfl r0 rfl (fun _ => rfl) (fun _ => rfl)) aT ?_
 intro aV aW aX
 refine qaj (fa rfl ?_)
 refine qaa r2 rfl ⟨rfl, rfl, (nl rfl), ?_⟩
 refine qaj (fa rfl (ro (ld r0 rfl rfl (ro (qak rfl ?_)))))
 refine ci hm fun hm => ?_
 exact eE hm

def Jay (c : Jd) (yes : Bool) : Option (Jd) :=
  if yes then
  (Jj c 1 0 ([] : Str)).bind fun x7 =>
  (Jj x7.2 1 0 ([] : Str)).bind fun aS =>
  (Jj aS.2 7 0 ([61, 61] : Str)).bind fun al =>
  some al.2
  else
  (Jj c 1 0 ([] : Str)).bind fun x7 =>
  (Jj x7.2 1 1 ([] : Str)).bind fun aS =>
  (Jj aS.2 7 0 ([61, 61] : Str)).bind fun al =>
  some al.2
theorem Ja2 {c : Jd} {yes : Bool} {b0 : Nat} {aa : Option Addr} {ab : Nat} {ah : Option Addr} {ak : Nat} {K : Hp} {r : Jd}
    (hm : Jay c yes = some r) (hX : (0 < c.code.length → Has aa) ∧ (0 < c.names.length → Has ah)) :
    Fn Tryz.prog 248 [.pointer (some ⟨b0, 0, none⟩), .bool yes] K [Cells b0 209 [.slice aa c.code.length ab, .slice ah c.names.length ak, .int .i64 c.Ap], qat Jf.enc aa 135 3 ab c.code, qat Jr.enc ah 290 2 ak c.names] (fun v K' H' => ∃ ar_0 : Option Addr, ∃ cr_0 : Nat, ∃ ar_1 : Option Addr, ∃ cr_1 : Nat, v = .tuple #[] ∧ (0 < r.code.length → Has ar_0) ∧ (0 < r.names.length → Has ar_1) ∧ H' = [Cells b0 209 [.slice ar_0 r.code.length cr_0, .slice ar_1 r.names.length cr_1, .int .i64 r.Ap], qat Jf.enc ar_0 135 3 cr_0 r.code, qat Jr.enc ar_1 290 2 cr_1 r.names]) := by
 obtain ⟨ae, bn⟩ := hX
 refine Fn.enter Tryz.func248 Tryz.call248 rfl fun F => ?_
 unfold Jay at hm
 refine cs rfl rfl hm ?_ ?_ <;> intro w5 hm
 refine cb hm fun x7 q7 hm => ckx (Jg q7 :) ?_
 rintro _ _ _ ⟨bj, bl, bh, bd, rfl, bg, bm, rfl⟩
 refine cb hm fun bo bc hm => ckx (Jg bc :) ?_
 rintro _ _ _ ⟨bb, aV, a8, aX, rfl, aZ, a6, rfl⟩
 refine cb hm fun al bf hm => ckx (Jg bf :) ?_
 rintro _ _ _ ⟨aW, aU, aS, aY, rfl, aT, ba, rfl⟩
 exact eE hm
 refine cb hm fun x7 q7 hm => ckx (Jg q7 :) ?_
 rintro _ _ _ ⟨bj, bl, bh, bd, rfl, bg, bm, rfl⟩
 refine cb hm fun bo bc hm => ckx (Jg bc :) ?_
 rintro _ _ _ ⟨bb, aV, a8, aX, rfl, aZ, a6, rfl⟩
 refine cb hm fun al bf hm => ckx (Jg bf :) ?_
 rintro _ _ _ ⟨aW, aU, aS, aY, rfl, aT, ba, rfl⟩
 exact eE hm

def Jao (c : Jd) (s : Str) : Nat → Int → Option (Fl (Jd) (Int))
  | 0, _ => none
  | aT + 1, ac =>
    if decide (ac ≥ 0) then
    (ix c.names ac).bind fun aS =>
    if decide (aS.name = s) then
    (ix c.names ac).bind fun aV =>
    (Jj c 3 aV.slot ([] : Str)).bind fun aU =>
    some (Fl.ret aU.2)
    else
    (chk (InI (ac - 1))).bind fun _ =>
    Jao c s aT (ac - 1)
    else
    some (Fl.go ac)
def JbL (n : Nat) (c : Jd) (s : Str) : Option (Jd) :=
  (chk (InI ((c.names.length : Int) - 1))).bind fun _ =>
  (Jao c s n ((c.names.length : Int) - 1)).bind fun s0 => s0.el some fun t0 =>
  (Jj c 5 0 s).bind fun aS =>
  some aS.2
theorem Jdf {n : Nat} {c : Jd} {s : Str} {b0 : Nat} {aa : Option Addr} {ab : Nat} {ah : Option Addr} {ak : Nat} {K : Hp} {r : Jd}
    (hm : JbL n c s = some r) (hX : (0 < c.code.length → Has aa) ∧ (0 < c.names.length → Has ah)) :
    Fn Tryz.prog 249 [.pointer (some ⟨b0, 0, none⟩), str s] K [Cells b0 209 [.slice aa c.code.length ab, .slice ah c.names.length ak, .int .i64 c.Ap], qat Jf.enc aa 135 3 ab c.code, qat Jr.enc ah 290 2 ak c.names] (fun v K' H' => ∃ ar_0 : Option Addr, ∃ cr_0 : Nat, ∃ ar_1 : Option Addr, ∃ cr_1 : Nat, v = .tuple #[] ∧ (0 < r.code.length → Has ar_0) ∧ (0 < r.names.length → Has ar_1) ∧ H' = [Cells b0 209 [.slice ar_0 r.code.length cr_0, .slice ar_1 r.names.length cr_1, .int .i64 r.Ap], qat Jf.enc ar_0 135 3 cr_0 r.code, qat Jr.enc ar_1 290 2 cr_1 r.names]) := by
 obtain ⟨ae, aT⟩ := hX
 refine Fn.enter Tryz.func249 Tryz.call249 rfl fun F => ?_
 unfold JbL at hm
 refine qaj (fa rfl (ro (ld r0 rfl rfl (ro (qak rfl ?_)))))
 refine ci hm fun hm => ?_
 obtain ⟨s0, aS, hm⟩ := bnd hm
 refine lD (σ := (Int)) ([4] ++ rg 11 24) [0, 1, 2, 3] (fun _ => []) (fun t0 => [(4, .int .i64 t0)]) (fun _ => []) (fun _ => True) (fun i0 t0 => Jao c s i0 t0 = some s0) (fun t0 => s0 = Fl.go t0) (fun i0 => i0) n _ aS (And.intro qe (And.intro ?_ ?_))
 clear aS
 rintro i0 ac _ aS j0
 conv at aS => whnf
 cases i0 with
 | zero => rw [Jao.eq_1] at aS; cases aS
 | succ i0 =>
  rw [Jao.eq_2] at aS
  refine cs rfl rfl aS ?_ ?_ <;> intro bu aS
  refine qal rfl ?_
  refine qaj (fa rfl (ro (ld r0 rfl rfl ?_)))
  obtain ⟨br, bd, aV, aS⟩ := ixb aS
  refine RStep.ofN (qad rfl rfl (qcv aT aV) bd (qaw rfl bd aV) (qba rfl (qcv aT aV) (ro (qb7 (i := (ac).toNat) (o := 0) r2 rfl aV rfl rfl (qap ?_)))))
  refine cs rfl rfl aS ?_ ?_ <;> intro bo aS
  refine qaj (fa rfl (ro (ld r0 rfl rfl ?_)))
  obtain ⟨bn, bb, aU, aS⟩ := ixb aS
  refine RStep.ofN (qad rfl rfl (qcv aT aU) bb (qaw rfl bb aU) (qba rfl (qcv aT aU) (ro (qb7 (i := (ac).toNat) (o := 1) r2 rfl aU rfl rfl ?_))))
  refine cb aS fun bp bl aS => ckx (Jg bl :) ?_
  rintro _ _ _ ⟨aY, aX, bc, a6, rfl, bj, bf, rfl⟩
  exact eE (er aS hm)
  refine ci aS fun aS => ?_
  exact eR aS (_, _)
  refine cT ?_
  exact eM aS _
 rintro t0 _ rfl j0
 replace hm := elg hm
 refine cb hm fun bt bm hm => ckx (Jg bm :) ?_
 rintro _ _ _ ⟨ba, a8, bh, aW, rfl, aZ, bg, rfl⟩
 exact eE hm

def JQ (c : Jd) (jump : Int) : Option (Jd) :=
  (ix c.code jump).bind fun aS =>
  some (⟨(c.code.set ((jump).toNat) (⟨aS.Op, (c.code.length : Int), aS.S⟩ : Jf)), c.names, c.Ap⟩ : Jd)
theorem JS {c : Jd} {jump : Int} {b0 : Nat} {aa : Option Addr} {ab : Nat} {ah : Option Addr} {ak : Nat} {K : Hp} {r : Jd}
    (hm : JQ c jump = some r) (hX : (0 < c.code.length → Has aa) ∧ (0 < c.names.length → Has ah)) :
    Fn Tryz.prog 246 [.pointer (some ⟨b0, 0, none⟩), .int .i64 jump] K [Cells b0 209 [.slice aa c.code.length ab, .slice ah c.names.length ak, .int .i64 c.Ap], qat Jf.enc aa 135 3 ab c.code, qat Jr.enc ah 290 2 ak c.names] (fun v K' H' => ∃ ar_0 : Option Addr, ∃ cr_0 : Nat, ∃ ar_1 : Option Addr, ∃ cr_1 : Nat, v = .tuple #[] ∧ (0 < r.code.length → Has ar_0) ∧ (0 < r.names.length → Has ar_1) ∧ H' = [Cells b0 209 [.slice ar_0 r.code.length cr_0, .slice ar_1 r.names.length cr_1, .int .i64 r.Ap], qat Jf.enc ar_0 135 3 cr_0 r.code, qat Jr.enc ar_1 290 2 cr_1 r.names]) := by
 obtain ⟨ae, aT⟩ := hX
 refine Fn.enter Tryz.func246 Tryz.call246 rfl fun F => ?_
 unfold JQ at hm
 refine qa4 ⟨⟨[], false⟩, _, [(_, _)], []⟩ (by kernel_rfl) ⟨Hp.Le.refl _, (pf rfl), ci0⟩ ?_
 refine qaj (fa rfl (qao m0 rfl rfl (qaj (fa rfl (qao m0 rfl rfl (qcg rfl ?_))))))
 obtain ⟨aS, aV, aU, hm⟩ := ixb hm
 refine qad rfl rfl (qcv ae aU) aV (qaw rfl aV aU) (qba rfl (qcv ae aU) ?_)
 refine qe0 (o := 1) (y := (⟨aS.Op, (c.code.length : Int), aS.S⟩ : Jf)) aS r1 rfl aU rfl (by (conv => whnf); exact ⟨rfl, rfl, (nl rfl), rfl, rfl, rfl⟩) ?_
 refine qk (sc [1] rfl) ?_
 obtain rfl := si hm
 refine qop r1 (congrArg (fun q_ : Nat => ([.slice aa q_ ab, .slice ah c.names.length ak, .int .i64 c.Ap] : List Value)) (show c.code.length = (c.code.set ((jump).toNat) (⟨aS.Op, (c.code.length : Int), aS.S⟩ : Jf)).length from ((rfl).trans List.length_set.symm))) ?_
 exact en lr ⟨aa, ab, ah, ak, rfl, (by first | simpa using ae | exact fun _ => ⟨_, _, rfl⟩), aT, rfl⟩ (pf rfl)

def Jan (aF : (Jd → Ja → Option (Jd))) (n : Nat) (c : Jd) (n' : Ja) (operator : Str) : Option (Jd) :=
  (ix n'.Aa 0).bind fun x9 =>
  (aF c x9).bind fun aT =>
  (ix n'.Aa 1).bind fun aU =>
  (aF aT aU).bind fun aV =>
  (Jj aV 7 0 operator).bind fun aS =>
  some aS.2
theorem JaI {aF : (Jd → Ja → Option (Jd))} (ihrec3_0 : ∀ {c : Jd} {n' : Ja} {b0 : Nat} {aa : Option Addr} {ab : Nat} {ah : Option Addr} {ak : Nat} {af : Option Addr} {ag : Nat} {K : Hp} {r : Jd} (hm : aF c n' = some r) (hX : (0 < c.code.length → Has aa) ∧ (0 < c.names.length → Has ah) ∧ LiC Ja.R K af ag 4 n'.Aa), Fn Tryz.prog 231 [.pointer (some ⟨b0, 0, none⟩), .agg #[.int .i64 n'.Ab, str n'.Ac, .slice af n'.Aa.length ag, .int .i64 n'.Ad]] K [Cells b0 209 [.slice aa c.code.length ab, .slice ah c.names.length ak, .int .i64 c.Ap], qat Jf.enc aa 135 3 ab c.code, qat Jr.enc ah 290 2 ak c.names] (fun v K' H' => ∃ ar_0 : Option Addr, ∃ cr_0 : Nat, ∃ ar_1 : Option Addr, ∃ cr_1 : Nat, v = .tuple #[] ∧ (0 < r.code.length → Has ar_0) ∧ (0 < r.names.length → Has ar_1) ∧ H' = [Cells b0 209 [.slice ar_0 r.code.length cr_0, .slice ar_1 r.names.length cr_1, .int .i64 r.Ap], qat Jf.enc ar_0 135 3 cr_0 r.code, qat Jr.enc ar_1 290 2 cr_1 r.names])) {n : Nat} {c : Jd} {n' : Ja} {operator : Str} {b0 : Nat} {aa : Option Addr} {ab : Nat} {ah : Option Addr} {ak : Nat} {af : Option Addr} {ag : Nat} {K : Hp} {r : Jd}
    (hm : Jan aF n c n' operator = some r) (hX : (0 < c.code.length → Has aa) ∧ (0 < c.names.length → Has ah) ∧ LiC Ja.R K af ag 4 n'.Aa) :
    Fn Tryz.prog 250 [.pointer (some ⟨b0, 0, none⟩), .agg #[.int .i64 n'.Ab, str n'.Ac, .slice af n'.Aa.length ag, .int .i64 n'.Ad], str operator] K [Cells b0 209 [.slice aa c.code.length ab, .slice ah c.names.length ak, .int .i64 c.Ap], qat Jf.enc aa 135 3 ab c.code, qat Jr.enc ah 290 2 ak c.names] (fun v K' H' => ∃ ar_0 : Option Addr, ∃ cr_0 : Nat, ∃ ar_1 : Option Addr, ∃ cr_1 : Nat, v = .tuple #[] ∧ (0 < r.code.length → Has ar_0) ∧ (0 < r.names.length → Has ar_1) ∧ H' = [Cells b0 209 [.slice ar_0 r.code.length cr_0, .slice ar_1 r.names.length cr_1, .int .i64 r.Ap], qat Jf.enc ar_0 135 3 cr_0 r.code, qat Jr.enc ar_1 290 2 cr_1 r.names]) := by
 obtain ⟨ae, bA, ai⟩ := hX
 refine Fn.enter Tryz.func250 Tryz.call250 rfl fun F => ?_
 unfold Jan at hm
 refine qaq ?_
 intro b4
 refine fa rfl (ro (ld r0 rfl rfl ?_))
 obtain ⟨x9, l9, k9, hm⟩ := ixb hm
 refine RStep.ofN (qad rfl rfl (qc2 ai.rd k9) l9 (qaw rfl l9 k9) ?_)
 obtain ⟨bH, bL, aU, aW, aY⟩ := LiR.get ai.rd k9
 obtain ⟨bC, bb, rfl, bp⟩ := Ja.out aY
 refine ro (qan ((0 : Int).toNat) _ aU rfl aW rfl ?_)
 refine cb hm fun bM bK hm => ckx (ihrec3_0 bK :) ?_
 rintro _ _ _ ⟨a6, bf, bn, bm, rfl, bt, bz, rfl⟩
 refine fa rfl (ro (ld r3 rfl rfl ?_))
 obtain ⟨bN, aZ, aT, hm⟩ := ixb hm
 refine RStep.ofN (qad rfl rfl (qc2 ai.rd aT) aZ (qaw rfl aZ aT) ?_)
 obtain ⟨bG, bI, aX, aV, aS⟩ := LiR.get ai.rd aT
 obtain ⟨bg, bh, rfl, bB⟩ := Ja.out aS
 refine ro (qan ((1 : Int).toNat) _ aX rfl aV rfl ?_)
 refine cb hm fun bP bJ hm => ckx (ihrec3_0 bJ :) ?_
 rintro _ _ _ ⟨br, bw, a8, bj, rfl, bu, bc, rfl⟩
 refine cb hm fun bO bF hm => ckx (Jg bF :) ?_
 rintro _ _ _ ⟨ba, bo, bD, bl, rfl, bv, bd, rfl⟩
 exact eE hm

def JB : Nat → Jd → Ja → Option (Jd)
  | 0, _, _ => none
  | n + 1, c, n' =>
    if decide (n'.Ab = 20) then
    (qmc n'.Ac).bind fun bj =>
    if bj.2.isSome then
    (Jj c 1 0 ([] : Str)).bind fun a6 =>
    some a6.2
    else
    (Jj c 1 bj.1 ([] : Str)).bind fun a6 =>
    some a6.2
    else
    if decide (n'.Ab = 21) then
    (Jj c 2 0 n'.Ac).bind fun bA =>
    some bA.2
    else
    if decide (n'.Ab = 22) then
    (Jay c (decide (n'.Ac = ([116, 114, 117, 101] : Str)))).bind fun br =>
    some br
    else
    if decide (n'.Ab = 23) then
    (JbL n c n'.Ac).bind fun bu =>
    some bu
    else
    if decide (n'.Ab = 24) then
    (ix n'.Aa 0).bind fun bz =>
    ((JB n) c bz).bind fun bp =>
    (Jj bp 6 0 n'.Ac).bind fun bB =>
    some bB.2
    else
    if decide (n'.Ab = 15) then
    (ix n'.Aa 0).bind fun bD =>
    ((JB n) c bD).bind fun bm =>
    (Jj bm 8 0 ([] : Str)).bind fun bl =>
    some bl.2
    else
    if decide (n'.Ab = 17) then
    (Jan (JB n) n c n' ([43] : Str)).bind fun bv =>
    some bv
    else
    if decide (n'.Ab = 18) then
    (Jan (JB n) n c n' ([45] : Str)).bind fun bt =>
    some bt
    else
    if decide (n'.Ab = 19) then
    (Jan (JB n) n c n' ([42] : Str)).bind fun bw =>
    some bw
    else
    if decide (n'.Ab = 16) then
    (Jan (JB n) n c n' n'.Ac).bind fun bo =>
    some bo
    else
    if decide (n'.Ab = 14) then
    (ix n'.Aa 0).bind fun bn =>
    ((JB n) c bn).bind fun bC =>
    (Jj bC 10 0 ([] : Str)).bind fun bh =>
    (ix n'.Aa 1).bind fun ba =>
    ((JB n) bh.2 ba).bind fun aZ =>
    (Jj aZ 9 0 ([] : Str)).bind fun aS =>
    (JQ aS.2 bh.1).bind fun bf =>
    (Jay bf false).bind fun a8 =>
    (JQ a8 aS.1).bind fun bd =>
    some bd
    else
    if decide (n'.Ab = 13) then
    (ix n'.Aa 0).bind fun bb =>
    ((JB n) c bb).bind fun aW =>
    (Jj aW 10 0 ([] : Str)).bind fun aT =>
    (Jay aT.2 true).bind fun bg =>
    (Jj bg 9 0 ([] : Str)).bind fun aU =>
    (JQ aU.2 aT.1).bind fun aY =>
    (ix n'.Aa 1).bind fun bc =>
    ((JB n) aY bc).bind fun aV =>
    (JQ aV aU.1).bind fun aX =>
    some aX
    else
    some c
theorem Jca : ∀ {n : Nat} {c : Jd} {n' : Ja} {b0 : Nat} {aa : Option Addr} {ab : Nat} {ah : Option Addr} {ak : Nat} {af : Option Addr} {ag : Nat} {K : Hp} {r : Jd}
    (hm : JB n c n' = some r) (hX : (0 < c.code.length → Has aa) ∧ (0 < c.names.length → Has ah) ∧ LiC Ja.R K af ag 4 n'.Aa),
    Fn Tryz.prog 231 [.pointer (some ⟨b0, 0, none⟩), .agg #[.int .i64 n'.Ab, str n'.Ac, .slice af n'.Aa.length ag, .int .i64 n'.Ad]] K [Cells b0 209 [.slice aa c.code.length ab, .slice ah c.names.length ak, .int .i64 c.Ap], qat Jf.enc aa 135 3 ab c.code, qat Jr.enc ah 290 2 ak c.names] (fun v K' H' => ∃ ar_0 : Option Addr, ∃ cr_0 : Nat, ∃ ar_1 : Option Addr, ∃ cr_1 : Nat, v = .tuple #[] ∧ (0 < r.code.length → Has ar_0) ∧ (0 < r.names.length → Has ar_1) ∧ H' = [Cells b0 209 [.slice ar_0 r.code.length cr_0, .slice ar_1 r.names.length cr_1, .int .i64 r.Ap], qat Jf.enc ar_0 135 3 cr_0 r.code, qat Jr.enc ar_1 290 2 cr_1 r.names]) := by
 intro n
 induction n with
 | zero =>
   intro c n' b0 aa ab ah ak af ag K r hm hX
   rw [JB.eq_1] at hm; cases hm
 | succ n ih =>
   intro c n' b0 aa ab ah ak af ag K r hm hX
   obtain ⟨ae, ey, ai⟩ := hX
   refine Fn.enter Tryz.func231 Tryz.call231 rfl fun F => ?_
   rw [JB.eq_2] at hm
   refine qaq ?_
   intro b3
   refine fa rfl (ro (ld r0 rfl rfl ?_))
   refine qal rfl ?_
   refine qag (cs rfl rfl hm ?_ ?_) <;> intro hU hm
   refine fa rfl (ro (ld r0 rfl rfl ?_))
   refine cb hm fun gJ f9 hm => cg0 (qn1 (E := 48) f9) ?_
   refine qa7 rfl ?_
   refine cs rfl rfl hm ?_ ?_ <;> intro gP hm
   refine cb hm fun fX bB hm => ckx (Jg bB :) ?_
   rintro _ _ _ ⟨ba, bf, bh, a8, rfl, bl, aV, rfl⟩
   exact eE hm
   refine cb hm fun fX bB hm => ckx (Jg bB :) ?_
   rintro _ _ _ ⟨ba, bf, bh, a8, rfl, bl, aV, rfl⟩
   exact eE hm
   refine qag (cs rfl rfl hm ?_ ?_) <;> intro gL hm
   refine fa rfl (ro (ld r0 rfl rfl ?_))
   refine cb hm fun hE gC hm => ckx (Jg gC :) ?_
   rintro _ _ _ ⟨eh, ft, fD, fq, rfl, fg, fy, rfl⟩
   exact eE hm
   refine qag (cs rfl rfl hm ?_ ?_) <;> intro gK hm
   refine fa rfl (ro (ld r0 rfl rfl (qap ?_)))
   refine cb hm fun hS gm hm => ckx (Ja2 gm :) ?_
   rintro _ _ _ ⟨fG, d4, ez, e6, rfl, dN, ew, rfl⟩
   exact eE hm
   refine qag (cs rfl rfl hm ?_ ?_) <;> intro gW hm
   refine fa rfl (ro (ld r0 rfl rfl ?_))
   refine cb hm fun gM gx hm => ckx (Jdf gx :) ?_
   rintro _ _ _ ⟨fS, fN, ep, ei, rfl, dO, eg, rfl⟩
   exact eE hm
   refine qag (cs rfl rfl hm ?_ ?_) <;> intro gY hm
   refine fa rfl (ro (ld r0 rfl rfl ?_))
   obtain ⟨gS, eY, cP, hm⟩ := ixb hm
   refine RStep.ofN (qad rfl rfl (qc2 ai.rd cP) eY (qaw rfl eY cP) ?_)
   obtain ⟨gq, gz, bu, cN, bX⟩ := LiR.get ai.rd cP
   obtain ⟨d6, dS, rfl, dY⟩ := Ja.out bX
   refine ro (qan ((0 : Int).toNat) _ bu rfl cN rfl ?_)
   refine cb hm fun gO gi hm => ckx (ih gi :) ?_
   rintro _ _ _ ⟨fM, eO, eQ, dR, rfl, fc, dX, rfl⟩
   refine fa rfl (ro (ld r3 rfl rfl ?_))
   refine cb hm fun hJ fV hm => ckx (Jg fV :) ?_
   rintro _ _ _ ⟨fR, ej, d1, fP, rfl, eJ, dZ, rfl⟩
   exact eE hm
   refine qag (cs rfl rfl hm ?_ ?_) <;> intro gN hm
   refine fa rfl (ro (ld r0 rfl rfl ?_))
   obtain ⟨hO, fJ, du, hm⟩ := ixb hm
   refine RStep.ofN (qad rfl rfl (qc2 ai.rd du) fJ (qaw rfl fJ du) ?_)
   obtain ⟨gg, gc, cU, c8, cD⟩ := LiR.get ai.rd du
   obtain ⟨e8, fO, rfl, d7⟩ := Ja.out cD
   refine ro (qan ((0 : Int).toNat) _ cU rfl c8 rfl ?_)
   refine cb hm fun gH fZ hm => ckx (ih fZ :) ?_
   rintro _ _ _ ⟨dT, fv, d8, fk, rfl, dQ, fp, rfl⟩
   refine cb hm fun hP fY hm => ckx (Jg fY :) ?_
   rintro _ _ _ ⟨e7, d3, eo, eW, rfl, fw, fb, rfl⟩
   exact eE hm
   refine qag (cs rfl rfl hm ?_ ?_) <;> intro g8 hm
   refine ro (qab r0 rfl (nl rfl) ?_)
   refine cb hm fun gT gv hm => ckx (JaI ih gv :) ?_
   rintro _ _ _ ⟨dU, fB, fC, fl, rfl, eT, d2, rfl⟩
   exact eE hm
   refine qag (cs rfl rfl hm ?_ ?_) <;> intro g7 hm
   refine ro (qab r0 rfl (nl rfl) ?_)
   refine cb hm fun gQ gy hm => ckx (JaI ih gy :) ?_
   rintro _ _ _ ⟨eC, fm, fA, fj, rfl, e5, eK, rfl⟩
   exact eE hm
   refine qag (cs rfl rfl hm ?_ ?_) <;> intro g9 hm
   refine ro (qab r0 rfl (nl rfl) ?_)
   refine cb hm fun gU gB hm => ckx (JaI ih gB :) ?_
   rintro _ _ _ ⟨d9, eX, eG, fH, rfl, ee, d5, rfl⟩
   exact eE hm
   refine qag (cs rfl rfl hm ?_ ?_) <;> intro gZ hm
   refine ro (qab r0 rfl (nl rfl) (fa rfl (ro (ld r0 rfl rfl ?_))))
   refine cb hm fun gX ge hm => ckx (JaI ih ge :) ?_
   rintro _ _ _ ⟨dW, fQ, fu, fK, rfl, eF, eL, rfl⟩
   exact eE hm
   refine qag (cs rfl rfl hm ?_ ?_) <;> intro gI hm
   refine fa rfl (ro (ld r0 rfl rfl ?_))
   obtain ⟨gR, ef, dc, hm⟩ := ixb hm
   refine RStep.ofN (qad rfl rfl (qc2 ai.rd dc) ef (qaw rfl ef dc) ?_)
   obtain ⟨gj, gF, cM, c3, cz⟩ := LiR.get ai.rd dc
   obtain ⟨eV, eZ, rfl, ed⟩ := Ja.out cz
   refine ro (qan ((0 : Int).toNat) _ cM rfl c3 rfl ?_)
   refine cb hm fun hY gb hm => ckx (ih gb :) ?_
   rintro _ _ _ ⟨dV, ff, dP, e9, rfl, dL, ek, rfl⟩
   refine cb hm fun gV gu hm => ckx (Jg gu :) ?_
   rintro _ _ _ ⟨fI, fL, eH, fT, rfl, dM, fo, rfl⟩
   refine fa rfl (ro (ld r3 rfl rfl ?_))
   obtain ⟨gr, bj, aS, hm⟩ := ixb hm
   refine RStep.ofN (qad rfl rfl (qc2 ai.rd aS) bj (qaw rfl bj aS) ?_)
   obtain ⟨fe, eA, bd, aX, bm⟩ := LiR.get ai.rd aS
   obtain ⟨cG, bO, rfl, cm⟩ := Ja.out bm
   refine ro (qan ((1 : Int).toNat) _ bd rfl aX rfl ?_)
   refine cb hm fun gp bW hm => ckx (ih bW :) ?_
   rintro _ _ _ ⟨dk, br, bH, dK, rfl, bP, dj, rfl⟩
   refine cb hm fun gd cu hm => ckx (Jg cu :) ?_
   rintro _ _ _ ⟨bC, ca, cK, dI, rfl, bJ, bp, rfl⟩
   refine cb hm fun gG cY hm => ckx (JS cY :) ?_
   rintro _ _ _ ⟨cQ, dl, bG, cd, rfl, dC, dy, rfl⟩
   refine cb hm fun ga cO hm => ckx (Ja2 cO :) ?_
   rintro _ _ _ ⟨dn, bL, cV, cL, rfl, bU, bv, rfl⟩
   refine cb hm fun gt dG hm => ckx (JS dG :) ?_
   rintro _ _ _ ⟨ce, dJ, cI, bQ, rfl, dA, cW, rfl⟩
   exact eE hm
   refine qag (cs rfl rfl hm ?_ ?_) <;> intro gh hm
   refine fa rfl (ro (ld r0 rfl rfl ?_))
   obtain ⟨gw, bg, aT, hm⟩ := ixb hm
   refine RStep.ofN (qad rfl rfl (qc2 ai.rd aT) bg (qaw rfl bg aT) ?_)
   obtain ⟨eu, eP, aZ, aY, bn⟩ := LiR.get ai.rd aT
   obtain ⟨bt, bS, rfl, cy⟩ := Ja.out bn
   refine ro (qan ((0 : Int).toNat) _ aZ rfl aY rfl ?_)
   refine cb hm fun gE db hm => ckx (ih db :) ?_
   rintro _ _ _ ⟨dH, dB, cn, bI, rfl, cj, bK, rfl⟩
   refine cb hm fun fU dD hm => ckx (Jg dD :) ?_
   rintro _ _ _ ⟨cZ, bM, cw, c6, rfl, bo, dw, rfl⟩
   refine cb hm fun gl dp hm => ckx (Ja2 dp :) ?_
   rintro _ _ _ ⟨bV, c5, co, cC, rfl, cp, bZ, rfl⟩
   refine cb hm fun gk bN hm => ckx (Jg bN :) ?_
   rintro _ _ _ ⟨dg, bD, cE, da, rfl, di, dq, rfl⟩
   refine cb hm fun gf bz hm => ckx (JS bz :) ?_
   rintro _ _ _ ⟨dE, c9, dh, de, rfl, dv, cR, rfl⟩
   refine fa rfl (ro (ld r3 rfl rfl ?_))
   obtain ⟨gD, bc, aU, hm⟩ := ixb hm
   refine RStep.ofN (qad rfl rfl (qc2 ai.rd aU) bc (qaw rfl bc aU) ?_)
   obtain ⟨fE, eD, aW, a6, bb⟩ := LiR.get ai.rd aU
   obtain ⟨cr, dm, rfl, cJ⟩ := Ja.out bb
   refine ro (qan ((1 : Int).toNat) _ aW rfl a6 rfl ?_)
   refine cb hm fun gn bR hm => ckx (ih bR :) ?_
   rintro _ _ _ ⟨bF, bY, c4, dF, rfl, bT, dt, rfl⟩
   refine cb hm fun gA bA hm => ckx (JS bA :) ?_
   rintro _ _ _ ⟨cq, cH, dx, bw, rfl, df, dz, rfl⟩
   exact eE hm
   exact eE hm

def Jat (av : (Jd → (List Ja) → Option (Jd))) : Nat → Jd → Ja → Option (Jd)
  | 0, _, _ => none
  | n + 1, c, n' =>
    (ix n'.Aa 0).bind fun x9 =>
    (JB n c x9).bind fun aZ =>
    (Jj aZ 10 0 ([] : Str)).bind fun aT =>
    (ix n'.Aa 1).bind fun ba =>
    (av aT.2 ba.Aa).bind fun aV =>
    if decide ((n'.Aa.length : Int) = 2) then
    (JQ aV aT.1).bind fun bb =>
    some bb
    else
    (Jj aV 9 0 ([] : Str)).bind fun aU =>
    (JQ aU.2 aT.1).bind fun aW =>
    (ix n'.Aa 2).bind fun bc =>
    if decide (bc.Ab = 2) then
    (ix n'.Aa 2).bind fun aX =>
    ((Jat av n) aW aX).bind fun aY =>
    (JQ aY aU.1).bind fun aS =>
    some aS
    else
    (ix n'.Aa 2).bind fun a8 =>
    (av aW a8.Aa).bind fun a6 =>
    (JQ a6 aU.1).bind fun aS =>
    some aS
theorem Jc2 {av : (Jd → (List Ja) → Option (Jd))} (ihrec4_0 : ∀ {c : Jd} {list : (List Ja)} {b0 : Nat} {aa : Option Addr} {ab : Nat} {ah : Option Addr} {ak : Nat} {af : Option Addr} {ag : Nat} {n1 : Nat} {K : Hp} {r : Jd} (hm : av c list = some r) (hX : (0 < c.code.length → Has aa) ∧ (0 < c.names.length → Has ah) ∧ LiC Ja.R K af ag 4 list ∧ n1 = list.length), Fn Tryz.prog 142 [.pointer (some ⟨b0, 0, none⟩), .slice af n1 ag] K [Cells b0 209 [.slice aa c.code.length ab, .slice ah c.names.length ak, .int .i64 c.Ap], qat Jf.enc aa 135 3 ab c.code, qat Jr.enc ah 290 2 ak c.names] (fun v K' H' => ∃ ar_0 : Option Addr, ∃ cr_0 : Nat, ∃ ar_1 : Option Addr, ∃ cr_1 : Nat, v = .tuple #[] ∧ (0 < r.code.length → Has ar_0) ∧ (0 < r.names.length → Has ar_1) ∧ H' = [Cells b0 209 [.slice ar_0 r.code.length cr_0, .slice ar_1 r.names.length cr_1, .int .i64 r.Ap], qat Jf.enc ar_0 135 3 cr_0 r.code, qat Jr.enc ar_1 290 2 cr_1 r.names])) : ∀ {n : Nat} {c : Jd} {n' : Ja} {b0 : Nat} {aa : Option Addr} {ab : Nat} {ah : Option Addr} {ak : Nat} {af : Option Addr} {ag : Nat} {K : Hp} {r : Jd}
    (hm : Jat av n c n' = some r) (hX : (0 < c.code.length → Has aa) ∧ (0 < c.names.length → Has ah) ∧ LiC Ja.R K af ag 4 n'.Aa),
    Fn Tryz.prog 230 [.pointer (some ⟨b0, 0, none⟩), .agg #[.int .i64 n'.Ab, str n'.Ac, .slice af n'.Aa.length ag, .int .i64 n'.Ad]] K [Cells b0 209 [.slice aa c.code.length ab, .slice ah c.names.length ak, .int .i64 c.Ap], qat Jf.enc aa 135 3 ab c.code, qat Jr.enc ah 290 2 ak c.names] (fun v K' H' => ∃ ar_0 : Option Addr, ∃ cr_0 : Nat, ∃ ar_1 : Option Addr, ∃ cr_1 : Nat, v = .tuple #[] ∧ (0 < r.code.length → Has ar_0) ∧ (0 < r.names.length → Has ar_1) ∧ H' = [Cells b0 209 [.slice ar_0 r.code.length cr_0, .slice ar_1 r.names.length cr_1, .int .i64 r.Ap], qat Jf.enc ar_0 135 3 cr_0 r.code, qat Jr.enc ar_1 290 2 cr_1 r.names]) := by
 intro n
 induction n with
 | zero =>
   intro c n' b0 aa ab ah ak af ag K r hm hX
   rw [Jat.eq_1] at hm; cases hm
 | succ n ih =>
   intro c n' b0 aa ab ah ak af ag K r hm hX
   obtain ⟨ae, cL, ai⟩ := hX
   refine Fn.enter Tryz.func230 Tryz.call230 rfl fun F => ?_
   rw [Jat.eq_2] at hm
   refine qaq ?_
   intro b3
   refine fa rfl (ro (ld r0 rfl rfl ?_))
   obtain ⟨x9, l9, k9, hm⟩ := ixb hm
   refine RStep.ofN (qad rfl rfl (qc2 ai.rd k9) l9 (qaw rfl l9 k9) ?_)
   obtain ⟨de, dl, bt, br, bu⟩ := LiR.get ai.rd k9
   obtain ⟨cM, bB, rfl, bM⟩ := Ja.out bu
   refine ro (qan ((0 : Int).toNat) _ bt rfl br rfl ?_)
   refine cb hm fun dI dt hm => ckx (Jca dt :) ?_
   rintro _ _ _ ⟨bw, bD, ce, bJ, rfl, cp, cr, rfl⟩
   refine cb hm fun dG di hm => ckx (Jg di :) ?_
   rintro _ _ _ ⟨c8, cu, bC, bW, rfl, c5, c4, rfl⟩
   refine fa rfl (ro (ld r3 rfl rfl ?_))
   obtain ⟨dA, cH, a6, hm⟩ := ixb hm
   refine RStep.ofN (qad rfl rfl (qc2 ai.rd a6) cH (qaw rfl cH a6) (qba rfl (qc2 ai.rd a6) ?_))
   obtain ⟨dn, dq, bl, bd, bb⟩ := LiR.get ai.rd a6
   obtain ⟨bR, cI, rfl, cW⟩ := Ja.out bb
   refine ro (qbq ((1 : Int).toNat) 2 _ _ bl rfl bd rfl rfl ?_)
   refine cb hm fun dC da hm => ckx (ihrec4_0 da :) ?_
   rintro _ _ _ ⟨cO, cd, cN, cV, rfl, cq, cR, rfl⟩
   refine fa rfl (ro (ld r3 rfl rfl (ro (qak rfl (qag ?_)))))
   refine cs rfl rfl hm ?_ ?_ <;> intro dy hm
   refine cb hm fun dH dw hm => ckx (JS dw :) ?_
   rintro _ _ _ ⟨cJ, bP, cm, bG, rfl, cj, cz, rfl⟩
   exact eE hm
   refine cb hm fun dz df hm => ckx (Jg df :) ?_
   rintro _ _ _ ⟨cw, bN, cQ, bv, rfl, bV, bA, rfl⟩
   refine cb hm fun dJ dc hm => ckx (JS dc :) ?_
   rintro _ _ _ ⟨bT, bZ, cy, bL, rfl, cZ, bS, rfl⟩
   refine fa rfl (ro (ld r3 rfl rfl ?_))
   obtain ⟨dF, cn, aZ, hm⟩ := ixb hm
   refine RStep.ofN (qad rfl rfl (qc2 ai.rd aZ) cn (qaw rfl cn aZ) (qba rfl (qc2 ai.rd aZ) ?_))
   obtain ⟨dg, dp, bm, bj, bn⟩ := LiR.get ai.rd aZ
   obtain ⟨cE, ca, rfl, bF⟩ := Ja.out bn
   refine ro (qbq ((2 : Int).toNat) 0 _ _ bm rfl bj rfl rfl (qag ?_))
   refine cs rfl rfl hm ?_ ?_ <;> intro dB hm
   refine fa rfl (ro (ld r3 rfl rfl ?_))
   obtain ⟨dx, c9, bg, hm⟩ := ixb hm
   refine RStep.ofN (qad rfl rfl (qc2 ai.rd bg) c9 (qaw rfl c9 bg) ?_)
   obtain ⟨du, dm, bo, ba, bh⟩ := LiR.get ai.rd bg
   obtain ⟨c6, cU, rfl, bH⟩ := Ja.out bh
   refine ro (qan ((2 : Int).toNat) _ bo rfl ba rfl ?_)
   refine cb hm fun dD dj hm => ckx (ih dj :) ?_
   rintro _ _ _ ⟨bU, cG, bI, cK, rfl, cC, bz, rfl⟩
   refine cb hm fun dk bf hm => ckx (JS bf :) ?_
   rintro _ _ _ ⟨aX, aU, aW, aT, rfl, aV, aS, rfl⟩
   exact eE hm
   refine fa rfl (ro (ld r3 rfl rfl ?_))
   obtain ⟨dK, cD, aY, hm⟩ := ixb hm
   refine RStep.ofN (qad rfl rfl (qc2 ai.rd aY) cD (qaw rfl cD aY) (qba rfl (qc2 ai.rd aY) ?_))
   obtain ⟨db, dh, bc, a8, bp⟩ := LiR.get ai.rd aY
   obtain ⟨co, bQ, rfl, bY⟩ := Ja.out bp
   refine ro (qbq ((2 : Int).toNat) 2 _ _ bc rfl a8 rfl rfl ?_)
   refine cb hm fun dE dv hm => ckx (ihrec4_0 dv :) ?_
   rintro _ _ _ ⟨cP, cY, c3, bO, rfl, bK, bX, rfl⟩
   refine cb hm fun dk bf hm => ckx (JS bf :) ?_
   rintro _ _ _ ⟨aX, aU, aW, aT, rfl, aV, aS, rfl⟩
   exact eE hm
