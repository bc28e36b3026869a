/- Functions of the program: mirrors, and that a call returns what the mirror says. Printed by gen.py. -/
import Derived.Test.YtiaaooopklhobaaGreatDoorG2
set_option linter.unusedVariables false
set_option linter.unusedSimpArgs false
open Go Go.SL Go.Proofs
noncomputable section
set_option maxRecDepth 1000000
set_option maxHeartbeats 8000000
def Ja4 : Nat → Ja → Option (Bool)
  | 0, _ => none
  | n + 1, n' =>
    if decide (n'.Ab = 2) then
    (if ((decide (n'.Ac ≠ ([] : Str)) || decide ((n'.Aa.length : Int) < 2)) || decide ((n'.Aa.length : Int) > 3)) then some true else (ix n'.Aa 0).bind fun aX =>
    (JL n aX).bind fun bg =>
    some (!bg)).bind fun bb =>
    (if bb then some true else (ix n'.Aa 1).bind fun bn =>
    (Jce (Ja4 n) n bn).bind fun bm =>
    some (!bm)).bind fun aY =>
    if aY then
    some false
    else
    (if decide ((n'.Aa.length : Int) = 2) then some true else (ix n'.Aa 2).bind fun bh =>
    (Jce (Ja4 n) n bh).bind fun bf =>
    some bf).bind fun aZ =>
    if aZ then
    some true
    else
    (ix n'.Aa 2).bind fun bd =>
    (if decide (bd.Ab = 2) then (ix n'.Aa 2).bind fun bj =>
    ((Ja4 n) bj).bind fun bc =>
    some bc else some false).bind fun ba =>
    some ba
    else
    if decide (n'.Ab = 6) then
    (Jbe n'.Ac).bind fun bl =>
    some (bl && decide ((n'.Aa.length : Int) = 0))
    else
    if decide (n'.Ab = 10) then
    some (decide (n'.Ac = ([] : Str)) && decide ((n'.Aa.length : Int) = 0))
    else
    if decide (n'.Ab = 11) then
    some (decide (n'.Ac = ([] : Str)) && decide ((n'.Aa.length : Int) = 0))
    else
    if decide (n'.Ab = 3) then
    (Jb9 n n'.Ac).bind fun aW =>
    if (!aW) then
    some false
    else
    (if decide ((n'.Aa.length : Int) = 1) then (ix n'.Aa 0).bind fun aS =>
    (JL n aS).bind fun aT =>
    some aT else some false).bind fun aU =>
    some aU
    else
    if decide (n'.Ab = 4) then
    if (decide (n'.Ac ≠ ([112, 97, 116, 104] : Str)) && decide (n'.Ac ≠ ([113, 117, 101, 114, 121] : Str))) then
    some false
    else
    (if decide ((n'.Aa.length : Int) = 1) then (ix n'.Aa 0).bind fun aS =>
    (JL n aS).bind fun aT =>
    some aT else some false).bind fun aU =>
    some aU
    else
    if decide (n'.Ab = 5) then
    (Jbe n'.Ac).bind fun aV =>
    if (!aV) then
    some false
    else
    (if decide ((n'.Aa.length : Int) = 1) then (ix n'.Aa 0).bind fun aS =>
    (JL n aS).bind fun aT =>
    some aT else some false).bind fun aU =>
    some aU
    else
    if decide (n'.Ab = 7) then
    if decide (n'.Ac ≠ ([] : Str)) then
    some false
    else
    (if decide ((n'.Aa.length : Int) = 1) then (ix n'.Aa 0).bind fun aS =>
    (JL n aS).bind fun aT =>
    some aT else some false).bind fun aU =>
    some aU
    else
    if decide (n'.Ab = 8) then
    if decide (n'.Ac ≠ ([] : Str)) then
    some false
    else
    (if decide ((n'.Aa.length : Int) = 1) then (ix n'.Aa 0).bind fun aS =>
    (JL n aS).bind fun aT =>
    some aT else some false).bind fun aU =>
    some aU
    else
    if decide (n'.Ab = 9) then
    if decide (n'.Ac ≠ ([] : Str)) then
    some false
    else
    (if decide ((n'.Aa.length : Int) = 1) then (ix n'.Aa 0).bind fun aS =>
    (JL n aS).bind fun aT =>
    some aT else some false).bind fun aU =>
    some aU
    else
    some false
theorem JdU : ∀ {n : Nat} {n' : Ja} {aa : Option Addr} {ab : Nat} {K : Hp} {r : Bool}
    (hm : Ja4 n n' = some r) (hX : LiC Ja.R K aa ab 4 n'.Aa ∧ GG K),
    Fn Tryz.prog 190 [.agg #[.int .i64 n'.Ab, str n'.Ac, .slice aa n'.Aa.length ab, .int .i64 n'.Ad]] K [] (fun v K' H' => v = .bool r ∧ H' = []) := by
 intro n
 induction n with
 | zero =>
   intro n' aa ab K r hm hX
   rw [Ja4.eq_1] at hm; cases hm
 | succ n ih =>
   intro n' aa ab K r hm hX
   obtain ⟨ae, hG⟩ := hX
   refine Fn.enter Tryz.func190 Tryz.call190 rfl fun F => ?_
   rw [Ja4.eq_2] at hm
   refine qar ?_
   intro b1
   refine fa rfl (ro (ld r0 rfl rfl ?_))
   refine qal rfl ?_
   refine qaf (cs rfl rfl hm ?_ ?_) <;> intro w6 hm
   refine fa rfl (ro (ld r0 rfl rfl (ro (qak rfl ?_))))
   refine qah rfl ?_
   refine fa rfl (ro (ld r0 rfl rfl (qbp ?_)))
   refine qae ?_ ?_ <;> intro bo
   refine ct bo (ct bo (cT (cT (cT ?_))))
   obtain ⟨cB, bv, hm⟩ := bnd hm
   replace bv := ift (qcj (qcj bo)) bv
   refine cT (cT (cT (cT (cT (cT (cT ?_))))))
   obtain ⟨bZ, br, hm⟩ := bnd hm
   replace br := ift (si bv).symm br
   refine cT (cT (cT (cT (cT (cT (cT (qac rfl ?_)))))))
   refine cT ?_
   replace hm := ift (si br).symm hm
   exact eE hm
   refine cf bo (cf bo ?_)
   refine qae ?_ ?_ <;> intro bp
   refine ct bp (ct bp ?_)
   obtain ⟨cB, bv, hm⟩ := bnd hm
   replace bv := ift (qcj (qgx bo bp)) bv
   refine cT (cT (cT (cT (cT (cT (cT ?_))))))
   obtain ⟨bZ, br, hm⟩ := bnd hm
   replace br := ift (si bv).symm br
   refine cT (cT (cT (cT (cT (cT (cT (qac rfl ?_)))))))
   refine cT ?_
   replace hm := ift (si br).symm hm
   exact eE hm
   refine cf bp (cf bp ?_)
   obtain ⟨cB, bv, hm⟩ := bnd hm
   refine qae ?_ ?_ <;> intro aX
   replace bv := ift (qgx (qeh bo bp) aX) bv
   refine ct aX (ct aX (ct aX (ct aX (ct aX (ct aX ?_)))))
   obtain ⟨bZ, br, hm⟩ := bnd hm
   replace br := ift (si bv).symm br
   refine cT (cT (cT (cT (cT (cT (cT (qac rfl ?_)))))))
   refine cT ?_
   replace hm := ift (si br).symm hm
   exact eE hm
   replace bv := qa7 (qeh (qeh bo bp) aX) bv
   refine fa rfl (cf aX (ro (ld r0 rfl rfl (cf aX ?_))))
   obtain ⟨dF, cO, bI, bv⟩ := ixb bv
   refine RStep.ofN (qad rfl rfl (qc0 ae.rd bI) cO (qaz rfl cO bI) (cf aX ?_))
   obtain ⟨dc, df, bR, bT, bK⟩ := LiR.get ae.rd bI
   obtain ⟨cC, cz, rfl, cM⟩ := Ja.out bK
   refine ro (qan ((0 : Int).toNat) _ bR rfl bT rfl (cf aX ?_))
   refine cb bv fun dx dm bv => cgx (JW dm :) ?_
   refine cf aX (qaw (cf aX ?_))
   obtain ⟨bZ, br, hm⟩ := bnd hm
   refine qae ?_ ?_ <;> intro aY
   replace br := ift ((si bv).symm.trans (qfh (qla aY))) br
   refine ct aY (ct aY (ct aY (ct aY (ct aY (ct aY (qac rfl (cT ?_)))))))
   replace hm := ift (si br).symm hm
   exact eE hm
   replace br := qa7 ((si bv).symm.trans (qdg (qib aY))) br
   refine fa rfl (cf aY (ro (ld r0 rfl rfl (cf aY ?_))))
   obtain ⟨dE, cI, ca, br⟩ := ixb br
   refine RStep.ofN (qad rfl rfl (qc0 ae.rd ca) cI (qaz rfl cI ca) (cf aY ?_))
   obtain ⟨cW, cR, bP, cj, ce⟩ := LiR.get ae.rd ca
   obtain ⟨cr, cG, rfl, cD⟩ := Ja.out ce
   refine ro (qan ((1 : Int).toNat) _ bP rfl cj rfl (cf aY ?_))
   refine cb br fun dv cU br => cgx (Jc1 ih cU :) ?_
   refine cf aY (qaw (cf aY (qac rfl ?_)))
   refine qae ?_ ?_ <;> intro cK
   replace hm := ift ((si br).symm.trans (qfh (qla cK))) hm
   exact eE hm
   replace hm := qa7 ((si br).symm.trans (qdg (qib cK))) hm
   refine qah rfl ?_
   refine qaf ?_
   obtain ⟨dB, bB, hm⟩ := bnd hm
   refine cS bB (fun bg bB => ?_) fun bg bB => ?_
   refine ct bg (ct bg (ct bg (ct bg (ct bg ?_))))
   replace hm := ift (si bB).symm hm
   refine cT (cT (cT (cT (cT (cT (cT (cT ?_)))))))
   refine cT ?_
   exact eE hm
   refine fa rfl (cf bg (ro (ld r0 rfl rfl (cf bg ?_))))
   obtain ⟨dH, cu, bW, bB⟩ := ixb bB
   refine RStep.ofN (qad rfl rfl (qc0 ae.rd bW) cu (qaz rfl cu bW) (cf bg ?_))
   obtain ⟨cX, dp, bV, bX, bO⟩ := LiR.get ae.rd bW
   obtain ⟨cE, cA, rfl, cy⟩ := Ja.out bO
   refine ro (qan ((2 : Int).toNat) _ bV rfl bX rfl (cf bg ?_))
   refine cb bB fun dC dh bB => cgx (Jc1 ih dh :) ?_
   refine cf bg ?_
   refine qae ?_ ?_ <;> intro aV
   replace hm := ift ((si bB).symm.trans aV) hm
   refine ct aV (ct aV (ct aV (ct aV (ct aV (ct aV (ct aV (ct aV ?_)))))))
   exact eE hm
   replace hm := qa7 ((si bB).symm.trans aV) hm
   refine fa rfl (cf aV (ro (ld r0 rfl rfl (cf aV ?_))))
   obtain ⟨dy, cP, bH, hm⟩ := ixb hm
   refine RStep.ofN (qad rfl rfl (qc0 ae.rd bH) cP (qaz rfl cP bH) (cf aV (qa8 rfl (qc0 ae.rd bH) (cf aV ?_))))
   obtain ⟨di, cZ, bY, bQ, bN⟩ := LiR.get ae.rd bH
   obtain ⟨cn, co, rfl, cH⟩ := Ja.out bN
   refine ro (qci ((2 : Int).toNat) 0 _ _ bY rfl bQ rfl rfl (cf aV (qaf (cf aV ?_))))
   obtain ⟨dw, bD, hm⟩ := bnd hm
   refine cS bD (fun bf bD => ?_) fun bf bD => ?_
   refine fa rfl (ct bf (ro (ld r0 rfl rfl (ct bf ?_))))
   obtain ⟨dt, cJ, bL, bD⟩ := ixb bD
   refine RStep.ofN (qad rfl rfl (qc0 ae.rd bL) cJ (qaz rfl cJ bL) (ct bf ?_))
   obtain ⟨dj, de, bM, bJ, bS⟩ := LiR.get ae.rd bL
   obtain ⟨cw, cL, rfl, cm⟩ := Ja.out bS
   refine ro (qan ((2 : Int).toNat) _ bM rfl bJ rfl (ct bf ?_))
   refine cb bD fun dq cQ bD => cgx (ih cQ :) ?_
   refine cf aV (ct bf (cf aV ?_))
   exact bE (si bD) (eE hm)
   refine cf bf (cf bf (cf bf (cf bf (cf aV (cf bf (cf aV ?_))))))
   exact bE (si bD) (eE hm)
   refine qaf (cs rfl rfl hm ?_ ?_) <;> intro dI hm
   refine qah rfl ?_
   refine fa rfl (ro (ld r0 rfl rfl ?_))
   refine cb hm fun dD dg hm => cg0 (JbX dg :) ?_
   refine qae ?_ ?_ <;> intro bh
   refine fa rfl (ct bh (ro (ld r0 rfl rfl (ct bh (ro (qak rfl (ct bh (qaf (ct bh ?_)))))))))
   exact bE (qcr (b := decide ((n'.Aa.length : Int) = 0)) bh) (eE hm)
   refine cf bh (cf bh (cf bh (cf bh ?_)))
   exact bE (((qa9 bh)).symm) (eE hm)
   refine qaf (cs rfl rfl hm ?_ ?_) <;> intro cN hm
   refine qac rfl (ct cN ?_)
   refine qah rfl ?_
   refine fa rfl (ro (ld r0 rfl rfl (qaq ?_)))
   refine qae ?_ ?_ <;> intro aU
   refine fa rfl (ct aU (ro (ld r0 rfl rfl (ct aU (ro (qak rfl (ct aU (qaf (ct aU ?_)))))))))
   exact bE (qcr (b := decide ((n'.Aa.length : Int) = 0)) aU) (eE hm)
   refine cf aU (cf aU (cf aU (cf aU ?_)))
   exact bE (((qa9 aU)).symm) (eE hm)
   refine qaf (cs rfl rfl hm ?_ ?_) <;> intro cN hm
   refine qah rfl ?_
   refine fa rfl (ro (ld r0 rfl rfl (qaq ?_)))
   refine qae ?_ ?_ <;> intro aU
   refine fa rfl (ct aU (ro (ld r0 rfl rfl (ct aU (ro (qak rfl (ct aU (qaf (ct aU ?_)))))))))
   exact bE (qcr (b := decide ((n'.Aa.length : Int) = 0)) aU) (eE hm)
   refine cf aU (cf aU (cf aU (cf aU ?_)))
   exact bE (((qa9 aU)).symm) (eE hm)
   refine qaf (cs rfl rfl hm ?_ ?_) <;> intro du hm
   refine fa rfl (ro (ld r0 rfl rfl ?_))
   refine cb hm fun dz dn hm => cgx (JcD dn :) ?_
   refine qaw ?_
   refine cs rfl rfl hm ?_ ?_ <;> intro dA hm
   exact eE hm
   refine qah rfl ?_
   refine fa rfl (ro (ld r0 rfl rfl (ro (qak rfl (qaf ?_)))))
   obtain ⟨bz, aT, hm⟩ := bnd hm
   refine cS aT (fun aS aT => ?_) fun aS aT => ?_
   refine fa rfl (ct aS (ro (ld r0 rfl rfl (ct aS ?_))))
   obtain ⟨bA, bc, aW, aT⟩ := ixb aT
   refine RStep.ofN (qad rfl rfl (qc0 ae.rd aW) bc (qaz rfl bc aW) (ct aS ?_))
   obtain ⟨bu, bt, aZ, ba, bb⟩ := LiR.get ae.rd aW
   obtain ⟨bn, bj, rfl, bl⟩ := Ja.out bb
   refine ro (qan ((0 : Int).toNat) _ aZ rfl ba rfl (ct aS ?_))
   refine cb aT fun bw bm aT => cgx (JW bm :) ?_
   refine ct aS ?_
   exact bE (si aT) (eE hm)
   refine cf aS (cf aS (cf aS (cf aS (cf aS ?_))))
   exact bE (si aT) (eE hm)
   refine qaf (cs rfl rfl hm ?_ ?_) <;> intro dG hm
   refine qah rfl ?_
   refine fa rfl (ro (ld r0 rfl rfl (qbp ?_)))
   refine qae ?_ ?_ <;> intro bd
   refine fa rfl (ct bd (ro (ld r0 rfl rfl (ct bd (qbp (ct bd (qac rfl ?_)))))))
   refine qae ?_ ?_ <;> intro bF
   replace hm := ift (qct bd bF) hm
   exact eE hm
   replace hm := qa7 (qcu bd bF) hm
   refine qah rfl ?_
   refine fa rfl (ro (ld r0 rfl rfl (ro (qak rfl (qaf ?_)))))
   obtain ⟨bz, aT, hm⟩ := bnd hm
   refine cS aT (fun aS aT => ?_) fun aS aT => ?_
   refine fa rfl (ct aS (ro (ld r0 rfl rfl (ct aS ?_))))
   obtain ⟨bA, bc, aW, aT⟩ := ixb aT
   refine RStep.ofN (qad rfl rfl (qc0 ae.rd aW) bc (qaz rfl bc aW) (ct aS ?_))
   obtain ⟨bu, bt, aZ, ba, bb⟩ := LiR.get ae.rd aW
   obtain ⟨bn, bj, rfl, bl⟩ := Ja.out bb
   refine ro (qan ((0 : Int).toNat) _ aZ rfl ba rfl (ct aS ?_))
   refine cb aT fun bw bm aT => cgx (JW bm :) ?_
   refine ct aS ?_
   exact bE (si aT) (eE hm)
   refine cf aS (cf aS (cf aS (cf aS (cf aS ?_))))
   exact bE (si aT) (eE hm)
   refine cf bd (cf bd (cf bd (qac rfl (cF ?_))))
   replace hm := qa7 (qa9 bd) hm
   refine qah rfl ?_
   refine fa rfl (ro (ld r0 rfl rfl (ro (qak rfl (qaf ?_)))))
   obtain ⟨bz, aT, hm⟩ := bnd hm
   refine cS aT (fun aS aT => ?_) fun aS aT => ?_
   refine fa rfl (ct aS (ro (ld r0 rfl rfl (ct aS ?_))))
   obtain ⟨bA, bc, aW, aT⟩ := ixb aT
   refine RStep.ofN (qad rfl rfl (qc0 ae.rd aW) bc (qaz rfl bc aW) (ct aS ?_))
   obtain ⟨bu, bt, aZ, ba, bb⟩ := LiR.get ae.rd aW
   obtain ⟨bn, bj, rfl, bl⟩ := Ja.out bb
   refine ro (qan ((0 : Int).toNat) _ aZ rfl ba rfl (ct aS ?_))
   refine cb aT fun bw bm aT => cgx (JW bm :) ?_
   refine ct aS ?_
   exact bE (si aT) (eE hm)
   refine cf aS (cf aS (cf aS (cf aS (cf aS ?_))))
   exact bE (si aT) (eE hm)
   refine qaf (cs rfl rfl hm ?_ ?_) <;> intro cY hm
   refine fa rfl (ro (ld r0 rfl rfl ?_))
   refine cb hm fun cV bU hm => cg0 (JbX bU :) ?_
   refine qaw ?_
   refine cs rfl rfl hm ?_ ?_ <;> intro dk hm
   exact eE hm
   refine qah rfl ?_
   refine fa rfl (ro (ld r0 rfl rfl (ro (qak rfl (qaf ?_)))))
   obtain ⟨bz, aT, hm⟩ := bnd hm
   refine cS aT (fun aS aT => ?_) fun aS aT => ?_
   refine fa rfl (ct aS (ro (ld r0 rfl rfl (ct aS ?_))))
   obtain ⟨bA, bc, aW, aT⟩ := ixb aT
   refine RStep.ofN (qad rfl rfl (qc0 ae.rd aW) bc (qaz rfl bc aW) (ct aS ?_))
   obtain ⟨bu, bt, aZ, ba, bb⟩ := LiR.get ae.rd aW
   obtain ⟨bn, bj, rfl, bl⟩ := Ja.out bb
   refine ro (qan ((0 : Int).toNat) _ aZ rfl ba rfl (ct aS ?_))
   refine cb aT fun bw bm aT => cgx (JW bm :) ?_
   refine ct aS ?_
   exact bE (si aT) (eE hm)
   refine cf aS (cf aS (cf aS (cf aS (cf aS ?_))))
   exact bE (si aT) (eE hm)
   refine qaf (cs rfl rfl hm ?_ ?_) <;> intro bC hm
   refine qac rfl (ct bC (fa rfl (ro (ld r0 rfl rfl (qbp ?_)))))
   refine cs rfl rfl hm ?_ ?_ <;> intro bG hm
   exact eE hm
   refine qah rfl ?_
   refine fa rfl (ro (ld r0 rfl rfl (ro (qak rfl (qaf ?_)))))
   obtain ⟨bz, aT, hm⟩ := bnd hm
   refine cS aT (fun aS aT => ?_) fun aS aT => ?_
   refine fa rfl (ct aS (ro (ld r0 rfl rfl (ct aS ?_))))
   obtain ⟨bA, bc, aW, aT⟩ := ixb aT
   refine RStep.ofN (qad rfl rfl (qc0 ae.rd aW) bc (qaz rfl bc aW) (ct aS ?_))
   obtain ⟨bu, bt, aZ, ba, bb⟩ := LiR.get ae.rd aW
   obtain ⟨bn, bj, rfl, bl⟩ := Ja.out bb
   refine ro (qan ((0 : Int).toNat) _ aZ rfl ba rfl (ct aS ?_))
   refine cb aT fun bw bm aT => cgx (JW bm :) ?_
   refine ct aS ?_
   exact bE (si aT) (eE hm)
   refine cf aS (cf aS (cf aS (cf aS (cf aS ?_))))
   exact bE (si aT) (eE hm)
   refine qaf (cs rfl rfl hm ?_ ?_) <;> intro bC hm
   refine qac rfl (ct bC (fa rfl (ro (ld r0 rfl rfl (qbp ?_)))))
   refine cs rfl rfl hm ?_ ?_ <;> intro bG hm
   exact eE hm
   refine qah rfl ?_
   refine fa rfl (ro (ld r0 rfl rfl (ro (qak rfl (qaf ?_)))))
   obtain ⟨bz, aT, hm⟩ := bnd hm
   refine cS aT (fun aS aT => ?_) fun aS aT => ?_
   refine fa rfl (ct aS (ro (ld r0 rfl rfl (ct aS ?_))))
   obtain ⟨bA, bc, aW, aT⟩ := ixb aT
   refine RStep.ofN (qad rfl rfl (qc0 ae.rd aW) bc (qaz rfl bc aW) (ct aS ?_))
   obtain ⟨bu, bt, aZ, ba, bb⟩ := LiR.get ae.rd aW
   obtain ⟨bn, bj, rfl, bl⟩ := Ja.out bb
   refine ro (qan ((0 : Int).toNat) _ aZ rfl ba rfl (ct aS ?_))
   refine cb aT fun bw bm aT => cgx (JW bm :) ?_
   refine ct aS ?_
   exact bE (si aT) (eE hm)
   refine cf aS (cf aS (cf aS (cf aS (cf aS ?_))))
   exact bE (si aT) (eE hm)
   refine qaf (cs rfl rfl hm ?_ ?_) <;> intro bC hm
   refine fa rfl (ro (ld r0 rfl rfl (qbp ?_)))
   refine cs rfl rfl hm ?_ ?_ <;> intro bG hm
   exact eE hm
   refine qah rfl ?_
   refine fa rfl (ro (ld r0 rfl rfl (ro (qak rfl (qaf ?_)))))
   obtain ⟨bz, aT, hm⟩ := bnd hm
   refine cS aT (fun aS aT => ?_) fun aS aT => ?_
   refine fa rfl (ct aS (ro (ld r0 rfl rfl (ct aS ?_))))
   obtain ⟨bA, bc, aW, aT⟩ := ixb aT
   refine RStep.ofN (qad rfl rfl (qc0 ae.rd aW) bc (qaz rfl bc aW) (ct aS ?_))
   obtain ⟨bu, bt, aZ, ba, bb⟩ := LiR.get ae.rd aW
   obtain ⟨bn, bj, rfl, bl⟩ := Ja.out bb
   refine ro (qan ((0 : Int).toNat) _ aZ rfl ba rfl (ct aS ?_))
   refine cb aT fun bw bm aT => cgx (JW bm :) ?_
   refine ct aS ?_
   exact bE (si aT) (eE hm)
   refine cf aS (cf aS (cf aS (cf aS (cf aS ?_))))
   exact bE (si aT) (eE hm)
   exact eE hm

def Jbw (n : Nat) : List Ja → Nat → Option (Fl (Bool) (Unit))
  | [], _ => some (Fl.go ())
  | e0 :: aS, i0 =>
    (Ja4 n e0).bind fun aT =>
    if (!aT) then
    some (Fl.ret false)
    else
    Jbw n aS (i0 + 1)
def Jc9 (n : Nat) (n' : Ja) : Option (Bool) :=
  if (decide (n'.Ab ≠ 1) || decide (n'.Ac ≠ ([] : Str))) then
  some false
  else
  (JbN n n' 512 32).bind fun aS =>
  if (!aS.1) then
  some false
  else
  (chk (n'.Aa.length ≤ qbg)).bind fun _ =>
  (Jbw n n'.Aa 0).bind fun s0 => s0.el some fun t0 =>
  some true
theorem Jd0 {n : Nat} {n' : Ja} {aa : Option Addr} {ab : Nat} {K : Hp} {r : Bool}
    (hm : Jc9 n n' = some r) (hX : LiC Ja.R K aa ab 4 n'.Aa ∧ GG K) :
    Fn Tryz.prog 140 [.agg #[.int .i64 n'.Ab, str n'.Ac, .slice aa n'.Aa.length ab, .int .i64 n'.Ad]] K [] (fun v K' H' => v = .bool r ∧ H' = []) := by
 obtain ⟨ae, hG⟩ := hX
 refine Fn.enter Tryz.func140 Tryz.call140 rfl fun F => ?_
 unfold Jc9 at hm
 refine qar ?_
 intro b1
 refine qai rfl fun b3 => ?_
 refine qaa r0 rfl ⟨rfl, rfl, (nl rfl), ?_⟩
 refine qah rfl ?_
 refine fa rfl (ro (ld r1 rfl rfl (qa6 ?_)))
 refine qae ?_ ?_ <;> intro aT
 refine ct aT (ct aT (ct aT ?_))
 replace hm := ift (qcj aT) hm
 refine cT (cT (cT (cT (qac rfl (cT ?_)))))
 exact eE hm
 refine fa rfl (cf aT (ro (ld r1 rfl rfl (cf aT (qbp (cf aT ?_))))))
 refine qae ?_ ?_ <;> intro aS
 replace hm := ift (qgx aT aS) hm
 refine ct aS (ct aS (ct aS (qac rfl (cT ?_))))
 exact eE hm
 replace hm := qa7 (qeh aT aS) hm
 refine ro (qab r1 rfl (nl rfl) (cf aS ?_))
 refine cb hm fun bm bj hm => cgx (JdZ bj :) ?_
 refine cf aS (qaw (cf aS ?_))
 refine cs rfl rfl hm ?_ ?_ <;> intro bn hm
 exact eE hm
 refine fa rfl (ro (ld r1 rfl rfl (ro (qak rfl ?_))))
 obtain ⟨bd, hm⟩ := qax hm
 obtain ⟨s0, aU, hm⟩ := bnd hm
 refine lD (σ := (Unit)) ([2,5] ++ rg 22 8) [0, 1, 2] (fun i0 => [(22, .int .i64 (i0 : Int))]) (fun _ => []) (fun _ => []) (fun _ => True) (fun i0 _ => Jbw n (n'.Aa.drop i0) i0 = some s0) (fun t0 => s0 = Fl.go t0) (fun i0 => n'.Aa.length - i0) 0 () aU (And.intro qe (And.intro ?_ ?_))
 clear aU
 rintro i0 _ _ aU j0
 conv at aU => whnf
 refine qac rfl ?_
 refine qae ?_ ?_ <;> intro w0
 obtain ⟨e0, aV, bh⟩ := ltx w0
 rw [bh, Jbw.eq_2] at aU
 refine qal rfl ?_
 refine RStep.ofN (qad rfl rfl (qc0 ae.rd aV) (nn _) (qbm aV) ?_)
 obtain ⟨bc, bf, aY, aW, aX⟩ := LiR.get ae.rd aV
 obtain ⟨aZ, bb, rfl, ba⟩ := Ja.out aX
 refine ro (qan i0 _ aY rfl aW rfl ?_)
 refine qai rfl fun b5 => ?_
 refine qaa r0 rfl ⟨rfl, rfl, (nl rfl), ?_⟩
 refine ro (qab r0 rfl (nl rfl) ?_)
 refine cb aU fun bl bg aU => cgx (JdU bg :) ?_
 refine qaw ?_
 refine cs rfl rfl aU ?_ ?_ <;> intro bo aU
 exact eE (er aU hm)
 refine qam (qbj aV bd) ?_
 exact eR aU (_, ())
 rw [lty w0, Jbw.eq_1] at aU
 refine cT ?_
 exact eM aU _
 rintro t0 _ rfl j0
 replace hm := elg hm
 exact eE hm

def Jb8 (name : Str) : Option (Bool) :=
  some (((decide (name = ([109, 101, 116, 104, 111, 100] : Str)) || decide (name = ([104, 111, 115, 116] : Str))) || decide (name = ([112, 97, 116, 104] : Str))) || decide (name = ([113, 117, 101, 114, 121] : Str)))
theorem Jdp {name : Str} {K : Hp} {r : Bool}
    (hm : Jb8 name = some r)  :
    Fn Tryz.prog 243 [str name] K [] (fun v K' H' => v = .bool r ∧ H' = []) := by
 refine Fn.enter Tryz.func243 Tryz.call243 rfl fun F => ?_
 unfold Jb8 at hm
 refine qah rfl ?_
 refine qaq ?_
 refine qae ?_ ?_ <;> intro aT
 refine ct aT (ct aT (cT (cT (cT (cT (cT (cT ?_)))))))
 exact bE (((qcj (qcj (qcj aT)))).symm) (eE hm)
 refine cf aT (qaq (cf aT ?_))
 refine qae ?_ ?_ <;> intro aU
 refine ct aU (ct aU (cT (cT (cT ?_))))
 exact bE (((qcj (qcj (qgx aT aU)))).symm) (eE hm)
 refine cf aU (qaq (cf aU ?_))
 refine qae ?_ ?_ <;> intro aS
 refine ct aS (ct aS ?_)
 exact bE (((qcj (qgx (qeh aT aU) aS))).symm) (eE hm)
 refine cf aS (qaq (cf aS ?_))
 exact bE (qg2 (b := decide (name = ([113, 117, 101, 114, 121] : Str))) (qeh (qeh aT aU) aS)) (eE hm)

def Jbf (env : (List Jk)) (name : Str) : Nat → Int → Option (Fl (Int) (Int))
  | 0, _ => none
  | aS + 1, ac =>
    if decide (ac ≥ 0) then
    (ix env ac).bind fun aU =>
    if decide (aU.Name = name) then
    (ix env ac).bind fun aT =>
    some (Fl.ret aT.Ar)
    else
    (chk (InI (ac - 1))).bind fun _ =>
    Jbf env name aS (ac - 1)
    else
    some (Fl.go ac)
def JbY (n : Nat) (name : Str) (env : (List Jk)) : Option (Int) :=
  (chk (InI ((env.length : Int) - 1))).bind fun _ =>
  (Jbf env name n ((env.length : Int) - 1)).bind fun s0 => s0.el some fun t0 =>
  (Jb8 name).bind fun aS =>
  if aS then
  some 1
  else
  some 0
theorem Jct {n : Nat} {name : Str} {env : (List Jk)} {af : Option Addr} {ag : Nat} {n1 : Nat} {K : Hp} {r : Int}
    (hm : JbY n name env = some r) (hX : RdC Jk.enc K af ag 2 env ∧ n1 = env.length) :
    Fn Tryz.prog 227 [str name, .slice af n1 ag] K [] (fun v K' H' => v = .int .i64 r ∧ H' = []) := by
 obtain ⟨ai, aY⟩ := hX
 subst aY
 refine Fn.enter Tryz.func227 Tryz.call227 rfl fun F => ?_
 unfold JbY at hm
 refine ro (qak rfl ?_)
 refine ci hm fun hm => ?_
 obtain ⟨s0, aS, hm⟩ := bnd hm
 refine lD (σ := (Int)) ([4,5] ++ rg 9 16) [0] (fun _ => []) (fun t0 => [(5, .int .i64 t0)]) (fun _ => []) (fun _ => True) (fun i0 t0 => Jbf env name i0 t0 = some s0) (fun t0 => s0 = Fl.go t0) (fun i0 => i0) n _ aS (And.intro qe (And.intro ?_ ?_))
 clear aS
 rintro i0 ac _ aS j0
 conv at aS => whnf
 cases i0 with
 | zero => rw [Jbf.eq_1] at aS; cases aS
 | succ i0 =>
  rw [Jbf.eq_2] at aS
  refine cs rfl rfl aS ?_ ?_ <;> intro bf aS
  refine qal rfl ?_
  obtain ⟨ba, aV, aU, aS⟩ := ixb aS
  refine RStep.ofN (qad rfl rfl (qfy ai.rd aU) aV (qaz rfl aV aU) (qa8 rfl (qfy ai.rd aU) (ro (qci ((ac).toNat) 0 _ _ ai.rd rfl (mp aU) rfl rfl (qaq ?_)))))
  refine cs rfl rfl aS ?_ ?_ <;> intro bc aS
  obtain ⟨aZ, aW, aT, aS⟩ := ixb aS
  refine RStep.ofN (qad rfl rfl (qfy ai.rd aT) aW (qaz rfl aW aT) (qa8 rfl (qfy ai.rd aT) (ro (qci ((ac).toNat) 1 _ _ ai.rd rfl (mp aT) rfl rfl ?_))))
  exact eE (er aS hm)
  refine ci aS fun aS => ?_
  exact eR aS (_, _)
  refine cT ?_
  exact eM aS _
 rintro t0 _ rfl j0
 replace hm := elg hm
 refine cb hm fun bb aX hm => cg0 (Jdp aX :) ?_
 refine cs rfl rfl hm ?_ ?_ <;> intro bd hm
 exact eE hm
 exact eE hm

def JT (c : Jn) (n' : Ja) (err : Err) : Option (Jn) :=
  if c.err.isNone then
  some (⟨n'.Ad, err⟩ : Jn)
  else
  some c
theorem JS {c : Jn} {n' : Ja} {err : Err} {b0 : Nat} {af : Option Addr} {ag : Nat} {K : Hp} {r : Jn}
    (hm : JT c n' err = some r) (ai : LiC Ja.R K af ag 4 n'.Aa) :
    Fn Tryz.prog 193 [.pointer (some ⟨b0, 0, none⟩), .agg #[.int .i64 n'.Ab, str n'.Ac, .slice af n'.Aa.length ag, .int .i64 n'.Ad], qcy 48 err] K [Cells b0 204 [.int .i64 c.line, qcy 48 c.err]] (fun v K' H' => v = .tuple #[] ∧ H' = [Cells b0 204 [.int .i64 r.line, qcy 48 r.err]]) := by
 refine Fn.enter Tryz.func193 Tryz.call193 rfl fun F => ?_
 unfold JT at hm
 refine qar ?_
 intro b4
 refine qag (fa rfl (ro (ld r1 rfl rfl (qew rfl ?_))))
 refine cs rfl rfl hm ?_ ?_ <;> intro aS hm
 refine fa rfl (ro (ld r0 rfl rfl (qag (fa rfl ?_))))
 refine qaa r1 rfl ⟨rfl, rfl, (nl rfl), ?_⟩
 refine qag (fa rfl ?_)
 refine qma r0 rfl rfl ?_
 exact eE hm
 exact eE hm

def JcF (name : Str) : Option (Int × Int) :=
  if decide (name = ([104, 101, 97, 100, 101, 114] : Str)) then
  some (1, 1)
  else
  if decide (name = ([97, 114, 103] : Str)) then
  some (1, 1)
  else
  if decide (name = ([108, 111, 119, 101, 114] : Str)) then
  some (1, 1)
  else
  if decide (name = ([104, 97, 115] : Str)) then
  some (1, 3)
  else
  if decide (name = ([108, 101, 110] : Str)) then
  some (1, 2)
  else
  if decide (name = ([110, 117, 109, 98, 101, 114] : Str)) then
  some (1, 2)
  else
  if decide (name = ([112, 97, 114, 116] : Str)) then
  some (2, 1)
  else
  if decide (name = ([116, 101, 120, 116] : Str)) then
  some (2, 1)
  else
  some (0, 0)
theorem JdJ {name : Str} {K : Hp} {r : Int × Int}
    (hm : JcF name = some r)  :
    Fn Tryz.prog 244 [str name] K [] (fun v K' H' => v = .tuple #[.int .i64 r.1, .int .i64 r.2] ∧ H' = []) := by
 refine Fn.enter Tryz.func244 Tryz.call244 rfl fun F => ?_
 unfold JcF at hm
 refine qal rfl ?_
 refine qaq (cs rfl rfl hm ?_ ?_) <;> intro w5 hm
 refine qac rfl (ct w5 ?_)
 exact eE hm
 refine qaq (cs rfl rfl hm ?_ ?_) <;> intro w5 hm
 refine qac rfl (ct w5 ?_)
 exact eE hm
 refine qaq (cs rfl rfl hm ?_ ?_) <;> intro w5 hm
 exact eE hm
 refine qaq (cs rfl rfl hm ?_ ?_) <;> intro w9 hm
 exact eE hm
 refine qaq (cs rfl rfl hm ?_ ?_) <;> intro aT hm
 refine qac rfl (ct aT ?_)
 exact eE hm
 refine qaq (cs rfl rfl hm ?_ ?_) <;> intro aT hm
 exact eE hm
 refine qaq (cs rfl rfl hm ?_ ?_) <;> intro aS hm
 refine qac rfl (ct aS ?_)
 exact eE hm
 refine qaq (cs rfl rfl hm ?_ ?_) <;> intro aS hm
 exact eE hm
 exact eE hm

def Jbg (c : Jn) (n' : Ja) (args : (List Int)) : Option (Int × Jn) :=
  (JcF n'.Ac).bind fun al =>
  if decide (al.2 = 0) then
  (JT c n' (some 8)).bind fun aS =>
  some (al.2, aS)
  else
  (if decide ((args.length : Int) ≠ 1) then some true else (ix args 0).bind fun aU =>
  some (decide (aU ≠ al.1))).bind fun aT =>
  if aT then
  (JT c n' (some 9)).bind fun aV =>
  some (al.2, aV)
  else
  some (al.2, c)
theorem Jcm {c : Jn} {n' : Ja} {args : (List Int)} {b0 : Nat} {af : Option Addr} {ag : Nat} {ao : Option Addr} {aq : Nat} {n2 : Nat} {K : Hp} {r : Int × Jn}
    (hm : Jbg c n' args = some r) (hX : LiC Ja.R K af ag 4 n'.Aa ∧ RdC eN K ao aq 1 args ∧ n2 = args.length) :
    Fn Tryz.prog 228 [.pointer (some ⟨b0, 0, none⟩), .agg #[.int .i64 n'.Ab, str n'.Ac, .slice af n'.Aa.length ag, .int .i64 n'.Ad], .slice ao n2 aq] K [Cells b0 204 [.int .i64 c.line, qcy 48 c.err]] (fun v K' H' => v = .int .i64 r.1 ∧ H' = [Cells b0 204 [.int .i64 r.2.line, qcy 48 r.2.err]]) := by
 obtain ⟨ai, aT, bc⟩ := hX
 subst bc
 refine Fn.enter Tryz.func228 Tryz.call228 rfl fun F => ?_
 unfold Jbg at hm
 refine qar ?_
 intro b4
 refine fa rfl (ro (ld r0 rfl rfl ?_))
 refine cb hm fun al aZ hm => cg0 (JdJ aZ :) ?_
 refine qaf (cs rfl rfl hm ?_ ?_) <;> intro bd hm
 refine ro (qab r0 rfl (nl rfl) ?_)
 refine qas rfl ?_
 refine cb hm fun bf bb hm => cgx (JS bb :) ?_
 exact eE hm
 refine qah rfl ?_
 refine ro (qak rfl (qa6 ?_))
 obtain ⟨bh, aU, hm⟩ := bnd hm
 refine cS aU (fun aS aU => ?_) fun aS aU => ?_
 refine ct aS (ct aS (ct aS (ct aS (ct aS (qac rfl (cT ?_))))))
 replace hm := ift (si aU).symm hm
 refine ro (qab r0 rfl (nl rfl) ?_)
 refine qas rfl ?_
 refine cb hm fun ba aV hm => cgx (JS aV :) ?_
 exact eE hm
 refine cf aS ?_
 obtain ⟨bg, aY, aW, aU⟩ := ixb aU
 refine RStep.ofN (qad rfl rfl (qfy aT.rd aW) aY (qaz rfl aY aW) (cf aS (ro (qci ((0 : Int).toNat) 0 _ _ aT.rd rfl (mp aW) rfl rfl (cf aS (cf aS (qa6 (cf aS (qac rfl ?_)))))))))
 refine qae ?_ ?_ <;> intro aX
 replace hm := ift ((si aU).symm.trans aX) hm
 refine ro (qab r0 rfl (nl rfl) ?_)
 refine qas rfl ?_
 refine cb hm fun ba aV hm => cgx (JS aV :) ?_
 exact eE hm
 replace hm := qa7 ((si aU).symm.trans aX) hm
 exact eE hm

def JaD (t : Int) : List Int → Nat → Option (Fl (Bool) (Unit))
  | [], _ => some (Fl.go ())
  | e0 :: aS, i0 =>
    if decide (e0 ≠ t) then
    some (Fl.ret false)
    else
    JaD t aS (i0 + 1)
def JQ (t : Int) (aM : (List Int)) : Option (Bool) :=
  (chk (aM.length ≤ qbg)).bind fun _ =>
  (JaD t aM 0).bind fun s0 => s0.el some fun t0 =>
  some true
theorem JO {t : Int} {aM : (List Int)} {b1 : Nat} {af : Option Addr} {ag : Nat} {K : Hp} {r : Bool}
    (hm : JQ t aM = some r) (ai : RdC eN K af ag 1 aM) :
    Fn Tryz.prog 245 [.int .i64 t, .pointer (some ⟨b1, 0, none⟩)] K [Cells b1 284 [.slice af aM.length ag]] (fun v K' H' => v = .bool r ∧ H' = [Cells b1 284 [.slice af aM.length ag]]) := by
 refine Fn.enter Tryz.func245 Tryz.call245 rfl fun F => ?_
 unfold JQ at hm
 refine ro (ld r0 rfl rfl (ro (qak rfl ?_)))
 obtain ⟨aU, hm⟩ := qax hm
 obtain ⟨s0, aS, hm⟩ := bnd hm
 refine lD (σ := (Unit)) ([3,5] ++ rg 8 8) [0, 1] (fun i0 => [(8, .int .i64 (i0 : Int))]) (fun _ => []) (fun _ => []) (fun _ => True) (fun i0 _ => JaD t (aM.drop i0) i0 = some s0) (fun t0 => s0 = Fl.go t0) (fun i0 => aM.length - i0) 0 () aS (And.intro qe (And.intro ?_ ?_))
 clear aS
 rintro i0 _ _ aS j0
 conv at aS => whnf
 refine qac rfl ?_
 refine qae ?_ ?_ <;> intro w0
 obtain ⟨e0, aT, aV⟩ := ltx w0
 rw [aV, JaD.eq_2] at aS
 refine qal rfl ?_
 refine RStep.ofN (qad rfl rfl (qfy ai.rd aT) (nn _) (qbm aT) (ro (qci i0 0 _ _ ai.rd rfl (mp aT) rfl rfl (qa6 ?_))))
 refine cs rfl rfl aS ?_ ?_ <;> intro aW aS
 exact eE (er aS hm)
 refine qam (qbj aT aU) ?_
 exact eR aS (_, ())
 rw [lty w0, JaD.eq_1] at aS
 refine cT ?_
 exact eM aS _
 rintro t0 _ rfl j0
 replace hm := elg hm
 exact eE hm

def Jb3 (n' : Ja) (args : (List Int)) : Option (Int) :=
  if decide (n'.Ab = 17) then
  (JQ 1 args).bind fun al =>
  if al then
  some 1
  else
  (JQ 2 args).bind fun aX =>
  if aX then
  some 2
  else
  some 0
  else
  if decide (n'.Ab = 18) then
  (JQ 2 args).bind fun aV =>
  if aV then
  some 2
  else
  some 0
  else
  if decide (n'.Ab = 19) then
  (JQ 2 args).bind fun aV =>
  if aV then
  some 2
  else
  some 0
  else
  if decide (n'.Ab = 13) then
  (JQ 3 args).bind fun aS =>
  if aS then
  some 3
  else
  some 0
  else
  if decide (n'.Ab = 14) then
  (JQ 3 args).bind fun aS =>
  if aS then
  some 3
  else
  some 0
  else
  if decide (n'.Ab = 15) then
  (JQ 3 args).bind fun aS =>
  if aS then
  some 3
  else
  some 0
  else
  if decide (n'.Ab = 16) then
  if decide (n'.Ac = ([61, 61] : Str)) then
  (ix args 0).bind fun aU =>
  (ix args 1).bind fun aT =>
  if decide (aU = aT) then
  some 3
  else
  some 0
  else
  if decide (n'.Ac = ([33, 61] : Str)) then
  (ix args 0).bind fun aU =>
  (ix args 1).bind fun aT =>
  if decide (aU = aT) then
  some 3
  else
  some 0
  else
  if decide (n'.Ac = ([60] : Str)) then
  (JQ 2 args).bind fun aW =>
  if aW then
  some 3
  else
  some 0
  else
  if decide (n'.Ac = ([60, 61] : Str)) then
  (JQ 2 args).bind fun aW =>
  if aW then
  some 3
  else
  some 0
  else
  (JQ 1 args).bind fun aY =>
  if aY then
  some 3
  else
  some 0
  else
  some 0
theorem JcS {n' : Ja} {args : (List Int)} {aa : Option Addr} {ab : Nat} {af : Option Addr} {ag : Nat} {n1 : Nat} {K : Hp} {r : Int}
    (hm : Jb3 n' args = some r) (hX : LiC Ja.R K aa ab 4 n'.Aa ∧ RdC eN K af ag 1 args ∧ n1 = args.length) :
    Fn Tryz.prog 229 [.agg #[.int .i64 n'.Ab, str n'.Ac, .slice aa n'.Aa.length ab, .int .i64 n'.Ad], .slice af n1 ag] K [] (fun v K' H' => v = .int .i64 r ∧ H' = []) := by
 obtain ⟨ae, ai, bu⟩ := hX
 subst bu
 refine Fn.enter Tryz.func229 Tryz.call229 rfl fun F => ?_
 unfold Jb3 at hm
 refine qar ?_
 intro b2
 refine qar ?_
 intro b3
 refine mkFunc ?_
 refine fa rfl (ro (ld r1 rfl rfl ?_))
 refine qal rfl ?_
 refine qaf (cs rfl rfl hm ?_ ?_) <;> intro w9 hm
 refine cb hm fun al bo hm => cgx (JO bo :) ?_
 refine cs rfl rfl hm ?_ ?_ <;> intro bC hm
 exact eE hm
 refine cb hm fun bB bn hm => cgx (JO bn :) ?_
 refine cs rfl rfl hm ?_ ?_ <;> intro bA hm
 exact eE hm
 exact eE hm
 refine qaf (cs rfl rfl hm ?_ ?_) <;> intro bc hm
 refine qac rfl (ct bc ?_)
 refine cb hm fun bh aZ hm => cgx (JO aZ :) ?_
 refine cs rfl rfl hm ?_ ?_ <;> intro bt hm
 exact eE hm
 exact eE hm
 refine qaf (cs rfl rfl hm ?_ ?_) <;> intro bc hm
 refine cb hm fun bh aZ hm => cgx (JO aZ :) ?_
 refine cs rfl rfl hm ?_ ?_ <;> intro bt hm
 exact eE hm
 exact eE hm
 refine qaf (cs rfl rfl hm ?_ ?_) <;> intro aX hm
 refine qac rfl (ct aX ?_)
 refine cb hm fun bb aW hm => cgx (JO aW :) ?_
 refine cs rfl rfl hm ?_ ?_ <;> intro ba hm
 exact eE hm
 exact eE hm
 refine qaf (cs rfl rfl hm ?_ ?_) <;> intro aX hm
 refine qac rfl (ct aX ?_)
 refine cb hm fun bb aW hm => cgx (JO aW :) ?_
 refine cs rfl rfl hm ?_ ?_ <;> intro ba hm
 exact eE hm
 exact eE hm
 refine qaf (cs rfl rfl hm ?_ ?_) <;> intro aX hm
 refine cb hm fun bb aW hm => cgx (JO aW :) ?_
 refine cs rfl rfl hm ?_ ?_ <;> intro ba hm
 exact eE hm
 exact eE hm
 refine qaf (cs rfl rfl hm ?_ ?_) <;> intro bz hm
 refine fa rfl (ro (ld r1 rfl rfl ?_))
 refine qal rfl ?_
 refine qaq (cs rfl rfl hm ?_ ?_) <;> intro bd hm
 refine qac rfl (ct bd ?_)
 refine qa3 ⟨⟨[], false⟩, _, [(_, _)], []⟩ (by kernel_rfl) ⟨Hp.Le.refl _, (pf rfl), ci0⟩ ?_
 refine qap m0 rfl rfl ?_
 obtain ⟨br, aU, aS, hm⟩ := ixb hm
 refine qad rfl rfl (qfy ai.rd aS) aU (qaz rfl aU aS) (qet ((0 : Int).toNat) 0 _ _ ai.rd rfl (mp aS) rfl rfl (qap m0 rfl rfl ?_))
 obtain ⟨bg, aV, aT, hm⟩ := ixb hm
 refine qad rfl rfl (qfy ai.rd aT) aV (qaz rfl aV aT) (qet ((1 : Int).toNat) 0 _ _ ai.rd rfl (mp aT) rfl rfl (qaf ?_))
 refine cs rfl rfl hm ?_ ?_ <;> intro bp hm
 exact eE hm
 exact eE hm
 refine qaq (cs rfl rfl hm ?_ ?_) <;> intro bd hm
 refine qa3 ⟨⟨[], false⟩, _, [(_, _)], []⟩ (by kernel_rfl) ⟨Hp.Le.refl _, (pf rfl), ci0⟩ ?_
 refine qap m0 rfl rfl ?_
 obtain ⟨br, aU, aS, hm⟩ := ixb hm
 refine qad rfl rfl (qfy ai.rd aS) aU (qaz rfl aU aS) (qet ((0 : Int).toNat) 0 _ _ ai.rd rfl (mp aS) rfl rfl (qap m0 rfl rfl ?_))
 obtain ⟨bg, aV, aT, hm⟩ := ixb hm
 refine qad rfl rfl (qfy ai.rd aT) aV (qaz rfl aV aT) (qet ((1 : Int).toNat) 0 _ _ ai.rd rfl (mp aT) rfl rfl (qaf ?_))
 refine cs rfl rfl hm ?_ ?_ <;> intro bp hm
 exact eE hm
 exact eE hm
 refine qaq (cs rfl rfl hm ?_ ?_) <;> intro bf hm
 refine qac rfl (ct bf ?_)
 refine cb hm fun bj aY hm => cgx (JO aY :) ?_
 refine cs rfl rfl hm ?_ ?_ <;> intro bm hm
 exact eE hm
 exact eE hm
 refine qaq (cs rfl rfl hm ?_ ?_) <;> intro bf hm
 refine cb hm fun bj aY hm => cgx (JO aY :) ?_
 refine cs rfl rfl hm ?_ ?_ <;> intro bm hm
 exact eE hm
 exact eE hm
 refine cb hm fun bw bl hm => cgx (JO bl :) ?_
 refine cs rfl rfl hm ?_ ?_ <;> intro bv hm
 exact eE hm
 exact eE hm
 exact eE hm

def Jan (rec_ : (Jn → Ja → (List Jk) → Option (Int × Jn))) (env : (List Jk)) : List Ja → Nat → (List Int) → Int → Err → Option (Fl (Int × Jn) ((List Int) × Int × Err))
  | [], _, ac, aT, aS => some (Fl.go (ac, aT, aS))
  | e0 :: aV, i0, ac, aT, aS =>
    (rec_ (⟨aT, aS⟩ : Jn) e0 env).bind fun aU =>
    (chk (ac.length + [aU.1].length ≤ lim)).bind fun _ =>
    if aU.2.err.isSome then
    some (Fl.ret (0, aU.2))
    else
    Jan rec_ env aV (i0 + 1) (ac ++ [aU.1]) aU.2.line aU.2.err
def Jao : Nat → Jn → Ja → (List Jk) → Option (Int × Jn)
  | 0, _, _, _ => none
  | n + 1, c, n', env =>
    (chk (n'.Aa.length ≤ qbg)).bind fun _ =>
    (Jan (Jao n) env n'.Aa 0 [] c.line c.err).bind fun s0 => s0.el some fun t0 =>
    if decide (n'.Ab = 20) then
    some (2, (⟨t0.2.1, t0.2.2⟩ : Jn))
    else
    if decide (n'.Ab = 21) then
    some (1, (⟨t0.2.1, t0.2.2⟩ : Jn))
    else
    if decide (n'.Ab = 22) then
    some (3, (⟨t0.2.1, t0.2.2⟩ : Jn))
    else
    if decide (n'.Ab = 23) then
    (JbY n n'.Ac env).bind fun aS =>
    if decide (aS = 0) then
    (JT (⟨t0.2.1, t0.2.2⟩ : Jn) n' (some 8)).bind fun aW =>
    some (aS, aW)
    else
    some (aS, (⟨t0.2.1, t0.2.2⟩ : Jn))
    else
    if decide (n'.Ab = 24) then
    (Jbg (⟨t0.2.1, t0.2.2⟩ : Jn) n' t0.1).bind fun aU =>
    some (aU.1, aU.2)
    else
    (Jb3 n' t0.1).bind fun aT =>
    if decide (aT = 0) then
    (JT (⟨t0.2.1, t0.2.2⟩ : Jn) n' (some 9)).bind fun aV =>
    some (aT, aV)
    else
    some (aT, (⟨t0.2.1, t0.2.2⟩ : Jn))
theorem Jdl : ∀ {n : Nat} {c : Jn} {n' : Ja} {env : (List Jk)} {b0 : Nat} {af : Option Addr} {ag : Nat} {ao : Option Addr} {aq : Nat} {n2 : Nat} {K : Hp} {r : Int × Jn}
    (hm : Jao n c n' env = some r) (hX : LiC Ja.R K af ag 4 n'.Aa ∧ RdC Jk.enc K ao aq 2 env ∧ n2 = env.length),
    Fn Tryz.prog 191 [.pointer (some ⟨b0, 0, none⟩), .agg #[.int .i64 n'.Ab, str n'.Ac, .slice af n'.Aa.length ag, .int .i64 n'.Ad], .slice ao n2 aq] K [Cells b0 204 [.int .i64 c.line, qcy 48 c.err]] (fun v K' H' => v = .int .i64 r.1 ∧ H' = [Cells b0 204 [.int .i64 r.2.line, qcy 48 r.2.err]]) := by
 intro n
 induction n with
 | zero =>
   intro c n' env b0 af ag ao aq n2 K r hm hX
   rw [Jao.eq_1] at hm; cases hm
 | succ n ih =>
   intro c n' env b0 af ag ao aq n2 K r hm hX
   obtain ⟨ai, br, bD⟩ := hX
   subst bD
   refine Fn.enter Tryz.func191 Tryz.call191 rfl fun F => ?_
   rw [Jao.eq_2] at hm
   refine qar ?_
   intro b4
   refine fa rfl (ro (ld r0 rfl rfl (ro (qak rfl ?_))))
   obtain ⟨bC, hm⟩ := qax hm
   obtain ⟨s0, aU, hm⟩ := bnd hm
   refine qgy eN 3 1 ?_
   refine lD (σ := ((List Int) × Int × Err) × Option Addr × Nat) ([6,7,9] ++ rg 15 17) [1, 3] (fun i0 => [(15, .int .i64 (i0 : Int))]) (fun (t0, aS, aT) => [(7, .slice aS t0.1.length aT)]) (fun (t0, aS, aT) => [qau eN aS 3 1 aT t0.1, Cells b0 204 [.int .i64 t0.2.1, qcy 48 t0.2.2]]) (fun (t0, aS, aT) => (0 < t0.1.length → Has aS) ∧ True) (fun i0 (t0, aS, aT) => Jan (Jao n) env (n'.Aa.drop i0) i0 t0.1 t0.2.1 t0.2.2 = some s0) (fun (t0, aS, aT) => s0 = Fl.go t0) (fun i0 => n'.Aa.length - i0) 0 ((_, _, _), _, _) aU (And.intro qe (And.intro ?_ ?_))
   clear aU
   rintro i0 ⟨⟨ac, bt, bH⟩, bh, bg⟩ ⟨bd, _⟩ aU j0
   dsimp only at aU ⊢
   refine qac rfl ?_
   refine qae ?_ ?_ <;> intro w0
   obtain ⟨e0, aZ, bA⟩ := ltx w0
   rw [bA, Jan.eq_2] at aU
   refine qal rfl ?_
   refine RStep.ofN (qad rfl rfl (qc0 ai.rd aZ) (nn _) (qbm aZ) ?_)
   obtain ⟨bw, bF, ba, bb, bc⟩ := LiR.get ai.rd aZ
   obtain ⟨bj, bo, rfl, bm⟩ := Ja.out bc
   refine ro (qan i0 _ ba rfl bb rfl ?_)
   refine qai rfl fun b9 => ?_
   refine qaa r0 rfl ⟨rfl, rfl, (nl rfl), ?_⟩
   refine ro (qab r0 rfl (nl rfl) ?_)
   refine cb aU fun bl bz aU => cgx (ih bz :) ?_
   refine bsO (len := 1) (enc := eN) (l := [bl.1]) (cl := [.int .i64 bl.1]) qj9 rfl rfl (fun _ _ => rfl) rfl rfl rfl ?_ fun bL => ?_
   · conv => whnf
     refine cT ?_
     first | done | rfl
   obtain ⟨bB, aU⟩ := qax aU
   refine apE rfl r3 qj9 (qat rfl r0 rfl (fun _ => rfl) (fun _ => rfl)) bB ?_
   intro bS bO bN
   refine qag (fa rfl (ro (ld r2 rfl rfl (qa5 rfl ?_))))
   refine cs rfl rfl aU ?_ ?_ <;> intro bP aU
   exact eE (er aU hm)
   refine qam (qbj aZ bC) ?_
   exact eR aU (_, (_, _, _), _, _)
   rw [lty w0, Jan.eq_1] at aU
   refine cT ?_
   exact eM aU (_, _, _)
   rintro ⟨t0, aS, aT⟩ ⟨bn, _⟩ rfl j0
   replace hm := elg hm
   refine fa rfl (ro (ld r2 rfl rfl ?_))
   refine qal rfl ?_
   refine qaf (cs rfl rfl hm ?_ ?_) <;> intro bQ hm
   exact eE hm
   refine qaf (cs rfl rfl hm ?_ ?_) <;> intro bY hm
   exact eE hm
   refine qaf (cs rfl rfl hm ?_ ?_) <;> intro bV hm
   exact eE hm
   refine qaf (cs rfl rfl hm ?_ ?_) <;> intro bW hm
   refine fa rfl (ro (ld r2 rfl rfl ?_))
   refine cb hm fun bT bG hm => cgx (Jct bG :) ?_
   refine qaf (cs rfl rfl hm ?_ ?_) <;> intro ca hm
   refine ro (qab r2 rfl (nl rfl) ?_)
   refine qas rfl ?_
   refine cb hm fun bM bI hm => cgx (JS bI :) ?_
   exact eE hm
   exact eE hm
   refine qaf (cs rfl rfl hm ?_ ?_) <;> intro bU hm
   refine ro (qab r2 rfl (nl rfl) ?_)
   refine cb hm fun bK bv hm => ck0 (Fn.lend Tryz.call228 (fun bf aY aX => (Jcm (c := (⟨t0.2.1, t0.2.2⟩ : Jn)) (n' := n') bv ⟨(LiC.mono Ja.R_ok aY ai), aX, rfl⟩)) (by exact fun _ _ _ _ h => h)) ?_
   rintro _ _ _ ⟨_, rfl, rfl, rfl⟩
   exact eE hm
   refine ro (qab r2 rfl (nl rfl) ?_)
   refine cb hm fun bX bJ hm => ck0 (Fn.lend Tryz.call229 (fun bp aV aW => (JcS (n' := n') bJ ⟨(LiC.mono Ja.R_ok aV ai), aW, rfl⟩)) (by exact fun _ _ _ _ h => h)) ?_
   rintro _ _ _ ⟨_, rfl, rfl, rfl⟩
   refine qaf (cs rfl rfl hm ?_ ?_) <;> intro bR hm
   refine ro (qab r2 rfl (nl rfl) ?_)
   refine qas rfl ?_
   refine cb hm fun bZ bu hm => cgx (JS bu :) ?_
   exact eE hm
   exact eE hm

def Jda (n' : Ja) : Option (Int) :=
  if decide (n'.Ab = 2) then
  some 3
  else
  if decide (n'.Ab = 4) then
  some 1
  else
  if decide (n'.Ab = 5) then
  some 1
  else
  if decide (n'.Ab = 7) then
  some 1
  else
  if decide (n'.Ab = 8) then
  some 2
  else
  if decide (n'.Ab = 9) then
  some 2
  else
  some 0
theorem Jd1 {n' : Ja} {aa : Option Addr} {ab : Nat} {K : Hp} {r : Int}
    (hm : Jda n' = some r) (ae : LiC Ja.R K aa ab 4 n'.Aa) :
    Fn Tryz.prog 192 [.agg #[.int .i64 n'.Ab, str n'.Ac, .slice aa n'.Aa.length ab, .int .i64 n'.Ad]] K [] (fun v K' H' => v = .int .i64 r ∧ H' = []) := by
 refine Fn.enter Tryz.func192 Tryz.call192 rfl fun F => ?_
 unfold Jda at hm
 refine qar ?_
 intro b1
 refine fa rfl (ro (ld r0 rfl rfl ?_))
 refine qal rfl ?_
 refine qaf (cs rfl rfl hm ?_ ?_) <;> intro w5 hm
 exact eE hm
 refine qaf (cs rfl rfl hm ?_ ?_) <;> intro w7 hm
 refine qac rfl (ct w7 ?_)
 exact eE hm
 refine qaf (cs rfl rfl hm ?_ ?_) <;> intro w7 hm
 refine qac rfl (ct w7 ?_)
 exact eE hm
 refine qaf (cs rfl rfl hm ?_ ?_) <;> intro w7 hm
 exact eE hm
 refine qaf (cs rfl rfl hm ?_ ?_) <;> intro aS hm
 refine qac rfl (ct aS ?_)
 exact eE hm
 refine qaf (cs rfl rfl hm ?_ ?_) <;> intro aS hm
 exact eE hm
 exact eE hm

def Jb4 (n : Nat) (name : Str) (env : (List Jk)) : Option (Bool) :=
  (JbY n name env).bind fun x7 =>
  some (decide (x7 ≠ 0))
theorem JcT {n : Nat} {name : Str} {env : (List Jk)} {af : Option Addr} {ag : Nat} {n1 : Nat} {K : Hp} {r : Bool}
    (hm : Jb4 n name env = some r) (hX : RdC Jk.enc K af ag 2 env ∧ n1 = env.length) :
    Fn Tryz.prog 194 [str name, .slice af n1 ag] K [] (fun v K' H' => v = .bool r ∧ H' = []) := by
 obtain ⟨ai, aS⟩ := hX
 subst aS
 refine Fn.enter Tryz.func194 Tryz.call194 rfl fun F => ?_
 unfold Jb4 at hm
 refine cb hm fun x7 q7 hm => cgx (Jct q7 :) ?_
 refine qa6 ?_
 exact eE hm

def JaH (env : (List Jk)) (name : Str) (t : Int) : Option ((List Jk)) :=
  (chk (InI ((env.length : Int) + 1))).bind fun _ =>
  (chk ((0 : Int) ≤ ((env.length : Int) + 1) ∧ ((env.length : Int) + 1) ≤ (lim : Int))).bind fun _ =>
  (chk (([] : List Jk).length + env.length ≤ lim)).bind fun _ =>
  (chk ((([] : List Jk) ++ env).length + [(⟨name, t⟩ : Jk)].length ≤ lim)).bind fun _ =>
  some ((([] : List Jk) ++ env) ++ [(⟨name, t⟩ : Jk)])
theorem JaU {env : (List Jk)} {name : Str} {t : Int} {aa : Option Addr} {ab : Nat} {n0 : Nat} {K : Hp} {r : (List Jk)}
    (hm : JaH env name t = some r) (hX : RdC Jk.enc K aa ab 2 env ∧ n0 = env.length) :
    Fn Tryz.prog 195 [.slice aa n0 ab, str name, .int .i64 t] K [] (fun v K' H' => ∃ ar_0 : Option Addr, ∃ cr_0 : Nat, v = .slice ar_0 r.length cr_0 ∧ (0 < r.length → Has ar_0) ∧ H' = [qau Jk.enc ar_0 288 2 cr_0 r]) := by
 obtain ⟨ae, aV⟩ := hX
 subst aV
 refine Fn.enter Tryz.func195 Tryz.call195 rfl fun F => ?_
 unfold JaH at hm
 refine ro (qak rfl ?_)
 refine ci hm fun hm => ?_
 obtain ⟨aU, hm⟩ := qax hm
 refine qpm (enc := Jk.enc) qka rfl aU fun aZ => ?_
 obtain ⟨aT, hm⟩ := qax hm
 refine apE rfl r0 qka (qqc rfl ae.rd rfl) aT ?_
 intro aW bd bc
 refine qaj rfl rfl (cT (cT ?_))
 refine bsO (len := 1) (enc := Jk.enc) (l := [(⟨name, t⟩ : Jk)]) (cl := [str name, .int .i64 t]) qka rfl rfl (fun _ _ => rfl) rfl rfl rfl ?_ fun aX => ?_
 · conv => whnf
   refine cT ?_
   first | done | rfl
 obtain ⟨aS, hm⟩ := qax hm
 refine apE rfl r1 qka (qat rfl r0 rfl (fun _ => rfl) (fun _ => rfl)) aS ?_
 intro aY ba bb
 exact eE hm

def JbZ (n' : Ja) : Option ((List Ja)) :=
  if decide (n'.Ab = 12) then
  some n'.Aa
  else
  some [n']
theorem JbU {n' : Ja} {aa : Option Addr} {ab : Nat} {K : Hp} {r : (List Ja)}
    (hm : JbZ n' = some r) (ae : LiC Ja.R K aa ab 4 n'.Aa) :
    Fn Tryz.prog 196 [.agg #[.int .i64 n'.Ab, str n'.Ac, .slice aa n'.Aa.length ab, .int .i64 n'.Ad]] K [] (fun v K' H' => ∃ ar_0 : Option Addr, ∃ cr_0 : Nat, v = .slice ar_0 r.length cr_0 ∧ LiC Ja.R K' ar_0 cr_0 4 r ∧ H' = []) := by
 refine Fn.enter Tryz.func196 Tryz.call196 rfl fun F => ?_
 unfold JbZ at hm
 refine qar ?_
 intro b1
 refine fa rfl (ro (ld r0 rfl rfl (qaf ?_)))
 refine cs rfl rfl hm ?_ ?_ <;> intro w5 hm
 refine fa rfl (ro (ld r0 rfl rfl ?_))
 exact eE hm
 refine ro (qab r0 rfl (nl rfl) ?_)
 refine qji (R := Ja.R) (len := 1) (l := [n']) (css := [[.int .i64 n'.Ab, str n'.Ac, .slice aa n'.Aa.length ab, .int .i64 n'.Ad]]) (cl := [.int .i64 n'.Ab, str n'.Ac, .slice aa n'.Aa.length ab, .int .i64 n'.Ad]) Ja.R_ok qbz rfl rfl (LR.snoc LR.nil (Ja.of (x := n') ⟨aa, ab, rfl, ae⟩)) rfl rfl rfl ?_ fun b9 => ?_
 · conv => whnf
   refine cT ?_
   first | done | rfl
 refine qsg Ja.R_ok r0 (show LR Ja.R _ [[.int .i64 n'.Ab, str n'.Ac, .slice aa n'.Aa.length ab, .int .i64 n'.Ad]] [n'] from (LR.snoc LR.nil (Ja.of (x := n') ⟨aa, ab, rfl, ae⟩))) fun aT aS aU => ?_
 exact eE hm

def JN (rec_ : (Jn → (List Ja) → (List Jk) → Option (Jn))) (ac : (List Jk)) : List Ja → Nat → Int → Err → Option (Int × Err)
  | [], _, aS, aT => some (aS, aT)
  | e3 :: aW, i3, aS, aT =>
    (JbZ e3).bind fun aV =>
    (rec_ (⟨aS, aT⟩ : Jn) aV ac).bind fun aU =>
    JN rec_ ac aW (i3 + 1) aU.line aU.err
def JA (n : Nat) (rec_ : (Jn → (List Ja) → (List Jk) → Option (Jn))) : List Ja → Nat → (List Jk) → Int → Err → Option (Fl (Jn) ((List Jk) × Int × Err))
  | [], _, ac, aX, aV => some (Fl.go (ac, aX, aV))
  | e0 :: aW, i0, ac, aX, aV =>
    if decide ((e0.Aa.length : Int) = 0) then
    JA n rec_ aW (i0 + 1) ac aX aV
    else
    (ix e0.Aa 0).bind fun bb =>
    (Jao n (⟨aX, aV⟩ : Jn) bb ac).bind fun aS =>
    (Jda e0).bind fun ba =>
    if ((aS.2.err.isNone && decide (ba ≠ 0)) && decide (aS.1 ≠ ba)) then
    (JT aS.2 e0 (some 9)).bind fun aT =>
    if aT.err.isSome then
    some (Fl.ret aT)
    else
    if decide (e0.Ab = 3) then
    (Jb4 n e0.Ac ac).bind fun aZ =>
    if aZ then
    (JT aT e0 (some 4)).bind fun aU =>
    (JaH ac e0.Ac aS.1).bind fun aY =>
    if aU.err.isSome then
    some (Fl.ret aU)
    else
    JA n rec_ aW (i0 + 1) aY aU.line aU.err
    else
    (JaH ac e0.Ac aS.1).bind fun aY =>
    if aT.err.isSome then
    some (Fl.ret aT)
    else
    JA n rec_ aW (i0 + 1) aY aT.line aT.err
    else
    if decide (e0.Ab = 2) then
    (chk (0 ≤ (1 : Int) ∧ (1 : Int) ≤ (e0.Aa.length : Int) ∧ (e0.Aa.length : Int) ≤ (e0.Aa.length : Int))).bind fun _ =>
    (chk ((subL e0.Aa (1 : Int) (e0.Aa.length : Int)).length ≤ qbg)).bind fun _ =>
    (JN rec_ ac (subL e0.Aa (1 : Int) (e0.Aa.length : Int)) 0 aT.line aT.err).bind fun t3 =>
    if t3.2.isSome then
    some (Fl.ret (⟨t3.1, t3.2⟩ : Jn))
    else
    JA n rec_ aW (i0 + 1) ac t3.1 t3.2
    else
    if aT.err.isSome then
    some (Fl.ret aT)
    else
    JA n rec_ aW (i0 + 1) ac aT.line aT.err
    else
    if aS.2.err.isSome then
    some (Fl.ret aS.2)
    else
    if decide (e0.Ab = 3) then
    (Jb4 n e0.Ac ac).bind fun aZ =>
    if aZ then
    (JT aS.2 e0 (some 4)).bind fun aU =>
    (JaH ac e0.Ac aS.1).bind fun aY =>
    if aU.err.isSome then
    some (Fl.ret aU)
    else
    JA n rec_ aW (i0 + 1) aY aU.line aU.err
    else
    (JaH ac e0.Ac aS.1).bind fun aY =>
    if aS.2.err.isSome then
    some (Fl.ret aS.2)
    else
    JA n rec_ aW (i0 + 1) aY aS.2.line aS.2.err
    else
    if decide (e0.Ab = 2) then
    (chk (0 ≤ (1 : Int) ∧ (1 : Int) ≤ (e0.Aa.length : Int) ∧ (e0.Aa.length : Int) ≤ (e0.Aa.length : Int))).bind fun _ =>
    (chk ((subL e0.Aa (1 : Int) (e0.Aa.length : Int)).length ≤ qbg)).bind fun _ =>
    (JN rec_ ac (subL e0.Aa (1 : Int) (e0.Aa.length : Int)) 0 aS.2.line aS.2.err).bind fun t3 =>
    if t3.2.isSome then
    some (Fl.ret (⟨t3.1, t3.2⟩ : Jn))
    else
    JA n rec_ aW (i0 + 1) ac t3.1 t3.2
    else
    if aS.2.err.isSome then
    some (Fl.ret aS.2)
    else
    JA n rec_ aW (i0 + 1) ac aS.2.line aS.2.err
def JX : Nat → Jn → (List Ja) → (List Jk) → Option (Jn)
  | 0, _, _, _ => none
  | n + 1, c, list, env =>
    (chk (list.length ≤ qbg)).bind fun _ =>
    (JA n (JX n) list 0 env c.line c.err).bind fun s0 => s0.el some fun t0 =>
    some (⟨t0.2.1, t0.2.2⟩ : Jn)
theorem Jdb : ∀ {n : Nat} {c : Jn} {list : (List Ja)} {env : (List Jk)} {b0 : Nat} {af : Option Addr} {ag : Nat} {n1 : Nat} {ao : Option Addr} {aq : Nat} {n2 : Nat} {K : Hp} {r : Jn}
    (hm : JX n c list env = some r) (hX : LiC Ja.R K af ag 4 list ∧ n1 = list.length ∧ RdC Jk.enc K ao aq 2 env ∧ n2 = env.length),
    Fn Tryz.prog 141 [.pointer (some ⟨b0, 0, none⟩), .slice af n1 ag, .slice ao n2 aq] K [Cells b0 204 [.int .i64 c.line, qcy 48 c.err]] (fun v K' H' => v = .tuple #[] ∧ H' = [Cells b0 204 [.int .i64 r.line, qcy 48 r.err]]) := by
 intro n
 induction n with
 | zero =>
   intro c list env b0 af ag n1 ao aq n2 K r hm hX
   rw [JX.eq_1] at hm; cases hm
 | succ n ih =>
   intro c list env b0 af ag n1 ao aq n2 K r hm hX
   obtain ⟨ai, cZ, cn, cN⟩ := hX
   subst cZ
   subst cN
   refine Fn.enter Tryz.func141 Tryz.call141 rfl fun F => ?_
   rw [JX.eq_2] at hm
   refine ro (qak rfl ?_)
   obtain ⟨bl, hm⟩ := qax hm
   obtain ⟨s0, aS, hm⟩ := bnd hm
   refine lC (σ := ((List Jk) × Int × Err) × Option Addr × Nat) ([2,7,8,9,11] ++ rg 14 79) [1] (fun i0 => [(14, .int .i64 (i0 : Int))]) (fun (t0, aW, aX) => [(2, .slice aW t0.1.length aX)]) (fun (t0, aW, aX) => [Cells b0 204 [.int .i64 t0.2.1, qcy 48 t0.2.2]]) (fun zz K1 => match zz with | (t0, aW, aX) => RdC Jk.enc K1 aW aX 2 t0.1 ∧ True) (fun i0 (t0, aW, aX) => JA n (JX n) (list.drop i0) i0 t0.1 t0.2.1 t0.2.2 = some s0) (fun (t0, aW, aX) => s0 = Fl.go t0) (fun i0 => list.length - i0) 0 ((_, _, _), _, _) aS (And.intro qe (And.intro ?_ ?_))
   clear aS
   rintro i0 ⟨⟨ac, cz, cV⟩, ce, bY⟩ de cu ⟨bX, _⟩ aS j0
   dsimp only at aS ⊢
   refine qac rfl ?_
   refine qae ?_ ?_ <;> intro w0
   obtain ⟨e0, aZ, cG⟩ := ltx w0
   rw [cG, JA.eq_2] at aS
   refine qal rfl ?_
   refine RStep.ofN (qad rfl rfl (qc0 (LiC.mono Ja.R_ok cu ai).rd aZ) (nn _) (qbm aZ) ?_)
   obtain ⟨cW, cU, bK, bI, bD⟩ := LiR.get (LiC.mono Ja.R_ok cu ai).rd aZ
   obtain ⟨ca, cr, rfl, aY⟩ := Ja.out bD
   refine ro (qan i0 _ bK rfl bI rfl ?_)
   refine qai rfl fun b7 => ?_
   refine qaa r0 rfl ⟨rfl, rfl, (nl rfl), ?_⟩
   refine fa rfl (ro (ld r0 rfl rfl (ro (qak rfl (qaf ?_)))))
   refine cs rfl rfl aS ?_ ?_ <;> intro df aS
   refine cT (qam (qbj aZ bl) ?_)
   exact eR aS (_, (_, _, _), _, _)
   refine fa rfl (ro (ld r0 rfl rfl ?_))
   obtain ⟨dh, cw, bC, aS⟩ := ixb aS
   refine RStep.ofN (qad rfl rfl (qc0 aY.rd bC) cw (qaz rfl cw bC) ?_)
   obtain ⟨cH, cJ, bO, bS, bG⟩ := LiR.get aY.rd bC
   obtain ⟨cj, bZ, rfl, co⟩ := Ja.out bG
   refine ro (qan ((0 : Int).toNat) _ bO rfl bS rfl ?_)
   refine cb aS fun bJ cE aS => cgx (Jdl cE :) ?_
   refine ro (qab r1 rfl (nl rfl) ?_)
   refine cb aS fun bT cC aS => cgx (Jd1 cC :) ?_
   refine jR (σ := Unit) (rg 31 14) (fun _ => [(44, .bool ((bJ.2.err.isNone && decide (bT ≠ 0)) && decide (bJ.1 ≠ bT)))]) (fun cX => True) ?_ ?_
   refine qah rfl ?_
   refine qag (fa rfl (ro (ld r0 rfl rfl (qew rfl ?_))))
   refine qae ?_ ?_ <;> intro aV
   refine ct aV (qa6 (ct aV ?_))
   refine qae ?_ ?_ <;> intro aT
   refine ct aT (ct aT (qa6 (ct aT ?_)))
   exact eMt () ⟨bq (qcr (b := decide (bJ.1 ≠ bT)) (qct aV aT)), trivial⟩
   refine cf aT (cf aT (cf aT ?_))
   exact eMt () ⟨bq (((qa9 (qcu aV aT))).symm), trivial⟩
   refine cf aV (cf aV (cF (cF (cF (cF ?_)))))
   exact eMt () ⟨bq (((qa9 (qa9 aV))).symm), trivial⟩
   rintro _ _ cD
   refine cs rfl rfl aS ?_ ?_ <;> intro di aS
   refine ro (qab r1 rfl (nl rfl) ?_)
   refine qas rfl ?_
   refine cb aS fun dj cR aS => cgx (JS cR :) ?_
   refine qag (fa rfl (ro (ld r0 rfl rfl (qa5 rfl ?_))))
   refine cs rfl rfl aS ?_ ?_ <;> intro cK aS
   exact eE (er aS hm)
   refine fa rfl (ro (ld r1 rfl rfl ?_))
   refine qal rfl ?_
   refine qaf (cs rfl rfl aS ?_ ?_) <;> intro cy aS
   refine fa rfl (ro (ld r1 rfl rfl ?_))
   refine cb aS fun cP bW aS => cgx (JcT bW :) ?_
   refine cs rfl rfl aS ?_ ?_ <;> intro cM aS
   refine ro (qab r1 rfl (nl rfl) ?_)
   refine qas rfl ?_
   refine cb aS fun cQ bQ aS => cgx (JS bQ :) ?_
   refine fa rfl (ro (ld r1 rfl rfl ?_))
   refine cb aS fun bF bn aS => ckx (JaU bn :) ?_
   rintro _ _ _ ⟨bd, bb, rfl, bg, rfl⟩
   refine qag (fa rfl (ro (ld r1 rfl rfl (qa5 rfl ?_))))
   refine cs rfl rfl aS ?_ ?_ <;> intro bo aS
   exact eE (er aS hm)
   refine qam (qbj aZ bl) ?_
   refine fRo r0 fun bh ba bf => ?_
   exact eR aS (_, (_, _, _), _, _)
   refine fa rfl (ro (ld r1 rfl rfl ?_))
   refine cb aS fun bF bn aS => ckx (JaU bn :) ?_
   rintro _ _ _ ⟨bd, bb, rfl, bg, rfl⟩
   refine qag (fa rfl (ro (ld r1 rfl rfl (qa5 rfl ?_))))
   refine cs rfl rfl aS ?_ ?_ <;> intro bo aS
   exact eE (er aS hm)
   refine qam (qbj aZ bl) ?_
   refine fRo r0 fun bh ba bf => ?_
   exact eR aS (_, (_, _, _), _, _)
   refine qaf (cs rfl rfl aS ?_ ?_) <;> intro cB aS
   refine fa rfl (ro (ld r1 rfl rfl ?_))
   obtain ⟨bt, aS⟩ := qax aS
   have bc := aY.subC bt
   refine RStep.ofN (qoi (l := e0.Aa) (lo := (some 1)) (hi := none) (lo' := (1 : Int)) (hi' := (e0.Aa.length : Int)) rfl rfl rfl rfl rfl aY.le bt (ro (qak rfl ?_)))
   obtain ⟨bM, aS⟩ := qax aS
   obtain ⟨s3, aU, aS⟩ := bnd aS
   refine lD (σ := (Int × Err)) ([11] ++ rg 77 10) [1, 2] (fun i3 => [(77, .int .i64 (i3 : Int))]) (fun _ => []) (fun t3 => [Cells b0 204 [.int .i64 t3.1, qcy 48 t3.2]]) (fun _ => True) (fun i3 t3 => JN (JX n) ac ((subL e0.Aa (1 : Int) (e0.Aa.length : Int)).drop i3) i3 t3.1 t3.2 = some s3) (fun t3 => t3 = s3) (fun i3 => (subL e0.Aa (1 : Int) (e0.Aa.length : Int)).length - i3) 0 (_, _) aU (And.intro qe (And.intro ?_ ?_))
   clear aU
   rintro i3 ⟨bV, bL⟩ _ aU j3
   dsimp only at aU ⊢
   refine qac rfl ?_
   refine qae ?_ ?_ <;> intro w3
   obtain ⟨e3, bj, bH⟩ := ltx w3
   rw [bH, JN.eq_2] at aU
   refine qal rfl ?_
   refine RStep.ofN (qad rfl rfl (qc0 bc.rd bj) (nn _) (qbm bj) ?_)
   obtain ⟨bP, bU, br, bp, bm⟩ := LiR.get bc.rd bj
   obtain ⟨bA, bz, rfl, bB⟩ := Ja.out bm
   refine ro (qan i3 _ br rfl bp rfl ?_)
   refine qai rfl fun cI => ?_
   refine qaa r0 rfl ⟨rfl, rfl, (nl rfl), ?_⟩
   refine ro (qab r0 rfl (nl rfl) ?_)
   refine cb aU fun cO bR aU => cfx (JbU bR :) ?_
   rintro _ cY _ cL ⟨bw, bv, rfl, bu, rfl⟩
   refine cb aU fun cA bN aU => cgx (ih bN :) ?_
   refine qam (qbj bj bM) ?_
   exact eR aU (_, (_, _))
   rw [lty w3, JN.eq_1] at aU
   refine cT ?_
   exact eM aU _
   rintro t3 _ rfl j3
   refine qag (fa rfl (ro (ld r0 rfl rfl (qa5 rfl ?_))))
   refine cs rfl rfl aS ?_ ?_ <;> intro bo aS
   exact eE (er aS hm)
   refine qam (qbj aZ bl) ?_
   exact eR aS (_, (_, _, _), _, _)
   refine qag (fa rfl (ro (ld r0 rfl rfl (qa5 rfl ?_))))
   refine cs rfl rfl aS ?_ ?_ <;> intro bo aS
   exact eE (er aS hm)
   refine qam (qbj aZ bl) ?_
   exact eR aS (_, (_, _, _), _, _)
   refine qag (fa rfl (ro (ld r0 rfl rfl (qa5 rfl ?_))))
   refine cs rfl rfl aS ?_ ?_ <;> intro cK aS
   exact eE (er aS hm)
   refine fa rfl (ro (ld r1 rfl rfl ?_))
   refine qal rfl ?_
   refine qaf (cs rfl rfl aS ?_ ?_) <;> intro cy aS
   refine fa rfl (ro (ld r1 rfl rfl ?_))
   refine cb aS fun cP bW aS => cgx (JcT bW :) ?_
   refine cs rfl rfl aS ?_ ?_ <;> intro cM aS
   refine ro (qab r1 rfl (nl rfl) ?_)
   refine qas rfl ?_
   refine cb aS fun cQ bQ aS => cgx (JS bQ :) ?_
   refine fa rfl (ro (ld r1 rfl rfl ?_))
   refine cb aS fun bF bn aS => ckx (JaU bn :) ?_
   rintro _ _ _ ⟨bd, bb, rfl, bg, rfl⟩
   refine qag (fa rfl (ro (ld r1 rfl rfl (qa5 rfl ?_))))
   refine cs rfl rfl aS ?_ ?_ <;> intro bo aS
   exact eE (er aS hm)
   refine qam (qbj aZ bl) ?_
   refine fRo r0 fun bh ba bf => ?_
   exact eR aS (_, (_, _, _), _, _)
   refine fa rfl (ro (ld r1 rfl rfl ?_))
   refine cb aS fun bF bn aS => ckx (JaU bn :) ?_
   rintro _ _ _ ⟨bd, bb, rfl, bg, rfl⟩
   refine qag (fa rfl (ro (ld r1 rfl rfl (qa5 rfl ?_))))
   refine cs rfl rfl aS ?_ ?_ <;> intro bo aS
   exact eE (er aS hm)
   refine qam (qbj aZ bl) ?_
   refine fRo r0 fun bh ba bf => ?_
   exact eR aS (_, (_, _, _), _, _)
   refine qaf (cs rfl rfl aS ?_ ?_) <;> intro cB aS
   refine fa rfl (ro (ld r1 rfl rfl ?_))
   obtain ⟨bt, aS⟩ := qax aS
   have bc := aY.subC bt
   refine RStep.ofN (qoi (l := e0.Aa) (lo := (some 1)) (hi := none) (lo' := (1 : Int)) (hi' := (e0.Aa.length : Int)) rfl rfl rfl rfl rfl aY.le bt (ro (qak rfl ?_)))
   obtain ⟨bM, aS⟩ := qax aS
   obtain ⟨s3, aU, aS⟩ := bnd aS
   refine lD (σ := (Int × Err)) ([11] ++ rg 77 10) [1, 2] (fun i3 => [(77, .int .i64 (i3 : Int))]) (fun _ => []) (fun t3 => [Cells b0 204 [.int .i64 t3.1, qcy 48 t3.2]]) (fun _ => True) (fun i3 t3 => JN (JX n) ac ((subL e0.Aa (1 : Int) (e0.Aa.length : Int)).drop i3) i3 t3.1 t3.2 = some s3) (fun t3 => t3 = s3) (fun i3 => (subL e0.Aa (1 : Int) (e0.Aa.length : Int)).length - i3) 0 (_, _) aU (And.intro qe (And.intro ?_ ?_))
   clear aU
   rintro i3 ⟨bV, bL⟩ _ aU j3
   dsimp only at aU ⊢
   refine qac rfl ?_
   refine qae ?_ ?_ <;> intro w3
   obtain ⟨e3, bj, bH⟩ := ltx w3
   rw [bH, JN.eq_2] at aU
   refine qal rfl ?_
   refine RStep.ofN (qad rfl rfl (qc0 bc.rd bj) (nn _) (qbm bj) ?_)
   obtain ⟨bP, bU, br, bp, bm⟩ := LiR.get bc.rd bj
   obtain ⟨bA, bz, rfl, bB⟩ := Ja.out bm
   refine ro (qan i3 _ br rfl bp rfl ?_)
   refine qai rfl fun cI => ?_
   refine qaa r0 rfl ⟨rfl, rfl, (nl rfl), ?_⟩
   refine ro (qab r0 rfl (nl rfl) ?_)
   refine cb aU fun cO bR aU => cfx (JbU bR :) ?_
   rintro _ cY _ cL ⟨bw, bv, rfl, bu, rfl⟩
   refine cb aU fun cA bN aU => cgx (ih bN :) ?_
   refine qam (qbj bj bM) ?_
   exact eR aU (_, (_, _))
   rw [lty w3, JN.eq_1] at aU
   refine cT ?_
   exact eM aU _
   rintro t3 _ rfl j3
   refine qag (fa rfl (ro (ld r0 rfl rfl (qa5 rfl ?_))))
   refine cs rfl rfl aS ?_ ?_ <;> intro bo aS
   exact eE (er aS hm)
   refine qam (qbj aZ bl) ?_
   exact eR aS (_, (_, _, _), _, _)
   refine qag (fa rfl (ro (ld r0 rfl rfl (qa5 rfl ?_))))
   refine cs rfl rfl aS ?_ ?_ <;> intro bo aS
   exact eE (er aS hm)
   refine qam (qbj aZ bl) ?_
   exact eR aS (_, (_, _, _), _, _)
   rw [lty w0, JA.eq_1] at aS
   refine cT ?_
   exact eM aS (_, _, _)
   rintro ⟨t0, aW, aX⟩ dg dc ⟨cm, _⟩ rfl j0
   replace hm := elg hm
   exact eE hm

def Jca (n : Nat) (program : Ja) : Option (Int × Err) :=
  (Jc9 n program).bind fun x6 =>
  if (!x6) then
  some (0, (some 2))
  else
  (JX n (⟨0, none⟩ : Jn) program.Aa []).bind fun aS =>
  some (aS.line, aS.err)
theorem JcG {n : Nat} {program : Ja} {aa : Option Addr} {ab : Nat} {K : Hp} {r : Int × Err}
    (hm : Jca n program = some r) (hX : LiC Ja.R K aa ab 4 program.Aa ∧ GG K) :
    Fn Tryz.prog 89 [.agg #[.int .i64 program.Ab, str program.Ac, .slice aa program.Aa.length ab, .int .i64 program.Ad]] K [] (fun v K' H' => v = .tuple #[.int .i64 r.1, qcy 48 r.2] ∧ H' = []) := by
 obtain ⟨ae, hG⟩ := hX
 refine Fn.enter Tryz.func89 Tryz.call89 rfl fun F => ?_
 unfold Jca at hm
 refine qar ?_
 intro b1
 refine ro (qab r0 rfl (nl rfl) ?_)
 refine cb hm fun x6 q6 hm => cgx (Jd0 q6 :) ?_
 refine qaw ?_
 refine cs rfl rfl hm ?_ ?_ <;> intro w7 hm
 refine qas rfl ?_
 exact eE hm
 refine qaj rfl rfl ?_
 refine qar ?_
 intro aU
 refine fa rfl (ro (ld r1 rfl rfl ?_))
 refine cb hm fun aT aS hm => cgx (Jdb aS :) ?_
 refine qa3 ⟨⟨[], false⟩, _, [(_, _)], []⟩ (by kernel_rfl) ⟨Hp.Le.refl _, (pf rfl), ci0⟩ ?_
 refine qag (fa rfl (qap m0 rfl rfl (qag (fa rfl (qap m0 rfl rfl ?_)))))
 exact eE hm

def Jj (c : Jd) (op : Int) (n' : Int) (s : Str) : Option (Int × Jd) :=
  (chk (c.code.length + [(⟨op, n', s⟩ : Jf)].length ≤ lim)).bind fun _ =>
  (chk (InI ((((c.code ++ [(⟨op, n', s⟩ : Jf)]).length) : Int) - 1))).bind fun _ =>
  some (((((c.code ++ [(⟨op, n', s⟩ : Jf)]).length) : Int) - 1), (⟨(c.code ++ [(⟨op, n', s⟩ : Jf)]), c.names, c.Ap⟩ : Jd))
theorem Jg {c : Jd} {op : Int} {n' : Int} {s : Str} {b0 : Nat} {aa : Option Addr} {ab : Nat} {ah : Option Addr} {ak : Nat} {K : Hp} {r : Int × Jd}
    (hm : Jj c op n' s = some r) (hX : (0 < c.code.length → Has aa) ∧ (0 < c.names.length → Has ah)) :
    Fn Tryz.prog 143 [.pointer (some ⟨b0, 0, none⟩), .int .i64 op, .int .i64 n', str s] K [Cells b0 209 [.slice aa c.code.length ab, .slice ah c.names.length ak, .int .i64 c.Ap], qau Jf.enc aa 135 3 ab c.code, qau Jr.enc ah 290 2 ak c.names] (fun v K' H' => ∃ ar_0 : Option Addr, ∃ cr_0 : Nat, ∃ ar_1 : Option Addr, ∃ cr_1 : Nat, v = .int .i64 r.1 ∧ (0 < r.2.code.length → Has ar_0) ∧ (0 < r.2.names.length → Has ar_1) ∧ H' = [Cells b0 209 [.slice ar_0 r.2.code.length cr_0, .slice ar_1 r.2.names.length cr_1, .int .i64 r.2.Ap], qau Jf.enc ar_0 135 3 cr_0 r.2.code, qau Jr.enc ar_1 290 2 cr_1 r.2.names]) := by
 obtain ⟨ae, aS⟩ := hX
 refine Fn.enter Tryz.func143 Tryz.call143 rfl fun F => ?_
 unfold Jj at hm
 refine qag (fa rfl (ro (ld r0 rfl rfl (qaj rfl rfl (cT (cT (cT ?_)))))))
 refine bsO (len := 1) (enc := Jf.enc) (l := [(⟨op, n', s⟩ : Jf)]) (cl := [.int .i64 op, .int .i64 n', str s]) qp8 rfl rfl (fun _ _ => rfl) rfl rfl rfl ?_ fun aU => ?_
 · conv => whnf
   refine cT ?_
   first | done | rfl
 obtain ⟨aT, hm⟩ := qax hm
 refine apE rfl r2 qp8 (qat rfl r0 rfl (fun _ => rfl) (fun _ => rfl)) aT ?_
 intro aV aW aX
 refine qag (fa rfl ?_)
 refine qaa r2 rfl ⟨rfl, rfl, (nl rfl), ?_⟩
 refine qag (fa rfl (ro (ld r0 rfl rfl (ro (qak rfl ?_)))))
 refine ci hm fun hm => ?_
 exact eE hm

def Jaw (c : Jd) (yes : Bool) : Option (Jd) :=
  if yes then
  (Jj c 1 0 ([] : Str)).bind fun x7 =>
  (Jj x7.2 1 0 ([] : Str)).bind fun aS =>
  (Jj aS.2 7 0 ([61, 61] : Str)).bind fun al =>
  some al.2
  else
  (Jj c 1 0 ([] : Str)).bind fun x7 =>
  (Jj x7.2 1 1 ([] : Str)).bind fun aS =>
  (Jj aS.2 7 0 ([61, 61] : Str)).bind fun al =>
  some al.2
theorem Ja7 {c : Jd} {yes : Bool} {b0 : Nat} {aa : Option Addr} {ab : Nat} {ah : Option Addr} {ak : Nat} {K : Hp} {r : Jd}
    (hm : Jaw c yes = some r) (hX : (0 < c.code.length → Has aa) ∧ (0 < c.names.length → Has ah)) :
    Fn Tryz.prog 248 [.pointer (some ⟨b0, 0, none⟩), .bool yes] K [Cells b0 209 [.slice aa c.code.length ab, .slice ah c.names.length ak, .int .i64 c.Ap], qau Jf.enc aa 135 3 ab c.code, qau Jr.enc ah 290 2 ak c.names] (fun v K' H' => ∃ ar_0 : Option Addr, ∃ cr_0 : Nat, ∃ ar_1 : Option Addr, ∃ cr_1 : Nat, v = .tuple #[] ∧ (0 < r.code.length → Has ar_0) ∧ (0 < r.names.length → Has ar_1) ∧ H' = [Cells b0 209 [.slice ar_0 r.code.length cr_0, .slice ar_1 r.names.length cr_1, .int .i64 r.Ap], qau Jf.enc ar_0 135 3 cr_0 r.code, qau Jr.enc ar_1 290 2 cr_1 r.names]) := by
 obtain ⟨ae, bp⟩ := hX
 refine Fn.enter Tryz.func248 Tryz.call248 rfl fun F => ?_
 unfold Jaw at hm
 refine cs rfl rfl hm ?_ ?_ <;> intro w5 hm
 refine cb hm fun x7 q7 hm => ckx (Jg q7 :) ?_
 rintro _ _ _ ⟨bm, bn, bl, bg, rfl, bj, bo, rfl⟩
 refine cb hm fun br bf hm => ckx (Jg bf :) ?_
 rintro _ _ _ ⟨bd, aV, bb, aX, rfl, aZ, ba, rfl⟩
 refine cb hm fun al bh hm => ckx (Jg bh :) ?_
 rintro _ _ _ ⟨aW, aU, aS, aY, rfl, aT, bc, rfl⟩
 exact eE hm
 refine cb hm fun x7 q7 hm => ckx (Jg q7 :) ?_
 rintro _ _ _ ⟨bm, bn, bl, bg, rfl, bj, bo, rfl⟩
 refine cb hm fun br bf hm => ckx (Jg bf :) ?_
 rintro _ _ _ ⟨bd, aV, bb, aX, rfl, aZ, ba, rfl⟩
 refine cb hm fun al bh hm => ckx (Jg bh :) ?_
 rintro _ _ _ ⟨aW, aU, aS, aY, rfl, aT, bc, rfl⟩
 exact eE hm

def Jak (c : Jd) (s : Str) : Nat → Int → Option (Fl (Jd) (Int))
  | 0, _ => none
  | aT + 1, ac =>
    if decide (ac ≥ 0) then
    (ix c.names ac).bind fun aS =>
    if decide (aS.name = s) then
    (ix c.names ac).bind fun aV =>
    (Jj c 3 aV.slot ([] : Str)).bind fun aU =>
    some (Fl.ret aU.2)
    else
    (chk (InI (ac - 1))).bind fun _ =>
    Jak c s aT (ac - 1)
    else
    some (Fl.go ac)
def JbT (n : Nat) (c : Jd) (s : Str) : Option (Jd) :=
  (chk (InI ((c.names.length : Int) - 1))).bind fun _ =>
  (Jak c s n ((c.names.length : Int) - 1)).bind fun s0 => s0.el some fun t0 =>
  (Jj c 5 0 s).bind fun aS =>
  some aS.2
theorem Jdc {n : Nat} {c : Jd} {s : Str} {b0 : Nat} {aa : Option Addr} {ab : Nat} {ah : Option Addr} {ak : Nat} {K : Hp} {r : Jd}
    (hm : JbT n c s = some r) (hX : (0 < c.code.length → Has aa) ∧ (0 < c.names.length → Has ah)) :
    Fn Tryz.prog 249 [.pointer (some ⟨b0, 0, none⟩), str s] K [Cells b0 209 [.slice aa c.code.length ab, .slice ah c.names.length ak, .int .i64 c.Ap], qau Jf.enc aa 135 3 ab c.code, qau Jr.enc ah 290 2 ak c.names] (fun v K' H' => ∃ ar_0 : Option Addr, ∃ cr_0 : Nat, ∃ ar_1 : Option Addr, ∃ cr_1 : Nat, v = .tuple #[] ∧ (0 < r.code.length → Has ar_0) ∧ (0 < r.names.length → Has ar_1) ∧ H' = [Cells b0 209 [.slice ar_0 r.code.length cr_0, .slice ar_1 r.names.length cr_1, .int .i64 r.Ap], qau Jf.enc ar_0 135 3 cr_0 r.code, qau Jr.enc ar_1 290 2 cr_1 r.names]) := by
 obtain ⟨ae, aT⟩ := hX
 refine Fn.enter Tryz.func249 Tryz.call249 rfl fun F => ?_
 unfold JbT at hm
 refine qag (fa rfl (ro (ld r0 rfl rfl (ro (qak rfl ?_)))))
 refine ci hm fun hm => ?_
 obtain ⟨s0, aS, hm⟩ := bnd hm
 refine lD (σ := (Int)) ([4] ++ rg 11 24) [0, 1, 2, 3] (fun _ => []) (fun t0 => [(4, .int .i64 t0)]) (fun _ => []) (fun _ => True) (fun i0 t0 => Jak c s i0 t0 = some s0) (fun t0 => s0 = Fl.go t0) (fun i0 => i0) n _ aS (And.intro qe (And.intro ?_ ?_))
 clear aS
 rintro i0 ac _ aS j0
 conv at aS => whnf
 cases i0 with
 | zero => rw [Jak.eq_1] at aS; cases aS
 | succ i0 =>
  rw [Jak.eq_2] at aS
  refine cs rfl rfl aS ?_ ?_ <;> intro bw aS
  refine qal rfl ?_
  refine qag (fa rfl (ro (ld r0 rfl rfl ?_)))
  obtain ⟨bu, bg, aV, aS⟩ := ixb aS
  refine RStep.ofN (qad rfl rfl (qcm aT aV) bg (qaz rfl bg aV) (qa8 rfl (qcm aT aV) (ro (qby (i := (ac).toNat) (o := 0) r2 rfl aV rfl rfl (qaq ?_)))))
  refine cs rfl rfl aS ?_ ?_ <;> intro br aS
  refine qag (fa rfl (ro (ld r0 rfl rfl ?_)))
  obtain ⟨bp, bd, aU, aS⟩ := ixb aS
  refine RStep.ofN (qad rfl rfl (qcm aT aU) bd (qaz rfl bd aU) (qa8 rfl (qcm aT aU) (ro (qby (i := (ac).toNat) (o := 1) r2 rfl aU rfl rfl ?_))))
  refine cb aS fun bt bn aS => ckx (Jg bn :) ?_
  rintro _ _ _ ⟨aY, aX, bf, ba, rfl, bm, bh, rfl⟩
  exact eE (er aS hm)
  refine ci aS fun aS => ?_
  exact eR aS (_, _)
  refine cT ?_
  exact eM aS _
 rintro t0 _ rfl j0
 replace hm := elg hm
 refine cb hm fun bv bo hm => ckx (Jg bo :) ?_
 rintro _ _ _ ⟨bc, bb, bl, aW, rfl, aZ, bj, rfl⟩
 exact eE hm

def JP (c : Jd) (jump : Int) : Option (Jd) :=
  (ix c.code jump).bind fun aS =>
  some (⟨(c.code.set ((jump).toNat) (⟨aS.Op, (c.code.length : Int), aS.S⟩ : Jf)), c.names, c.Ap⟩ : Jd)
theorem JR {c : Jd} {jump : Int} {b0 : Nat} {aa : Option Addr} {ab : Nat} {ah : Option Addr} {ak : Nat} {K : Hp} {r : Jd}
    (hm : JP c jump = some r) (hX : (0 < c.code.length → Has aa) ∧ (0 < c.names.length → Has ah)) :
    Fn Tryz.prog 246 [.pointer (some ⟨b0, 0, none⟩), .int .i64 jump] K [Cells b0 209 [.slice aa c.code.length ab, .slice ah c.names.length ak, .int .i64 c.Ap], qau Jf.enc aa 135 3 ab c.code, qau Jr.enc ah 290 2 ak c.names] (fun v K' H' => ∃ ar_0 : Option Addr, ∃ cr_0 : Nat, ∃ ar_1 : Option Addr, ∃ cr_1 : Nat, v = .tuple #[] ∧ (0 < r.code.length → Has ar_0) ∧ (0 < r.names.length → Has ar_1) ∧ H' = [Cells b0 209 [.slice ar_0 r.code.length cr_0, .slice ar_1 r.names.length cr_1, .int .i64 r.Ap], qau Jf.enc ar_0 135 3 cr_0 r.code, qau Jr.enc ar_1 290 2 cr_1 r.names]) := by
 obtain ⟨ae, aT⟩ := hX
 refine Fn.enter Tryz.func246 Tryz.call246 rfl fun F => ?_
 unfold JP at hm
 refine qa3 ⟨⟨[], false⟩, _, [(_, _)], []⟩ (by kernel_rfl) ⟨Hp.Le.refl _, (pf rfl), ci0⟩ ?_
 refine qag (fa rfl (qap m0 rfl rfl (qag (fa rfl (qap m0 rfl rfl (qcc rfl ?_))))))
 obtain ⟨aS, aV, aU, hm⟩ := ixb hm
 refine qad rfl rfl (qcm ae aU) aV (qaz rfl aV aU) (qa8 rfl (qcm ae aU) ?_)
 refine qd8 (o := 1) (y := (⟨aS.Op, (c.code.length : Int), aS.S⟩ : Jf)) aS r1 rfl aU rfl (by (conv => whnf); exact ⟨rfl, rfl, (nl rfl), rfl, rfl, rfl⟩) ?_
 refine qk (sc [1] rfl) ?_
 obtain rfl := si hm
 refine qqq r1 (congrArg (fun q_ : Nat => ([.slice aa q_ ab, .slice ah c.names.length ak, .int .i64 c.Ap] : List Value)) (show c.code.length = (c.code.set ((jump).toNat) (⟨aS.Op, (c.code.length : Int), aS.S⟩ : Jf)).length from ((rfl).trans List.length_set.symm))) ?_
 exact en lr ⟨aa, ab, ah, ak, rfl, (by first | simpa using ae | exact fun _ => ⟨_, _, rfl⟩), aT, rfl⟩ (pf rfl)

def Jaj (aF : (Jd → Ja → Option (Jd))) (n : Nat) (c : Jd) (n' : Ja) (operator : Str) : Option (Jd) :=
  (ix n'.Aa 0).bind fun x9 =>
  (aF c x9).bind fun aT =>
  (ix n'.Aa 1).bind fun aU =>
  (aF aT aU).bind fun aV =>
  (Jj aV 7 0 operator).bind fun aS =>
  some aS.2
theorem JaJ {aF : (Jd → Ja → Option (Jd))} (ihrec3_0 : ∀ {c : Jd} {n' : Ja} {b0 : Nat} {aa : Option Addr} {ab : Nat} {ah : Option Addr} {ak : Nat} {af : Option Addr} {ag : Nat} {K : Hp} {r : Jd} (hm : aF c n' = some r) (hX : (0 < c.code.length → Has aa) ∧ (0 < c.names.length → Has ah) ∧ LiC Ja.R K af ag 4 n'.Aa), Fn Tryz.prog 231 [.pointer (some ⟨b0, 0, none⟩), .agg #[.int .i64 n'.Ab, str n'.Ac, .slice af n'.Aa.length ag, .int .i64 n'.Ad]] K [Cells b0 209 [.slice aa c.code.length ab, .slice ah c.names.length ak, .int .i64 c.Ap], qau Jf.enc aa 135 3 ab c.code, qau Jr.enc ah 290 2 ak c.names] (fun v K' H' => ∃ ar_0 : Option Addr, ∃ cr_0 : Nat, ∃ ar_1 : Option Addr, ∃ cr_1 : Nat, v = .tuple #[] ∧ (0 < r.code.length → Has ar_0) ∧ (0 < r.names.length → Has ar_1) ∧ H' = [Cells b0 209 [.slice ar_0 r.code.length cr_0, .slice ar_1 r.names.length cr_1, .int .i64 r.Ap], qau Jf.enc ar_0 135 3 cr_0 r.code, qau Jr.enc ar_1 290 2 cr_1 r.names])) {n : Nat} {c : Jd} {n' : Ja} {operator : Str} {b0 : Nat} {aa : Option Addr} {ab : Nat} {ah : Option Addr} {ak : Nat} {af : Option Addr} {ag : Nat} {K : Hp} {r : Jd}
    (hm : Jaj aF n c n' operator = some r) (hX : (0 < c.code.length → Has aa) ∧ (0 < c.names.length → Has ah) ∧ LiC Ja.R K af ag 4 n'.Aa) :
    Fn Tryz.prog 250 [.pointer (some ⟨b0, 0, none⟩), .agg #[.int .i64 n'.Ab, str n'.Ac, .slice af n'.Aa.length ag, .int .i64 n'.Ad], str operator] K [Cells b0 209 [.slice aa c.code.length ab, .slice ah c.names.length ak, .int .i64 c.Ap], qau Jf.enc aa 135 3 ab c.code, qau Jr.enc ah 290 2 ak c.names] (fun v K' H' => ∃ ar_0 : Option Addr, ∃ cr_0 : Nat, ∃ ar_1 : Option Addr, ∃ cr_1 : Nat, v = .tuple #[] ∧ (0 < r.code.length → Has ar_0) ∧ (0 < r.names.length → Has ar_1) ∧ H' = [Cells b0 209 [.slice ar_0 r.code.length cr_0, .slice ar_1 r.names.length cr_1, .int .i64 r.Ap], qau Jf.enc ar_0 135 3 cr_0 r.code, qau Jr.enc ar_1 290 2 cr_1 r.names]) := by
 obtain ⟨ae, bC, ai⟩ := hX
 refine Fn.enter Tryz.func250 Tryz.call250 rfl fun F => ?_
 unfold Jaj at hm
 refine qar ?_
 intro b4
 refine fa rfl (ro (ld r0 rfl rfl ?_))
 obtain ⟨x9, l9, k9, hm⟩ := ixb hm
 refine RStep.ofN (qad rfl rfl (qc0 ai.rd k9) l9 (qaz rfl l9 k9) ?_)
 obtain ⟨bJ, bN, aU, aW, aY⟩ := LiR.get ai.rd k9
 obtain ⟨bF, bd, rfl, bt⟩ := Ja.out aY
 refine ro (qan ((0 : Int).toNat) _ aU rfl aW rfl ?_)
 refine cb hm fun bO bM hm => ckx (ihrec3_0 bM :) ?_
 rintro _ _ _ ⟨ba, bh, bp, bo, rfl, bv, bB, rfl⟩
 refine fa rfl (ro (ld r3 rfl rfl ?_))
 obtain ⟨bP, aZ, aT, hm⟩ := ixb hm
 refine RStep.ofN (qad rfl rfl (qc0 ai.rd aT) aZ (qaz rfl aZ aT) ?_)
 obtain ⟨bI, bK, aX, aV, aS⟩ := LiR.get ai.rd aT
 obtain ⟨bj, bl, rfl, bD⟩ := Ja.out aS
 refine ro (qan ((1 : Int).toNat) _ aX rfl aV rfl ?_)
 refine cb hm fun bR bL hm => ckx (ihrec3_0 bL :) ?_
 rintro _ _ _ ⟨bu, bA, bb, bm, rfl, bw, bf, rfl⟩
 refine cb hm fun bQ bH hm => ckx (Jg bH :) ?_
 rintro _ _ _ ⟨bc, br, bG, bn, rfl, bz, bg, rfl⟩
 exact eE hm

def JB : Nat → Jd → Ja → Option (Jd)
  | 0, _, _ => none
  | n + 1, c, n' =>
    if decide (n'.Ab = 20) then
    (qno n'.Ac).bind fun bm =>
    if bm.2.isSome then
    (Jj c 1 0 ([] : Str)).bind fun ba =>
    some ba.2
    else
    (Jj c 1 bm.1 ([] : Str)).bind fun ba =>
    some ba.2
    else
    if decide (n'.Ab = 21) then
    (Jj c 2 0 n'.Ac).bind fun bC =>
    some bC.2
    else
    if decide (n'.Ab = 22) then
    (Jaw c (decide (n'.Ac = ([116, 114, 117, 101] : Str)))).bind fun bu =>
    some bu
    else
    if decide (n'.Ab = 23) then
    (JbT n c n'.Ac).bind fun bw =>
    some bw
    else
    if decide (n'.Ab = 24) then
    (ix n'.Aa 0).bind fun bB =>
    ((JB n) c bB).bind fun bt =>
    (Jj bt 6 0 n'.Ac).bind fun bD =>
    some bD.2
    else
    if decide (n'.Ab = 15) then
    (ix n'.Aa 0).bind fun bG =>
    ((JB n) c bG).bind fun bo =>
    (Jj bo 8 0 ([] : Str)).bind fun bn =>
    some bn.2
    else
    if decide (n'.Ab = 17) then
    (Jaj (JB n) n c n' ([43] : Str)).bind fun bz =>
    some bz
    else
    if decide (n'.Ab = 18) then
    (Jaj (JB n) n c n' ([45] : Str)).bind fun bv =>
    some bv
    else
    if decide (n'.Ab = 19) then
    (Jaj (JB n) n c n' ([42] : Str)).bind fun bA =>
    some bA
    else
    if decide (n'.Ab = 16) then
    (Jaj (JB n) n c n' n'.Ac).bind fun br =>
    some br
    else
    if decide (n'.Ab = 14) then
    (ix n'.Aa 0).bind fun bp =>
    ((JB n) c bp).bind fun bF =>
    (Jj bF 10 0 ([] : Str)).bind fun bl =>
    (ix n'.Aa 1).bind fun bc =>
    ((JB n) bl.2 bc).bind fun aZ =>
    (Jj aZ 9 0 ([] : Str)).bind fun aS =>
    (JP aS.2 bl.1).bind fun bh =>
    (Jaw bh false).bind fun bb =>
    (JP bb aS.1).bind fun bg =>
    some bg
    else
    if decide (n'.Ab = 13) then
    (ix n'.Aa 0).bind fun bd =>
    ((JB n) c bd).bind fun aW =>
    (Jj aW 10 0 ([] : Str)).bind fun aT =>
    (Jaw aT.2 true).bind fun bj =>
    (Jj bj 9 0 ([] : Str)).bind fun aU =>
    (JP aU.2 aT.1).bind fun aY =>
    (ix n'.Aa 1).bind fun bf =>
    ((JB n) aY bf).bind fun aV =>
    (JP aV aU.1).bind fun aX =>
    some aX
    else
    some c
theorem Jcb : ∀ {n : Nat} {c : Jd} {n' : Ja} {b0 : Nat} {aa : Option Addr} {ab : Nat} {ah : Option Addr} {ak : Nat} {af : Option Addr} {ag : Nat} {K : Hp} {r : Jd}
    (hm : JB n c n' = some r) (hX : (0 < c.code.length → Has aa) ∧ (0 < c.names.length → Has ah) ∧ LiC Ja.R K af ag 4 n'.Aa),
    Fn Tryz.prog 231 [.pointer (some ⟨b0, 0, none⟩), .agg #[.int .i64 n'.Ab, str n'.Ac, .slice af n'.Aa.length ag, .int .i64 n'.Ad]] K [Cells b0 209 [.slice aa c.code.length ab, .slice ah c.names.length ak, .int .i64 c.Ap], qau Jf.enc aa 135 3 ab c.code, qau Jr.enc ah 290 2 ak c.names] (fun v K' H' => ∃ ar_0 : Option Addr, ∃ cr_0 : Nat, ∃ ar_1 : Option Addr, ∃ cr_1 : Nat, v = .tuple #[] ∧ (0 < r.code.length → Has ar_0) ∧ (0 < r.names.length → Has ar_1) ∧ H' = [Cells b0 209 [.slice ar_0 r.code.length cr_0, .slice ar_1 r.names.length cr_1, .int .i64 r.Ap], qau Jf.enc ar_0 135 3 cr_0 r.code, qau Jr.enc ar_1 290 2 cr_1 r.names]) := by
 intro n
 induction n with
 | zero =>
   intro c n' b0 aa ab ah ak af ag K r hm hX
   rw [JB.eq_1] at hm; cases hm
 | succ n ih =>
   intro c n' b0 aa ab ah ak af ag K r hm hX
   obtain ⟨ae, eX, ai⟩ := hX
   refine Fn.enter Tryz.func231 Tryz.call231 rfl fun F => ?_
   rw [JB.eq_2] at hm
   refine qar ?_
   intro b3
   refine fa rfl (ro (ld r0 rfl rfl ?_))
   refine qal rfl ?_
   refine qaf (cs rfl rfl hm ?_ ?_) <;> intro iA hm
   refine fa rfl (ro (ld r0 rfl rfl ?_))
   refine cb hm fun hO gx hm => cg0 (qp5 (E := 48) gx) ?_
   refine qa5 rfl ?_
   refine cs rfl rfl hm ?_ ?_ <;> intro ia hm
   refine cb hm fun gu bD hm => ckx (Jg bD :) ?_
   rintro _ _ _ ⟨bc, bh, bl, bb, rfl, bn, aV, rfl⟩
   exact eE hm
   refine cb hm fun gu bD hm => ckx (Jg bD :) ?_
   rintro _ _ _ ⟨bc, bh, bl, bb, rfl, bn, aV, rfl⟩
   exact eE hm
   refine qaf (cs rfl rfl hm ?_ ?_) <;> intro hS hm
   refine fa rfl (ro (ld r0 rfl rfl ?_))
   refine cb hm fun iu gY hm => ckx (Jg gY :) ?_
   rintro _ _ _ ⟨eK, fS, ga, fR, rfl, fK, fX, rfl⟩
   exact eE hm
   refine qaf (cs rfl rfl hm ?_ ?_) <;> intro hP hm
   refine fa rfl (ro (ld r0 rfl rfl (qaq ?_)))
   refine cb hm fun iz gK hm => ckx (Ja7 gK :) ?_
   rintro _ _ _ ⟨gc, eu, eY, fB, rfl, dY, eW, rfl⟩
   exact eE hm
   refine qaf (cs rfl rfl hm ?_ ?_) <;> intro ik hm
   refine fa rfl (ro (ld r0 rfl rfl ?_))
   refine cb hm fun hU gT hm => ckx (Jdc gT :) ?_
   rintro _ _ _ ⟨gp, gj, eT, eL, rfl, dZ, eJ, rfl⟩
   exact eE hm
   refine qaf (cs rfl rfl hm ?_ ?_) <;> intro im hm
   refine fa rfl (ro (ld r0 rfl rfl ?_))
   obtain ⟨ie, fw, cU, hm⟩ := ixb hm
   refine RStep.ofN (qad rfl rfl (qc0 ai.rd cU) fw (qaz rfl fw cU) ?_)
   obtain ⟨gN, gV, bw, cQ, bZ⟩ := LiR.get ai.rd cU
   obtain ⟨ey, d6, rfl, eg⟩ := Ja.out bZ
   refine ro (qan ((0 : Int).toNat) _ bw rfl cQ rfl ?_)
   refine cb hm fun hZ gG hm => ckx (ih gG :) ?_
   rintro _ _ _ ⟨gi, fl, fo, d5, rfl, fH, ef, rfl⟩
   refine fa rfl (ro (ld r3 rfl rfl ?_))
   refine cb hm fun iv gt hm => ckx (Jg gt :) ?_
   rintro _ _ _ ⟨gn, eO, ei, gl, rfl, fh, eh, rfl⟩
   exact eE hm
   refine qaf (cs rfl rfl hm ?_ ?_) <;> intro hY hm
   refine fa rfl (ro (ld r0 rfl rfl ?_))
   obtain ⟨iw, gf, dF, hm⟩ := ixb hm
   refine RStep.ofN (qad rfl rfl (qc0 ai.rd dF) gf (qaz rfl gf dF) ?_)
   obtain ⟨gE, gA, cX, dj, cH⟩ := LiR.get ai.rd dF
   obtain ⟨fD, gk, rfl, eA⟩ := Ja.out cH
   refine ro (qan ((0 : Int).toNat) _ cX rfl dj rfl ?_)
   refine cb hm fun hE gw hm => ckx (ih gw :) ?_
   rintro _ _ _ ⟨d7, fU, eC, fM, rfl, d4, fQ, rfl⟩
   refine cb hm fun iy gv hm => ckx (Jg gv :) ?_
   rintro _ _ _ ⟨fC, ep, eQ, fu, rfl, fV, fG, rfl⟩
   exact eE hm
   refine qaf (cs rfl rfl hm ?_ ?_) <;> intro iq hm
   refine ro (qab r0 rfl (nl rfl) ?_)
   refine cb hm fun ig gR hm => ckx (JaJ ih gR :) ?_
   rintro _ _ _ ⟨d8, fZ, f8, fN, rfl, fp, ej, rfl⟩
   exact eE hm
   refine qaf (cs rfl rfl hm ?_ ?_) <;> intro ip hm
   refine ro (qab r0 rfl (nl rfl) ?_)
   refine cb hm fun ib gU hm => ckx (JaJ ih gU :) ?_
   rintro _ _ _ ⟨fb, fO, fY, fL, rfl, fA, fj, rfl⟩
   exact eE hm
   refine qaf (cs rfl rfl hm ?_ ?_) <;> intro ir hm
   refine ro (qab r0 rfl (nl rfl) ?_)
   refine cb hm fun ii gX hm => ckx (JaJ ih gX :) ?_
   rintro _ _ _ ⟨eD, fv, ff, gd, rfl, eG, ew, rfl⟩
   exact eE hm
   refine qaf (cs rfl rfl hm ?_ ?_) <;> intro io hm
   refine ro (qab r0 rfl (nl rfl) (fa rfl (ro (ld r0 rfl rfl ?_))))
   refine cb hm fun il gC hm => ckx (JaJ ih gC :) ?_
   rintro _ _ _ ⟨ee, gm, fT, gg, rfl, fe, fk, rfl⟩
   exact eE hm
   refine qaf (cs rfl rfl hm ?_ ?_) <;> intro hJ hm
   refine fa rfl (ro (ld r0 rfl rfl ?_))
   obtain ⟨ic, eH, dp, hm⟩ := ixb hm
   refine RStep.ofN (qad rfl rfl (qc0 ai.rd dp) eH (qaz rfl eH dp) ?_)
   obtain ⟨gH, g8, cP, df, cE⟩ := LiR.get ai.rd dp
   obtain ⟨fq, fy, rfl, eF⟩ := Ja.out cE
   refine ro (qan ((0 : Int).toNat) _ cP rfl df rfl ?_)
   refine cb hm fun iB gz hm => ckx (ih gz :) ?_
   rintro _ _ _ ⟨d9, fJ, d3, fE, rfl, dW, eP, rfl⟩
   refine cb hm fun ij gQ hm => ckx (Jg gQ :) ?_
   rintro _ _ _ ⟨ge, gh, fg, gq, rfl, dX, fP, rfl⟩
   refine fa rfl (ro (ld r3 rfl rfl ?_))
   obtain ⟨gO, bm, aS, hm⟩ := ixb hm
   refine RStep.ofN (qad rfl rfl (qc0 ai.rd aS) bm (qaz rfl bm aS) ?_)
   obtain ⟨fI, eZ, bg, aX, bo⟩ := LiR.get ai.rd aS
   obtain ⟨cJ, bQ, rfl, cr⟩ := Ja.out bo
   refine ro (qan ((1 : Int).toNat) _ bg rfl aX rfl ?_)
   refine cb hm fun gM bY hm => ckx (ih bY :) ?_
   rintro _ _ _ ⟨dy, bu, bJ, dV, rfl, bR, dx, rfl⟩
   refine cb hm fun gB cB hm => ckx (Jg cB :) ?_
   rintro _ _ _ ⟨bF, cj, cN, dT, rfl, bL, bt, rfl⟩
   refine cb hm fun g9 dc hm => ckx (JR dc :) ?_
   rintro _ _ _ ⟨cV, dz, bI, cm, rfl, dN, dJ, rfl⟩
   refine cb hm fun gy cR hm => ckx (Ja7 cR :) ?_
   rintro _ _ _ ⟨dB, bN, cY, cO, rfl, bW, bz, rfl⟩
   refine cb hm fun gP dR hm => ckx (JR dR :) ?_
   rintro _ _ _ ⟨cn, dU, cL, bS, rfl, dL, cZ, rfl⟩
   exact eE hm
   refine qaf (cs rfl rfl hm ?_ ?_) <;> intro gF hm
   refine fa rfl (ro (ld r0 rfl rfl ?_))
   obtain ⟨gS, bj, aT, hm⟩ := ixb hm
   refine RStep.ofN (qad rfl rfl (qc0 ai.rd aT) bj (qaz rfl bj aT) ?_)
   obtain ⟨eV, fm, aZ, aY, bp⟩ := LiR.get ai.rd aT
   obtain ⟨bv, bU, rfl, cD⟩ := Ja.out bp
   refine ro (qan ((0 : Int).toNat) _ aZ rfl aY rfl ?_)
   refine cb hm fun g7 dn hm => ckx (ih dn :) ?_
   rintro _ _ _ ⟨dS, dM, cu, bK, rfl, co, bM, rfl⟩
   refine cb hm fun gr dO hm => ckx (Jg dO :) ?_
   rintro _ _ _ ⟨de, bO, cC, di, rfl, br, dH, rfl⟩
   refine cb hm fun gJ dC hm => ckx (Ja7 dC :) ?_
   rintro _ _ _ ⟨bX, dh, cw, cG, rfl, cy, ce, rfl⟩
   refine cb hm fun gI bP hm => ckx (Jg bP :) ?_
   rintro _ _ _ ⟨du, bG, cI, dm, rfl, dw, dD, rfl⟩
   refine cb hm fun gD bB hm => ckx (JR bB :) ?_
   rintro _ _ _ ⟨dP, dk, dv, dq, rfl, dG, cW, rfl⟩
   refine fa rfl (ro (ld r3 rfl rfl ?_))
   obtain ⟨gZ, bf, aU, hm⟩ := ixb hm
   refine RStep.ofN (qad rfl rfl (qc0 ai.rd aU) bf (qaz rfl bf aU) ?_)
   obtain ⟨gb, fc, aW, ba, bd⟩ := LiR.get ai.rd aU
   obtain ⟨cA, dA, rfl, cM⟩ := Ja.out bd
   refine ro (qan ((1 : Int).toNat) _ aW rfl ba rfl ?_)
   refine cb hm fun gL bT hm => ckx (ih bT :) ?_
   rintro _ _ _ ⟨bH, ca, dg, dQ, rfl, bV, dE, rfl⟩
   refine cb hm fun gW bC hm => ckx (JR bC :) ?_
   rintro _ _ _ ⟨cz, cK, dI, bA, rfl, dt, dK, rfl⟩
   exact eE hm
   exact eE hm

def Jap (av : (Jd → (List Ja) → Option (Jd))) : Nat → Jd → Ja → Option (Jd)
  | 0, _, _ => none
  | n + 1, c, n' =>
    (ix n'.Aa 0).bind fun x9 =>
    (JB n c x9).bind fun aZ =>
    (Jj aZ 10 0 ([] : Str)).bind fun aT =>
    (ix n'.Aa 1).bind fun bc =>
    (av aT.2 bc.Aa).bind fun aV =>
    if decide ((n'.Aa.length : Int) = 2) then
    (JP aV aT.1).bind fun bd =>
    some bd
    else
    (Jj aV 9 0 ([] : Str)).bind fun aU =>
    (JP aU.2 aT.1).bind fun aW =>
    (ix n'.Aa 2).bind fun bf =>
    if decide (bf.Ab = 2) then
    (ix n'.Aa 2).bind fun aX =>
    ((Jap av n) aW aX).bind fun aY =>
    (JP aY aU.1).bind fun aS =>
    some aS
    else
    (ix n'.Aa 2).bind fun bb =>
    (av aW bb.Aa).bind fun ba =>
    (JP ba aU.1).bind fun aS =>
    some aS
theorem Jc2 {av : (Jd → (List Ja) → Option (Jd))} (ihrec4_0 : ∀ {c : Jd} {list : (List Ja)} {b0 : Nat} {aa : Option Addr} {ab : Nat} {ah : Option Addr} {ak : Nat} {af : Option Addr} {ag : Nat} {n1 : Nat} {K : Hp} {r : Jd} (hm : av c list = some r) (hX : (0 < c.code.length → Has aa) ∧ (0 < c.names.length → Has ah) ∧ LiC Ja.R K af ag 4 list ∧ n1 = list.length), Fn Tryz.prog 142 [.pointer (some ⟨b0, 0, none⟩), .slice af n1 ag] K [Cells b0 209 [.slice aa c.code.length ab, .slice ah c.names.length ak, .int .i64 c.Ap], qau Jf.enc aa 135 3 ab c.code, qau Jr.enc ah 290 2 ak c.names] (fun v K' H' => ∃ ar_0 : Option Addr, ∃ cr_0 : Nat, ∃ ar_1 : Option Addr, ∃ cr_1 : Nat, v = .tuple #[] ∧ (0 < r.code.length → Has ar_0) ∧ (0 < r.names.length → Has ar_1) ∧ H' = [Cells b0 209 [.slice ar_0 r.code.length cr_0, .slice ar_1 r.names.length cr_1, .int .i64 r.Ap], qau Jf.enc ar_0 135 3 cr_0 r.code, qau Jr.enc ar_1 290 2 cr_1 r.names])) : ∀ {n : Nat} {c : Jd} {n' : Ja} {b0 : Nat} {aa : Option Addr} {ab : Nat} {ah : Option Addr} {ak : Nat} {af : Option Addr} {ag : Nat} {K : Hp} {r : Jd}
    (hm : Jap av n c n' = some r) (hX : (0 < c.code.length → Has aa) ∧ (0 < c.names.length → Has ah) ∧ LiC Ja.R K af ag 4 n'.Aa),
    Fn Tryz.prog 230 [.pointer (some ⟨b0, 0, none⟩), .agg #[.int .i64 n'.Ab, str n'.Ac, .slice af n'.Aa.length ag, .int .i64 n'.Ad]] K [Cells b0 209 [.slice aa c.code.length ab, .slice ah c.names.length ak, .int .i64 c.Ap], qau Jf.enc aa 135 3 ab c.code, qau Jr.enc ah 290 2 ak c.names] (fun v K' H' => ∃ ar_0 : Option Addr, ∃ cr_0 : Nat, ∃ ar_1 : Option Addr, ∃ cr_1 : Nat, v = .tuple #[] ∧ (0 < r.code.length → Has ar_0) ∧ (0 < r.names.length → Has ar_1) ∧ H' = [Cells b0 209 [.slice ar_0 r.code.length cr_0, .slice ar_1 r.names.length cr_1, .int .i64 r.Ap], qau Jf.enc ar_0 135 3 cr_0 r.code, qau Jr.enc ar_1 290 2 cr_1 r.names]) := by
 intro n
 induction n with
 | zero =>
   intro c n' b0 aa ab ah ak af ag K r hm hX
   rw [Jap.eq_1] at hm; cases hm
 | succ n ih =>
   intro c n' b0 aa ab ah ak af ag K r hm hX
   obtain ⟨ae, cO, ai⟩ := hX
   refine Fn.enter Tryz.func230 Tryz.call230 rfl fun F => ?_
   rw [Jap.eq_2] at hm
   refine qar ?_
   intro b3
   refine fa rfl (ro (ld r0 rfl rfl ?_))
   obtain ⟨x9, l9, k9, hm⟩ := ixb hm
   refine RStep.ofN (qad rfl rfl (qc0 ai.rd k9) l9 (qaz rfl l9 k9) ?_)
   obtain ⟨dq, dz, bv, bu, bw⟩ := LiR.get ai.rd k9
   obtain ⟨cP, bD, rfl, bO⟩ := Ja.out bw
   refine ro (qan ((0 : Int).toNat) _ bv rfl bu rfl ?_)
   refine cb hm fun dT dE hm => ckx (Jcb dE :) ?_
   rintro _ _ _ ⟨bA, bG, cn, bL, rfl, cy, cA, rfl⟩
   refine cb hm fun dR dw hm => ckx (Jg dw :) ?_
   rintro _ _ _ ⟨dj, cB, bF, bY, rfl, dh, dg, rfl⟩
   refine fa rfl (ro (ld r3 rfl rfl ?_))
   obtain ⟨dL, cK, ba, hm⟩ := ixb hm
   refine RStep.ofN (qad rfl rfl (qc0 ai.rd ba) cK (qaz rfl cK ba) (qa8 rfl (qc0 ai.rd ba) ?_))
   obtain ⟨dB, dD, bn, bg, bd⟩ := LiR.get ai.rd ba
   obtain ⟨bT, cL, rfl, cZ⟩ := Ja.out bd
   refine ro (qci ((1 : Int).toNat) 2 _ _ bn rfl bg rfl rfl ?_)
   refine cb hm fun dN dm hm => ckx (ihrec4_0 dm :) ?_
   rintro _ _ _ ⟨cR, cm, cQ, cY, rfl, cz, cW, rfl⟩
   refine fa rfl (ro (ld r3 rfl rfl (ro (qak rfl (qaf ?_)))))
   refine cs rfl rfl hm ?_ ?_ <;> intro dJ hm
   refine cb hm fun dS dH hm => ckx (JR dH :) ?_
   rintro _ _ _ ⟨cM, bR, cr, bI, rfl, co, cE, rfl⟩
   exact eE hm
   refine cb hm fun dK dt hm => ckx (Jg dt :) ?_
   rintro _ _ _ ⟨cC, bP, cV, bz, rfl, bX, bC, rfl⟩
   refine cb hm fun dU dp hm => ckx (JR dp :) ?_
   rintro _ _ _ ⟨bV, ce, cD, bN, rfl, de, bU, rfl⟩
   refine fa rfl (ro (ld r3 rfl rfl ?_))
   obtain ⟨dQ, cu, aZ, hm⟩ := ixb hm
   refine RStep.ofN (qad rfl rfl (qc0 ai.rd aZ) cu (qaz rfl cu aZ) (qa8 rfl (qc0 ai.rd aZ) ?_))
   obtain ⟨du, dC, bo, bm, bp⟩ := LiR.get ai.rd aZ
   obtain ⟨cI, cj, rfl, bH⟩ := Ja.out bp
   refine ro (qci ((2 : Int).toNat) 0 _ _ bo rfl bm rfl rfl (qaf ?_))
   refine cs rfl rfl hm ?_ ?_ <;> intro dM hm
   refine fa rfl (ro (ld r3 rfl rfl ?_))
   obtain ⟨dI, dk, bj, hm⟩ := ixb hm
   refine RStep.ofN (qad rfl rfl (qc0 ai.rd bj) dk (qaz rfl dk bj) ?_)
   obtain ⟨dF, dA, br, bc, bl⟩ := LiR.get ai.rd bj
   obtain ⟨di, cX, rfl, bJ⟩ := Ja.out bl
   refine ro (qan ((2 : Int).toNat) _ br rfl bc rfl ?_)
   refine cb hm fun dO dx hm => ckx (ih dx :) ?_
   rintro _ _ _ ⟨bW, cJ, bK, cN, rfl, cG, bB, rfl⟩
   refine cb hm fun dy bh hm => ckx (JR bh :) ?_
   rintro _ _ _ ⟨aX, aU, aW, aT, rfl, aV, aS, rfl⟩
   exact eE hm
   refine fa rfl (ro (ld r3 rfl rfl ?_))
   obtain ⟨dV, cH, aY, hm⟩ := ixb hm
   refine RStep.ofN (qad rfl rfl (qc0 ai.rd aY) cH (qaz rfl cH aY) (qa8 rfl (qc0 ai.rd aY) ?_))
   obtain ⟨dn, dv, bf, bb, bt⟩ := LiR.get ai.rd aY
   obtain ⟨cw, bS, rfl, ca⟩ := Ja.out bt
   refine ro (qci ((2 : Int).toNat) 2 _ _ bf rfl bb rfl rfl ?_)
   refine cb hm fun dP dG hm => ckx (ihrec4_0 dG :) ?_
   rintro _ _ _ ⟨cU, dc, df, bQ, rfl, bM, bZ, rfl⟩
   refine cb hm fun dy bh hm => ckx (JR bh :) ?_
   rintro _ _ _ ⟨aX, aU, aW, aT, rfl, aV, aS, rfl⟩
   exact eE hm
