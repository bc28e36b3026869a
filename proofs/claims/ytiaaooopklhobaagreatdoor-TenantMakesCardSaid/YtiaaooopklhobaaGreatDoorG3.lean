/- Functions of the program: mirrors, and that a call returns what the mirror says. Printed by gen.py. -/
import Derived.Test.YtiaaooopklhobaaGreatDoorG2
set_option linter.unusedVariables false
set_option linter.unusedSimpArgs false
open Go Go.SL Go.Proofs
noncomputable section
set_option maxRecDepth 1000000
set_option maxHeartbeats 8000000
def JB : Nat → Ja → Option (Bool)
  | 0, _ => none
  | n + 1, n' =>
    if decide (n'.Ab = 2) then
    (if ((decide (n'.Ac ≠ ([] : Str)) || decide ((n'.Aa.length : Int) < 2)) || decide ((n'.Aa.length : Int) > 3)) then some true else (ix n'.Aa 0).bind fun a6 =>
    (Jv n a6).bind fun bh =>
    some (!bh)).bind fun bc =>
    (if bc then some true else (ix n'.Aa 1).bind fun bp =>
    (Ja6 (JB n) n bp).bind fun bo =>
    some (!bo)).bind fun a8 =>
    if a8 then
    some false
    else
    (if decide ((n'.Aa.length : Int) = 2) then some true else (ix n'.Aa 2).bind fun bj =>
    (Ja6 (JB n) n bj).bind fun bg =>
    some bg).bind fun ba =>
    if ba then
    some true
    else
    (ix n'.Aa 2).bind fun bf =>
    (if decide (bf.Ab = 2) then (ix n'.Aa 2).bind fun bm =>
    ((JB n) bm).bind fun aH =>
    some aH else some false).bind fun bb =>
    some bb
    else
    if decide (n'.Ab = 6) then
    (JaJ n'.Ac).bind fun bn =>
    some (bn && decide ((n'.Aa.length : Int) = 0))
    else
    if decide (n'.Ab = 10) then
    some (decide (n'.Ac = ([] : Str)) && decide ((n'.Aa.length : Int) = 0))
    else
    if decide (n'.Ab = 11) then
    some (decide (n'.Ac = ([] : Str)) && decide ((n'.Aa.length : Int) = 0))
    else
    if decide (n'.Ab = 3) then
    (JbV n n'.Ac).bind fun aZ =>
    if (!aZ) then
    some false
    else
    (if decide ((n'.Aa.length : Int) = 1) then (ix n'.Aa 0).bind fun aV =>
    (Jv n aV).bind fun aW =>
    some aW else some false).bind fun aX =>
    some aX
    else
    if decide (n'.Ab = 4) then
    if (decide (n'.Ac ≠ ([112, 97, 116, 104] : Str)) && decide (n'.Ac ≠ ([113, 117, 101, 114, 121] : Str))) then
    some false
    else
    (if decide ((n'.Aa.length : Int) = 1) then (ix n'.Aa 0).bind fun aV =>
    (Jv n aV).bind fun aW =>
    some aW else some false).bind fun aX =>
    some aX
    else
    if decide (n'.Ab = 5) then
    (JaJ n'.Ac).bind fun aY =>
    if (!aY) then
    some false
    else
    (if decide ((n'.Aa.length : Int) = 1) then (ix n'.Aa 0).bind fun aV =>
    (Jv n aV).bind fun aW =>
    some aW else some false).bind fun aX =>
    some aX
    else
    if decide (n'.Ab = 7) then
    if decide (n'.Ac ≠ ([] : Str)) then
    some false
    else
    (if decide ((n'.Aa.length : Int) = 1) then (ix n'.Aa 0).bind fun aV =>
    (Jv n aV).bind fun aW =>
    some aW else some false).bind fun aX =>
    some aX
    else
    if decide (n'.Ab = 8) then
    if decide (n'.Ac ≠ ([] : Str)) then
    some false
    else
    (if decide ((n'.Aa.length : Int) = 1) then (ix n'.Aa 0).bind fun aV =>
    (Jv n aV).bind fun aW =>
    some aW else some false).bind fun aX =>
    some aX
    else
    if decide (n'.Ab = 9) then
    if decide (n'.Ac ≠ ([] : Str)) then
    some false
    else
    (if decide ((n'.Aa.length : Int) = 1) then (ix n'.Aa 0).bind fun aV =>
    (Jv n aV).bind fun aW =>
    some aW else some false).bind fun aX =>
    some aX
    else
    some false
theorem Jd4 : ∀ {n : Nat} {n' : Ja} {aa : Option Addr} {ab : Nat} {K : Hp} {r : Bool}
    (hm : JB n n' = some r) (hX : LiC Ja.R K aa ab 4 n'.Aa ∧ GG K),
    Fn Tryz.prog 190 [.agg #[.int .i64 n'.Ab, str n'.Ac, .slice aa n'.Aa.length ab, .int .i64 n'.Ad]] K [] (fun v K' H' => v = .bool r ∧ H' = []) := by
 intro n
 induction n with
 | zero =>
   intro n' aa ab K r hm hX
   rw [JB.eq_1] at hm; cases hm
 | succ n ih =>
   intro n' aa ab K r hm hX
   obtain ⟨ae, hG⟩ := hX
   refine Fn.enter Tryz.func190 Tryz.call190 rfl fun F => ?_
   rw [JB.eq_2] at hm
   refine qar ?_
   intro b1
   refine fa rfl (ro (ld r0 rfl rfl ?_))
   refine qam rfl ?_
   refine qag (cs rfl rfl hm ?_ ?_) <;> intro w6 hm
   refine fa rfl (ro (ld r0 rfl rfl (ro (qal rfl ?_))))
   refine qaj rfl ?_
   refine fa rfl (ro (ld r0 rfl rfl (qbq ?_)))
   refine qaf ?_ ?_ <;> intro bu
   refine ct bu (ct bu (cT (cT (cT ?_))))
   obtain ⟨cD, bB, hm⟩ := bnd hm
   replace bB := ift (qco (qco bu)) bB
   refine cT (cT (cT (cT (cT (cT (cT ?_))))))
   obtain ⟨cj, bw, hm⟩ := bnd hm
   replace bw := ift (si bB).symm bw
   refine cT (cT (cT (cT (cT (cT (cT (qac rfl ?_)))))))
   refine cT ?_
   replace hm := ift (si bw).symm hm
   exact eE hm
   refine cf bu (cf bu ?_)
   refine qaf ?_ ?_ <;> intro bv
   refine ct bv (ct bv ?_)
   obtain ⟨cD, bB, hm⟩ := bnd hm
   replace bB := ift (qco (qi2 bu bv)) bB
   refine cT (cT (cT (cT (cT (cT (cT ?_))))))
   obtain ⟨cj, bw, hm⟩ := bnd hm
   replace bw := ift (si bB).symm bw
   refine cT (cT (cT (cT (cT (cT (cT (qac rfl ?_)))))))
   refine cT ?_
   replace hm := ift (si bw).symm hm
   exact eE hm
   refine cf bv (cf bv ?_)
   obtain ⟨cD, bB, hm⟩ := bnd hm
   refine qaf ?_ ?_ <;> intro a6
   replace bB := ift (qi2 (qf1 bu bv) a6) bB
   refine ct a6 (ct a6 (ct a6 (ct a6 (ct a6 (ct a6 ?_)))))
   obtain ⟨cj, bw, hm⟩ := bnd hm
   replace bw := ift (si bB).symm bw
   refine cT (cT (cT (cT (cT (cT (cT (qac rfl ?_)))))))
   refine cT ?_
   replace hm := ift (si bw).symm hm
   exact eE hm
   replace bB := qbd (qf1 (qf1 bu bv) a6) bB
   refine fa rfl (cf a6 (ro (ld r0 rfl rfl (cf a6 ?_))))
   obtain ⟨dz, cR, bM, bB⟩ := ixb bB
   refine RStep.ofN (qae rfl rfl (qda ae.rd bM) cR (qaw rfl cR bM) (cf a6 ?_))
   obtain ⟨c8, da, bV, bX, bO⟩ := LiR.get ae.rd bM
   obtain ⟨cG, cB, rfl, cP⟩ := Ja.out bO
   refine ro (qao ((0 : Int).toNat) _ bV rfl bX rfl (cf a6 ?_))
   refine cb bB fun dp dh bB => cgx (Jan dh :) ?_
   refine cf a6 (qav (cf a6 ?_))
   obtain ⟨cj, bw, hm⟩ := bnd hm
   refine qaf ?_ ?_ <;> intro a8
   replace bw := ift ((si bB).symm.trans (qgu (qob a8))) bw
   refine ct a8 (ct a8 (ct a8 (ct a8 (ct a8 (ct a8 (qac rfl (cT ?_)))))))
   replace hm := ift (si bw).symm hm
   exact eE hm
   replace bw := qbd ((si bB).symm.trans (qdx (qkr a8))) bw
   refine fa rfl (cf a8 (ro (ld r0 rfl rfl (cf a8 ?_))))
   obtain ⟨dy, cL, cm, bw⟩ := ixb bw
   refine RStep.ofN (qae rfl rfl (qda ae.rd cm) cL (qaw rfl cL cm) (cf a8 ?_))
   obtain ⟨cZ, cW, bT, cp, cn⟩ := LiR.get ae.rd cm
   obtain ⟨cw, cJ, rfl, cH⟩ := Ja.out cn
   refine ro (qao ((1 : Int).toNat) _ bT rfl cp rfl (cf a8 ?_))
   refine cb bw fun dm cX bw => cgx (Jdc ih cX :) ?_
   refine cf a8 (qav (cf a8 (qac rfl ?_)))
   refine qaf ?_ ?_ <;> intro cN
   replace hm := ift ((si bw).symm.trans (qgu (qob cN))) hm
   exact eE hm
   replace hm := qbd ((si bw).symm.trans (qdx (qkr cN))) hm
   refine qaj rfl ?_
   refine qag ?_
   obtain ⟨dv, bG, hm⟩ := bnd hm
   refine cS bG (fun bj bG => ?_) fun bj bG => ?_
   refine ct bj (ct bj (ct bj (ct bj (ct bj ?_))))
   replace hm := ift (si bG).symm hm
   refine cT (cT (cT (cT (cT (cT (cT (cT ?_)))))))
   refine cT ?_
   exact eE hm
   refine fa rfl (cf bj (ro (ld r0 rfl rfl (cf bj ?_))))
   obtain ⟨dB, cy, ca, bG⟩ := ixb bG
   refine RStep.ofN (qae rfl rfl (qda ae.rd ca) cy (qaw rfl cy ca) (cf bj ?_))
   obtain ⟨c4, dj, bZ, cd, bS⟩ := LiR.get ae.rd ca
   obtain ⟨cI, cC, rfl, cA⟩ := Ja.out bS
   refine ro (qao ((2 : Int).toNat) _ bZ rfl cd rfl (cf bj ?_))
   refine cb bG fun dw dc bG => cgx (Jdc ih dc :) ?_
   refine cf bj ?_
   refine qaf ?_ ?_ <;> intro aY
   replace hm := ift ((si bG).symm.trans aY) hm
   refine ct aY (ct aY (ct aY (ct aY (ct aY (ct aY (ct aY (ct aY ?_)))))))
   exact eE hm
   replace hm := qbd ((si bG).symm.trans aY) hm
   refine fa rfl (cf aY (ro (ld r0 rfl rfl (cf aY ?_))))
   obtain ⟨dq, cU, bL, hm⟩ := ixb hm
   refine RStep.ofN (qae rfl rfl (qda ae.rd bL) cU (qaw rfl cU bL) (cf aY (qa8 rfl (qda ae.rd bL) (cf aY ?_))))
   obtain ⟨de, c6, ce, bU, bR⟩ := LiR.get ae.rd bL
   obtain ⟨cr, cu, rfl, cK⟩ := Ja.out bR
   refine ro (qb1 ((2 : Int).toNat) 0 _ _ ce rfl bU rfl rfl (cf aY (qag (cf aY ?_))))
   obtain ⟨dn, bI, hm⟩ := bnd hm
   refine cS bI (fun bh bI => ?_) fun bh bI => ?_
   refine fa rfl (ct bh (ro (ld r0 rfl rfl (ct bh ?_))))
   obtain ⟨dk, cM, bP, bI⟩ := ixb bI
   refine RStep.ofN (qae rfl rfl (qda ae.rd bP) cM (qaw rfl cM bP) (ct bh ?_))
   obtain ⟨df, c9, bQ, bN, bW⟩ := LiR.get ae.rd bP
   obtain ⟨cz, cO, rfl, cq⟩ := Ja.out bW
   refine ro (qao ((2 : Int).toNat) _ bQ rfl bN rfl (ct bh ?_))
   refine cb bI fun aH cV bI => cgx (ih cV :) ?_
   refine cf aY (ct bh (cf aY ?_))
   exact bE (si bI) (eE hm)
   refine cf bh (cf bh (cf bh (cf bh (cf aY (cf bh (cf aY ?_))))))
   exact bE (si bI) (eE hm)
   refine qag (cs rfl rfl hm ?_ ?_) <;> intro dC hm
   refine qaj rfl ?_
   refine fa rfl (ro (ld r0 rfl rfl ?_))
   refine cb hm fun dx db hm => cg0 (Jck db :) ?_
   refine qaf ?_ ?_ <;> intro bm
   refine fa rfl (ct bm (ro (ld r0 rfl rfl (ct bm (ro (qal rfl (ct bm (qag (ct bm ?_)))))))))
   exact bE (qc8 (b := decide ((n'.Aa.length : Int) = 0)) bm) (eE hm)
   refine cf bm (cf bm (cf bm (cf bm ?_)))
   exact bE (((qbh bm)).symm) (eE hm)
   refine qag (cs rfl rfl hm ?_ ?_) <;> intro cQ hm
   refine qac rfl (ct cQ ?_)
   refine qaj rfl ?_
   refine fa rfl (ro (ld r0 rfl rfl (qaq ?_)))
   refine qaf ?_ ?_ <;> intro aX
   refine fa rfl (ct aX (ro (ld r0 rfl rfl (ct aX (ro (qal rfl (ct aX (qag (ct aX ?_)))))))))
   exact bE (qc8 (b := decide ((n'.Aa.length : Int) = 0)) aX) (eE hm)
   refine cf aX (cf aX (cf aX (cf aX ?_)))
   exact bE (((qbh aX)).symm) (eE hm)
   refine qag (cs rfl rfl hm ?_ ?_) <;> intro cQ hm
   refine qaj rfl ?_
   refine fa rfl (ro (ld r0 rfl rfl (qaq ?_)))
   refine qaf ?_ ?_ <;> intro aX
   refine fa rfl (ct aX (ro (ld r0 rfl rfl (ct aX (ro (qal rfl (ct aX (qag (ct aX ?_)))))))))
   exact bE (qc8 (b := decide ((n'.Aa.length : Int) = 0)) aX) (eE hm)
   refine cf aX (cf aX (cf aX (cf aX ?_)))
   exact bE (((qbh aX)).symm) (eE hm)
   refine qag (cs rfl rfl hm ?_ ?_) <;> intro dl hm
   refine fa rfl (ro (ld r0 rfl rfl ?_))
   refine cb hm fun dt di hm => cgx (JcU di :) ?_
   refine qav ?_
   refine cs rfl rfl hm ?_ ?_ <;> intro du hm
   exact eE hm
   refine qaj rfl ?_
   refine fa rfl (ro (ld r0 rfl rfl (ro (qal rfl (qag ?_)))))
   obtain ⟨bD, aW, hm⟩ := bnd hm
   refine cS aW (fun aV aW => ?_) fun aV aW => ?_
   refine fa rfl (ct aV (ro (ld r0 rfl rfl (ct aV ?_))))
   obtain ⟨bF, bf, aZ, aW⟩ := ixb aW
   refine RStep.ofN (qae rfl rfl (qda ae.rd aZ) bf (qaw rfl bf aZ) (ct aV ?_))
   obtain ⟨bA, bz, ba, bb, bc⟩ := LiR.get ae.rd aZ
   obtain ⟨bt, bn, rfl, bo⟩ := Ja.out bc
   refine ro (qao ((0 : Int).toNat) _ ba rfl bb rfl (ct aV ?_))
   refine cb aW fun bC bp aW => cgx (Jan bp :) ?_
   refine ct aV ?_
   exact bE (si aW) (eE hm)
   refine cf aV (cf aV (cf aV (cf aV (cf aV ?_))))
   exact bE (si aW) (eE hm)
   refine qag (cs rfl rfl hm ?_ ?_) <;> intro dA hm
   refine qaj rfl ?_
   refine fa rfl (ro (ld r0 rfl rfl (qbq ?_)))
   refine qaf ?_ ?_ <;> intro bg
   refine fa rfl (ct bg (ro (ld r0 rfl rfl (ct bg (qbq (ct bg (qac rfl ?_)))))))
   refine qaf ?_ ?_ <;> intro bJ
   replace hm := ift (qc1 bg bJ) hm
   exact eE hm
   replace hm := qbd (qc2 bg bJ) hm
   refine qaj rfl ?_
   refine fa rfl (ro (ld r0 rfl rfl (ro (qal rfl (qag ?_)))))
   obtain ⟨bD, aW, hm⟩ := bnd hm
   refine cS aW (fun aV aW => ?_) fun aV aW => ?_
   refine fa rfl (ct aV (ro (ld r0 rfl rfl (ct aV ?_))))
   obtain ⟨bF, bf, aZ, aW⟩ := ixb aW
   refine RStep.ofN (qae rfl rfl (qda ae.rd aZ) bf (qaw rfl bf aZ) (ct aV ?_))
   obtain ⟨bA, bz, ba, bb, bc⟩ := LiR.get ae.rd aZ
   obtain ⟨bt, bn, rfl, bo⟩ := Ja.out bc
   refine ro (qao ((0 : Int).toNat) _ ba rfl bb rfl (ct aV ?_))
   refine cb aW fun bC bp aW => cgx (Jan bp :) ?_
   refine ct aV ?_
   exact bE (si aW) (eE hm)
   refine cf aV (cf aV (cf aV (cf aV (cf aV ?_))))
   exact bE (si aW) (eE hm)
   refine cf bg (cf bg (cf bg (qac rfl (cF ?_))))
   replace hm := qbd (qbh bg) hm
   refine qaj rfl ?_
   refine fa rfl (ro (ld r0 rfl rfl (ro (qal rfl (qag ?_)))))
   obtain ⟨bD, aW, hm⟩ := bnd hm
   refine cS aW (fun aV aW => ?_) fun aV aW => ?_
   refine fa rfl (ct aV (ro (ld r0 rfl rfl (ct aV ?_))))
   obtain ⟨bF, bf, aZ, aW⟩ := ixb aW
   refine RStep.ofN (qae rfl rfl (qda ae.rd aZ) bf (qaw rfl bf aZ) (ct aV ?_))
   obtain ⟨bA, bz, ba, bb, bc⟩ := LiR.get ae.rd aZ
   obtain ⟨bt, bn, rfl, bo⟩ := Ja.out bc
   refine ro (qao ((0 : Int).toNat) _ ba rfl bb rfl (ct aV ?_))
   refine cb aW fun bC bp aW => cgx (Jan bp :) ?_
   refine ct aV ?_
   exact bE (si aW) (eE hm)
   refine cf aV (cf aV (cf aV (cf aV (cf aV ?_))))
   exact bE (si aW) (eE hm)
   refine qag (cs rfl rfl hm ?_ ?_) <;> intro c5 hm
   refine fa rfl (ro (ld r0 rfl rfl ?_))
   refine cb hm fun cY bY hm => cg0 (Jck bY :) ?_
   refine qav ?_
   refine cs rfl rfl hm ?_ ?_ <;> intro dg hm
   exact eE hm
   refine qaj rfl ?_
   refine fa rfl (ro (ld r0 rfl rfl (ro (qal rfl (qag ?_)))))
   obtain ⟨bD, aW, hm⟩ := bnd hm
   refine cS aW (fun aV aW => ?_) fun aV aW => ?_
   refine fa rfl (ct aV (ro (ld r0 rfl rfl (ct aV ?_))))
   obtain ⟨bF, bf, aZ, aW⟩ := ixb aW
   refine RStep.ofN (qae rfl rfl (qda ae.rd aZ) bf (qaw rfl bf aZ) (ct aV ?_))
   obtain ⟨bA, bz, ba, bb, bc⟩ := LiR.get ae.rd aZ
   obtain ⟨bt, bn, rfl, bo⟩ := Ja.out bc
   refine ro (qao ((0 : Int).toNat) _ ba rfl bb rfl (ct aV ?_))
   refine cb aW fun bC bp aW => cgx (Jan bp :) ?_
   refine ct aV ?_
   exact bE (si aW) (eE hm)
   refine cf aV (cf aV (cf aV (cf aV (cf aV ?_))))
   exact bE (si aW) (eE hm)
   refine qag (cs rfl rfl hm ?_ ?_) <;> intro bH hm
   refine qac rfl (ct bH (fa rfl (ro (ld r0 rfl rfl (qbq ?_)))))
   refine cs rfl rfl hm ?_ ?_ <;> intro bK hm
   exact eE hm
   refine qaj rfl ?_
   refine fa rfl (ro (ld r0 rfl rfl (ro (qal rfl (qag ?_)))))
   obtain ⟨bD, aW, hm⟩ := bnd hm
   refine cS aW (fun aV aW => ?_) fun aV aW => ?_
   refine fa rfl (ct aV (ro (ld r0 rfl rfl (ct aV ?_))))
   obtain ⟨bF, bf, aZ, aW⟩ := ixb aW
   refine RStep.ofN (qae rfl rfl (qda ae.rd aZ) bf (qaw rfl bf aZ) (ct aV ?_))
   obtain ⟨bA, bz, ba, bb, bc⟩ := LiR.get ae.rd aZ
   obtain ⟨bt, bn, rfl, bo⟩ := Ja.out bc
   refine ro (qao ((0 : Int).toNat) _ ba rfl bb rfl (ct aV ?_))
   refine cb aW fun bC bp aW => cgx (Jan bp :) ?_
   refine ct aV ?_
   exact bE (si aW) (eE hm)
   refine cf aV (cf aV (cf aV (cf aV (cf aV ?_))))
   exact bE (si aW) (eE hm)
   refine qag (cs rfl rfl hm ?_ ?_) <;> intro bH hm
   refine qac rfl (ct bH (fa rfl (ro (ld r0 rfl rfl (qbq ?_)))))
   refine cs rfl rfl hm ?_ ?_ <;> intro bK hm
   exact eE hm
   refine qaj rfl ?_
   refine fa rfl (ro (ld r0 rfl rfl (ro (qal rfl (qag ?_)))))
   obtain ⟨bD, aW, hm⟩ := bnd hm
   refine cS aW (fun aV aW => ?_) fun aV aW => ?_
   refine fa rfl (ct aV (ro (ld r0 rfl rfl (ct aV ?_))))
   obtain ⟨bF, bf, aZ, aW⟩ := ixb aW
   refine RStep.ofN (qae rfl rfl (qda ae.rd aZ) bf (qaw rfl bf aZ) (ct aV ?_))
   obtain ⟨bA, bz, ba, bb, bc⟩ := LiR.get ae.rd aZ
   obtain ⟨bt, bn, rfl, bo⟩ := Ja.out bc
   refine ro (qao ((0 : Int).toNat) _ ba rfl bb rfl (ct aV ?_))
   refine cb aW fun bC bp aW => cgx (Jan bp :) ?_
   refine ct aV ?_
   exact bE (si aW) (eE hm)
   refine cf aV (cf aV (cf aV (cf aV (cf aV ?_))))
   exact bE (si aW) (eE hm)
   refine qag (cs rfl rfl hm ?_ ?_) <;> intro bH hm
   refine fa rfl (ro (ld r0 rfl rfl (qbq ?_)))
   refine cs rfl rfl hm ?_ ?_ <;> intro bK hm
   exact eE hm
   refine qaj rfl ?_
   refine fa rfl (ro (ld r0 rfl rfl (ro (qal rfl (qag ?_)))))
   obtain ⟨bD, aW, hm⟩ := bnd hm
   refine cS aW (fun aV aW => ?_) fun aV aW => ?_
   refine fa rfl (ct aV (ro (ld r0 rfl rfl (ct aV ?_))))
   obtain ⟨bF, bf, aZ, aW⟩ := ixb aW
   refine RStep.ofN (qae rfl rfl (qda ae.rd aZ) bf (qaw rfl bf aZ) (ct aV ?_))
   obtain ⟨bA, bz, ba, bb, bc⟩ := LiR.get ae.rd aZ
   obtain ⟨bt, bn, rfl, bo⟩ := Ja.out bc
   refine ro (qao ((0 : Int).toNat) _ ba rfl bb rfl (ct aV ?_))
   refine cb aW fun bC bp aW => cgx (Jan bp :) ?_
   refine ct aV ?_
   exact bE (si aW) (eE hm)
   refine cf aV (cf aV (cf aV (cf aV (cf aV ?_))))
   exact bE (si aW) (eE hm)
   exact eE hm

def JaX (n : Nat) : List Ja → Nat → Option (Fl (Bool) (Unit))
  | [], _ => some (Fl.go ())
  | e0 :: aV, i0 =>
    (JB n e0).bind fun aW =>
    if (!aW) then
    some (Fl.ret false)
    else
    JaX n aV (i0 + 1)
def JaC (n : Nat) (n' : Ja) : Option (Bool) :=
  if (decide (n'.Ab ≠ 1) || decide (n'.Ac ≠ ([] : Str))) then
  some false
  else
  (JaR n n' 512 32).bind fun aV =>
  if (!aV.1) then
  some false
  else
  (chk (n'.Aa.length ≤ qa1)).bind fun _ =>
  (JaX n n'.Aa 0).bind fun s0 => s0.el some fun t0 =>
  some true
theorem Jea {n : Nat} {n' : Ja} {aa : Option Addr} {ab : Nat} {K : Hp} {r : Bool}
    (hm : JaC n n' = some r) (hX : LiC Ja.R K aa ab 4 n'.Aa ∧ GG K) :
    Fn Tryz.prog 140 [.agg #[.int .i64 n'.Ab, str n'.Ac, .slice aa n'.Aa.length ab, .int .i64 n'.Ad]] K [] (fun v K' H' => v = .bool r ∧ H' = []) := by
 obtain ⟨ae, hG⟩ := hX
 refine Fn.enter Tryz.func140 Tryz.call140 rfl fun F => ?_
 unfold JaC at hm
 refine qar ?_
 intro b1
 refine qai rfl fun b3 => ?_
 refine qaa r0 rfl ⟨rfl, rfl, (nl rfl), ?_⟩
 refine qaj rfl ?_
 refine fa rfl (ro (ld r1 rfl rfl (qbb ?_)))
 refine qaf ?_ ?_ <;> intro aW
 refine ct aW (ct aW (ct aW ?_))
 replace hm := ift (qco aW) hm
 refine cT (cT (cT (cT (qac rfl (cT ?_)))))
 exact eE hm
 refine fa rfl (cf aW (ro (ld r1 rfl rfl (cf aW (qbq (cf aW ?_))))))
 refine qaf ?_ ?_ <;> intro aV
 replace hm := ift (qi2 aW aV) hm
 refine ct aV (ct aV (ct aV (qac rfl (cT ?_))))
 exact eE hm
 replace hm := qbd (qf1 aW aV) hm
 refine ro (qab r1 rfl (nl rfl) (cf aV ?_))
 refine cb hm fun bp bn hm => cgx (Jd9 bn :) ?_
 refine cf aV (qav (cf aV ?_))
 refine cs rfl rfl hm ?_ ?_ <;> intro bt hm
 exact eE hm
 refine fa rfl (ro (ld r1 rfl rfl (ro (qal rfl ?_))))
 obtain ⟨bg, hm⟩ := qax hm
 obtain ⟨s0, aX, hm⟩ := bnd hm
 refine lD (σ := (Unit)) ([2,5] ++ rg 22 8) [0, 1, 2] (fun i0 => [(22, .int .i64 (i0 : Int))]) (fun _ => []) (fun _ => []) (fun _ => True) (fun i0 _ => JaX n (n'.Aa.drop i0) i0 = some s0) (fun t0 => s0 = Fl.go t0) (fun i0 => n'.Aa.length - i0) 0 () aX (And.intro qe (And.intro ?_ ?_))
 clear aX
 rintro i0 _ _ aX j0
 conv at aX => whnf
 refine qac rfl ?_
 refine qaf ?_ ?_ <;> intro w0
 obtain ⟨e0, aY, bm⟩ := ltx w0
 rw [bm, JaX.eq_2] at aX
 refine qam rfl ?_
 refine RStep.ofN (qae rfl rfl (qda ae.rd aY) (nn _) (qbp aY) ?_)
 obtain ⟨bf, bh, a8, aZ, a6⟩ := LiR.get ae.rd aY
 obtain ⟨ba, bc, rfl, bb⟩ := Ja.out a6
 refine ro (qao i0 _ a8 rfl aZ rfl ?_)
 refine qai rfl fun b5 => ?_
 refine qaa r0 rfl ⟨rfl, rfl, (nl rfl), ?_⟩
 refine ro (qab r0 rfl (nl rfl) ?_)
 refine cb aX fun bo bj aX => cgx (Jd4 bj :) ?_
 refine qav ?_
 refine cs rfl rfl aX ?_ ?_ <;> intro bu aX
 exact eE (er aX hm)
 refine qan (qbu aY bg) ?_
 exact eR aX (_, ())
 rw [lty w0, JaX.eq_1] at aX
 refine cT ?_
 exact eM aX _
 rintro t0 _ rfl j0
 replace hm := elg hm
 exact eE hm

def Jcv (name : Str) : Option (Bool) :=
  some (((decide (name = ([109, 101, 116, 104, 111, 100] : Str)) || decide (name = ([104, 111, 115, 116] : Str))) || decide (name = ([112, 97, 116, 104] : Str))) || decide (name = ([113, 117, 101, 114, 121] : Str)))
theorem JdA {name : Str} {K : Hp} {r : Bool}
    (hm : Jcv name = some r)  :
    Fn Tryz.prog 243 [str name] K [] (fun v K' H' => v = .bool r ∧ H' = []) := by
 refine Fn.enter Tryz.func243 Tryz.call243 rfl fun F => ?_
 unfold Jcv at hm
 refine qaj rfl ?_
 refine qaq ?_
 refine qaf ?_ ?_ <;> intro aW
 refine ct aW (ct aW (cT (cT (cT (cT (cT (cT ?_)))))))
 exact bE (((qco (qco (qco aW)))).symm) (eE hm)
 refine cf aW (qaq (cf aW ?_))
 refine qaf ?_ ?_ <;> intro aX
 refine ct aX (ct aX (cT (cT (cT ?_))))
 exact bE (((qco (qco (qi2 aW aX)))).symm) (eE hm)
 refine cf aX (qaq (cf aX ?_))
 refine qaf ?_ ?_ <;> intro aV
 refine ct aV (ct aV ?_)
 exact bE (((qco (qi2 (qf1 aW aX) aV))).symm) (eE hm)
 refine cf aV (qaq (cf aV ?_))
 exact bE (qid (b := decide (name = ([113, 117, 101, 114, 121] : Str))) (qf1 (qf1 aW aX) aV)) (eE hm)

def Jar (env : (List Jl)) (name : Str) : Nat → Int → Option (Fl (Int) (Int))
  | 0, _ => none
  | aV + 1, ac =>
    if decide (ac ≥ 0) then
    (ix env ac).bind fun aX =>
    if decide (aX.Name = name) then
    (ix env ac).bind fun aW =>
    some (Fl.ret aW.Ar)
    else
    (chk (InI (ac - 1))).bind fun _ =>
    Jar env name aV (ac - 1)
    else
    some (Fl.go ac)
def Jbe (n : Nat) (name : Str) (env : (List Jl)) : Option (Int) :=
  (chk (InI ((env.length : Int) - 1))).bind fun _ =>
  (Jar env name n ((env.length : Int) - 1)).bind fun s0 => s0.el some fun t0 =>
  (Jcv name).bind fun aV =>
  if aV then
  some 1
  else
  some 0
theorem JcL {n : Nat} {name : Str} {env : (List Jl)} {af : Option Addr} {ag : Nat} {n1 : Nat} {K : Hp} {r : Int}
    (hm : Jbe n name env = some r) (hX : RdC Jl.enc K af ag 2 env ∧ n1 = env.length) :
    Fn Tryz.prog 227 [str name, .slice af n1 ag] K [] (fun v K' H' => v = .int .i64 r ∧ H' = []) := by
 obtain ⟨aj, a8⟩ := hX
 subst a8
 refine Fn.enter Tryz.func227 Tryz.call227 rfl fun F => ?_
 unfold Jbe at hm
 refine ro (qal rfl ?_)
 refine ci hm fun hm => ?_
 obtain ⟨s0, aV, hm⟩ := bnd hm
 refine lD (σ := (Int)) ([4,5] ++ rg 9 16) [0] (fun _ => []) (fun t0 => [(5, .int .i64 t0)]) (fun _ => []) (fun _ => True) (fun i0 t0 => Jar env name i0 t0 = some s0) (fun t0 => s0 = Fl.go t0) (fun i0 => i0) n _ aV (And.intro qe (And.intro ?_ ?_))
 clear aV
 rintro i0 ac _ aV j0
 conv at aV => whnf
 cases i0 with
 | zero => rw [Jar.eq_1] at aV; cases aV
 | succ i0 =>
  rw [Jar.eq_2] at aV
  refine cs rfl rfl aV ?_ ?_ <;> intro bh aV
  refine qam rfl ?_
  obtain ⟨bb, aY, aX, aV⟩ := ixb aV
  refine RStep.ofN (qae rfl rfl (qea aj.rd aX) aY (qaw rfl aY aX) (qa8 rfl (qea aj.rd aX) (ro (qb1 ((ac).toNat) 0 _ _ aj.rd rfl (mp aX) rfl rfl (qaq ?_)))))
  refine cs rfl rfl aV ?_ ?_ <;> intro bf aV
  obtain ⟨ba, aZ, aW, aV⟩ := ixb aV
  refine RStep.ofN (qae rfl rfl (qea aj.rd aW) aZ (qaw rfl aZ aW) (qa8 rfl (qea aj.rd aW) (ro (qb1 ((ac).toNat) 1 _ _ aj.rd rfl (mp aW) rfl rfl ?_))))
  exact eE (er aV hm)
  refine ci aV fun aV => ?_
  exact eR aV (_, _)
  refine cT ?_
  exact eM aV _
 rintro t0 _ rfl j0
 replace hm := elg hm
 refine cb hm fun bc a6 hm => cg0 (JdA a6 :) ?_
 refine cs rfl rfl hm ?_ ?_ <;> intro bg hm
 exact eE hm
 exact eE hm

def JM (c : Jn) (n' : Ja) (err : Err) : Option (Jn) :=
  if c.err.isNone then
  some (⟨n'.Ad, err⟩ : Jn)
  else
  some c
theorem Jae {c : Jn} {n' : Ja} {err : Err} {b0 : Nat} {af : Option Addr} {ag : Nat} {K : Hp} {r : Jn}
    (hm : JM c n' err = some r) (aj : LiC Ja.R K af ag 4 n'.Aa) :
    Fn Tryz.prog 193 [.pointer (some ⟨b0, 0, none⟩), .agg #[.int .i64 n'.Ab, str n'.Ac, .slice af n'.Aa.length ag, .int .i64 n'.Ad], qc3 48 err] K [Cells b0 204 [.int .i64 c.line, qc3 48 c.err]] (fun v K' H' => v = .tuple #[] ∧ H' = [Cells b0 204 [.int .i64 r.line, qc3 48 r.err]]) := by
 refine Fn.enter Tryz.func193 Tryz.call193 rfl fun F => ?_
 unfold JM at hm
 refine qar ?_
 intro b4
 refine qah (fa rfl (ro (ld r1 rfl rfl (qe7 rfl ?_))))
 refine cs rfl rfl hm ?_ ?_ <;> intro aV hm
 refine fa rfl (ro (ld r0 rfl rfl (qah (fa rfl ?_))))
 refine qaa r1 rfl ⟨rfl, rfl, (nl rfl), ?_⟩
 refine qah (fa rfl ?_)
 refine qpm r0 rfl rfl ?_
 exact eE hm
 exact eE hm

def JaY (name : Str) : Option (Int × Int) :=
  if decide (name = ([104, 101, 97, 100, 101, 114] : Str)) then
  some (1, 1)
  else
  if decide (name = ([97, 114, 103] : Str)) then
  some (1, 1)
  else
  if decide (name = ([108, 111, 119, 101, 114] : Str)) then
  some (1, 1)
  else
  if decide (name = ([104, 97, 115] : Str)) then
  some (1, 3)
  else
  if decide (name = ([108, 101, 110] : Str)) then
  some (1, 2)
  else
  if decide (name = ([110, 117, 109, 98, 101, 114] : Str)) then
  some (1, 2)
  else
  if decide (name = ([112, 97, 114, 116] : Str)) then
  some (2, 1)
  else
  if decide (name = ([116, 101, 120, 116] : Str)) then
  some (2, 1)
  else
  some (0, 0)
theorem JdV {name : Str} {K : Hp} {r : Int × Int}
    (hm : JaY name = some r)  :
    Fn Tryz.prog 244 [str name] K [] (fun v K' H' => v = .tuple #[.int .i64 r.1, .int .i64 r.2] ∧ H' = []) := by
 refine Fn.enter Tryz.func244 Tryz.call244 rfl fun F => ?_
 unfold JaY at hm
 refine qam rfl ?_
 refine qaq (cs rfl rfl hm ?_ ?_) <;> intro w5 hm
 refine qac rfl (ct w5 ?_)
 exact eE hm
 refine qaq (cs rfl rfl hm ?_ ?_) <;> intro w5 hm
 refine qac rfl (ct w5 ?_)
 exact eE hm
 refine qaq (cs rfl rfl hm ?_ ?_) <;> intro w5 hm
 exact eE hm
 refine qaq (cs rfl rfl hm ?_ ?_) <;> intro w9 hm
 exact eE hm
 refine qaq (cs rfl rfl hm ?_ ?_) <;> intro aW hm
 refine qac rfl (ct aW ?_)
 exact eE hm
 refine qaq (cs rfl rfl hm ?_ ?_) <;> intro aW hm
 exact eE hm
 refine qaq (cs rfl rfl hm ?_ ?_) <;> intro aV hm
 refine qac rfl (ct aV ?_)
 exact eE hm
 refine qaq (cs rfl rfl hm ?_ ?_) <;> intro aV hm
 exact eE hm
 exact eE hm

def J6 (c : Jn) (n' : Ja) (args : (List Int)) : Option (Int × Jn) :=
  (JaY n'.Ac).bind fun aV =>
  if decide (aV.2 = 0) then
  (JM c n' (some 8)).bind fun aW =>
  some (aV.2, aW)
  else
  (if decide ((args.length : Int) ≠ 1) then some true else (ix args 0).bind fun aY =>
  some (decide (aY ≠ aV.1))).bind fun aX =>
  if aX then
  (JM c n' (some 9)).bind fun aZ =>
  some (aV.2, aZ)
  else
  some (aV.2, c)
theorem JcF {c : Jn} {n' : Ja} {args : (List Int)} {b0 : Nat} {af : Option Addr} {ag : Nat} {ar : Option Addr} {au : Nat} {n2 : Nat} {K : Hp} {r : Int × Jn}
    (hm : J6 c n' args = some r) (hX : LiC Ja.R K af ag 4 n'.Aa ∧ RdC eN K ar au 1 args ∧ n2 = args.length) :
    Fn Tryz.prog 228 [.pointer (some ⟨b0, 0, none⟩), .agg #[.int .i64 n'.Ab, str n'.Ac, .slice af n'.Aa.length ag, .int .i64 n'.Ad], .slice ar n2 au] K [Cells b0 204 [.int .i64 c.line, qc3 48 c.err]] (fun v K' H' => v = .int .i64 r.1 ∧ H' = [Cells b0 204 [.int .i64 r.2.line, qc3 48 r.2.err]]) := by
 obtain ⟨aj, aW, bf⟩ := hX
 subst bf
 refine Fn.enter Tryz.func228 Tryz.call228 rfl fun F => ?_
 unfold J6 at hm
 refine qar ?_
 intro b4
 refine fa rfl (ro (ld r0 rfl rfl ?_))
 refine cb hm fun bg ba hm => cg0 (JdV ba :) ?_
 refine qag (cs rfl rfl hm ?_ ?_) <;> intro bh hm
 refine ro (qab r0 rfl (nl rfl) ?_)
 refine qas rfl ?_
 refine cb hm fun bj bc hm => cgx (Jae bc :) ?_
 exact eE hm
 refine qaj rfl ?_
 refine ro (qal rfl (qbb ?_))
 obtain ⟨bn, aX, hm⟩ := bnd hm
 refine cS aX (fun aV aX => ?_) fun aV aX => ?_
 refine ct aV (ct aV (ct aV (ct aV (ct aV (qac rfl (cT ?_))))))
 replace hm := ift (si aX).symm hm
 refine ro (qab r0 rfl (nl rfl) ?_)
 refine qas rfl ?_
 refine cb hm fun bb aY hm => cgx (Jae aY :) ?_
 exact eE hm
 refine cf aV ?_
 obtain ⟨bm, a8, aZ, aX⟩ := ixb aX
 refine RStep.ofN (qae rfl rfl (qea aW.rd aZ) a8 (qaw rfl a8 aZ) (cf aV (ro (qb1 ((0 : Int).toNat) 0 _ _ aW.rd rfl (mp aZ) rfl rfl (cf aV (cf aV (qbb (cf aV (qac rfl ?_)))))))))
 refine qaf ?_ ?_ <;> intro a6
 replace hm := ift ((si aX).symm.trans a6) hm
 refine ro (qab r0 rfl (nl rfl) ?_)
 refine qas rfl ?_
 refine cb hm fun bb aY hm => cgx (Jae aY :) ?_
 exact eE hm
 replace hm := qbd ((si aX).symm.trans a6) hm
 exact eE hm

def JaG (t : Int) : List Int → Nat → Option (Fl (Bool) (Unit))
  | [], _ => some (Fl.go ())
  | e0 :: aV, i0 =>
    if decide (e0 ≠ t) then
    some (Fl.ret false)
    else
    JaG t aV (i0 + 1)
def JO (t : Int) (aL : (List Int)) : Option (Bool) :=
  (chk (aL.length ≤ qa1)).bind fun _ =>
  (JaG t aL 0).bind fun s0 => s0.el some fun t0 =>
  some true
theorem J1 {t : Int} {aL : (List Int)} {b1 : Nat} {af : Option Addr} {ag : Nat} {K : Hp} {r : Bool}
    (hm : JO t aL = some r) (aj : RdC eN K af ag 1 aL) :
    Fn Tryz.prog 245 [.int .i64 t, .pointer (some ⟨b1, 0, none⟩)] K [Cells b1 284 [.slice af aL.length ag]] (fun v K' H' => v = .bool r ∧ H' = [Cells b1 284 [.slice af aL.length ag]]) := by
 refine Fn.enter Tryz.func245 Tryz.call245 rfl fun F => ?_
 unfold JO at hm
 refine ro (ld r0 rfl rfl (ro (qal rfl ?_)))
 obtain ⟨aX, hm⟩ := qax hm
 obtain ⟨s0, aV, hm⟩ := bnd hm
 refine lD (σ := (Unit)) ([3,5] ++ rg 8 8) [0, 1] (fun i0 => [(8, .int .i64 (i0 : Int))]) (fun _ => []) (fun _ => []) (fun _ => True) (fun i0 _ => JaG t (aL.drop i0) i0 = some s0) (fun t0 => s0 = Fl.go t0) (fun i0 => aL.length - i0) 0 () aV (And.intro qe (And.intro ?_ ?_))
 clear aV
 rintro i0 _ _ aV j0
 conv at aV => whnf
 refine qac rfl ?_
 refine qaf ?_ ?_ <;> intro w0
 obtain ⟨e0, aW, aY⟩ := ltx w0
 rw [aY, JaG.eq_2] at aV
 refine qam rfl ?_
 refine RStep.ofN (qae rfl rfl (qea aj.rd aW) (nn _) (qbp aW) (ro (qb1 i0 0 _ _ aj.rd rfl (mp aW) rfl rfl (qbb ?_))))
 refine cs rfl rfl aV ?_ ?_ <;> intro aZ aV
 exact eE (er aV hm)
 refine qan (qbu aW aX) ?_
 exact eR aV (_, ())
 rw [lty w0, JaG.eq_1] at aV
 refine cT ?_
 exact eM aV _
 rintro t0 _ rfl j0
 replace hm := elg hm
 exact eE hm

def Jag (n' : Ja) (args : (List Int)) : Option (Int) :=
  if decide (n'.Ab = 17) then
  (JO 1 args).bind fun a6 =>
  if a6 then
  some 1
  else
  (JO 2 args).bind fun a8 =>
  if a8 then
  some 2
  else
  some 0
  else
  if decide (n'.Ab = 18) then
  (JO 2 args).bind fun aY =>
  if aY then
  some 2
  else
  some 0
  else
  if decide (n'.Ab = 19) then
  (JO 2 args).bind fun aY =>
  if aY then
  some 2
  else
  some 0
  else
  if decide (n'.Ab = 13) then
  (JO 3 args).bind fun aV =>
  if aV then
  some 3
  else
  some 0
  else
  if decide (n'.Ab = 14) then
  (JO 3 args).bind fun aV =>
  if aV then
  some 3
  else
  some 0
  else
  if decide (n'.Ab = 15) then
  (JO 3 args).bind fun aV =>
  if aV then
  some 3
  else
  some 0
  else
  if decide (n'.Ab = 16) then
  if decide (n'.Ac = ([61, 61] : Str)) then
  (ix args 0).bind fun aX =>
  (ix args 1).bind fun aW =>
  if decide (aX = aW) then
  some 3
  else
  some 0
  else
  if decide (n'.Ac = ([33, 61] : Str)) then
  (ix args 0).bind fun aX =>
  (ix args 1).bind fun aW =>
  if decide (aX = aW) then
  some 3
  else
  some 0
  else
  if decide (n'.Ac = ([60] : Str)) then
  (JO 2 args).bind fun aZ =>
  if aZ then
  some 3
  else
  some 0
  else
  if decide (n'.Ac = ([60, 61] : Str)) then
  (JO 2 args).bind fun aZ =>
  if aZ then
  some 3
  else
  some 0
  else
  (JO 1 args).bind fun ba =>
  if ba then
  some 3
  else
  some 0
  else
  some 0
theorem Jc3 {n' : Ja} {args : (List Int)} {aa : Option Addr} {ab : Nat} {af : Option Addr} {ag : Nat} {n1 : Nat} {K : Hp} {r : Int}
    (hm : Jag n' args = some r) (hX : LiC Ja.R K aa ab 4 n'.Aa ∧ RdC eN K af ag 1 args ∧ n1 = args.length) :
    Fn Tryz.prog 229 [.agg #[.int .i64 n'.Ab, str n'.Ac, .slice aa n'.Aa.length ab, .int .i64 n'.Ad], .slice af n1 ag] K [] (fun v K' H' => v = .int .i64 r ∧ H' = []) := by
 obtain ⟨ae, aj, bA⟩ := hX
 subst bA
 refine Fn.enter Tryz.func229 Tryz.call229 rfl fun F => ?_
 unfold Jag at hm
 refine qar ?_
 intro b2
 refine qar ?_
 intro b3
 refine mkFunc ?_
 refine fa rfl (ro (ld r1 rfl rfl ?_))
 refine qam rfl ?_
 refine qag (cs rfl rfl hm ?_ ?_) <;> intro w9 hm
 refine cb hm fun bF bu hm => cgx (J1 bu :) ?_
 refine cs rfl rfl hm ?_ ?_ <;> intro bI hm
 exact eE hm
 refine cb hm fun bH bt hm => cgx (J1 bt :) ?_
 refine cs rfl rfl hm ?_ ?_ <;> intro bG hm
 exact eE hm
 exact eE hm
 refine qag (cs rfl rfl hm ?_ ?_) <;> intro bf hm
 refine qac rfl (ct bf ?_)
 refine cb hm fun bm ba hm => cgx (J1 ba :) ?_
 refine cs rfl rfl hm ?_ ?_ <;> intro bz hm
 exact eE hm
 exact eE hm
 refine qag (cs rfl rfl hm ?_ ?_) <;> intro bf hm
 refine cb hm fun bm ba hm => cgx (J1 ba :) ?_
 refine cs rfl rfl hm ?_ ?_ <;> intro bz hm
 exact eE hm
 exact eE hm
 refine qag (cs rfl rfl hm ?_ ?_) <;> intro a6 hm
 refine qac rfl (ct a6 ?_)
 refine cb hm fun bc aZ hm => cgx (J1 aZ :) ?_
 refine cs rfl rfl hm ?_ ?_ <;> intro bb hm
 exact eE hm
 exact eE hm
 refine qag (cs rfl rfl hm ?_ ?_) <;> intro a6 hm
 refine qac rfl (ct a6 ?_)
 refine cb hm fun bc aZ hm => cgx (J1 aZ :) ?_
 refine cs rfl rfl hm ?_ ?_ <;> intro bb hm
 exact eE hm
 exact eE hm
 refine qag (cs rfl rfl hm ?_ ?_) <;> intro a6 hm
 refine cb hm fun bc aZ hm => cgx (J1 aZ :) ?_
 refine cs rfl rfl hm ?_ ?_ <;> intro bb hm
 exact eE hm
 exact eE hm
 refine qag (cs rfl rfl hm ?_ ?_) <;> intro bD hm
 refine fa rfl (ro (ld r1 rfl rfl ?_))
 refine qam rfl ?_
 refine qaq (cs rfl rfl hm ?_ ?_) <;> intro bg hm
 refine qac rfl (ct bg ?_)
 refine qba ⟨⟨[], false⟩, _, [(_, _)], []⟩ (by kernel_rfl) ⟨Hp.Le.refl _, (pf rfl), ci0⟩ ?_
 refine qap m0 rfl rfl ?_
 obtain ⟨bw, aX, aV, hm⟩ := ixb hm
 refine qae rfl rfl (qea aj.rd aV) aX (qaw rfl aX aV) (qfy ((0 : Int).toNat) 0 _ _ aj.rd rfl (mp aV) rfl rfl (qap m0 rfl rfl ?_))
 obtain ⟨bj, aY, aW, hm⟩ := ixb hm
 refine qae rfl rfl (qea aj.rd aW) aY (qaw rfl aY aW) (qfy ((1 : Int).toNat) 0 _ _ aj.rd rfl (mp aW) rfl rfl (qag ?_))
 refine cs rfl rfl hm ?_ ?_ <;> intro bv hm
 exact eE hm
 exact eE hm
 refine qaq (cs rfl rfl hm ?_ ?_) <;> intro bg hm
 refine qba ⟨⟨[], false⟩, _, [(_, _)], []⟩ (by kernel_rfl) ⟨Hp.Le.refl _, (pf rfl), ci0⟩ ?_
 refine qap m0 rfl rfl ?_
 obtain ⟨bw, aX, aV, hm⟩ := ixb hm
 refine qae rfl rfl (qea aj.rd aV) aX (qaw rfl aX aV) (qfy ((0 : Int).toNat) 0 _ _ aj.rd rfl (mp aV) rfl rfl (qap m0 rfl rfl ?_))
 obtain ⟨bj, aY, aW, hm⟩ := ixb hm
 refine qae rfl rfl (qea aj.rd aW) aY (qaw rfl aY aW) (qfy ((1 : Int).toNat) 0 _ _ aj.rd rfl (mp aW) rfl rfl (qag ?_))
 refine cs rfl rfl hm ?_ ?_ <;> intro bv hm
 exact eE hm
 exact eE hm
 refine qaq (cs rfl rfl hm ?_ ?_) <;> intro bh hm
 refine qac rfl (ct bh ?_)
 refine cb hm fun bn a8 hm => cgx (J1 a8 :) ?_
 refine cs rfl rfl hm ?_ ?_ <;> intro bp hm
 exact eE hm
 exact eE hm
 refine qaq (cs rfl rfl hm ?_ ?_) <;> intro bh hm
 refine cb hm fun bn a8 hm => cgx (J1 a8 :) ?_
 refine cs rfl rfl hm ?_ ?_ <;> intro bp hm
 exact eE hm
 exact eE hm
 refine cb hm fun bC bo hm => cgx (J1 bo :) ?_
 refine cs rfl rfl hm ?_ ?_ <;> intro bB hm
 exact eE hm
 exact eE hm
 exact eE hm

def JP (rec_ : (Jn → Ja → (List Jl) → Option (Int × Jn))) (env : (List Jl)) : List Ja → Nat → (List Int) → Int → Err → Option (Fl (Int × Jn) ((List Int) × Int × Err))
  | [], _, ac, aW, aV => some (Fl.go (ac, aW, aV))
  | e0 :: aY, i0, ac, aW, aV =>
    (rec_ (⟨aW, aV⟩ : Jn) e0 env).bind fun aX =>
    (chk (ac.length + [aX.1].length ≤ lim)).bind fun _ =>
    if aX.2.err.isSome then
    some (Fl.ret (0, aX.2))
    else
    JP rec_ env aY (i0 + 1) (ac ++ [aX.1]) aX.2.line aX.2.err
def JL : Nat → Jn → Ja → (List Jl) → Option (Int × Jn)
  | 0, _, _, _ => none
  | n + 1, c, n', env =>
    (chk (n'.Aa.length ≤ qa1)).bind fun _ =>
    (JP (JL n) env n'.Aa 0 [] c.line c.err).bind fun s0 => s0.el some fun t0 =>
    if decide (n'.Ab = 20) then
    some (2, (⟨t0.2.1, t0.2.2⟩ : Jn))
    else
    if decide (n'.Ab = 21) then
    some (1, (⟨t0.2.1, t0.2.2⟩ : Jn))
    else
    if decide (n'.Ab = 22) then
    some (3, (⟨t0.2.1, t0.2.2⟩ : Jn))
    else
    if decide (n'.Ab = 23) then
    (Jbe n n'.Ac env).bind fun aV =>
    if decide (aV = 0) then
    (JM (⟨t0.2.1, t0.2.2⟩ : Jn) n' (some 8)).bind fun aZ =>
    some (aV, aZ)
    else
    some (aV, (⟨t0.2.1, t0.2.2⟩ : Jn))
    else
    if decide (n'.Ab = 24) then
    (J6 (⟨t0.2.1, t0.2.2⟩ : Jn) n' t0.1).bind fun aX =>
    some (aX.1, aX.2)
    else
    (Jag n' t0.1).bind fun aW =>
    if decide (aW = 0) then
    (JM (⟨t0.2.1, t0.2.2⟩ : Jn) n' (some 9)).bind fun aY =>
    some (aW, aY)
    else
    some (aW, (⟨t0.2.1, t0.2.2⟩ : Jn))
theorem Jdv : ∀ {n : Nat} {c : Jn} {n' : Ja} {env : (List Jl)} {b0 : Nat} {af : Option Addr} {ag : Nat} {ar : Option Addr} {au : Nat} {n2 : Nat} {K : Hp} {r : Int × Jn}
    (hm : JL n c n' env = some r) (hX : LiC Ja.R K af ag 4 n'.Aa ∧ RdC Jl.enc K ar au 2 env ∧ n2 = env.length),
    Fn Tryz.prog 191 [.pointer (some ⟨b0, 0, none⟩), .agg #[.int .i64 n'.Ab, str n'.Ac, .slice af n'.Aa.length ag, .int .i64 n'.Ad], .slice ar n2 au] K [Cells b0 204 [.int .i64 c.line, qc3 48 c.err]] (fun v K' H' => v = .int .i64 r.1 ∧ H' = [Cells b0 204 [.int .i64 r.2.line, qc3 48 r.2.err]]) := by
 intro n
 induction n with
 | zero =>
   intro c n' env b0 af ag ar au n2 K r hm hX
   rw [JL.eq_1] at hm; cases hm
 | succ n ih =>
   intro c n' env b0 af ag ar au n2 K r hm hX
   obtain ⟨aj, bw, bI⟩ := hX
   subst bI
   refine Fn.enter Tryz.func191 Tryz.call191 rfl fun F => ?_
   rw [JL.eq_2] at hm
   refine qar ?_
   intro b4
   refine fa rfl (ro (ld r0 rfl rfl (ro (qal rfl ?_))))
   obtain ⟨bH, hm⟩ := qax hm
   obtain ⟨s0, aX, hm⟩ := bnd hm
   refine qjd eN 3 1 ?_
   refine lD (σ := ((List Int) × Int × Err) × Option Addr × Nat) ([6,7,9] ++ rg 15 17) [1, 3] (fun i0 => [(15, .int .i64 (i0 : Int))]) (fun (t0, aV, aW) => [(7, .slice aV t0.1.length aW)]) (fun (t0, aV, aW) => [OwnL eN aV 3 1 aW t0.1, Cells b0 204 [.int .i64 t0.2.1, qc3 48 t0.2.2]]) (fun (t0, aV, aW) => (0 < t0.1.length → Has aV) ∧ True) (fun i0 (t0, aV, aW) => JP (JL n) env (n'.Aa.drop i0) i0 t0.1 t0.2.1 t0.2.2 = some s0) (fun (t0, aV, aW) => s0 = Fl.go t0) (fun i0 => n'.Aa.length - i0) 0 ((_, _, _), _, _) aX (And.intro qe (And.intro ?_ ?_))
   clear aX
   rintro i0 ⟨⟨ac, bz, bL⟩, bm, bj⟩ ⟨bg, _⟩ aX j0
   dsimp only at aX ⊢
   refine qac rfl ?_
   refine qaf ?_ ?_ <;> intro w0
   obtain ⟨e0, ba, bF⟩ := ltx w0
   rw [bF, JP.eq_2] at aX
   refine qam rfl ?_
   refine RStep.ofN (qae rfl rfl (qda aj.rd ba) (nn _) (qbp ba) ?_)
   obtain ⟨bC, bJ, bb, bc, bf⟩ := LiR.get aj.rd ba
   obtain ⟨bn, bu, rfl, bp⟩ := Ja.out bf
   refine ro (qao i0 _ bb rfl bc rfl ?_)
   refine qai rfl fun b9 => ?_
   refine qaa r0 rfl ⟨rfl, rfl, (nl rfl), ?_⟩
   refine ro (qab r0 rfl (nl rfl) ?_)
   refine cb aX fun bo bD aX => cgx (ih bD :) ?_
   refine bsO (len := 1) (enc := eN) (l := [bo.1]) (cl := [.int .i64 bo.1]) qm9 rfl rfl (fun _ _ => rfl) rfl rfl rfl ?_ fun bP => ?_
   · conv => whnf
     refine cT ?_
     first | done | rfl
   obtain ⟨bG, aX⟩ := qax aX
   refine apE rfl r3 qm9 (qaz rfl r0 rfl (fun _ => rfl) (fun _ => rfl)) bG ?_
   intro bW bR bQ
   refine qah (fa rfl (ro (ld r2 rfl rfl (qa7 rfl ?_))))
   refine cs rfl rfl aX ?_ ?_ <;> intro bT aX
   exact eE (er aX hm)
   refine qan (qbu ba bH) ?_
   exact eR aX (_, (_, _, _), _, _)
   rw [lty w0, JP.eq_1] at aX
   refine cT ?_
   exact eM aX (_, _, _)
   rintro ⟨t0, aV, aW⟩ ⟨bt, _⟩ rfl j0
   replace hm := elg hm
   refine fa rfl (ro (ld r2 rfl rfl ?_))
   refine qam rfl ?_
   refine qag (cs rfl rfl hm ?_ ?_) <;> intro bU hm
   exact eE hm
   refine qag (cs rfl rfl hm ?_ ?_) <;> intro ce hm
   exact eE hm
   refine qag (cs rfl rfl hm ?_ ?_) <;> intro bZ hm
   exact eE hm
   refine qag (cs rfl rfl hm ?_ ?_) <;> intro ca hm
   refine fa rfl (ro (ld r2 rfl rfl ?_))
   refine cb hm fun bX bK hm => cgx (JcL bK :) ?_
   refine qag (cs rfl rfl hm ?_ ?_) <;> intro cm hm
   refine ro (qab r2 rfl (nl rfl) ?_)
   refine qas rfl ?_
   refine cb hm fun bS bM hm => cgx (Jae bM :) ?_
   exact eE hm
   exact eE hm
   refine qag (cs rfl rfl hm ?_ ?_) <;> intro bY hm
   refine ro (qab r2 rfl (nl rfl) ?_)
   refine cb hm fun bO bB hm => ck0 (Fn.lend Tryz.call228 (fun bh a8 a6 => (JcF (c := (⟨t0.2.1, t0.2.2⟩ : Jn)) (n' := n') bB ⟨(LiC.mono Ja.R_ok a8 aj), a6, rfl⟩)) (by exact fun _ _ _ _ h => h)) ?_
   rintro _ _ _ ⟨_, rfl, rfl, rfl⟩
   exact eE hm
   refine ro (qab r2 rfl (nl rfl) ?_)
   refine cb hm fun cd bN hm => ck0 (Fn.lend Tryz.call229 (fun bv aY aZ => (Jc3 (n' := n') bN ⟨(LiC.mono Ja.R_ok aY aj), aZ, rfl⟩)) (by exact fun _ _ _ _ h => h)) ?_
   rintro _ _ _ ⟨_, rfl, rfl, rfl⟩
   refine qag (cs rfl rfl hm ?_ ?_) <;> intro bV hm
   refine ro (qab r2 rfl (nl rfl) ?_)
   refine qas rfl ?_
   refine cb hm fun cj bA hm => cgx (Jae bA :) ?_
   exact eE hm
   exact eE hm

def JbW (n' : Ja) : Option (Int) :=
  if decide (n'.Ab = 2) then
  some 3
  else
  if decide (n'.Ab = 4) then
  some 1
  else
  if decide (n'.Ab = 5) then
  some 1
  else
  if decide (n'.Ab = 7) then
  some 1
  else
  if decide (n'.Ab = 8) then
  some 2
  else
  if decide (n'.Ab = 9) then
  some 2
  else
  some 0
theorem Jeb {n' : Ja} {aa : Option Addr} {ab : Nat} {K : Hp} {r : Int}
    (hm : JbW n' = some r) (ae : LiC Ja.R K aa ab 4 n'.Aa) :
    Fn Tryz.prog 192 [.agg #[.int .i64 n'.Ab, str n'.Ac, .slice aa n'.Aa.length ab, .int .i64 n'.Ad]] K [] (fun v K' H' => v = .int .i64 r ∧ H' = []) := by
 refine Fn.enter Tryz.func192 Tryz.call192 rfl fun F => ?_
 unfold JbW at hm
 refine qar ?_
 intro b1
 refine fa rfl (ro (ld r0 rfl rfl ?_))
 refine qam rfl ?_
 refine qag (cs rfl rfl hm ?_ ?_) <;> intro w5 hm
 exact eE hm
 refine qag (cs rfl rfl hm ?_ ?_) <;> intro w7 hm
 refine qac rfl (ct w7 ?_)
 exact eE hm
 refine qag (cs rfl rfl hm ?_ ?_) <;> intro w7 hm
 refine qac rfl (ct w7 ?_)
 exact eE hm
 refine qag (cs rfl rfl hm ?_ ?_) <;> intro w7 hm
 exact eE hm
 refine qag (cs rfl rfl hm ?_ ?_) <;> intro aV hm
 refine qac rfl (ct aV ?_)
 exact eE hm
 refine qag (cs rfl rfl hm ?_ ?_) <;> intro aV hm
 exact eE hm
 exact eE hm

def Ja8 (n : Nat) (name : Str) (env : (List Jl)) : Option (Bool) :=
  (Jbe n name env).bind fun x7 =>
  some (decide (x7 ≠ 0))
theorem Jc4 {n : Nat} {name : Str} {env : (List Jl)} {af : Option Addr} {ag : Nat} {n1 : Nat} {K : Hp} {r : Bool}
    (hm : Ja8 n name env = some r) (hX : RdC Jl.enc K af ag 2 env ∧ n1 = env.length) :
    Fn Tryz.prog 194 [str name, .slice af n1 ag] K [] (fun v K' H' => v = .bool r ∧ H' = []) := by
 obtain ⟨aj, aV⟩ := hX
 subst aV
 refine Fn.enter Tryz.func194 Tryz.call194 rfl fun F => ?_
 unfold Ja8 at hm
 refine cb hm fun x7 q7 hm => cgx (JcL q7 :) ?_
 refine qbb ?_
 exact eE hm

def Jap (env : (List Jl)) (name : Str) (t : Int) : Option ((List Jl)) :=
  (chk (InI ((env.length : Int) + 1))).bind fun _ =>
  (chk ((0 : Int) ≤ ((env.length : Int) + 1) ∧ ((env.length : Int) + 1) ≤ (lim : Int))).bind fun _ =>
  (chk (([] : List Jl).length + env.length ≤ lim)).bind fun _ =>
  (chk ((([] : List Jl) ++ env).length + [(⟨name, t⟩ : Jl)].length ≤ lim)).bind fun _ =>
  some ((([] : List Jl) ++ env) ++ [(⟨name, t⟩ : Jl)])
theorem JbD {env : (List Jl)} {name : Str} {t : Int} {aa : Option Addr} {ab : Nat} {n0 : Nat} {K : Hp} {r : (List Jl)}
    (hm : Jap env name t = some r) (hX : RdC Jl.enc K aa ab 2 env ∧ n0 = env.length) :
    Fn Tryz.prog 195 [.slice aa n0 ab, str name, .int .i64 t] K [] (fun v K' H' => ∃ ar_0 : Option Addr, ∃ cr_0 : Nat, v = .slice ar_0 r.length cr_0 ∧ (0 < r.length → Has ar_0) ∧ H' = [OwnL Jl.enc ar_0 288 2 cr_0 r]) := by
 obtain ⟨ae, aY⟩ := hX
 subst aY
 refine Fn.enter Tryz.func195 Tryz.call195 rfl fun F => ?_
 unfold Jap at hm
 refine ro (qal rfl ?_)
 refine ci hm fun hm => ?_
 obtain ⟨aX, hm⟩ := qax hm
 refine qtu (enc := Jl.enc) qna rfl aX fun ba => ?_
 obtain ⟨aW, hm⟩ := qax hm
 refine apE rfl r0 qna (quv rfl ae.rd rfl) aW ?_
 intro aZ bg bf
 refine qak rfl rfl (cT (cT ?_))
 refine bsO (len := 1) (enc := Jl.enc) (l := [(⟨name, t⟩ : Jl)]) (cl := [str name, .int .i64 t]) qna rfl rfl (fun _ _ => rfl) rfl rfl rfl ?_ fun a6 => ?_
 · conv => whnf
   refine cT ?_
   first | done | rfl
 obtain ⟨aV, hm⟩ := qax hm
 refine apE rfl r1 qna (qaz rfl r0 rfl (fun _ => rfl) (fun _ => rfl)) aV ?_
 intro a8 bb bc
 exact eE hm

def JaN (n' : Ja) : Option ((List Ja)) :=
  if decide (n'.Ab = 12) then
  some n'.Aa
  else
  some [n']
theorem Jch {n' : Ja} {aa : Option Addr} {ab : Nat} {K : Hp} {r : (List Ja)}
    (hm : JaN n' = some r) (ae : LiC Ja.R K aa ab 4 n'.Aa) :
    Fn Tryz.prog 196 [.agg #[.int .i64 n'.Ab, str n'.Ac, .slice aa n'.Aa.length ab, .int .i64 n'.Ad]] K [] (fun v K' H' => ∃ ar_0 : Option Addr, ∃ cr_0 : Nat, v = .slice ar_0 r.length cr_0 ∧ LiC Ja.R K' ar_0 cr_0 4 r ∧ H' = []) := by
 refine Fn.enter Tryz.func196 Tryz.call196 rfl fun F => ?_
 unfold JaN at hm
 refine qar ?_
 intro b1
 refine fa rfl (ro (ld r0 rfl rfl (qag ?_)))
 refine cs rfl rfl hm ?_ ?_ <;> intro w5 hm
 refine fa rfl (ro (ld r0 rfl rfl ?_))
 exact eE hm
 refine ro (qab r0 rfl (nl rfl) ?_)
 refine qmg (R := Ja.R) (len := 1) (l := [n']) (css := [[.int .i64 n'.Ab, str n'.Ac, .slice aa n'.Aa.length ab, .int .i64 n'.Ad]]) (cl := [.int .i64 n'.Ab, str n'.Ac, .slice aa n'.Aa.length ab, .int .i64 n'.Ad]) Ja.R_ok qb3 rfl rfl (LR.snoc LR.nil (Ja.of (x := n') ⟨aa, ab, rfl, ae⟩)) rfl rfl rfl ?_ fun b9 => ?_
 · conv => whnf
   refine cT ?_
   first | done | rfl
 refine qxn Ja.R_ok r0 (show LR Ja.R _ [[.int .i64 n'.Ab, str n'.Ac, .slice aa n'.Aa.length ab, .int .i64 n'.Ad]] [n'] from (LR.snoc LR.nil (Ja.of (x := n') ⟨aa, ab, rfl, ae⟩))) fun aW aV aX => ?_
 exact eE hm

def JA (rec_ : (Jn → (List Ja) → (List Jl) → Option (Jn))) (ac : (List Jl)) : List Ja → Nat → Int → Err → Option (Int × Err)
  | [], _, aV, aW => some (aV, aW)
  | e3 :: aZ, i3, aV, aW =>
    (JaN e3).bind fun aY =>
    (rec_ (⟨aV, aW⟩ : Jn) aY ac).bind fun aX =>
    JA rec_ ac aZ (i3 + 1) aX.line aX.err
def Js (n : Nat) (rec_ : (Jn → (List Ja) → (List Jl) → Option (Jn))) : List Ja → Nat → (List Jl) → Int → Err → Option (Fl (Jn) ((List Jl) × Int × Err))
  | [], _, ac, a6, aY => some (Fl.go (ac, a6, aY))
  | e0 :: aZ, i0, ac, a6, aY =>
    if decide ((e0.Aa.length : Int) = 0) then
    Js n rec_ aZ (i0 + 1) ac a6 aY
    else
    (ix e0.Aa 0).bind fun bc =>
    (JL n (⟨a6, aY⟩ : Jn) bc ac).bind fun aV =>
    (JbW e0).bind fun bb =>
    if ((aV.2.err.isNone && decide (bb ≠ 0)) && decide (aV.1 ≠ bb)) then
    (JM aV.2 e0 (some 9)).bind fun aW =>
    if aW.err.isSome then
    some (Fl.ret aW)
    else
    if decide (e0.Ab = 3) then
    (Ja8 n e0.Ac ac).bind fun ba =>
    if ba then
    (JM aW e0 (some 4)).bind fun aX =>
    (Jap ac e0.Ac aV.1).bind fun a8 =>
    if aX.err.isSome then
    some (Fl.ret aX)
    else
    Js n rec_ aZ (i0 + 1) a8 aX.line aX.err
    else
    (Jap ac e0.Ac aV.1).bind fun a8 =>
    if aW.err.isSome then
    some (Fl.ret aW)
    else
    Js n rec_ aZ (i0 + 1) a8 aW.line aW.err
    else
    if decide (e0.Ab = 2) then
    (chk (0 ≤ (1 : Int) ∧ (1 : Int) ≤ (e0.Aa.length : Int) ∧ (e0.Aa.length : Int) ≤ (e0.Aa.length : Int))).bind fun _ =>
    (chk ((subL e0.Aa (1 : Int) (e0.Aa.length : Int)).length ≤ qa1)).bind fun _ =>
    (JA rec_ ac (subL e0.Aa (1 : Int) (e0.Aa.length : Int)) 0 aW.line aW.err).bind fun t3 =>
    if t3.2.isSome then
    some (Fl.ret (⟨t3.1, t3.2⟩ : Jn))
    else
    Js n rec_ aZ (i0 + 1) ac t3.1 t3.2
    else
    if aW.err.isSome then
    some (Fl.ret aW)
    else
    Js n rec_ aZ (i0 + 1) ac aW.line aW.err
    else
    if aV.2.err.isSome then
    some (Fl.ret aV.2)
    else
    if decide (e0.Ab = 3) then
    (Ja8 n e0.Ac ac).bind fun ba =>
    if ba then
    (JM aV.2 e0 (some 4)).bind fun aX =>
    (Jap ac e0.Ac aV.1).bind fun a8 =>
    if aX.err.isSome then
    some (Fl.ret aX)
    else
    Js n rec_ aZ (i0 + 1) a8 aX.line aX.err
    else
    (Jap ac e0.Ac aV.1).bind fun a8 =>
    if aV.2.err.isSome then
    some (Fl.ret aV.2)
    else
    Js n rec_ aZ (i0 + 1) a8 aV.2.line aV.2.err
    else
    if decide (e0.Ab = 2) then
    (chk (0 ≤ (1 : Int) ∧ (1 : Int) ≤ (e0.Aa.length : Int) ∧ (e0.Aa.length : Int) ≤ (e0.Aa.length : Int))).bind fun _ =>
    (chk ((subL e0.Aa (1 : Int) (e0.Aa.length : Int)).length ≤ qa1)).bind fun _ =>
    (JA rec_ ac (subL e0.Aa (1 : Int) (e0.Aa.length : Int)) 0 aV.2.line aV.2.err).bind fun t3 =>
    if t3.2.isSome then
    some (Fl.ret (⟨t3.1, t3.2⟩ : Jn))
    else
    Js n rec_ aZ (i0 + 1) ac t3.1 t3.2
    else
    if aV.2.err.isSome then
    some (Fl.ret aV.2)
    else
    Js n rec_ aZ (i0 + 1) ac aV.2.line aV.2.err
def Jz : Nat → Jn → (List Ja) → (List Jl) → Option (Jn)
  | 0, _, _, _ => none
  | n + 1, c, list, env =>
    (chk (list.length ≤ qa1)).bind fun _ =>
    (Js n (Jz n) list 0 env c.line c.err).bind fun s0 => s0.el some fun t0 =>
    some (⟨t0.2.1, t0.2.2⟩ : Jn)
theorem Jdl : ∀ {n : Nat} {c : Jn} {list : (List Ja)} {env : (List Jl)} {b0 : Nat} {af : Option Addr} {ag : Nat} {n1 : Nat} {ar : Option Addr} {au : Nat} {n2 : Nat} {K : Hp} {r : Jn}
    (hm : Jz n c list env = some r) (hX : LiC Ja.R K af ag 4 list ∧ n1 = list.length ∧ RdC Jl.enc K ar au 2 env ∧ n2 = env.length),
    Fn Tryz.prog 141 [.pointer (some ⟨b0, 0, none⟩), .slice af n1 ag, .slice ar n2 au] K [Cells b0 204 [.int .i64 c.line, qc3 48 c.err]] (fun v K' H' => v = .tuple #[] ∧ H' = [Cells b0 204 [.int .i64 r.line, qc3 48 r.err]]) := by
 intro n
 induction n with
 | zero =>
   intro c list env b0 af ag n1 ar au n2 K r hm hX
   rw [Jz.eq_1] at hm; cases hm
 | succ n ih =>
   intro c list env b0 af ag n1 ar au n2 K r hm hX
   obtain ⟨aj, c6, cr, cQ⟩ := hX
   subst c6
   subst cQ
   refine Fn.enter Tryz.func141 Tryz.call141 rfl fun F => ?_
   rw [Jz.eq_2] at hm
   refine ro (qal rfl ?_)
   obtain ⟨bo, hm⟩ := qax hm
   obtain ⟨s0, aV, hm⟩ := bnd hm
   refine lC (σ := ((List Jl) × Int × Err) × Option Addr × Nat) ([2,7,8,9,11] ++ rg 14 79) [1] (fun i0 => [(14, .int .i64 (i0 : Int))]) (fun (t0, aZ, a6) => [(2, .slice aZ t0.1.length a6)]) (fun (t0, aZ, a6) => [Cells b0 204 [.int .i64 t0.2.1, qc3 48 t0.2.2]]) (fun zz K1 => match zz with | (t0, aZ, a6) => RdC Jl.enc K1 aZ a6 2 t0.1 ∧ True) (fun i0 (t0, aZ, a6) => Js n (Jz n) (list.drop i0) i0 t0.1 t0.2.1 t0.2.2 = some s0) (fun (t0, aZ, a6) => s0 = Fl.go t0) (fun i0 => list.length - i0) 0 ((_, _, _), _, _) aV (And.intro qe (And.intro ?_ ?_))
   clear aV
   rintro i0 ⟨⟨ac, cB, cY⟩, cn, ce⟩ c9 cy ⟨cd, _⟩ aV j0
   dsimp only at aV ⊢
   refine qac rfl ?_
   refine qaf ?_ ?_ <;> intro w0
   obtain ⟨e0, ba, cJ⟩ := ltx w0
   rw [cJ, Js.eq_2] at aV
   refine qam rfl ?_
   refine RStep.ofN (qae rfl rfl (qda (LiC.mono Ja.R_ok cy aj).rd ba) (nn _) (qbp ba) ?_)
   obtain ⟨cZ, cX, bO, bM, bI⟩ := LiR.get (LiC.mono Ja.R_ok cy aj).rd ba
   obtain ⟨cm, cw, rfl, a8⟩ := Ja.out bI
   refine ro (qao i0 _ bO rfl bM rfl ?_)
   refine qai rfl fun b7 => ?_
   refine qaa r0 rfl ⟨rfl, rfl, (nl rfl), ?_⟩
   refine fa rfl (ro (ld r0 rfl rfl (ro (qal rfl (qag ?_)))))
   refine cs rfl rfl aV ?_ ?_ <;> intro da aV
   refine cT (qan (qbu ba bo) ?_)
   exact eR aV (_, (_, _, _), _, _)
   refine fa rfl (ro (ld r0 rfl rfl ?_))
   obtain ⟨dc, cz, bH, aV⟩ := ixb aV
   refine RStep.ofN (qae rfl rfl (qda a8.rd bH) cz (qaw rfl cz bH) ?_)
   obtain ⟨cK, cM, bS, bW, bK⟩ := LiR.get a8.rd bH
   obtain ⟨cp, cj, rfl, cu⟩ := Ja.out bK
   refine ro (qao ((0 : Int).toNat) _ bS rfl bW rfl ?_)
   refine cb aV fun bN cI aV => cgx (Jdv cI :) ?_
   refine ro (qab r1 rfl (nl rfl) ?_)
   refine cb aV fun bX cG aV => cgx (Jeb cG :) ?_
   refine jR (σ := Unit) (rg 31 14) (fun _ => [(44, .bool ((bN.2.err.isNone && decide (bX ≠ 0)) && decide (bN.1 ≠ bX)))]) (fun c4 => True) ?_ ?_
   refine qaj rfl ?_
   refine qah (fa rfl (ro (ld r0 rfl rfl (qe7 rfl ?_))))
   refine qaf ?_ ?_ <;> intro aY
   refine ct aY (qbb (ct aY ?_))
   refine qaf ?_ ?_ <;> intro aW
   refine ct aW (ct aW (qbb (ct aW ?_)))
   exact eMt () ⟨bq (qc8 (b := decide (bN.1 ≠ bX)) (qc1 aY aW)), trivial⟩
   refine cf aW (cf aW (cf aW ?_))
   exact eMt () ⟨bq (((qbh (qc2 aY aW))).symm), trivial⟩
   refine cf aY (cf aY (cF (cF (cF (cF ?_)))))
   exact eMt () ⟨bq (((qbh (qbh aY))).symm), trivial⟩
   rintro _ _ cH
   refine cs rfl rfl aV ?_ ?_ <;> intro de aV
   refine ro (qab r1 rfl (nl rfl) ?_)
   refine qas rfl ?_
   refine cb aV fun df cW aV => cgx (Jae cW :) ?_
   refine qah (fa rfl (ro (ld r0 rfl rfl (qa7 rfl ?_))))
   refine cs rfl rfl aV ?_ ?_ <;> intro cN aV
   exact eE (er aV hm)
   refine fa rfl (ro (ld r1 rfl rfl ?_))
   refine qam rfl ?_
   refine qag (cs rfl rfl aV ?_ ?_) <;> intro cA aV
   refine fa rfl (ro (ld r1 rfl rfl ?_))
   refine cb aV fun cU ca aV => cgx (Jc4 ca :) ?_
   refine cs rfl rfl aV ?_ ?_ <;> intro cP aV
   refine ro (qab r1 rfl (nl rfl) ?_)
   refine qas rfl ?_
   refine cb aV fun cV bU aV => cgx (Jae bU :) ?_
   refine fa rfl (ro (ld r1 rfl rfl ?_))
   refine cb aV fun bJ bt aV => ckx (JbD bt :) ?_
   rintro _ _ _ ⟨bg, bc, rfl, bj, rfl⟩
   refine qah (fa rfl (ro (ld r1 rfl rfl (qa7 rfl ?_))))
   refine cs rfl rfl aV ?_ ?_ <;> intro bu aV
   exact eE (er aV hm)
   refine qan (qbu ba bo) ?_
   refine fRo r0 fun bm bb bh => ?_
   exact eR aV (_, (_, _, _), _, _)
   refine fa rfl (ro (ld r1 rfl rfl ?_))
   refine cb aV fun bJ bt aV => ckx (JbD bt :) ?_
   rintro _ _ _ ⟨bg, bc, rfl, bj, rfl⟩
   refine qah (fa rfl (ro (ld r1 rfl rfl (qa7 rfl ?_))))
   refine cs rfl rfl aV ?_ ?_ <;> intro bu aV
   exact eE (er aV hm)
   refine qan (qbu ba bo) ?_
   refine fRo r0 fun bm bb bh => ?_
   exact eR aV (_, (_, _, _), _, _)
   refine qag (cs rfl rfl aV ?_ ?_) <;> intro cD aV
   refine fa rfl (ro (ld r1 rfl rfl ?_))
   obtain ⟨bz, aV⟩ := qax aV
   have bf := a8.subC bz
   refine RStep.ofN (qsn (l := e0.Aa) (lo := (some 1)) (hi := none) (lo' := (1 : Int)) (hi' := (e0.Aa.length : Int)) rfl rfl rfl rfl rfl a8.le bz (ro (qal rfl ?_)))
   obtain ⟨bQ, aV⟩ := qax aV
   obtain ⟨s3, aX, aV⟩ := bnd aV
   refine lD (σ := (Int × Err)) ([11] ++ rg 77 10) [1, 2] (fun i3 => [(77, .int .i64 (i3 : Int))]) (fun _ => []) (fun t3 => [Cells b0 204 [.int .i64 t3.1, qc3 48 t3.2]]) (fun _ => True) (fun i3 t3 => JA (Jz n) ac ((subL e0.Aa (1 : Int) (e0.Aa.length : Int)).drop i3) i3 t3.1 t3.2 = some s3) (fun t3 => t3 = s3) (fun i3 => (subL e0.Aa (1 : Int) (e0.Aa.length : Int)).length - i3) 0 (_, _) aX (And.intro qe (And.intro ?_ ?_))
   clear aX
   rintro i3 ⟨bZ, bP⟩ _ aX j3
   dsimp only at aX ⊢
   refine qac rfl ?_
   refine qaf ?_ ?_ <;> intro w3
   obtain ⟨e3, bn, bL⟩ := ltx w3
   rw [bL, JA.eq_2] at aX
   refine qam rfl ?_
   refine RStep.ofN (qae rfl rfl (qda bf.rd bn) (nn _) (qbp bn) ?_)
   obtain ⟨bT, bY, bw, bv, bp⟩ := LiR.get bf.rd bn
   obtain ⟨bF, bD, rfl, bG⟩ := Ja.out bp
   refine ro (qao i3 _ bw rfl bv rfl ?_)
   refine qai rfl fun cL => ?_
   refine qaa r0 rfl ⟨rfl, rfl, (nl rfl), ?_⟩
   refine ro (qab r0 rfl (nl rfl) ?_)
   refine cb aX fun cR bV aX => cfx (Jch bV :) ?_
   rintro _ c5 _ cO ⟨bC, bB, rfl, bA, rfl⟩
   refine cb aX fun cC bR aX => cgx (ih bR :) ?_
   refine qan (qbu bn bQ) ?_
   exact eR aX (_, (_, _))
   rw [lty w3, JA.eq_1] at aX
   refine cT ?_
   exact eM aX _
   rintro t3 _ rfl j3
   refine qah (fa rfl (ro (ld r0 rfl rfl (qa7 rfl ?_))))
   refine cs rfl rfl aV ?_ ?_ <;> intro bu aV
   exact eE (er aV hm)
   refine qan (qbu ba bo) ?_
   exact eR aV (_, (_, _, _), _, _)
   refine qah (fa rfl (ro (ld r0 rfl rfl (qa7 rfl ?_))))
   refine cs rfl rfl aV ?_ ?_ <;> intro bu aV
   exact eE (er aV hm)
   refine qan (qbu ba bo) ?_
   exact eR aV (_, (_, _, _), _, _)
   refine qah (fa rfl (ro (ld r0 rfl rfl (qa7 rfl ?_))))
   refine cs rfl rfl aV ?_ ?_ <;> intro cN aV
   exact eE (er aV hm)
   refine fa rfl (ro (ld r1 rfl rfl ?_))
   refine qam rfl ?_
   refine qag (cs rfl rfl aV ?_ ?_) <;> intro cA aV
   refine fa rfl (ro (ld r1 rfl rfl ?_))
   refine cb aV fun cU ca aV => cgx (Jc4 ca :) ?_
   refine cs rfl rfl aV ?_ ?_ <;> intro cP aV
   refine ro (qab r1 rfl (nl rfl) ?_)
   refine qas rfl ?_
   refine cb aV fun cV bU aV => cgx (Jae bU :) ?_
   refine fa rfl (ro (ld r1 rfl rfl ?_))
   refine cb aV fun bJ bt aV => ckx (JbD bt :) ?_
   rintro _ _ _ ⟨bg, bc, rfl, bj, rfl⟩
   refine qah (fa rfl (ro (ld r1 rfl rfl (qa7 rfl ?_))))
   refine cs rfl rfl aV ?_ ?_ <;> intro bu aV
   exact eE (er aV hm)
   refine qan (qbu ba bo) ?_
   refine fRo r0 fun bm bb bh => ?_
   exact eR aV (_, (_, _, _), _, _)
   refine fa rfl (ro (ld r1 rfl rfl ?_))
   refine cb aV fun bJ bt aV => ckx (JbD bt :) ?_
   rintro _ _ _ ⟨bg, bc, rfl, bj, rfl⟩
   refine qah (fa rfl (ro (ld r1 rfl rfl (qa7 rfl ?_))))
   refine cs rfl rfl aV ?_ ?_ <;> intro bu aV
   exact eE (er aV hm)
   refine qan (qbu ba bo) ?_
   refine fRo r0 fun bm bb bh => ?_
   exact eR aV (_, (_, _, _), _, _)
   refine qag (cs rfl rfl aV ?_ ?_) <;> intro cD aV
   refine fa rfl (ro (ld r1 rfl rfl ?_))
   obtain ⟨bz, aV⟩ := qax aV
   have bf := a8.subC bz
   refine RStep.ofN (qsn (l := e0.Aa) (lo := (some 1)) (hi := none) (lo' := (1 : Int)) (hi' := (e0.Aa.length : Int)) rfl rfl rfl rfl rfl a8.le bz (ro (qal rfl ?_)))
   obtain ⟨bQ, aV⟩ := qax aV
   obtain ⟨s3, aX, aV⟩ := bnd aV
   refine lD (σ := (Int × Err)) ([11] ++ rg 77 10) [1, 2] (fun i3 => [(77, .int .i64 (i3 : Int))]) (fun _ => []) (fun t3 => [Cells b0 204 [.int .i64 t3.1, qc3 48 t3.2]]) (fun _ => True) (fun i3 t3 => JA (Jz n) ac ((subL e0.Aa (1 : Int) (e0.Aa.length : Int)).drop i3) i3 t3.1 t3.2 = some s3) (fun t3 => t3 = s3) (fun i3 => (subL e0.Aa (1 : Int) (e0.Aa.length : Int)).length - i3) 0 (_, _) aX (And.intro qe (And.intro ?_ ?_))
   clear aX
   rintro i3 ⟨bZ, bP⟩ _ aX j3
   dsimp only at aX ⊢
   refine qac rfl ?_
   refine qaf ?_ ?_ <;> intro w3
   obtain ⟨e3, bn, bL⟩ := ltx w3
   rw [bL, JA.eq_2] at aX
   refine qam rfl ?_
   refine RStep.ofN (qae rfl rfl (qda bf.rd bn) (nn _) (qbp bn) ?_)
   obtain ⟨bT, bY, bw, bv, bp⟩ := LiR.get bf.rd bn
   obtain ⟨bF, bD, rfl, bG⟩ := Ja.out bp
   refine ro (qao i3 _ bw rfl bv rfl ?_)
   refine qai rfl fun cL => ?_
   refine qaa r0 rfl ⟨rfl, rfl, (nl rfl), ?_⟩
   refine ro (qab r0 rfl (nl rfl) ?_)
   refine cb aX fun cR bV aX => cfx (Jch bV :) ?_
   rintro _ c5 _ cO ⟨bC, bB, rfl, bA, rfl⟩
   refine cb aX fun cC bR aX => cgx (ih bR :) ?_
   refine qan (qbu bn bQ) ?_
   exact eR aX (_, (_, _))
   rw [lty w3, JA.eq_1] at aX
   refine cT ?_
   exact eM aX _
   rintro t3 _ rfl j3
   refine qah (fa rfl (ro (ld r0 rfl rfl (qa7 rfl ?_))))
   refine cs rfl rfl aV ?_ ?_ <;> intro bu aV
   exact eE (er aV hm)
   refine qan (qbu ba bo) ?_
   exact eR aV (_, (_, _, _), _, _)
   refine qah (fa rfl (ro (ld r0 rfl rfl (qa7 rfl ?_))))
   refine cs rfl rfl aV ?_ ?_ <;> intro bu aV
   exact eE (er aV hm)
   refine qan (qbu ba bo) ?_
   exact eR aV (_, (_, _, _), _, _)
   rw [lty w0, Js.eq_1] at aV
   refine cT ?_
   exact eM aV (_, _, _)
   rintro ⟨t0, aZ, a6⟩ db c8 ⟨cq, _⟩ rfl j0
   replace hm := elg hm
   exact eE hm

def Jbp (n : Nat) (program : Ja) : Option (Int × Err) :=
  (JaC n program).bind fun x6 =>
  if (!x6) then
  some (0, (some 2))
  else
  (Jz n (⟨0, none⟩ : Jn) program.Aa []).bind fun aV =>
  some (aV.line, aV.err)
theorem Jcp {n : Nat} {program : Ja} {aa : Option Addr} {ab : Nat} {K : Hp} {r : Int × Err}
    (hm : Jbp n program = some r) (hX : LiC Ja.R K aa ab 4 program.Aa ∧ GG K) :
    Fn Tryz.prog 89 [.agg #[.int .i64 program.Ab, str program.Ac, .slice aa program.Aa.length ab, .int .i64 program.Ad]] K [] (fun v K' H' => v = .tuple #[.int .i64 r.1, qc3 48 r.2] ∧ H' = []) := by
 obtain ⟨ae, hG⟩ := hX
 refine Fn.enter Tryz.func89 Tryz.call89 rfl fun F => ?_
 unfold Jbp at hm
 refine qar ?_
 intro b1
 refine ro (qab r0 rfl (nl rfl) ?_)
 refine cb hm fun x6 q6 hm => cgx (Jea q6 :) ?_
 refine qav ?_
 refine cs rfl rfl hm ?_ ?_ <;> intro w7 hm
 refine qas rfl ?_
 exact eE hm
 refine qak rfl rfl ?_
 refine qar ?_
 intro aX
 refine fa rfl (ro (ld r1 rfl rfl ?_))
 refine cb hm fun aW aV hm => cgx (Jdl aV :) ?_
 refine qba ⟨⟨[], false⟩, _, [(_, _)], []⟩ (by kernel_rfl) ⟨Hp.Le.refl _, (pf rfl), ci0⟩ ?_
 refine qah (fa rfl (qap m0 rfl rfl (qah (fa rfl (qap m0 rfl rfl ?_)))))
 exact eE hm

def Jf (c : Jd) (op : Int) (n' : Int) (s : Str) : Option (Int × Jd) :=
  (chk (c.code.length + [(⟨op, n', s⟩ : Jg)].length ≤ lim)).bind fun _ =>
  (chk (InI ((((c.code ++ [(⟨op, n', s⟩ : Jg)]).length) : Int) - 1))).bind fun _ =>
  some (((((c.code ++ [(⟨op, n', s⟩ : Jg)]).length) : Int) - 1), (⟨(c.code ++ [(⟨op, n', s⟩ : Jg)]), c.names, c.Ap⟩ : Jd))
theorem Ji {c : Jd} {op : Int} {n' : Int} {s : Str} {b0 : Nat} {aa : Option Addr} {ab : Nat} {ah : Option Addr} {al : Nat} {K : Hp} {r : Int × Jd}
    (hm : Jf c op n' s = some r) (hX : (0 < c.code.length → Has aa) ∧ (0 < c.names.length → Has ah)) :
    Fn Tryz.prog 143 [.pointer (some ⟨b0, 0, none⟩), .int .i64 op, .int .i64 n', str s] K [Cells b0 209 [.slice aa c.code.length ab, .slice ah c.names.length al, .int .i64 c.Ap], OwnL Jg.enc aa 135 3 ab c.code, OwnL Jj.enc ah 290 2 al c.names] (fun v K' H' => ∃ ar_0 : Option Addr, ∃ cr_0 : Nat, ∃ ar_1 : Option Addr, ∃ cr_1 : Nat, v = .int .i64 r.1 ∧ (0 < r.2.code.length → Has ar_0) ∧ (0 < r.2.names.length → Has ar_1) ∧ H' = [Cells b0 209 [.slice ar_0 r.2.code.length cr_0, .slice ar_1 r.2.names.length cr_1, .int .i64 r.2.Ap], OwnL Jg.enc ar_0 135 3 cr_0 r.2.code, OwnL Jj.enc ar_1 290 2 cr_1 r.2.names]) := by
 obtain ⟨ae, aV⟩ := hX
 refine Fn.enter Tryz.func143 Tryz.call143 rfl fun F => ?_
 unfold Jf at hm
 refine qah (fa rfl (ro (ld r0 rfl rfl (qak rfl rfl (cT (cT (cT ?_)))))))
 refine bsO (len := 1) (enc := Jg.enc) (l := [(⟨op, n', s⟩ : Jg)]) (cl := [.int .i64 op, .int .i64 n', str s]) qur rfl rfl (fun _ _ => rfl) rfl rfl rfl ?_ fun aX => ?_
 · conv => whnf
   refine cT ?_
   first | done | rfl
 obtain ⟨aW, hm⟩ := qax hm
 refine apE rfl r2 qur (qaz rfl r0 rfl (fun _ => rfl) (fun _ => rfl)) aW ?_
 intro aY aZ a6
 refine qah (fa rfl ?_)
 refine qaa r2 rfl ⟨rfl, rfl, (nl rfl), ?_⟩
 refine qah (fa rfl (ro (ld r0 rfl rfl (ro (qal rfl ?_)))))
 refine ci hm fun hm => ?_
 exact eE hm

def J4 (c : Jd) (yes : Bool) : Option (Jd) :=
  if yes then
  (Jf c 1 0 ([] : Str)).bind fun x7 =>
  (Jf x7.2 1 0 ([] : Str)).bind fun aV =>
  (Jf aV.2 7 0 ([61, 61] : Str)).bind fun aW =>
  some aW.2
  else
  (Jf c 1 0 ([] : Str)).bind fun x7 =>
  (Jf x7.2 1 1 ([] : Str)).bind fun aV =>
  (Jf aV.2 7 0 ([61, 61] : Str)).bind fun aW =>
  some aW.2
theorem JbM {c : Jd} {yes : Bool} {b0 : Nat} {aa : Option Addr} {ab : Nat} {ah : Option Addr} {al : Nat} {K : Hp} {r : Jd}
    (hm : J4 c yes = some r) (hX : (0 < c.code.length → Has aa) ∧ (0 < c.names.length → Has ah)) :
    Fn Tryz.prog 248 [.pointer (some ⟨b0, 0, none⟩), .bool yes] K [Cells b0 209 [.slice aa c.code.length ab, .slice ah c.names.length al, .int .i64 c.Ap], OwnL Jg.enc aa 135 3 ab c.code, OwnL Jj.enc ah 290 2 al c.names] (fun v K' H' => ∃ ar_0 : Option Addr, ∃ cr_0 : Nat, ∃ ar_1 : Option Addr, ∃ cr_1 : Nat, v = .tuple #[] ∧ (0 < r.code.length → Has ar_0) ∧ (0 < r.names.length → Has ar_1) ∧ H' = [Cells b0 209 [.slice ar_0 r.code.length cr_0, .slice ar_1 r.names.length cr_1, .int .i64 r.Ap], OwnL Jg.enc ar_0 135 3 cr_0 r.code, OwnL Jj.enc ar_1 290 2 cr_1 r.names]) := by
 obtain ⟨ae, bv⟩ := hX
 refine Fn.enter Tryz.func248 Tryz.call248 rfl fun F => ?_
 unfold J4 at hm
 refine cs rfl rfl hm ?_ ?_ <;> intro w5 hm
 refine cb hm fun x7 q7 hm => ckx (Ji q7 :) ?_
 rintro _ _ _ ⟨bp, bt, bo, bj, rfl, bn, bu, rfl⟩
 refine cb hm fun bz bh hm => ckx (Ji bh :) ?_
 rintro _ _ _ ⟨bg, aY, bc, a6, rfl, ba, bb, rfl⟩
 refine cb hm fun bw bm hm => ckx (Ji bm :) ?_
 rintro _ _ _ ⟨aZ, aX, aV, a8, rfl, aW, bf, rfl⟩
 exact eE hm
 refine cb hm fun x7 q7 hm => ckx (Ji q7 :) ?_
 rintro _ _ _ ⟨bp, bt, bo, bj, rfl, bn, bu, rfl⟩
 refine cb hm fun bz bh hm => ckx (Ji bh :) ?_
 rintro _ _ _ ⟨bg, aY, bc, a6, rfl, ba, bb, rfl⟩
 refine cb hm fun bw bm hm => ckx (Ji bm :) ?_
 rintro _ _ _ ⟨aZ, aX, aV, a8, rfl, aW, bf, rfl⟩
 exact eE hm

def J7 (c : Jd) (s : Str) : Nat → Int → Option (Fl (Jd) (Int))
  | 0, _ => none
  | aW + 1, ac =>
    if decide (ac ≥ 0) then
    (ix c.names ac).bind fun aV =>
    if decide (aV.name = s) then
    (ix c.names ac).bind fun aY =>
    (Jf c 3 aY.slot ([] : Str)).bind fun aX =>
    some (Fl.ret aX.2)
    else
    (chk (InI (ac - 1))).bind fun _ =>
    J7 c s aW (ac - 1)
    else
    some (Fl.go ac)
def Jbm (n : Nat) (c : Jd) (s : Str) : Option (Jd) :=
  (chk (InI ((c.names.length : Int) - 1))).bind fun _ =>
  (J7 c s n ((c.names.length : Int) - 1)).bind fun s0 => s0.el some fun t0 =>
  (Jf c 5 0 s).bind fun aV =>
  some aV.2
theorem Jdm {n : Nat} {c : Jd} {s : Str} {b0 : Nat} {aa : Option Addr} {ab : Nat} {ah : Option Addr} {al : Nat} {K : Hp} {r : Jd}
    (hm : Jbm n c s = some r) (hX : (0 < c.code.length → Has aa) ∧ (0 < c.names.length → Has ah)) :
    Fn Tryz.prog 249 [.pointer (some ⟨b0, 0, none⟩), str s] K [Cells b0 209 [.slice aa c.code.length ab, .slice ah c.names.length al, .int .i64 c.Ap], OwnL Jg.enc aa 135 3 ab c.code, OwnL Jj.enc ah 290 2 al c.names] (fun v K' H' => ∃ ar_0 : Option Addr, ∃ cr_0 : Nat, ∃ ar_1 : Option Addr, ∃ cr_1 : Nat, v = .tuple #[] ∧ (0 < r.code.length → Has ar_0) ∧ (0 < r.names.length → Has ar_1) ∧ H' = [Cells b0 209 [.slice ar_0 r.code.length cr_0, .slice ar_1 r.names.length cr_1, .int .i64 r.Ap], OwnL Jg.enc ar_0 135 3 cr_0 r.code, OwnL Jj.enc ar_1 290 2 cr_1 r.names]) := by
 obtain ⟨ae, aW⟩ := hX
 refine Fn.enter Tryz.func249 Tryz.call249 rfl fun F => ?_
 unfold Jbm at hm
 refine qah (fa rfl (ro (ld r0 rfl rfl (ro (qal rfl ?_)))))
 refine ci hm fun hm => ?_
 obtain ⟨s0, aV, hm⟩ := bnd hm
 refine lD (σ := (Int)) ([4] ++ rg 11 24) [0, 1, 2, 3] (fun _ => []) (fun t0 => [(4, .int .i64 t0)]) (fun _ => []) (fun _ => True) (fun i0 t0 => J7 c s i0 t0 = some s0) (fun t0 => s0 = Fl.go t0) (fun i0 => i0) n _ aV (And.intro qe (And.intro ?_ ?_))
 clear aV
 rintro i0 ac _ aV j0
 conv at aV => whnf
 cases i0 with
 | zero => rw [J7.eq_1] at aV; cases aV
 | succ i0 =>
  rw [J7.eq_2] at aV
  refine cs rfl rfl aV ?_ ?_ <;> intro bC aV
  refine qam rfl ?_
  refine qah (fa rfl (ro (ld r0 rfl rfl ?_)))
  obtain ⟨bA, bj, aY, aV⟩ := ixb aV
  refine RStep.ofN (qae rfl rfl (qcz aW aY) bj (qaw rfl bj aY) (qa8 rfl (qcz aW aY) (ro (qb2 (i := (ac).toNat) (o := 0) r2 rfl aY rfl rfl (qaq ?_)))))
  refine cs rfl rfl aV ?_ ?_ <;> intro bw aV
  refine qah (fa rfl (ro (ld r0 rfl rfl ?_)))
  obtain ⟨bv, bg, aX, aV⟩ := ixb aV
  refine RStep.ofN (qae rfl rfl (qcz aW aX) bg (qaw rfl bg aX) (qa8 rfl (qcz aW aX) (ro (qb2 (i := (ac).toNat) (o := 1) r2 rfl aX rfl rfl ?_))))
  refine cb aV fun bz bt aV => ckx (Ji bt :) ?_
  rintro _ _ _ ⟨a8, a6, bh, bb, rfl, bp, bm, rfl⟩
  exact eE (er aV hm)
  refine ci aV fun aV => ?_
  exact eR aV (_, _)
  refine cT ?_
  exact eM aV _
 rintro t0 _ rfl j0
 replace hm := elg hm
 refine cb hm fun bB bu hm => ckx (Ji bu :) ?_
 rintro _ _ _ ⟨bf, bc, bo, aZ, rfl, ba, bn, rfl⟩
 exact eE hm

def JC (c : Jd) (jump : Int) : Option (Jd) :=
  (ix c.code jump).bind fun aV =>
  some (⟨(c.code.set ((jump).toNat) (⟨aV.Op, (c.code.length : Int), aV.S⟩ : Jg)), c.names, c.Ap⟩ : Jd)
theorem J8 {c : Jd} {jump : Int} {b0 : Nat} {aa : Option Addr} {ab : Nat} {ah : Option Addr} {al : Nat} {K : Hp} {r : Jd}
    (hm : JC c jump = some r) (hX : (0 < c.code.length → Has aa) ∧ (0 < c.names.length → Has ah)) :
    Fn Tryz.prog 246 [.pointer (some ⟨b0, 0, none⟩), .int .i64 jump] K [Cells b0 209 [.slice aa c.code.length ab, .slice ah c.names.length al, .int .i64 c.Ap], OwnL Jg.enc aa 135 3 ab c.code, OwnL Jj.enc ah 290 2 al c.names] (fun v K' H' => ∃ ar_0 : Option Addr, ∃ cr_0 : Nat, ∃ ar_1 : Option Addr, ∃ cr_1 : Nat, v = .tuple #[] ∧ (0 < r.code.length → Has ar_0) ∧ (0 < r.names.length → Has ar_1) ∧ H' = [Cells b0 209 [.slice ar_0 r.code.length cr_0, .slice ar_1 r.names.length cr_1, .int .i64 r.Ap], OwnL Jg.enc ar_0 135 3 cr_0 r.code, OwnL Jj.enc ar_1 290 2 cr_1 r.names]) := by
 obtain ⟨ae, aW⟩ := hX
 refine Fn.enter Tryz.func246 Tryz.call246 rfl fun F => ?_
 unfold JC at hm
 refine qba ⟨⟨[], false⟩, _, [(_, _)], []⟩ (by kernel_rfl) ⟨Hp.Le.refl _, (pf rfl), ci0⟩ ?_
 refine qah (fa rfl (qap m0 rfl rfl (qah (fa rfl (qap m0 rfl rfl (qci rfl ?_))))))
 obtain ⟨aV, aY, aX, hm⟩ := ixb hm
 refine qae rfl rfl (qcz ae aX) aY (qaw rfl aY aX) (qa8 rfl (qcz ae aX) ?_)
 refine qe8 (o := 1) (y := (⟨aV.Op, (c.code.length : Int), aV.S⟩ : Jg)) aV r1 rfl aX rfl (by (conv => whnf); exact ⟨rfl, rfl, (nl rfl), rfl, rfl, rfl⟩) ?_
 refine qk (sc [1] rfl) ?_
 obtain rfl := si hm
 refine qu8 r1 (congrArg (fun q_ : Nat => ([.slice aa q_ ab, .slice ah c.names.length al, .int .i64 c.Ap] : List Value)) (show c.code.length = (c.code.set ((jump).toNat) (⟨aV.Op, (c.code.length : Int), aV.S⟩ : Jg)).length from ((rfl).trans List.length_set.symm))) ?_
 exact en lr ⟨aa, ab, ah, al, rfl, (by first | simpa using ae | exact fun _ => ⟨_, _, rfl⟩), aW, rfl⟩ (pf rfl)

def Jad (aI : (Jd → Ja → Option (Jd))) (n : Nat) (c : Jd) (n' : Ja) (operator : Str) : Option (Jd) :=
  (ix n'.Aa 0).bind fun x9 =>
  (aI c x9).bind fun aW =>
  (ix n'.Aa 1).bind fun aX =>
  (aI aW aX).bind fun aY =>
  (Jf aY 7 0 operator).bind fun aV =>
  some aV.2
theorem Jbq {aI : (Jd → Ja → Option (Jd))} (ihrec3_0 : ∀ {c : Jd} {n' : Ja} {b0 : Nat} {aa : Option Addr} {ab : Nat} {ah : Option Addr} {al : Nat} {af : Option Addr} {ag : Nat} {K : Hp} {r : Jd} (hm : aI c n' = some r) (hX : (0 < c.code.length → Has aa) ∧ (0 < c.names.length → Has ah) ∧ LiC Ja.R K af ag 4 n'.Aa), Fn Tryz.prog 231 [.pointer (some ⟨b0, 0, none⟩), .agg #[.int .i64 n'.Ab, str n'.Ac, .slice af n'.Aa.length ag, .int .i64 n'.Ad]] K [Cells b0 209 [.slice aa c.code.length ab, .slice ah c.names.length al, .int .i64 c.Ap], OwnL Jg.enc aa 135 3 ab c.code, OwnL Jj.enc ah 290 2 al c.names] (fun v K' H' => ∃ ar_0 : Option Addr, ∃ cr_0 : Nat, ∃ ar_1 : Option Addr, ∃ cr_1 : Nat, v = .tuple #[] ∧ (0 < r.code.length → Has ar_0) ∧ (0 < r.names.length → Has ar_1) ∧ H' = [Cells b0 209 [.slice ar_0 r.code.length cr_0, .slice ar_1 r.names.length cr_1, .int .i64 r.Ap], OwnL Jg.enc ar_0 135 3 cr_0 r.code, OwnL Jj.enc ar_1 290 2 cr_1 r.names])) {n : Nat} {c : Jd} {n' : Ja} {operator : Str} {b0 : Nat} {aa : Option Addr} {ab : Nat} {ah : Option Addr} {al : Nat} {af : Option Addr} {ag : Nat} {K : Hp} {r : Jd}
    (hm : Jad aI n c n' operator = some r) (hX : (0 < c.code.length → Has aa) ∧ (0 < c.names.length → Has ah) ∧ LiC Ja.R K af ag 4 n'.Aa) :
    Fn Tryz.prog 250 [.pointer (some ⟨b0, 0, none⟩), .agg #[.int .i64 n'.Ab, str n'.Ac, .slice af n'.Aa.length ag, .int .i64 n'.Ad], str operator] K [Cells b0 209 [.slice aa c.code.length ab, .slice ah c.names.length al, .int .i64 c.Ap], OwnL Jg.enc aa 135 3 ab c.code, OwnL Jj.enc ah 290 2 al c.names] (fun v K' H' => ∃ ar_0 : Option Addr, ∃ cr_0 : Nat, ∃ ar_1 : Option Addr, ∃ cr_1 : Nat, v = .tuple #[] ∧ (0 < r.code.length → Has ar_0) ∧ (0 < r.names.length → Has ar_1) ∧ H' = [Cells b0 209 [.slice ar_0 r.code.length cr_0, .slice ar_1 r.names.length cr_1, .int .i64 r.Ap], OwnL Jg.enc ar_0 135 3 cr_0 r.code, OwnL Jj.enc ar_1 290 2 cr_1 r.names]) := by
 obtain ⟨ae, bH, aj⟩ := hX
 refine Fn.enter Tryz.func250 Tryz.call250 rfl fun F => ?_
 unfold Jad at hm
 refine qar ?_
 intro b4
 refine fa rfl (ro (ld r0 rfl rfl ?_))
 obtain ⟨x9, l9, k9, hm⟩ := ixb hm
 refine RStep.ofN (qae rfl rfl (qda aj.rd k9) l9 (qaw rfl l9 k9) ?_)
 obtain ⟨bN, bR, aX, aZ, a8⟩ := LiR.get aj.rd k9
 obtain ⟨bJ, bg, rfl, bz⟩ := Ja.out a8
 refine ro (qao ((0 : Int).toNat) _ aX rfl aZ rfl ?_)
 refine cb hm fun bS bQ hm => ckx (ihrec3_0 bQ :) ?_
 rintro _ _ _ ⟨bb, bm, bv, bu, rfl, bB, bG, rfl⟩
 refine fa rfl (ro (ld r3 rfl rfl ?_))
 obtain ⟨bT, ba, aW, hm⟩ := ixb hm
 refine RStep.ofN (qae rfl rfl (qda aj.rd aW) ba (qaw rfl ba aW) ?_)
 obtain ⟨bM, bO, a6, aY, aV⟩ := LiR.get aj.rd aW
 obtain ⟨bn, bo, rfl, bI⟩ := Ja.out aV
 refine ro (qao ((1 : Int).toNat) _ a6 rfl aY rfl ?_)
 refine cb hm fun bV bP hm => ckx (ihrec3_0 bP :) ?_
 rintro _ _ _ ⟨bA, bF, bc, bp, rfl, bC, bh, rfl⟩
 refine cb hm fun bU bL hm => ckx (Ji bL :) ?_
 rintro _ _ _ ⟨bf, bw, bK, bt, rfl, bD, bj, rfl⟩
 exact eE hm

def JD : Nat → Jd → Ja → Option (Jd)
  | 0, _, _ => none
  | n + 1, c, n' =>
    if decide (n'.Ab = 20) then
    (qok n'.Ac).bind fun bp =>
    if bp.2.isSome then
    (Jf c 1 0 ([] : Str)).bind fun bb =>
    some bb.2
    else
    (Jf c 1 bp.1 ([] : Str)).bind fun bb =>
    some bb.2
    else
    if decide (n'.Ab = 21) then
    (Jf c 2 0 n'.Ac).bind fun bH =>
    some bH.2
    else
    if decide (n'.Ab = 22) then
    (J4 c (decide (n'.Ac = ([116, 114, 117, 101] : Str)))).bind fun bA =>
    some bA
    else
    if decide (n'.Ab = 23) then
    (Jbm n c n'.Ac).bind fun bC =>
    some bC
    else
    if decide (n'.Ab = 24) then
    (ix n'.Aa 0).bind fun bG =>
    ((JD n) c bG).bind fun bz =>
    (Jf bz 6 0 n'.Ac).bind fun bI =>
    some bI.2
    else
    if decide (n'.Ab = 15) then
    (ix n'.Aa 0).bind fun bK =>
    ((JD n) c bK).bind fun bu =>
    (Jf bu 8 0 ([] : Str)).bind fun bt =>
    some bt.2
    else
    if decide (n'.Ab = 17) then
    (Jad (JD n) n c n' ([43] : Str)).bind fun bD =>
    some bD
    else
    if decide (n'.Ab = 18) then
    (Jad (JD n) n c n' ([45] : Str)).bind fun bB =>
    some bB
    else
    if decide (n'.Ab = 19) then
    (Jad (JD n) n c n' ([42] : Str)).bind fun bF =>
    some bF
    else
    if decide (n'.Ab = 16) then
    (Jad (JD n) n c n' n'.Ac).bind fun bw =>
    some bw
    else
    if decide (n'.Ab = 14) then
    (ix n'.Aa 0).bind fun bv =>
    ((JD n) c bv).bind fun bJ =>
    (Jf bJ 10 0 ([] : Str)).bind fun bo =>
    (ix n'.Aa 1).bind fun bf =>
    ((JD n) bo.2 bf).bind fun ba =>
    (Jf ba 9 0 ([] : Str)).bind fun aV =>
    (JC aV.2 bo.1).bind fun bm =>
    (J4 bm false).bind fun bc =>
    (JC bc aV.1).bind fun bj =>
    some bj
    else
    if decide (n'.Ab = 13) then
    (ix n'.Aa 0).bind fun bg =>
    ((JD n) c bg).bind fun aZ =>
    (Jf aZ 10 0 ([] : Str)).bind fun aW =>
    (J4 aW.2 true).bind fun bn =>
    (Jf bn 9 0 ([] : Str)).bind fun aX =>
    (JC aX.2 aW.1).bind fun a8 =>
    (ix n'.Aa 1).bind fun bh =>
    ((JD n) a8 bh).bind fun aY =>
    (JC aY aX.1).bind fun a6 =>
    some a6
    else
    some c
theorem Jcx : ∀ {n : Nat} {c : Jd} {n' : Ja} {b0 : Nat} {aa : Option Addr} {ab : Nat} {ah : Option Addr} {al : Nat} {af : Option Addr} {ag : Nat} {K : Hp} {r : Jd}
    (hm : JD n c n' = some r) (hX : (0 < c.code.length → Has aa) ∧ (0 < c.names.length → Has ah) ∧ LiC Ja.R K af ag 4 n'.Aa),
    Fn Tryz.prog 231 [.pointer (some ⟨b0, 0, none⟩), .agg #[.int .i64 n'.Ab, str n'.Ac, .slice af n'.Aa.length ag, .int .i64 n'.Ad]] K [Cells b0 209 [.slice aa c.code.length ab, .slice ah c.names.length al, .int .i64 c.Ap], OwnL Jg.enc aa 135 3 ab c.code, OwnL Jj.enc ah 290 2 al c.names] (fun v K' H' => ∃ ar_0 : Option Addr, ∃ cr_0 : Nat, ∃ ar_1 : Option Addr, ∃ cr_1 : Nat, v = .tuple #[] ∧ (0 < r.code.length → Has ar_0) ∧ (0 < r.names.length → Has ar_1) ∧ H' = [Cells b0 209 [.slice ar_0 r.code.length cr_0, .slice ar_1 r.names.length cr_1, .int .i64 r.Ap], OwnL Jg.enc ar_0 135 3 cr_0 r.code, OwnL Jj.enc ar_1 290 2 cr_1 r.names]) := by
 intro n
 induction n with
 | zero =>
   intro c n' b0 aa ab ah al af ag K r hm hX
   rw [JD.eq_1] at hm; cases hm
 | succ n ih =>
   intro c n' b0 aa ab ah al af ag K r hm hX
   obtain ⟨ae, eP, aj⟩ := hX
   refine Fn.enter Tryz.func231 Tryz.call231 rfl fun F => ?_
   rw [JD.eq_2] at hm
   refine qar ?_
   intro b3
   refine fa rfl (ro (ld r0 rfl rfl ?_))
   refine qam rfl ?_
   refine qag (cs rfl rfl hm ?_ ?_) <;> intro iF hm
   refine fa rfl (ro (ld r0 rfl rfl ?_))
   refine cb hm fun hZ gy hm => cg0 (qul (E := 48) gy) ?_
   refine qa7 rfl ?_
   refine cs rfl rfl hm ?_ ?_ <;> intro ii hm
   refine cb hm fun gv bI hm => ckx (Ji bI :) ?_
   rintro _ _ _ ⟨bf, bm, bo, bc, rfl, bt, aY, rfl⟩
   exact eE hm
   refine cb hm fun gv bI hm => ckx (Ji bI :) ?_
   rintro _ _ _ ⟨bf, bm, bo, bc, rfl, bt, aY, rfl⟩
   exact eE hm
   refine qag (cs rfl rfl hm ?_ ?_) <;> intro ib hm
   refine fa rfl (ro (ld r0 rfl rfl ?_))
   refine cb hm fun iA gZ hm => ckx (Ji gZ :) ?_
   rintro _ _ _ ⟨eC, fM, fU, fL, rfl, fD, fQ, rfl⟩
   exact eE hm
   refine qag (cs rfl rfl hm ?_ ?_) <;> intro ia hm
   refine fa rfl (ro (ld r0 rfl rfl (qaq ?_)))
   refine cb hm fun iE gL hm => ckx (JbM gL :) ?_
   rintro _ _ _ ⟨fX, ed, eQ, fq, rfl, dT, eL, rfl⟩
   exact eE hm
   refine qag (cs rfl rfl hm ?_ ?_) <;> intro iq hm
   refine fa rfl (ro (ld r0 rfl rfl ?_))
   refine cb hm fun ic gU hm => ckx (Jdm gU :) ?_
   rintro _ _ _ ⟨gp, gh, eJ, eD, rfl, dU, ey, rfl⟩
   exact eE hm
   refine qag (cs rfl rfl hm ?_ ?_) <;> intro iu hm
   refine fa rfl (ro (ld r0 rfl rfl ?_))
   obtain ⟨il, fm, cX, hm⟩ := ixb hm
   refine RStep.ofN (qae rfl rfl (qda aj.rd cX) fm (qaw rfl fm cX) ?_)
   obtain ⟨gO, gW, bC, cV, cj⟩ := LiR.get aj.rd cX
   obtain ⟨eg, dY, rfl, d5⟩ := Ja.out cj
   refine ro (qao ((0 : Int).toNat) _ bC rfl cV rfl ?_)
   refine cb hm fun ig gH hm => ckx (ih gH :) ?_
   rintro _ _ _ ⟨gf, fe, fg, dX, rfl, fA, d4, rfl⟩
   refine fa rfl (ro (ld r3 rfl rfl ?_))
   refine cb hm fun iB gu hm => ckx (Ji gu :) ?_
   rintro _ _ _ ⟨gm, eF, d7, gj, rfl, e9, d6, rfl⟩
   exact eE hm
   refine qag (cs rfl rfl hm ?_ ?_) <;> intro ie hm
   refine fa rfl (ro (ld r0 rfl rfl ?_))
   obtain ⟨iC, ga, dA, hm⟩ := ixb hm
   refine RStep.ofN (qae rfl rfl (qda aj.rd dA) ga (qaw rfl ga dA) ?_)
   obtain ⟨gF, gB, c4, df, cK⟩ := LiR.get aj.rd dA
   obtain ⟨fv, gi, rfl, eh⟩ := Ja.out cK
   refine ro (qao ((0 : Int).toNat) _ c4 rfl df rfl ?_)
   refine cb hm fun hU gx hm => ckx (ih gx :) ?_
   rintro _ _ _ ⟨dZ, fO, ei, fG, rfl, dW, fK, rfl⟩
   refine cb hm fun iD gw hm => ckx (Ji gw :) ?_
   rintro _ _ _ ⟨fu, d9, eH, fk, rfl, fP, fy, rfl⟩
   exact eE hm
   refine qag (cs rfl rfl hm ?_ ?_) <;> intro iy hm
   refine ro (qab r0 rfl (nl rfl) ?_)
   refine cb hm fun im gS hm => ckx (Jbq ih gS :) ?_
   rintro _ _ _ ⟨d1, fS, fT, fH, rfl, fh, d8, rfl⟩
   exact eE hm
   refine qag (cs rfl rfl hm ?_ ?_) <;> intro iw hm
   refine ro (qab r0 rfl (nl rfl) ?_)
   refine cb hm fun ij gV hm => ckx (Jbq ih gV :) ?_
   rintro _ _ _ ⟨eW, fI, fR, fE, rfl, fp, fb, rfl⟩
   exact eE hm
   refine qag (cs rfl rfl hm ?_ ?_) <;> intro iz hm
   refine ro (qab r0 rfl (nl rfl) ?_)
   refine cb hm fun io gY hm => ckx (Jbq ih gY :) ?_
   rintro _ _ _ ⟨ej, fl, eZ, fY, rfl, eo, ee, rfl⟩
   exact eE hm
   refine qag (cs rfl rfl hm ?_ ?_) <;> intro iv hm
   refine ro (qab r0 rfl (nl rfl) (fa rfl (ro (ld r0 rfl rfl ?_))))
   refine cb hm fun ir gD hm => ckx (Jbq ih gD :) ?_
   rintro _ _ _ ⟨d3, gk, fN, gc, rfl, eY, fc, rfl⟩
   exact eE hm
   refine qag (cs rfl rfl hm ?_ ?_) <;> intro hY hm
   refine fa rfl (ro (ld r0 rfl rfl ?_))
   obtain ⟨ik, eu, dj, hm⟩ := ixb hm
   refine RStep.ofN (qae rfl rfl (qda aj.rd dj) eu (qaw rfl eu dj) ?_)
   obtain ⟨gI, g9, cU, da, cI⟩ := LiR.get aj.rd dj
   obtain ⟨fj, fo, rfl, ek⟩ := Ja.out cI
   refine ro (qao ((0 : Int).toNat) _ cU rfl da rfl ?_)
   refine cb hm fun iG gA hm => ckx (ih gA :) ?_
   rintro _ _ _ ⟨d2, fC, dV, fw, rfl, dR, eG, rfl⟩
   refine cb hm fun ip gR hm => ckx (Ji gR :) ?_
   rintro _ _ _ ⟨fZ, ge, e8, gq, rfl, dS, fJ, rfl⟩
   refine fa rfl (ro (ld r3 rfl rfl ?_))
   obtain ⟨gP, bp, aV, hm⟩ := ixb hm
   refine RStep.ofN (qae rfl rfl (qda aj.rd aV) bp (qaw rfl bp aV) ?_)
   obtain ⟨fB, eV, bj, a6, bu⟩ := LiR.get aj.rd aV
   obtain ⟨cM, bU, rfl, cw⟩ := Ja.out bu
   refine ro (qao ((1 : Int).toNat) _ bj rfl a6 rfl ?_)
   refine cb hm fun gN ce hm => ckx (ih ce :) ?_
   rintro _ _ _ ⟨dt, bA, bN, dQ, rfl, bV, dq, rfl⟩
   refine cb hm fun gC cD hm => ckx (Ji cD :) ?_
   rintro _ _ _ ⟨bJ, cp, cQ, dO, rfl, bP, bz, rfl⟩
   refine cb hm fun hJ c8 hm => ckx (J8 c8 :) ?_
   rintro _ _ _ ⟨cY, du, bM, cq, rfl, dI, dE, rfl⟩
   refine cb hm fun gz cW hm => ckx (JbM cW :) ?_
   rintro _ _ _ ⟨dw, bR, c5, cR, rfl, ca, bD, rfl⟩
   refine cb hm fun gQ dM hm => ckx (J8 dM :) ?_
   rintro _ _ _ ⟨cr, dP, cO, bW, rfl, dG, c6, rfl⟩
   exact eE hm
   refine qag (cs rfl rfl hm ?_ ?_) <;> intro gG hm
   refine fa rfl (ro (ld r0 rfl rfl ?_))
   obtain ⟨gT, bn, aW, hm⟩ := ixb hm
   refine RStep.ofN (qae rfl rfl (qda aj.rd aW) bn (qaw rfl bn aW) ?_)
   obtain ⟨eK, ff, ba, a8, bv⟩ := LiR.get aj.rd aW
   obtain ⟨bB, bY, rfl, cH⟩ := Ja.out bv
   refine ro (qao ((0 : Int).toNat) _ ba rfl a8 rfl ?_)
   refine cb hm fun g8 di hm => ckx (ih di :) ?_
   rintro _ _ _ ⟨dN, dH, cy, bO, rfl, cu, bQ, rfl⟩
   refine cb hm fun gr dJ hm => ckx (Ji dJ :) ?_
   rintro _ _ _ ⟨c9, bS, cG, de, rfl, bw, dC, rfl⟩
   refine cb hm fun gK dx hm => ckx (JbM dx :) ?_
   rintro _ _ _ ⟨cd, dc, cz, cJ, rfl, cA, cn, rfl⟩
   refine cb hm fun gJ bT hm => ckx (Ji bT :) ?_
   rintro _ _ _ ⟨dm, bK, cL, dh, rfl, dp, dy, rfl⟩
   refine cb hm fun gE bG hm => ckx (J8 bG :) ?_
   rintro _ _ _ ⟨dK, dg, dn, dk, rfl, dB, cZ, rfl⟩
   refine fa rfl (ro (ld r3 rfl rfl ?_))
   obtain ⟨g7, bh, aX, hm⟩ := ixb hm
   refine RStep.ofN (qae rfl rfl (qda aj.rd aX) bh (qaw rfl bh aX) ?_)
   obtain ⟨fV, eX, aZ, bb, bg⟩ := LiR.get aj.rd aX
   obtain ⟨cC, dv, rfl, cP⟩ := Ja.out bg
   refine ro (qao ((1 : Int).toNat) _ aZ rfl bb rfl ?_)
   refine cb hm fun gM bX hm => ckx (ih bX :) ?_
   rintro _ _ _ ⟨bL, cm, db, dL, rfl, bZ, dz, rfl⟩
   refine cb hm fun gX bH hm => ckx (J8 bH :) ?_
   rintro _ _ _ ⟨cB, cN, dD, bF, rfl, dl, dF, rfl⟩
   exact eE hm
   exact eE hm

def Jaf (aw : (Jd → (List Ja) → Option (Jd))) : Nat → Jd → Ja → Option (Jd)
  | 0, _, _ => none
  | n + 1, c, n' =>
    (ix n'.Aa 0).bind fun x9 =>
    (JD n c x9).bind fun ba =>
    (Jf ba 10 0 ([] : Str)).bind fun aW =>
    (ix n'.Aa 1).bind fun bf =>
    (aw aW.2 bf.Aa).bind fun aY =>
    if decide ((n'.Aa.length : Int) = 2) then
    (JC aY aW.1).bind fun bg =>
    some bg
    else
    (Jf aY 9 0 ([] : Str)).bind fun aX =>
    (JC aX.2 aW.1).bind fun aZ =>
    (ix n'.Aa 2).bind fun bh =>
    if decide (bh.Ab = 2) then
    (ix n'.Aa 2).bind fun a6 =>
    ((Jaf aw n) aZ a6).bind fun a8 =>
    (JC a8 aX.1).bind fun aV =>
    some aV
    else
    (ix n'.Aa 2).bind fun bc =>
    (aw aZ bc.Aa).bind fun bb =>
    (JC bb aX.1).bind fun aV =>
    some aV
theorem Jdd {aw : (Jd → (List Ja) → Option (Jd))} (ihrec4_0 : ∀ {c : Jd} {list : (List Ja)} {b0 : Nat} {aa : Option Addr} {ab : Nat} {ah : Option Addr} {al : Nat} {af : Option Addr} {ag : Nat} {n1 : Nat} {K : Hp} {r : Jd} (hm : aw c list = some r) (hX : (0 < c.code.length → Has aa) ∧ (0 < c.names.length → Has ah) ∧ LiC Ja.R K af ag 4 list ∧ n1 = list.length), Fn Tryz.prog 142 [.pointer (some ⟨b0, 0, none⟩), .slice af n1 ag] K [Cells b0 209 [.slice aa c.code.length ab, .slice ah c.names.length al, .int .i64 c.Ap], OwnL Jg.enc aa 135 3 ab c.code, OwnL Jj.enc ah 290 2 al c.names] (fun v K' H' => ∃ ar_0 : Option Addr, ∃ cr_0 : Nat, ∃ ar_1 : Option Addr, ∃ cr_1 : Nat, v = .tuple #[] ∧ (0 < r.code.length → Has ar_0) ∧ (0 < r.names.length → Has ar_1) ∧ H' = [Cells b0 209 [.slice ar_0 r.code.length cr_0, .slice ar_1 r.names.length cr_1, .int .i64 r.Ap], OwnL Jg.enc ar_0 135 3 cr_0 r.code, OwnL Jj.enc ar_1 290 2 cr_1 r.names])) : ∀ {n : Nat} {c : Jd} {n' : Ja} {b0 : Nat} {aa : Option Addr} {ab : Nat} {ah : Option Addr} {al : Nat} {af : Option Addr} {ag : Nat} {K : Hp} {r : Jd}
    (hm : Jaf aw n c n' = some r) (hX : (0 < c.code.length → Has aa) ∧ (0 < c.names.length → Has ah) ∧ LiC Ja.R K af ag 4 n'.Aa),
    Fn Tryz.prog 230 [.pointer (some ⟨b0, 0, none⟩), .agg #[.int .i64 n'.Ab, str n'.Ac, .slice af n'.Aa.length ag, .int .i64 n'.Ad]] K [Cells b0 209 [.slice aa c.code.length ab, .slice ah c.names.length al, .int .i64 c.Ap], OwnL Jg.enc aa 135 3 ab c.code, OwnL Jj.enc ah 290 2 al c.names] (fun v K' H' => ∃ ar_0 : Option Addr, ∃ cr_0 : Nat, ∃ ar_1 : Option Addr, ∃ cr_1 : Nat, v = .tuple #[] ∧ (0 < r.code.length → Has ar_0) ∧ (0 < r.names.length → Has ar_1) ∧ H' = [Cells b0 209 [.slice ar_0 r.code.length cr_0, .slice ar_1 r.names.length cr_1, .int .i64 r.Ap], OwnL Jg.enc ar_0 135 3 cr_0 r.code, OwnL Jj.enc ar_1 290 2 cr_1 r.names]) := by
 intro n
 induction n with
 | zero =>
   intro c n' b0 aa ab ah al af ag K r hm hX
   rw [Jaf.eq_1] at hm; cases hm
 | succ n ih =>
   intro c n' b0 aa ab ah al af ag K r hm hX
   obtain ⟨ae, cR, aj⟩ := hX
   refine Fn.enter Tryz.func230 Tryz.call230 rfl fun F => ?_
   rw [Jaf.eq_2] at hm
   refine qar ?_
   intro b3
   refine fa rfl (ro (ld r0 rfl rfl ?_))
   obtain ⟨x9, l9, k9, hm⟩ := ixb hm
   refine RStep.ofN (qae rfl rfl (qda aj.rd k9) l9 (qaw rfl l9 k9) ?_)
   obtain ⟨dk, du, bB, bA, bC⟩ := LiR.get aj.rd k9
   obtain ⟨cU, bI, rfl, bS⟩ := Ja.out bC
   refine ro (qao ((0 : Int).toNat) _ bB rfl bA rfl ?_)
   refine cb hm fun dO dz hm => ckx (Jcx dz :) ?_
   rintro _ _ _ ⟨bF, bK, cr, bP, rfl, cA, cC, rfl⟩
   refine cb hm fun dM dp hm => ckx (Ji dp :) ?_
   rintro _ _ _ ⟨df, cD, bJ, ce, rfl, dc, db, rfl⟩
   refine fa rfl (ro (ld r3 rfl rfl ?_))
   obtain ⟨dG, cN, bb, hm⟩ := ixb hm
   refine RStep.ofN (qae rfl rfl (qda aj.rd bb) cN (qaw rfl cN bb) (qa8 rfl (qda aj.rd bb) ?_))
   obtain ⟨dw, dy, bt, bj, bg⟩ := LiR.get aj.rd bb
   obtain ⟨bX, cO, rfl, c6⟩ := Ja.out bg
   refine ro (qb1 ((1 : Int).toNat) 2 _ _ bt rfl bj rfl rfl ?_)
   refine cb hm fun dI dh hm => ckx (ihrec4_0 dh :) ?_
   rintro _ _ _ ⟨cW, cq, cV, c5, rfl, cB, cZ, rfl⟩
   refine fa rfl (ro (ld r3 rfl rfl (ro (qal rfl (qag ?_)))))
   refine cs rfl rfl hm ?_ ?_ <;> intro dE hm
   refine cb hm fun dN dC hm => ckx (J8 dC :) ?_
   rintro _ _ _ ⟨cP, bV, cw, bM, rfl, cu, cI, rfl⟩
   exact eE hm
   refine cb hm fun dF dl hm => ckx (Ji dl :) ?_
   rintro _ _ _ ⟨cG, bT, cY, bD, rfl, cd, bH, rfl⟩
   refine cb hm fun dP dj hm => ckx (J8 dj :) ?_
   rintro _ _ _ ⟨bZ, cn, cH, bR, rfl, c9, bY, rfl⟩
   refine fa rfl (ro (ld r3 rfl rfl ?_))
   obtain ⟨dL, cy, ba, hm⟩ := ixb hm
   refine RStep.ofN (qae rfl rfl (qda aj.rd ba) cy (qaw rfl cy ba) (qa8 rfl (qda aj.rd ba) ?_))
   obtain ⟨dm, dx, bu, bp, bv⟩ := LiR.get aj.rd ba
   obtain ⟨cL, cp, rfl, bL⟩ := Ja.out bv
   refine ro (qb1 ((2 : Int).toNat) 0 _ _ bu rfl bp rfl rfl (qag ?_))
   refine cs rfl rfl hm ?_ ?_ <;> intro dH hm
   refine fa rfl (ro (ld r3 rfl rfl ?_))
   obtain ⟨dD, dg, bn, hm⟩ := ixb hm
   refine RStep.ofN (qae rfl rfl (qda aj.rd bn) dg (qaw rfl dg bn) ?_)
   obtain ⟨dA, dv, bw, bf, bo⟩ := LiR.get aj.rd bn
   obtain ⟨de, c4, rfl, bN⟩ := Ja.out bo
   refine ro (qao ((2 : Int).toNat) _ bw rfl bf rfl ?_)
   refine cb hm fun dJ dq hm => ckx (ih dq :) ?_
   rintro _ _ _ ⟨ca, cM, bO, cQ, rfl, cJ, bG, rfl⟩
   refine cb hm fun dt bm hm => ckx (J8 bm :) ?_
   rintro _ _ _ ⟨a6, aX, aZ, aW, rfl, aY, aV, rfl⟩
   exact eE hm
   refine fa rfl (ro (ld r3 rfl rfl ?_))
   obtain ⟨dQ, cK, a8, hm⟩ := ixb hm
   refine RStep.ofN (qae rfl rfl (qda aj.rd a8) cK (qaw rfl cK a8) (qa8 rfl (qda aj.rd a8) ?_))
   obtain ⟨di, dn, bh, bc, bz⟩ := LiR.get aj.rd a8
   obtain ⟨cz, bW, rfl, cm⟩ := Ja.out bz
   refine ro (qb1 ((2 : Int).toNat) 2 _ _ bh rfl bc rfl rfl ?_)
   refine cb hm fun dK dB hm => ckx (ihrec4_0 dB :) ?_
   rintro _ _ _ ⟨cX, c8, da, bU, rfl, bQ, cj, rfl⟩
   refine cb hm fun dt bm hm => ckx (J8 bm :) ?_
   rintro _ _ _ ⟨a6, aX, aZ, aW, rfl, aY, aV, rfl⟩
   exact eE hm
