/- Functions of the program: mirrors, and that a call returns what the mirror says. Printed by gen.py. -/
import Derived.Test.YtiaaooopklhobaaGreatDoorG3
set_option linter.unusedVariables false
set_option linter.unusedSimpArgs false
open Go Go.SL Go.Proofs
noncomputable section
set_option maxRecDepth 1000000
set_option maxHeartbeats 8000000
def JD : Nat → Jd → Ja → Option (Jd)
  | 0, _, _ => none
  | n + 1, c, n' =>
    if decide (n'.Ab = 20) then
    (qny n'.Ac).bind fun bm =>
    if bm.2.isSome then
    (Jj c 1 0 ([] : Str)).bind fun ba =>
    some ba.2
    else
    (Jj c 1 bm.1 ([] : Str)).bind fun ba =>
    some ba.2
    else
    if decide (n'.Ab = 21) then
    (Jj c 2 0 n'.Ac).bind fun bB =>
    some bB.2
    else
    if decide (n'.Ab = 22) then
    (JaB c (decide (n'.Ac = ([116, 114, 117, 101] : Str)))).bind fun bu =>
    some bu
    else
    if decide (n'.Ab = 23) then
    (JbZ n c n'.Ac).bind fun bw =>
    some bw
    else
    if decide (n'.Ab = 24) then
    (ix n'.Aa 0).bind fun az =>
    ((JD n) c az).bind fun bt =>
    (Jj bt 6 0 n'.Ac).bind fun bC =>
    some bC.2
    else
    if decide (n'.Ab = 15) then
    (ix n'.Aa 0).bind fun bF =>
    ((JD n) c bF).bind fun bo =>
    (Jj bo 8 0 ([] : Str)).bind fun bn =>
    some bn.2
    else
    if decide (n'.Ab = 17) then
    (Jaq (JD n) n c n' ([43] : Str)).bind fun bz =>
    some bz
    else
    if decide (n'.Ab = 18) then
    (Jaq (JD n) n c n' ([45] : Str)).bind fun bv =>
    some bv
    else
    if decide (n'.Ab = 19) then
    (Jaq (JD n) n c n' ([42] : Str)).bind fun bA =>
    some bA
    else
    if decide (n'.Ab = 16) then
    (Jaq (JD n) n c n' n'.Ac).bind fun br =>
    some br
    else
    if decide (n'.Ab = 14) then
    (ix n'.Aa 0).bind fun bp =>
    ((JD n) c bp).bind fun bD =>
    (Jj bD 10 0 ([] : Str)).bind fun bl =>
    (ix n'.Aa 1).bind fun bc =>
    ((JD n) bl.2 bc).bind fun a8 =>
    (Jj a8 9 0 ([] : Str)).bind fun aU =>
    (JU aU.2 bl.1).bind fun bh =>
    (JaB bh false).bind fun bb =>
    (JU bb aU.1).bind fun bg =>
    some bg
    else
    if decide (n'.Ab = 13) then
    (ix n'.Aa 0).bind fun bd =>
    ((JD n) c bd).bind fun aY =>
    (Jj aY 10 0 ([] : Str)).bind fun aV =>
    (JaB aV.2 true).bind fun bj =>
    (Jj bj 9 0 ([] : Str)).bind fun aW =>
    (JU aW.2 aV.1).bind fun a6 =>
    (ix n'.Aa 1).bind fun bf =>
    ((JD n) a6 bf).bind fun aX =>
    (JU aX aW.1).bind fun aZ =>
    some aZ
    else
    some c
theorem Jcj : ∀ {n : Nat} {c : Jd} {n' : Ja} {b0 : Nat} {aa : Option Addr} {ab : Nat} {ai : Option Addr} {ak : Nat} {af : Option Addr} {ag : Nat} {K : Hp} {r : Jd}
    (hm : JD n c n' = some r) (hX : (0 < c.code.length → Has aa) ∧ (0 < c.names.length → Has ai) ∧ LiC Ja.R K af ag 4 n'.Aa),
    Fn Tryz.prog 231 [.pointer (some ⟨b0, 0, none⟩), .agg #[.int .i64 n'.Ab, str n'.Ac, .slice af n'.Aa.length ag, .int .i64 n'.Ad]] K [Cells b0 209 [.slice aa c.code.length ab, .slice ai c.names.length ak, .int .i64 c.Ap], qat Jf.enc aa 135 3 ab c.code, qat Jr.enc ai 290 2 ak c.names] (fun v K' H' => ∃ ar_0 : Option Addr, ∃ cr_0 : Nat, ∃ ar_1 : Option Addr, ∃ cr_1 : Nat, v = .tuple #[] ∧ (0 < r.code.length → Has ar_0) ∧ (0 < r.names.length → Has ar_1) ∧ H' = [Cells b0 209 [.slice ar_0 r.code.length cr_0, .slice ar_1 r.names.length cr_1, .int .i64 r.Ap], qat Jf.enc ar_0 135 3 cr_0 r.code, qat Jr.enc ar_1 290 2 cr_1 r.names]) := by
 intro n
 induction n with
 | zero =>
   intro c n' b0 aa ab ai ak af ag K r hm hX
   rw [JD.eq_1] at hm; cases hm
 | succ n ih =>
   intro c n' b0 aa ab ai ak af ag K r hm hX
   obtain ⟨ae, eO, ah⟩ := hX
   refine Fn.enter Tryz.func231 Tryz.call231 rfl fun F => ?_
   rw [JD.eq_2] at hm
   refine qar ?_
   intro b3
   refine fa rfl (ro (ld r0 rfl rfl ?_))
   refine qal rfl ?_
   refine qag (cs rfl rfl hm ?_ ?_) <;> intro il hm
   refine fa rfl (ro (ld r0 rfl rfl ?_))
   refine cb hm fun gU gk hm => cg0 (qqh (E := 48) gk) ?_
   refine qa5 rfl ?_
   refine cs rfl rfl hm ?_ ?_ <;> intro g7 hm
   refine cb hm fun gh bD hm => ckx (Jg bD :) ?_
   rintro _ _ _ ⟨bc, bh, bl, bb, rfl, bn, aX, rfl⟩
   exact eE hm
   refine cb hm fun gh bD hm => ckx (Jg bD :) ?_
   rintro _ _ _ ⟨bc, bh, bl, bb, rfl, bn, aX, rfl⟩
   exact eE hm
   refine qag (cs rfl rfl hm ?_ ?_) <;> intro gW hm
   refine fa rfl (ro (ld r0 rfl rfl ?_))
   refine cb hm fun ie gN hm => ckx (Jg gN :) ?_
   rintro _ _ _ ⟨eC, fI, fQ, fH, rfl, fy, fM, rfl⟩
   exact eE hm
   refine qag (cs rfl rfl hm ?_ ?_) <;> intro gV hm
   refine fa rfl (ro (ld r0 rfl rfl (qaq ?_)))
   refine cb hm fun ik gz hm => ckx (Jbe gz :) ?_
   rintro _ _ _ ⟨fS, eg, eP, fl, rfl, dT, eL, rfl⟩
   exact eE hm
   refine qag (cs rfl rfl hm ?_ ?_) <;> intro hS hm
   refine fa rfl (ro (ld r0 rfl rfl ?_))
   refine cb hm fun gX gI hm => ckx (Jdq gI :) ?_
   rintro _ _ _ ⟨gd, f8, eJ, eD, rfl, dU, eA, rfl⟩
   exact eE hm
   refine qag (cs rfl rfl hm ?_ ?_) <;> intro hY hm
   refine fa rfl (ro (ld r0 rfl rfl ?_))
   obtain ⟨az, fh, cU, hm⟩ := ixb hm
   refine RStep.ofN (qad rfl rfl (qc6 ah.rd cU) fh (qax rfl fh cU) ?_)
   obtain ⟨gC, gK, bw, cQ, bZ⟩ := LiR.get ah.rd cU
   obtain ⟨ei, dY, rfl, d7⟩ := Ja.out bZ
   refine ro (qan ((0 : Int).toNat) _ bw rfl cQ rfl ?_)
   refine cb hm fun gZ gv hm => ckx (ih gv :) ?_
   rintro _ _ _ ⟨fZ, e8, fb, dX, rfl, fu, d6, rfl⟩
   refine fa rfl (ro (ld r3 rfl rfl ?_))
   refine cb hm fun ig gg hm => ckx (Jg gg :) ?_
   rintro _ _ _ ⟨gc, eF, d9, ga, rfl, eZ, d8, rfl⟩
   exact eE hm
   refine qag (cs rfl rfl hm ?_ ?_) <;> intro gY hm
   refine fa rfl (ro (ld r0 rfl rfl ?_))
   obtain ⟨ii, fV, dA, hm⟩ := ixb hm
   refine RStep.ofN (qad rfl rfl (qc6 ah.rd dA) fV (qax rfl fV dA) ?_)
   obtain ⟨gt, gn, cX, de, cH⟩ := LiR.get ah.rd dA
   obtain ⟨fo, f9, rfl, ej⟩ := Ja.out cH
   refine ro (qan ((0 : Int).toNat) _ cX rfl de rfl ?_)
   refine cb hm fun gS gj hm => ckx (ih gj :) ?_
   rintro _ _ _ ⟨dZ, fK, ek, fB, rfl, dW, fG, rfl⟩
   refine cb hm fun ij gi hm => ckx (Jg gi :) ?_
   rintro _ _ _ ⟨fm, ef, eH, ff, rfl, fL, fq, rfl⟩
   exact eE hm
   refine qag (cs rfl rfl hm ?_ ?_) <;> intro ib hm
   refine ro (qab r0 rfl (nl rfl) ?_)
   refine cb hm fun hJ gG hm => ckx (JaP ih gG :) ?_
   rintro _ _ _ ⟨d3, fO, fP, fC, rfl, fc, ee, rfl⟩
   exact eE hm
   refine qag (cs rfl rfl hm ?_ ?_) <;> intro ia hm
   refine ro (qab r0 rfl (nl rfl) ?_)
   refine cb hm fun g8 gJ hm => ckx (JaP ih gJ :) ?_
   rintro _ _ _ ⟨eT, fD, fN, fA, rfl, fk, e6, rfl⟩
   exact eE hm
   refine qag (cs rfl rfl hm ?_ ?_) <;> intro ic hm
   refine ro (qab r0 rfl (nl rfl) ?_)
   refine cb hm fun hO gM hm => ckx (JaP ih gM :) ?_
   rintro _ _ _ ⟨ep, fg, eX, fT, rfl, ew, eh, rfl⟩
   exact eE hm
   refine qag (cs rfl rfl hm ?_ ?_) <;> intro hZ hm
   refine ro (qab r0 rfl (nl rfl) (fa rfl (ro (ld r0 rfl rfl ?_))))
   refine cb hm fun hU gq hm => ckx (JaP ih gq :) ?_
   rintro _ _ _ ⟨d5, gb, fJ, fX, rfl, eW, e7, rfl⟩
   exact eE hm
   refine qag (cs rfl rfl hm ?_ ?_) <;> intro gT hm
   refine fa rfl (ro (ld r0 rfl rfl ?_))
   obtain ⟨g9, ey, di, hm⟩ := ixb hm
   refine RStep.ofN (qad rfl rfl (qc6 ah.rd di) ey (qax rfl ey di) ?_)
   obtain ⟨gw, gQ, cP, c6, cE⟩ := LiR.get ah.rd di
   obtain ⟨fe, fj, rfl, eu⟩ := Ja.out cE
   refine ro (qan ((0 : Int).toNat) _ cP rfl c6 rfl ?_)
   refine cb hm fun im gm hm => ckx (ih gm :) ?_
   rintro _ _ _ ⟨d4, fw, dV, fp, rfl, dR, eG, rfl⟩
   refine cb hm fun hP gF hm => ckx (Jg gF :) ?_
   rintro _ _ _ ⟨fU, fY, eY, ge, rfl, dS, fE, rfl⟩
   refine fa rfl (ro (ld r3 rfl rfl ?_))
   obtain ⟨gD, bm, aU, hm⟩ := ixb hm
   refine RStep.ofN (qad rfl rfl (qc6 ah.rd aU) bm (qax rfl bm aU) ?_)
   obtain ⟨fv, eQ, bg, aZ, bo⟩ := LiR.get ah.rd aU
   obtain ⟨cJ, bQ, rfl, cr⟩ := Ja.out bo
   refine ro (qan ((1 : Int).toNat) _ bg rfl aZ rfl ?_)
   refine cb hm fun gB bY hm => ckx (ih bY :) ?_
   rintro _ _ _ ⟨dt, bu, bJ, dQ, rfl, bR, dq, rfl⟩
   refine cb hm fun gp cB hm => ckx (Jg cB :) ?_
   rintro _ _ _ ⟨bF, cj, cN, dO, rfl, bL, bt, rfl⟩
   refine cb hm fun gR c4 hm => ckx (JW c4 :) ?_
   rintro _ _ _ ⟨cV, du, bI, cm, rfl, dI, dE, rfl⟩
   refine cb hm fun gl cR hm => ckx (Jbe cR :) ?_
   rintro _ _ _ ⟨dw, bN, cY, cO, rfl, bW, bz, rfl⟩
   refine cb hm fun gE dM hm => ckx (JW dM :) ?_
   rintro _ _ _ ⟨cn, dP, cL, bS, rfl, dG, cZ, rfl⟩
   exact eE hm
   refine qag (cs rfl rfl hm ?_ ?_) <;> intro gu hm
   refine fa rfl (ro (ld r0 rfl rfl ?_))
   obtain ⟨gH, bj, aV, hm⟩ := ixb hm
   refine RStep.ofN (qad rfl rfl (qc6 ah.rd aV) bj (qax rfl bj aV) ?_)
   obtain ⟨eK, e9, a8, a6, bp⟩ := LiR.get ah.rd aV
   obtain ⟨bv, bU, rfl, cD⟩ := Ja.out bp
   refine ro (qan ((0 : Int).toNat) _ a8 rfl a6 rfl ?_)
   refine cb hm fun gP dh hm => ckx (ih dh :) ?_
   rintro _ _ _ ⟨dN, dH, cu, bK, rfl, co, bM, rfl⟩
   refine cb hm fun gf dJ hm => ckx (Jg dJ :) ?_
   rintro _ _ _ ⟨c5, bO, cC, dc, rfl, br, dC, rfl⟩
   refine cb hm fun gy dx hm => ckx (Jbe dx :) ?_
   rintro _ _ _ ⟨bX, c9, cw, cG, rfl, cy, ce, rfl⟩
   refine cb hm fun gx bP hm => ckx (Jg bP :) ?_
   rintro _ _ _ ⟨dm, bG, cI, dg, rfl, dp, dy, rfl⟩
   refine cb hm fun gr bB hm => ckx (JW bB :) ?_
   rintro _ _ _ ⟨dK, df, dn, dj, rfl, dB, cW, rfl⟩
   refine fa rfl (ro (ld r3 rfl rfl ?_))
   obtain ⟨gO, bf, aW, hm⟩ := ixb hm
   refine RStep.ofN (qad rfl rfl (qc6 ah.rd aW) bf (qax rfl bf aW) ?_)
   obtain ⟨fR, eV, aY, ba, bd⟩ := LiR.get ah.rd aW
   obtain ⟨cA, dv, rfl, cM⟩ := Ja.out bd
   refine ro (qan ((1 : Int).toNat) _ aY rfl ba rfl ?_)
   refine cb hm fun gA bT hm => ckx (ih bT :) ?_
   rintro _ _ _ ⟨bH, ca, c8, dL, rfl, bV, dz, rfl⟩
   refine cb hm fun gL bC hm => ckx (JW bC :) ?_
   rintro _ _ _ ⟨cz, cK, dD, bA, rfl, dk, dF, rfl⟩
   exact eE hm
   exact eE hm

def Jav (aw : (Jd → (List Ja) → Option (Jd))) : Nat → Jd → Ja → Option (Jd)
  | 0, _, _ => none
  | n + 1, c, n' =>
    (ix n'.Aa 0).bind fun x9 =>
    (JD n c x9).bind fun a8 =>
    (Jj a8 10 0 ([] : Str)).bind fun aV =>
    (ix n'.Aa 1).bind fun bc =>
    (aw aV.2 bc.Aa).bind fun aX =>
    if decide ((n'.Aa.length : Int) = 2) then
    (JU aX aV.1).bind fun bd =>
    some bd
    else
    (Jj aX 9 0 ([] : Str)).bind fun aW =>
    (JU aW.2 aV.1).bind fun aY =>
    (ix n'.Aa 2).bind fun bf =>
    if decide (bf.Ab = 2) then
    (ix n'.Aa 2).bind fun aZ =>
    ((Jav aw n) aY aZ).bind fun a6 =>
    (JU a6 aW.1).bind fun aU =>
    some aU
    else
    (ix n'.Aa 2).bind fun bb =>
    (aw aY bb.Aa).bind fun ba =>
    (JU ba aW.1).bind fun aU =>
    some aU
theorem Jdf {aw : (Jd → (List Ja) → Option (Jd))} (ihrec4_0 : ∀ {c : Jd} {list : (List Ja)} {b0 : Nat} {aa : Option Addr} {ab : Nat} {ai : Option Addr} {ak : Nat} {af : Option Addr} {ag : Nat} {n1 : Nat} {K : Hp} {r : Jd} (hm : aw c list = some r) (hX : (0 < c.code.length → Has aa) ∧ (0 < c.names.length → Has ai) ∧ LiC Ja.R K af ag 4 list ∧ n1 = list.length), Fn Tryz.prog 142 [.pointer (some ⟨b0, 0, none⟩), .slice af n1 ag] K [Cells b0 209 [.slice aa c.code.length ab, .slice ai c.names.length ak, .int .i64 c.Ap], qat Jf.enc aa 135 3 ab c.code, qat Jr.enc ai 290 2 ak c.names] (fun v K' H' => ∃ ar_0 : Option Addr, ∃ cr_0 : Nat, ∃ ar_1 : Option Addr, ∃ cr_1 : Nat, v = .tuple #[] ∧ (0 < r.code.length → Has ar_0) ∧ (0 < r.names.length → Has ar_1) ∧ H' = [Cells b0 209 [.slice ar_0 r.code.length cr_0, .slice ar_1 r.names.length cr_1, .int .i64 r.Ap], qat Jf.enc ar_0 135 3 cr_0 r.code, qat Jr.enc ar_1 290 2 cr_1 r.names])) : ∀ {n : Nat} {c : Jd} {n' : Ja} {b0 : Nat} {aa : Option Addr} {ab : Nat} {ai : Option Addr} {ak : Nat} {af : Option Addr} {ag : Nat} {K : Hp} {r : Jd}
    (hm : Jav aw n c n' = some r) (hX : (0 < c.code.length → Has aa) ∧ (0 < c.names.length → Has ai) ∧ LiC Ja.R K af ag 4 n'.Aa),
    Fn Tryz.prog 230 [.pointer (some ⟨b0, 0, none⟩), .agg #[.int .i64 n'.Ab, str n'.Ac, .slice af n'.Aa.length ag, .int .i64 n'.Ad]] K [Cells b0 209 [.slice aa c.code.length ab, .slice ai c.names.length ak, .int .i64 c.Ap], qat Jf.enc aa 135 3 ab c.code, qat Jr.enc ai 290 2 ak c.names] (fun v K' H' => ∃ ar_0 : Option Addr, ∃ cr_0 : Nat, ∃ ar_1 : Option Addr, ∃ cr_1 : Nat, v = .tuple #[] ∧ (0 < r.code.length → Has ar_0) ∧ (0 < r.names.length → Has ar_1) ∧ H' = [Cells b0 209 [.slice ar_0 r.code.length cr_0, .slice ar_1 r.names.length cr_1, .int .i64 r.Ap], qat Jf.enc ar_0 135 3 cr_0 r.code, qat Jr.enc ar_1 290 2 cr_1 r.names]) := by
 intro n
 induction n with
 | zero =>
   intro c n' b0 aa ab ai ak af ag K r hm hX
   rw [Jav.eq_1] at hm; cases hm
 | succ n ih =>
   intro c n' b0 aa ab ai ak af ag K r hm hX
   obtain ⟨ae, cO, ah⟩ := hX
   refine Fn.enter Tryz.func230 Tryz.call230 rfl fun F => ?_
   rw [Jav.eq_2] at hm
   refine qar ?_
   intro b3
   refine fa rfl (ro (ld r0 rfl rfl ?_))
   obtain ⟨x9, l9, k9, hm⟩ := ixb hm
   refine RStep.ofN (qad rfl rfl (qc6 ah.rd k9) l9 (qax rfl l9 k9) ?_)
   obtain ⟨dj, du, bv, bu, bw⟩ := LiR.get ah.rd k9
   obtain ⟨cP, bD, rfl, bO⟩ := Ja.out bw
   refine ro (qan ((0 : Int).toNat) _ bv rfl bu rfl ?_)
   refine cb hm fun dO dz hm => ckx (Jcj dz :) ?_
   rintro _ _ _ ⟨bA, bG, cn, bL, rfl, cy, cA, rfl⟩
   refine cb hm fun dM dp hm => ckx (Jg dp :) ?_
   rintro _ _ _ ⟨de, cB, bF, bY, rfl, c9, c8, rfl⟩
   refine fa rfl (ro (ld r3 rfl rfl ?_))
   obtain ⟨dG, cK, ba, hm⟩ := ixb hm
   refine RStep.ofN (qad rfl rfl (qc6 ah.rd ba) cK (qax rfl cK ba) (qba rfl (qc6 ah.rd ba) ?_))
   obtain ⟨dw, dy, bn, bg, bd⟩ := LiR.get ah.rd ba
   obtain ⟨bT, cL, rfl, cZ⟩ := Ja.out bd
   refine ro (qcx ((1 : Int).toNat) 2 _ _ bn rfl bg rfl rfl ?_)
   refine cb hm fun dI dg hm => ckx (ihrec4_0 dg :) ?_
   rintro _ _ _ ⟨cR, cm, cQ, cY, rfl, cz, cW, rfl⟩
   refine fa rfl (ro (ld r3 rfl rfl (ro (qak rfl (qag ?_)))))
   refine cs rfl rfl hm ?_ ?_ <;> intro dE hm
   refine cb hm fun dN dC hm => ckx (JW dC :) ?_
   rintro _ _ _ ⟨cM, bR, cr, bI, rfl, co, cE, rfl⟩
   exact eE hm
   refine cb hm fun dF dk hm => ckx (Jg dk :) ?_
   rintro _ _ _ ⟨cC, bP, cV, bz, rfl, bX, bC, rfl⟩
   refine cb hm fun dP di hm => ckx (JW di :) ?_
   rintro _ _ _ ⟨bV, ce, cD, bN, rfl, c5, bU, rfl⟩
   refine fa rfl (ro (ld r3 rfl rfl ?_))
   obtain ⟨dL, cu, a8, hm⟩ := ixb hm
   refine RStep.ofN (qad rfl rfl (qc6 ah.rd a8) cu (qax rfl cu a8) (qba rfl (qc6 ah.rd a8) ?_))
   obtain ⟨dm, dx, bo, bm, bp⟩ := LiR.get ah.rd a8
   obtain ⟨cI, cj, rfl, bH⟩ := Ja.out bp
   refine ro (qcx ((2 : Int).toNat) 0 _ _ bo rfl bm rfl rfl (qag ?_))
   refine cs rfl rfl hm ?_ ?_ <;> intro dH hm
   refine fa rfl (ro (ld r3 rfl rfl ?_))
   obtain ⟨dD, df, bj, hm⟩ := ixb hm
   refine RStep.ofN (qad rfl rfl (qc6 ah.rd bj) df (qax rfl df bj) ?_)
   obtain ⟨dA, dv, br, bc, bl⟩ := LiR.get ah.rd bj
   obtain ⟨dc, cX, rfl, bJ⟩ := Ja.out bl
   refine ro (qan ((2 : Int).toNat) _ br rfl bc rfl ?_)
   refine cb hm fun dJ dq hm => ckx (ih dq :) ?_
   rintro _ _ _ ⟨bW, cJ, bK, cN, rfl, cG, bB, rfl⟩
   refine cb hm fun dt bh hm => ckx (JW bh :) ?_
   rintro _ _ _ ⟨aZ, aW, aY, aV, rfl, aX, aU, rfl⟩
   exact eE hm
   refine fa rfl (ro (ld r3 rfl rfl ?_))
   obtain ⟨dQ, cH, a6, hm⟩ := ixb hm
   refine RStep.ofN (qad rfl rfl (qc6 ah.rd a6) cH (qax rfl cH a6) (qba rfl (qc6 ah.rd a6) ?_))
   obtain ⟨dh, dn, bf, bb, bt⟩ := LiR.get ah.rd a6
   obtain ⟨cw, bS, rfl, ca⟩ := Ja.out bt
   refine ro (qcx ((2 : Int).toNat) 2 _ _ bf rfl bb rfl rfl ?_)
   refine cb hm fun dK dB hm => ckx (ihrec4_0 dB :) ?_
   rintro _ _ _ ⟨cU, c4, c6, bQ, rfl, bM, bZ, rfl⟩
   refine cb hm fun dt bh hm => ckx (JW bh :) ?_
   rintro _ _ _ ⟨aZ, aW, aY, aV, rfl, aX, aU, rfl⟩
   exact eE hm

def Jbc (aw : (Jd → (List Ja) → Option (Jd))) (n : Nat) (c : Jd) (n' : Ja) : Option (Jd) :=
  if decide (n'.Ab = 2) then
  (Jav aw n c n').bind fun x9 =>
  some x9
  else
  if decide ((n'.Aa.length : Int) > 0) then
  (ix n'.Aa 0).bind fun bc =>
  (JD n c bc).bind fun aV =>
  if decide (n'.Ab = 3) then
  (Jj aV 4 aV.Ap ([] : Str)).bind fun aU =>
  (chk (aU.2.names.length + [(⟨n'.Ac, aU.2.Ap⟩ : Jr)].length ≤ lim)).bind fun _ =>
  (chk (InI (aU.2.Ap + 1))).bind fun _ =>
  some (⟨aU.2.code, (aU.2.names ++ [(⟨n'.Ac, aU.2.Ap⟩ : Jr)]), (aU.2.Ap + 1)⟩ : Jd)
  else
  if decide (n'.Ab = 4) then
  (Jj aV 11 0 n'.Ac).bind fun aX =>
  some aX.2
  else
  if decide (n'.Ab = 5) then
  (chk (([104, 101, 97, 100, 101, 114, 58] : Str).length + n'.Ac.length ≤ lim)).bind fun _ =>
  (Jj aV 11 0 (([104, 101, 97, 100, 101, 114, 58] : Str) ++ n'.Ac)).bind fun aW =>
  some aW.2
  else
  if decide (n'.Ab = 6) then
  (chk (([118, 97, 114, 121, 58] : Str).length + n'.Ac.length ≤ lim)).bind fun _ =>
  (Jj aV 11 0 (([118, 97, 114, 121, 58] : Str) ++ n'.Ac)).bind fun a6 =>
  some a6.2
  else
  if decide (n'.Ab = 7) then
  (Jj aV 11 0 ([116, 97, 103] : Str)).bind fun aZ =>
  some aZ.2
  else
  if decide (n'.Ab = 8) then
  (Jj aV 11 0 ([116, 116, 108] : Str)).bind fun aY =>
  some aY.2
  else
  if decide (n'.Ab = 9) then
  (Jj aV 11 0 ([100, 101, 110, 121] : Str)).bind fun bb =>
  some bb.2
  else
  if decide (n'.Ab = 10) then
  (Jj aV 11 0 ([112, 97, 115, 115] : Str)).bind fun ba =>
  some ba.2
  else
  if decide (n'.Ab = 11) then
  (Jj aV 11 0 ([116, 111, 107, 101, 110] : Str)).bind fun a8 =>
  some a8.2
  else
  some aV
  else
  if decide (n'.Ab = 3) then
  (Jj c 4 c.Ap ([] : Str)).bind fun aU =>
  (chk (aU.2.names.length + [(⟨n'.Ac, aU.2.Ap⟩ : Jr)].length ≤ lim)).bind fun _ =>
  (chk (InI (aU.2.Ap + 1))).bind fun _ =>
  some (⟨aU.2.code, (aU.2.names ++ [(⟨n'.Ac, aU.2.Ap⟩ : Jr)]), (aU.2.Ap + 1)⟩ : Jd)
  else
  if decide (n'.Ab = 4) then
  (Jj c 11 0 n'.Ac).bind fun aX =>
  some aX.2
  else
  if decide (n'.Ab = 5) then
  (chk (([104, 101, 97, 100, 101, 114, 58] : Str).length + n'.Ac.length ≤ lim)).bind fun _ =>
  (Jj c 11 0 (([104, 101, 97, 100, 101, 114, 58] : Str) ++ n'.Ac)).bind fun aW =>
  some aW.2
  else
  if decide (n'.Ab = 6) then
  (chk (([118, 97, 114, 121, 58] : Str).length + n'.Ac.length ≤ lim)).bind fun _ =>
  (Jj c 11 0 (([118, 97, 114, 121, 58] : Str) ++ n'.Ac)).bind fun a6 =>
  some a6.2
  else
  if decide (n'.Ab = 7) then
  (Jj c 11 0 ([116, 97, 103] : Str)).bind fun aZ =>
  some aZ.2
  else
  if decide (n'.Ab = 8) then
  (Jj c 11 0 ([116, 116, 108] : Str)).bind fun aY =>
  some aY.2
  else
  if decide (n'.Ab = 9) then
  (Jj c 11 0 ([100, 101, 110, 121] : Str)).bind fun bb =>
  some bb.2
  else
  if decide (n'.Ab = 10) then
  (Jj c 11 0 ([112, 97, 115, 115] : Str)).bind fun ba =>
  some ba.2
  else
  if decide (n'.Ab = 11) then
  (Jj c 11 0 ([116, 111, 107, 101, 110] : Str)).bind fun a8 =>
  some a8.2
  else
  some c
theorem JcQ {aw : (Jd → (List Ja) → Option (Jd))} (ihrec4_0 : ∀ {c : Jd} {list : (List Ja)} {b0 : Nat} {aa : Option Addr} {ab : Nat} {ai : Option Addr} {ak : Nat} {af : Option Addr} {ag : Nat} {n1 : Nat} {K : Hp} {r : Jd} (hm : aw c list = some r) (hX : (0 < c.code.length → Has aa) ∧ (0 < c.names.length → Has ai) ∧ LiC Ja.R K af ag 4 list ∧ n1 = list.length), Fn Tryz.prog 142 [.pointer (some ⟨b0, 0, none⟩), .slice af n1 ag] K [Cells b0 209 [.slice aa c.code.length ab, .slice ai c.names.length ak, .int .i64 c.Ap], qat Jf.enc aa 135 3 ab c.code, qat Jr.enc ai 290 2 ak c.names] (fun v K' H' => ∃ ar_0 : Option Addr, ∃ cr_0 : Nat, ∃ ar_1 : Option Addr, ∃ cr_1 : Nat, v = .tuple #[] ∧ (0 < r.code.length → Has ar_0) ∧ (0 < r.names.length → Has ar_1) ∧ H' = [Cells b0 209 [.slice ar_0 r.code.length cr_0, .slice ar_1 r.names.length cr_1, .int .i64 r.Ap], qat Jf.enc ar_0 135 3 cr_0 r.code, qat Jr.enc ar_1 290 2 cr_1 r.names])) {n : Nat} {c : Jd} {n' : Ja} {b0 : Nat} {aa : Option Addr} {ab : Nat} {ai : Option Addr} {ak : Nat} {af : Option Addr} {ag : Nat} {K : Hp} {r : Jd}
    (hm : Jbc aw n c n' = some r) (hX : (0 < c.code.length → Has aa) ∧ (0 < c.names.length → Has ai) ∧ LiC Ja.R K af ag 4 n'.Aa) :
    Fn Tryz.prog 197 [.pointer (some ⟨b0, 0, none⟩), .agg #[.int .i64 n'.Ab, str n'.Ac, .slice af n'.Aa.length ag, .int .i64 n'.Ad]] K [Cells b0 209 [.slice aa c.code.length ab, .slice ai c.names.length ak, .int .i64 c.Ap], qat Jf.enc aa 135 3 ab c.code, qat Jr.enc ai 290 2 ak c.names] (fun v K' H' => ∃ ar_0 : Option Addr, ∃ cr_0 : Nat, ∃ ar_1 : Option Addr, ∃ cr_1 : Nat, v = .tuple #[] ∧ (0 < r.code.length → Has ar_0) ∧ (0 < r.names.length → Has ar_1) ∧ H' = [Cells b0 209 [.slice ar_0 r.code.length cr_0, .slice ar_1 r.names.length cr_1, .int .i64 r.Ap], qat Jf.enc ar_0 135 3 cr_0 r.code, qat Jr.enc ar_1 290 2 cr_1 r.names]) := by
 obtain ⟨ae, cO, ah⟩ := hX
 refine Fn.enter Tryz.func197 Tryz.call197 rfl fun F => ?_
 unfold Jbc at hm
 refine qar ?_
 intro b3
 refine fa rfl (ro (ld r0 rfl rfl (qag ?_)))
 refine cs rfl rfl hm ?_ ?_ <;> intro w6 hm
 refine ro (qab r0 rfl (nl rfl) ?_)
 refine cb hm fun x9 q9 hm => ckx (Jdf ihrec4_0 q9 :) ?_
 rintro _ _ _ ⟨c9, dw, cZ, cY, rfl, dk, dc, rfl⟩
 exact eE hm
 refine fa rfl (ro (ld r0 rfl rfl (ro (qak rfl ?_))))
 refine cs rfl rfl hm ?_ ?_ <;> intro dD hm
 refine fa rfl (ro (ld r0 rfl rfl ?_))
 obtain ⟨dE, cL, cD, hm⟩ := ixb hm
 refine RStep.ofN (qad rfl rfl (qc6 ah.rd cD) cL (qax rfl cL cD) ?_)
 obtain ⟨dh, dv, cm, cz, cB⟩ := LiR.get ah.rd cD
 obtain ⟨cP, cU, rfl, cR⟩ := Ja.out cB
 refine ro (qan ((0 : Int).toNat) _ cm rfl cz rfl ?_)
 refine cb hm fun dF c8 hm => ckx (Jcj c8 :) ?_
 rintro _ _ _ ⟨cQ, cN, cK, cW, rfl, cV, cM, rfl⟩
 refine fa rfl (ro (ld r3 rfl rfl ?_))
 refine qal rfl ?_
 refine qag (cs rfl rfl hm ?_ ?_) <;> intro dm hm
 refine qah (fa rfl (ro (ld r0 rfl rfl ?_)))
 refine cb hm fun bo cC hm => ckx (Jg cC :) ?_
 rintro _ _ _ ⟨bb, bp, bD, aU, rfl, bC, aX, rfl⟩
 refine qa2 ⟨⟨[], false⟩, _, [(_, _), (_, _)], []⟩ 14 rfl (by kernel_rfl) ⟨Hp.Le.refl _, (sc [0,2] rfl), ci0⟩ ?_
 refine qah (fa rfl (qao m0 rfl rfl (fa rfl (qao m1 rfl rfl (qah (fa rfl (qao m0 rfl rfl ?_)))))))
 refine qai rfl rfl (cT (cT ?_))
 refine bsO (len := 1) (enc := Jr.enc) (l := [(⟨n'.Ac, bo.2.Ap⟩ : Jr)]) (cl := [str n'.Ac, .int .i64 bo.2.Ap]) qkk rfl rfl (fun _ _ => rfl) rfl rfl rfl ?_ fun di => ?_
 · conv => whnf
   refine cT ?_
   first | done | rfl
 refine qk (sc [1,3] rfl) ?_
 obtain ⟨cr, hm⟩ := qaw hm
 refine apE rfl r3 qkk (qay rfl r0 rfl (fun _ => rfl) (fun _ => rfl)) cr ?_
 intro df dj du
 refine qk (sc [2,3] rfl) ?_
 refine qah (fa rfl ?_)
 refine qaa r2 rfl ⟨rfl, rfl, (nl rfl), ?_⟩
 refine ⟨⟨Hp.emp_le _, (pf rfl), ci0⟩, ?_⟩
 refine qah (fa rfl (ro (ld r0 rfl rfl ?_)))
 obtain ⟨cG, hm⟩ := qaw hm
 refine qam cG (qah (fa rfl ?_))
 refine qaa r0 rfl ⟨rfl, rfl, (nl rfl), ?_⟩
 exact eE hm
 refine qag (cs rfl rfl hm ?_ ?_) <;> intro dt hm
 refine fa rfl (ro (ld r3 rfl rfl ?_))
 refine cb hm fun cX co hm => ckx (Jg co :) ?_
 rintro _ _ _ ⟨bd, bP, aV, bv, rfl, a6, a8, rfl⟩
 exact eE hm
 refine qag (cs rfl rfl hm ?_ ?_) <;> intro dz hm
 refine fa rfl (ro (ld r3 rfl rfl ?_))
 obtain ⟨cI, hm⟩ := qaw hm
 refine qbs cI ?_
 refine cb hm fun dx cy hm => ckx (Jg cy :) ?_
 rintro _ _ _ ⟨ba, bN, bl, bY, rfl, aW, bh, rfl⟩
 exact eE hm
 refine qag (cs rfl rfl hm ?_ ?_) <;> intro de hm
 refine fa rfl (ro (ld r3 rfl rfl ?_))
 obtain ⟨cE, hm⟩ := qaw hm
 refine qbs cE ?_
 refine cb hm fun dn cw hm => ckx (Jg cw :) ?_
 rintro _ _ _ ⟨bA, bw, bM, bt, rfl, bc, bT, rfl⟩
 exact eE hm
 refine qag (cs rfl rfl hm ?_ ?_) <;> intro dA hm
 refine cb hm fun dy cH hm => ckx (Jg cH :) ?_
 rintro _ _ _ ⟨bS, bn, bJ, bZ, rfl, bg, bG, rfl⟩
 exact eE hm
 refine qag (cs rfl rfl hm ?_ ?_) <;> intro dp hm
 refine cb hm fun dg cn hm => ckx (Jg cn :) ?_
 rintro _ _ _ ⟨ce, ca, bL, bm, rfl, cj, bO, rfl⟩
 exact eE hm
 refine qag (cs rfl rfl hm ?_ ?_) <;> intro c4 hm
 refine cb hm fun dq cu hm => ckx (Jg cu :) ?_
 rintro _ _ _ ⟨bU, bj, bR, bf, rfl, bV, bu, rfl⟩
 exact eE hm
 refine qag (cs rfl rfl hm ?_ ?_) <;> intro c5 hm
 refine cb hm fun dC cA hm => ckx (Jg cA :) ?_
 rintro _ _ _ ⟨bF, bH, bQ, aY, rfl, bz, aZ, rfl⟩
 exact eE hm
 refine qag (cs rfl rfl hm ?_ ?_) <;> intro c6 hm
 refine cb hm fun dB cJ hm => ckx (Jg cJ :) ?_
 rintro _ _ _ ⟨bW, bK, br, bI, rfl, bX, bB, rfl⟩
 exact eE hm
 exact eE hm
 refine fa rfl (ro (ld r0 rfl rfl ?_))
 refine qal rfl ?_
 refine qag (cs rfl rfl hm ?_ ?_) <;> intro dm hm
 refine qah (fa rfl (ro (ld r1 rfl rfl ?_)))
 refine cb hm fun bo cC hm => ckx (Jg cC :) ?_
 rintro _ _ _ ⟨bb, bp, bD, aU, rfl, bC, aX, rfl⟩
 refine qa2 ⟨⟨[], false⟩, _, [(_, _), (_, _)], []⟩ 14 rfl (by kernel_rfl) ⟨Hp.Le.refl _, (sc [0,2] rfl), ci0⟩ ?_
 refine qah (fa rfl (qao m0 rfl rfl (fa rfl (qao m1 rfl rfl (qah (fa rfl (qao m0 rfl rfl ?_)))))))
 refine qai rfl rfl (cT (cT ?_))
 refine bsO (len := 1) (enc := Jr.enc) (l := [(⟨n'.Ac, bo.2.Ap⟩ : Jr)]) (cl := [str n'.Ac, .int .i64 bo.2.Ap]) qkk rfl rfl (fun _ _ => rfl) rfl rfl rfl ?_ fun di => ?_
 · conv => whnf
   refine cT ?_
   first | done | rfl
 refine qk (sc [1,3] rfl) ?_
 obtain ⟨cr, hm⟩ := qaw hm
 refine apE rfl r3 qkk (qay rfl r0 rfl (fun _ => rfl) (fun _ => rfl)) cr ?_
 intro df dj du
 refine qk (sc [2,3] rfl) ?_
 refine qah (fa rfl ?_)
 refine qaa r2 rfl ⟨rfl, rfl, (nl rfl), ?_⟩
 refine ⟨⟨Hp.emp_le _, (pf rfl), ci0⟩, ?_⟩
 refine qah (fa rfl (ro (ld r0 rfl rfl ?_)))
 obtain ⟨cG, hm⟩ := qaw hm
 refine qam cG (qah (fa rfl ?_))
 refine qaa r0 rfl ⟨rfl, rfl, (nl rfl), ?_⟩
 exact eE hm
 refine qag (cs rfl rfl hm ?_ ?_) <;> intro dt hm
 refine fa rfl (ro (ld r0 rfl rfl ?_))
 refine cb hm fun cX co hm => ckx (Jg co :) ?_
 rintro _ _ _ ⟨bd, bP, aV, bv, rfl, a6, a8, rfl⟩
 exact eE hm
 refine qag (cs rfl rfl hm ?_ ?_) <;> intro dz hm
 refine fa rfl (ro (ld r0 rfl rfl ?_))
 obtain ⟨cI, hm⟩ := qaw hm
 refine qbs cI ?_
 refine cb hm fun dx cy hm => ckx (Jg cy :) ?_
 rintro _ _ _ ⟨ba, bN, bl, bY, rfl, aW, bh, rfl⟩
 exact eE hm
 refine qag (cs rfl rfl hm ?_ ?_) <;> intro de hm
 refine fa rfl (ro (ld r0 rfl rfl ?_))
 obtain ⟨cE, hm⟩ := qaw hm
 refine qbs cE ?_
 refine cb hm fun dn cw hm => ckx (Jg cw :) ?_
 rintro _ _ _ ⟨bA, bw, bM, bt, rfl, bc, bT, rfl⟩
 exact eE hm
 refine qag (cs rfl rfl hm ?_ ?_) <;> intro dA hm
 refine cb hm fun dy cH hm => ckx (Jg cH :) ?_
 rintro _ _ _ ⟨bS, bn, bJ, bZ, rfl, bg, bG, rfl⟩
 exact eE hm
 refine qag (cs rfl rfl hm ?_ ?_) <;> intro dp hm
 refine cb hm fun dg cn hm => ckx (Jg cn :) ?_
 rintro _ _ _ ⟨ce, ca, bL, bm, rfl, cj, bO, rfl⟩
 exact eE hm
 refine qag (cs rfl rfl hm ?_ ?_) <;> intro c4 hm
 refine cb hm fun dq cu hm => ckx (Jg cu :) ?_
 rintro _ _ _ ⟨bU, bj, bR, bf, rfl, bV, bu, rfl⟩
 exact eE hm
 refine qag (cs rfl rfl hm ?_ ?_) <;> intro c5 hm
 refine cb hm fun dC cA hm => ckx (Jg cA :) ?_
 rintro _ _ _ ⟨bF, bH, bQ, aY, rfl, bz, aZ, rfl⟩
 exact eE hm
 refine qag (cs rfl rfl hm ?_ ?_) <;> intro c6 hm
 refine cb hm fun dB cJ hm => ckx (Jg cJ :) ?_
 rintro _ _ _ ⟨bW, bK, br, bI, rfl, bX, bB, rfl⟩
 exact eE hm
 exact eE hm

def Jan (rec_ : (Jd → (List Ja) → Option (Jd))) (n : Nat) : List Ja → Nat → Jd → Option (Jd)
  | [], _, ac => some ac
  | e0 :: aV, i0, ac =>
    (Jbc rec_ n ac e0).bind fun aU =>
    Jan rec_ n aV (i0 + 1) aU
def Jal : Nat → Jd → (List Ja) → Option (Jd)
  | 0, _, _ => none
  | n + 1, c, list =>
    (chk (list.length ≤ qa3)).bind fun _ =>
    (Jan (Jal n) n list 0 c).bind fun t0 =>
    (chk (0 ≤ (0 : Int) ∧ (0 : Int) ≤ (c.names.length : Int) ∧ (c.names.length : Int) ≤ (t0.names.length : Int))).bind fun _ =>
    some (⟨t0.code, (subL t0.names (0 : Int) (c.names.length : Int)), t0.Ap⟩ : Jd)
theorem Jdj : ∀ {n : Nat} {c : Jd} {list : (List Ja)} {b0 : Nat} {aa : Option Addr} {ab : Nat} {ai : Option Addr} {ak : Nat} {af : Option Addr} {ag : Nat} {n1 : Nat} {K : Hp} {r : Jd}
    (hm : Jal n c list = some r) (hX : (0 < c.code.length → Has aa) ∧ (0 < c.names.length → Has ai) ∧ LiC Ja.R K af ag 4 list ∧ n1 = list.length),
    Fn Tryz.prog 142 [.pointer (some ⟨b0, 0, none⟩), .slice af n1 ag] K [Cells b0 209 [.slice aa c.code.length ab, .slice ai c.names.length ak, .int .i64 c.Ap], qat Jf.enc aa 135 3 ab c.code, qat Jr.enc ai 290 2 ak c.names] (fun v K' H' => ∃ ar_0 : Option Addr, ∃ cr_0 : Nat, ∃ ar_1 : Option Addr, ∃ cr_1 : Nat, v = .tuple #[] ∧ (0 < r.code.length → Has ar_0) ∧ (0 < r.names.length → Has ar_1) ∧ H' = [Cells b0 209 [.slice ar_0 r.code.length cr_0, .slice ar_1 r.names.length cr_1, .int .i64 r.Ap], qat Jf.enc ar_0 135 3 cr_0 r.code, qat Jr.enc ar_1 290 2 cr_1 r.names]) := by
 intro n
 induction n with
 | zero =>
   intro c list b0 aa ab ai ak af ag n1 K r hm hX
   rw [Jal.eq_1] at hm; cases hm
 | succ n ih =>
   intro c list b0 aa ab ai ak af ag n1 K r hm hX
   obtain ⟨ae, bz, ah, bH⟩ := hX
   subst bH
   refine Fn.enter Tryz.func142 Tryz.call142 rfl fun F => ?_
   rw [Jal.eq_2] at hm
   refine qah (fa rfl (ro (ld r0 rfl rfl (ro (qak rfl (ro (qak rfl ?_)))))))
   obtain ⟨bC, hm⟩ := qaw hm
   obtain ⟨s0, aY, hm⟩ := bnd hm
   refine lD (σ := (Jd) × Option Addr × Nat × Option Addr × Nat) ([6] ++ rg 14 8) [3] (fun i0 => [(14, .int .i64 (i0 : Int))]) (fun _ => []) (fun (t0, aV, aW, aU, aX) => [Cells b0 209 [.slice aV t0.code.length aW, .slice aU t0.names.length aX, .int .i64 t0.Ap], qat Jf.enc aV 135 3 aW t0.code, qat Jr.enc aU 290 2 aX t0.names]) (fun (t0, aV, aW, aU, aX) => (0 < t0.code.length → Has aV) ∧ (0 < t0.names.length → Has aU)) (fun i0 (t0, aV, aW, aU, aX) => Jan (Jal n) n (list.drop i0) i0 t0 = some s0) (fun (t0, aV, aW, aU, aX) => t0 = s0) (fun i0 => list.length - i0) 0 (_, _, _, _, _) aY (And.intro qe (And.intro ?_ ?_))
   clear aY
   rintro i0 ⟨ac, bc, bb, bg, bd⟩ ⟨a8, ba⟩ aY j0
   conv at aY => whnf
   refine qac rfl ?_
   refine qae ?_ ?_ <;> intro w0
   obtain ⟨e0, bf, bG⟩ := ltx w0
   rw [bG, Jan.eq_2] at aY
   refine qal rfl ?_
   refine RStep.ofN (qad rfl rfl (qc6 ah.rd bf) (nn _) (qbl bf) ?_)
   obtain ⟨bF, bD, bl, bj, bh⟩ := LiR.get ah.rd bf
   obtain ⟨bt, bw, rfl, bu⟩ := Ja.out bh
   refine ro (qan i0 _ bl rfl bj rfl ?_)
   refine qaf rfl fun b6 => ?_
   refine qaa r0 rfl ⟨rfl, rfl, (nl rfl), ?_⟩
   refine ro (qab r0 rfl (nl rfl) ?_)
   refine cb aY fun bI bB aY => ckx (JcQ ih bB :) ?_
   rintro _ _ _ ⟨bm, br, bA, bp, rfl, bv, bn, rfl⟩
   refine qam (qbn bf bC) ?_
   exact eR aY (_, _, _, _, _, _)
   rw [lty w0, Jan.eq_1] at aY
   refine cT ?_
   exact eM aY (_, _, _, _, _)
   rintro ⟨t0, aV, aW, aU, aX⟩ ⟨a6, aZ⟩ rfl j0
   refine qah (fa rfl (ro (ld r0 rfl rfl ?_)))
   obtain ⟨bo, hm⟩ := qaw hm
   refine qnm (l := t0.names) (hi := (some (c.names.length : Int))) rfl r2 (by simp) rfl rfl bo ?_
   refine qah (fa rfl ?_)
   refine tkW (c.names.length : Int) r2 ?_
   refine qaa r1 rfl ⟨rfl, rfl, (nl rfl), ?_⟩
   cases hm
   exact en lr ⟨aV, aW, aU, aX, rfl, a6, (fun h => aZ (qgo bo h)), rfl⟩ (sc [0,1,0,0] rfl)

def JcW (n : Nat) (program : Ja) : Option ((List Jf) × Err) :=
  (Jci n program).bind fun x9 =>
  if x9.2.isSome then
  some ([], x9.2)
  else
  (Jal n (⟨[], [], 0⟩ : Jd) program.Aa).bind fun aV =>
  (Jj aV 12 0 ([] : Str)).bind fun aU =>
  if decide ((aU.2.code.length : Int) > 2048) then
  some ([], (some 5))
  else
  some (aU.2.code, none)
theorem Jd4 {n : Nat} {program : Ja} {aa : Option Addr} {ab : Nat} {K : Hp} {r : (List Jf) × Err}
    (hm : JcW n program = some r) (hX : LiC Ja.R K aa ab 4 program.Aa ∧ GG K) :
    Fn Tryz.prog 90 [.agg #[.int .i64 program.Ab, str program.Ac, .slice aa program.Aa.length ab, .int .i64 program.Ad]] K [] (fun v K' H' => ∃ ar_0 : Option Addr, ∃ cr_0 : Nat, v = .tuple #[.slice ar_0 r.1.length cr_0, qcp 48 r.2] ∧ (0 < r.1.length → Has ar_0) ∧ H' = [qat Jf.enc ar_0 135 3 cr_0 r.1]) := by
 obtain ⟨ae, hG⟩ := hX
 refine Fn.enter Tryz.func90 Tryz.call90 rfl fun F => ?_
 unfold JcW at hm
 refine qar ?_
 intro b1
 refine ro (qab r0 rfl (nl rfl) ?_)
 refine cb hm fun x9 q9 hm => cgx (JcN q9 :) ?_
 refine qa5 rfl ?_
 refine cs rfl rfl hm ?_ ?_ <;> intro bl hm
 refine qci Jf.enc 135 3 ?_
 exact eE hm
 refine qai rfl rfl ?_
 refine qar ?_
 intro bh
 refine fa rfl (ro (ld r1 rfl rfl ?_))
 refine qsq Tryz.call142 Jf.enc 135 3 ?_
 refine qsq Tryz.call142 Jr.enc 290 2 ?_
 refine cb hm fun bm bf hm => ckx (Jdj bf :) ?_
 rintro _ _ _ ⟨aV, aU, bd, ba, rfl, a6, aX, rfl⟩
 refine cb hm fun bj bg hm => ckx (Jg bg :) ?_
 rintro _ _ _ ⟨aY, bc, a8, aW, rfl, aZ, bb, rfl⟩
 refine qah (fa rfl (ro (ld r0 rfl rfl (ro (qak rfl ?_)))))
 refine cs rfl rfl hm ?_ ?_ <;> intro bn hm
 refine qas rfl ?_
 refine qci Jf.enc 135 3 ?_
 exact eE hm
 refine qah (fa rfl (ro (ld r0 rfl rfl ?_)))
 exact eE hm

def Ja8 (rec_ : (Ja → (List Jk) → Option (Int × Int))) (env : (List Jk)) : List Ja → Nat → (List Int) → Int → Int → Option ((List Int) × Int × Int)
  | [], _, ac, aW, aU => some (ac, aW, aU)
  | e0 :: aX, i0, ac, aW, aU =>
    (rec_ e0 env).bind fun aV =>
    (chk (ac.length + [aV.1].length ≤ lim)).bind fun _ =>
    if decide ((i0 : Int) = 0) then
    (chk (InI (aU + aV.2))).bind fun _ =>
    Ja8 rec_ env aX (i0 + 1) (ac ++ [aV.1]) aV.2 (aU + aV.2)
    else
    (chk (InI (aU + aV.2))).bind fun _ =>
    Ja8 rec_ env aX (i0 + 1) (ac ++ [aV.1]) aW (aU + aV.2)
def JbW : Nat → Ja → (List Jk) → Option (Int × Int)
  | 0, _, _ => none
  | n + 1, n', env =>
    (chk (n'.Aa.length ≤ qa3)).bind fun _ =>
    (Ja8 (JbW n) env n'.Aa 0 [] 0 0).bind fun t0 =>
    if decide (n'.Ab = 20) then
    some (2, 1)
    else
    if decide (n'.Ab = 21) then
    some (1, 1)
    else
    if decide (n'.Ab = 22) then
    some (3, 3)
    else
    if decide (n'.Ab = 23) then
    (Jb6 n n'.Ac env).bind fun aV =>
    some (aV, 1)
    else
    if decide (n'.Ab = 24) then
    (Jbl (⟨0, none⟩ : Jm) n' t0.1).bind fun aC =>
    if decide (aC.1 = 1) then
    (chk (InI (t0.2.2 + 32))).bind fun _ =>
    (chk (InI ((t0.2.2 + 32) + 1))).bind fun _ =>
    some (aC.1, ((t0.2.2 + 32) + 1))
    else
    (chk (InI (t0.2.2 + 1))).bind fun _ =>
    some (aC.1, (t0.2.2 + 1))
    else
    if decide (n'.Ab = 14) then
    if decide (n'.Ab = 14) then
    (chk (InI (t0.2.1 + 1))).bind fun _ =>
    (chk (InI (t0.2.2 - t0.2.1))).bind fun _ =>
    (chk (InI ((t0.2.2 - t0.2.1) + 1))).bind fun _ =>
    (chk (InI ((t0.2.1 + 1) + (max 3 ((t0.2.2 - t0.2.1) + 1))))).bind fun _ =>
    some (3, ((t0.2.1 + 1) + (max 3 ((t0.2.2 - t0.2.1) + 1))))
    else
    (chk (InI (t0.2.1 + 1))).bind fun _ =>
    (chk (InI (t0.2.2 - t0.2.1))).bind fun _ =>
    (chk (InI ((t0.2.1 + 1) + (max 4 (t0.2.2 - t0.2.1))))).bind fun _ =>
    some (3, ((t0.2.1 + 1) + (max 4 (t0.2.2 - t0.2.1))))
    else
    if decide (n'.Ab = 13) then
    if decide (n'.Ab = 14) then
    (chk (InI (t0.2.1 + 1))).bind fun _ =>
    (chk (InI (t0.2.2 - t0.2.1))).bind fun _ =>
    (chk (InI ((t0.2.2 - t0.2.1) + 1))).bind fun _ =>
    (chk (InI ((t0.2.1 + 1) + (max 3 ((t0.2.2 - t0.2.1) + 1))))).bind fun _ =>
    some (3, ((t0.2.1 + 1) + (max 3 ((t0.2.2 - t0.2.1) + 1))))
    else
    (chk (InI (t0.2.1 + 1))).bind fun _ =>
    (chk (InI (t0.2.2 - t0.2.1))).bind fun _ =>
    (chk (InI ((t0.2.1 + 1) + (max 4 (t0.2.2 - t0.2.1))))).bind fun _ =>
    some (3, ((t0.2.1 + 1) + (max 4 (t0.2.2 - t0.2.1))))
    else
    (Jca n' t0.1).bind fun aU =>
    if decide (aU = 1) then
    (chk (InI (t0.2.2 + 32))).bind fun _ =>
    (chk (InI ((t0.2.2 + 32) + 1))).bind fun _ =>
    some (aU, ((t0.2.2 + 32) + 1))
    else
    (chk (InI (t0.2.2 + 1))).bind fun _ =>
    some (aU, (t0.2.2 + 1))
theorem Jeh : ∀ {n : Nat} {n' : Ja} {env : (List Jk)} {aa : Option Addr} {ab : Nat} {af : Option Addr} {ag : Nat} {n1 : Nat} {K : Hp} {r : Int × Int}
    (hm : JbW n n' env = some r) (hX : LiC Ja.R K aa ab 4 n'.Aa ∧ RdC Jk.enc K af ag 2 env ∧ n1 = env.length),
    Fn Tryz.prog 198 [.agg #[.int .i64 n'.Ab, str n'.Ac, .slice aa n'.Aa.length ab, .int .i64 n'.Ad], .slice af n1 ag] K [] (fun v K' H' => v = .tuple #[.int .i64 r.1, .int .i64 r.2] ∧ H' = []) := by
 intro n
 induction n with
 | zero =>
   intro n' env aa ab af ag n1 K r hm hX
   rw [JbW.eq_1] at hm; cases hm
 | succ n ih =>
   intro n' env aa ab af ag n1 K r hm hX
   obtain ⟨ae, ah, bL⟩ := hX
   subst bL
   refine Fn.enter Tryz.func198 Tryz.call198 rfl fun F => ?_
   rw [JbW.eq_2] at hm
   refine qar ?_
   intro b2
   refine fa rfl (ro (ld r0 rfl rfl (ro (qak rfl ?_))))
   obtain ⟨bu, hm⟩ := qaw hm
   obtain ⟨s0, aW, hm⟩ := bnd hm
   refine qhg eN 3 1 ?_
   refine lD (σ := ((List Int) × Int × Int) × Option Addr × Nat) (rg 6 7 ++ rg 19 22) [1, 2] (fun i0 => [(19, .int .i64 (i0 : Int))]) (fun (t0, aU, aV) => [(6, .slice aU t0.1.length aV), (7, .int .i64 t0.2.1), (8, .int .i64 t0.2.2)]) (fun (t0, aU, aV) => [qat eN aU 3 1 aV t0.1]) (fun (t0, aU, aV) => (0 < t0.1.length → Has aU) ∧ True) (fun i0 (t0, aU, aV) => Ja8 (JbW n) env (n'.Aa.drop i0) i0 t0.1 t0.2.1 t0.2.2 = some s0) (fun (t0, aU, aV) => t0 = s0) (fun i0 => n'.Aa.length - i0) 0 ((_, _, _), _, _) aW (And.intro qe (And.intro ?_ ?_))
   clear aW
   rintro i0 ⟨⟨ac, bz, bI⟩, br, bl⟩ ⟨bh, _⟩ aW j0
   dsimp only at aW ⊢
   refine qac rfl ?_
   refine qae ?_ ?_ <;> intro w0
   obtain ⟨e0, aY, bD⟩ := ltx w0
   rw [bD, Ja8.eq_2] at aW
   refine qal rfl ?_
   refine RStep.ofN (qad rfl rfl (qc6 ae.rd aY) (nn _) (qbl aY) ?_)
   obtain ⟨bA, bH, bd, bb, ba⟩ := LiR.get ae.rd aY
   obtain ⟨bn, bj, rfl, bw⟩ := Ja.out ba
   refine ro (qan i0 _ bd rfl bb rfl ?_)
   refine qaf rfl fun bO => ?_
   refine qaa r0 rfl ⟨rfl, rfl, (nl rfl), ?_⟩
   refine ro (qab r0 rfl (nl rfl) ?_)
   refine cb aW fun bo bK aW => cgx (ih bK :) ?_
   refine bsO (len := 1) (enc := eN) (l := [bo.1]) (cl := [.int .i64 bo.1]) qki rfl rfl (fun _ _ => rfl) rfl rfl rfl ?_ fun bU => ?_
   · conv => whnf
     refine cT ?_
     first | done | rfl
   obtain ⟨bB, aW⟩ := qaw aW
   refine apE rfl r2 qki (qay rfl r0 rfl (fun _ => rfl) (fun _ => rfl)) bB ?_
   intro bQ bP bT
   refine qag (cs rfl rfl aW ?_ ?_) <;> intro ce aW
   obtain ⟨bf, aW⟩ := qaw aW
   refine qam bf (qam (qbn aY bu) ?_)
   exact eR aW (_, (_, _, _), _, _)
   obtain ⟨bf, aW⟩ := qaw aW
   refine qam bf (qam (qbn aY bu) ?_)
   exact eR aW (_, (_, _, _), _, _)
   rw [lty w0, Ja8.eq_1] at aW
   refine cT ?_
   exact eM aW (_, _, _)
   rintro ⟨t0, aU, aV⟩ ⟨bt, _⟩ rfl j0
   refine qai rfl rfl ?_
   refine qar ?_
   intro bS
   refine fa rfl (ro (ld r2 rfl rfl ?_))
   refine qal rfl ?_
   refine qag (cs rfl rfl hm ?_ ?_) <;> intro ca hm
   exact eE hm
   refine qag (cs rfl rfl hm ?_ ?_) <;> intro bZ hm
   exact eE hm
   refine qag (cs rfl rfl hm ?_ ?_) <;> intro bR hm
   exact eE hm
   refine qag (cs rfl rfl hm ?_ ?_) <;> intro bV hm
   refine fa rfl (ro (ld r2 rfl rfl ?_))
   refine cb hm fun bM bC hm => cgx (JcA bC :) ?_
   exact eE hm
   refine qag (cs rfl rfl hm ?_ ?_) <;> intro bX hm
   refine ro (qab r2 rfl (nl rfl) ?_)
   refine cb hm fun aC bJ hm => ck0 (Fn.lend Tryz.call228 (fun bp aZ aX => (Jcs (c := (⟨0, none⟩ : Jm)) (n' := n') bJ ⟨(LiC.mono Ja.R_ok aZ ae), aX, rfl⟩)) (by exact fun _ _ _ _ h => h)) ?_
   rintro _ _ _ ⟨_, rfl, rfl, rfl⟩
   refine qag (cs rfl rfl hm ?_ ?_) <;> intro bN hm
   refine ci hm fun hm => ?_
   refine ci hm fun hm => ?_
   exact eE hm
   refine ci hm fun hm => ?_
   exact eE hm
   refine qag (cs rfl rfl hm ?_ ?_) <;> intro bv hm
   refine qac rfl (ct bv (fa rfl (ro (ld r2 rfl rfl (qag ?_)))))
   refine cs rfl rfl hm ?_ ?_ <;> intro bF hm
   refine ci hm fun hm => ?_
   refine ci hm fun hm => ?_
   obtain ⟨bg, hm⟩ := qaw hm
   refine qam bg (ro (qch ?_))
   refine ci hm fun hm => ?_
   exact eE hm
   refine ci hm fun hm => ?_
   obtain ⟨bc, hm⟩ := qaw hm
   refine qam bc (ro (qch ?_))
   refine ci hm fun hm => ?_
   exact eE hm
   refine qag (cs rfl rfl hm ?_ ?_) <;> intro bv hm
   refine fa rfl (ro (ld r2 rfl rfl (qag ?_)))
   refine cs rfl rfl hm ?_ ?_ <;> intro bF hm
   refine ci hm fun hm => ?_
   refine ci hm fun hm => ?_
   obtain ⟨bg, hm⟩ := qaw hm
   refine qam bg (ro (qch ?_))
   refine ci hm fun hm => ?_
   exact eE hm
   refine ci hm fun hm => ?_
   obtain ⟨bc, hm⟩ := qaw hm
   refine qam bc (ro (qch ?_))
   refine ci hm fun hm => ?_
   exact eE hm
   refine ro (qab r2 rfl (nl rfl) ?_)
   refine cb hm fun bY bG hm => ck0 (Fn.lend Tryz.call229 (fun bm a6 a8 => (JcY (n' := n') bG ⟨(LiC.mono Ja.R_ok a6 ae), a8, rfl⟩)) (by exact fun _ _ _ _ h => h)) ?_
   rintro _ _ _ ⟨_, rfl, rfl, rfl⟩
   refine qag (cs rfl rfl hm ?_ ?_) <;> intro bW hm
   refine ci hm fun hm => ?_
   refine ci hm fun hm => ?_
   exact eE hm
   refine ci hm fun hm => ?_
   exact eE hm

def Jam (n : Nat) (rec_ : ((List Ja) → (List Jk) → Option (Int))) : List Ja → Nat → (List Jk) → Int → Option ((List Jk) × Int)
  | [], _, ac, aU => some (ac, aU)
  | e0 :: aX, i0, ac, aU =>
    (chk (InI (aU + 1))).bind fun _ =>
    if decide ((e0.Aa.length : Int) = 0) then
    Jam n rec_ aX (i0 + 1) ac (aU + 1)
    else
    (ix e0.Aa 0).bind fun a6 =>
    (JbW n a6 ac).bind fun aV =>
    (chk (InI ((aU + 1) + aV.2))).bind fun _ =>
    if decide (e0.Ab = 3) then
    (JaM ac e0.Ac aV.1).bind fun bb =>
    Jam n rec_ aX (i0 + 1) bb ((aU + 1) + aV.2)
    else
    if decide (e0.Ab = 2) then
    (ix e0.Aa 1).bind fun a8 =>
    (Jb7 a8).bind fun ba =>
    (rec_ ba ac).bind fun aW =>
    if decide ((e0.Aa.length : Int) > 2) then
    (chk (InI (aW + 1))).bind fun _ =>
    (ix e0.Aa 2).bind fun bc =>
    (Jb7 bc).bind fun aZ =>
    (rec_ aZ ac).bind fun aY =>
    (chk (InI (((aU + 1) + aV.2) + (max (aW + 1) aY)))).bind fun _ =>
    Jam n rec_ aX (i0 + 1) ac (((aU + 1) + aV.2) + (max (aW + 1) aY))
    else
    (chk (InI (((aU + 1) + aV.2) + aW))).bind fun _ =>
    Jam n rec_ aX (i0 + 1) ac (((aU + 1) + aV.2) + aW)
    else
    Jam n rec_ aX (i0 + 1) ac ((aU + 1) + aV.2)
def JbX : Nat → (List Ja) → (List Jk) → Option (Int)
  | 0, _, _ => none
  | n + 1, list, env =>
    (chk (list.length ≤ qa3)).bind fun _ =>
    (Jam n (JbX n) list 0 env 0).bind fun t0 =>
    some t0.2
theorem Jei : ∀ {n : Nat} {list : (List Ja)} {env : (List Jk)} {aa : Option Addr} {ab : Nat} {n0 : Nat} {af : Option Addr} {ag : Nat} {n1 : Nat} {K : Hp} {r : Int}
    (hm : JbX n list env = some r) (hX : LiC Ja.R K aa ab 4 list ∧ n0 = list.length ∧ RdC Jk.enc K af ag 2 env ∧ n1 = env.length),
    Fn Tryz.prog 144 [.slice aa n0 ab, .slice af n1 ag] K [] (fun v K' H' => v = .int .i64 r ∧ H' = []) := by
 intro n
 induction n with
 | zero =>
   intro list env aa ab n0 af ag n1 K r hm hX
   rw [JbX.eq_1] at hm; cases hm
 | succ n ih =>
   intro list env aa ab n0 af ag n1 K r hm hX
   obtain ⟨ae, cu, ah, cL⟩ := hX
   subst cu
   subst cL
   refine Fn.enter Tryz.func144 Tryz.call144 rfl fun F => ?_
   rw [JbX.eq_2] at hm
   refine ro (qak rfl ?_)
   obtain ⟨aZ, hm⟩ := qaw hm
   obtain ⟨s0, aU, hm⟩ := bnd hm
   refine lC (σ := ((List Jk) × Int) × Option Addr × Nat) ([1,5,7,8,9,10] ++ rg 13 58) [0] (fun i0 => [(13, .int .i64 (i0 : Int))]) (fun (t0, aV, aX) => [(1, .slice aV t0.1.length aX), (5, .int .i64 t0.2)]) (fun _ => []) (fun zz K1 => match zz with | (t0, aV, aX) => RdC Jk.enc K1 aV aX 2 t0.1 ∧ True) (fun i0 (t0, aV, aX) => Jam n (JbX n) (list.drop i0) i0 t0.1 t0.2 = some s0) (fun (t0, aV, aX) => t0 = s0) (fun i0 => list.length - i0) 0 ((_, _), _, _) aU (And.intro qe (And.intro ?_ ?_))
   clear aU
   rintro i0 ⟨⟨ac, cj⟩, bF, bC⟩ cQ bX ⟨bt, _⟩ aU j0
   dsimp only at aU ⊢
   refine qac rfl ?_
   refine qae ?_ ?_ <;> intro w0
   obtain ⟨e0, aY, cy⟩ := ltx w0
   rw [cy, Jam.eq_2] at aU
   refine qal rfl ?_
   refine RStep.ofN (qad rfl rfl (qc6 (LiC.mono Ja.R_ok bX ae).rd aY) (nn _) (qbl aY) ?_)
   obtain ⟨cG, cr, bo, bb, bg⟩ := LiR.get (LiC.mono Ja.R_ok bX ae).rd aY
   obtain ⟨bQ, bz, rfl, aW⟩ := Ja.out bg
   refine ro (qan i0 _ bo rfl bb rfl ?_)
   refine qaf rfl fun b7 => ?_
   refine qaa r0 rfl ⟨rfl, rfl, (nl rfl), ?_⟩
   obtain ⟨cz, aU⟩ := qaw aU
   refine qam cz (fa rfl (ro (ld r0 rfl rfl (ro (qak rfl (qag ?_))))))
   refine cs rfl rfl aU ?_ ?_ <;> intro cW aU
   refine cT (qam (qbn aY aZ) ?_)
   exact eR aU (_, (_, _), _, _)
   refine fa rfl (ro (ld r0 rfl rfl ?_))
   obtain ⟨cR, bL, bc, aU⟩ := ixb aU
   refine RStep.ofN (qad rfl rfl (qc6 aW.rd bc) bL (qax rfl bL bc) ?_)
   obtain ⟨cn, cC, bf, bl, bh⟩ := LiR.get aW.rd bc
   obtain ⟨bG, bI, rfl, bT⟩ := Ja.out bh
   refine ro (qan ((0 : Int).toNat) _ bf rfl bl rfl ?_)
   refine cb aU fun cU cH aU => cgx (Jeh cH :) ?_
   obtain ⟨cw, aU⟩ := qaw aU
   refine qam cw (fa rfl (ro (ld r0 rfl rfl ?_)))
   refine qal rfl ?_
   refine qag (cs rfl rfl aU ?_ ?_) <;> intro c5 aU
   refine fa rfl (ro (ld r0 rfl rfl ?_))
   refine cb aU fun c6 cI aU => ckx (Ja0 cI :) ?_
   rintro _ _ _ ⟨bY, bP, rfl, bA, rfl⟩
   refine qam (qbn aY aZ) ?_
   refine fRo r0 fun bZ bv bW => ?_
   exact eR aU (_, (_, _), _, _)
   refine qag (cs rfl rfl aU ?_ ?_) <;> intro dc aU
   refine fa rfl (ro (ld r0 rfl rfl ?_))
   obtain ⟨de, bD, bd, aU⟩ := ixb aU
   refine RStep.ofN (qad rfl rfl (qc6 aW.rd bd) bD (qax rfl bD bd) ?_)
   obtain ⟨cm, cA, a6, bj, bp⟩ := LiR.get aW.rd bd
   obtain ⟨ce, bS, rfl, bB⟩ := Ja.out bp
   refine ro (qan ((1 : Int).toNat) _ a6 rfl bj rfl ?_)
   refine cb aU fun cV cB aU => cfx (Jb0 cB :) ?_
   rintro _ c8 _ ca ⟨bU, bJ, rfl, bO, rfl⟩
   refine cb aU fun cY cM aU => cgx (ih cM :) ?_
   refine fa rfl (ro (ld r0 rfl rfl (ro (qak rfl ?_))))
   refine cs rfl rfl aU ?_ ?_ <;> intro cN aU
   obtain ⟨cK, aU⟩ := qaw aU
   refine qam cK (fa rfl (ro (ld r0 rfl rfl ?_)))
   obtain ⟨cZ, bK, ba, aU⟩ := ixb aU
   refine RStep.ofN (qad rfl rfl (qc6 (LiC.mono Ja.R_ok ca aW).rd ba) bK (qax rfl bK ba) ?_)
   obtain ⟨cJ, co, a8, bm, bn⟩ := LiR.get (LiC.mono Ja.R_ok ca aW).rd ba
   obtain ⟨bw, bR, rfl, bV⟩ := Ja.out bn
   refine ro (qan ((2 : Int).toNat) _ a8 rfl bm rfl ?_)
   refine cb aU fun cO cE aU => cfx (Jb0 cE :) ?_
   rintro _ df _ c9 ⟨bM, bu, rfl, bH, rfl⟩
   refine cb aU fun c4 cD aU => cgx (ih cD :) ?_
   refine ro (qch ?_)
   obtain ⟨br, aU⟩ := qaw aU
   refine qam br (qam (qbn aY aZ) ?_)
   exact eR aU (_, (_, _), _, _)
   obtain ⟨br, aU⟩ := qaw aU
   refine qam br (qam (qbn aY aZ) ?_)
   exact eR aU (_, (_, _), _, _)
   refine qam (qbn aY aZ) ?_
   exact eR aU (_, (_, _), _, _)
   rw [lty w0, Jam.eq_1] at aU
   refine cT ?_
   exact eM aU (_, _, _)
   rintro ⟨t0, aV, aX⟩ cX cP ⟨bN, _⟩ rfl j0
   exact eE hm

def Jdr (n : Nat) (program : Ja) : Option (Int × Err) :=
  (Jci n program).bind fun x8 =>
  if x8.2.isSome then
  some (0, x8.2)
  else
  (JbX n program.Aa []).bind fun aU =>
  (chk (InI (aU + 1))).bind fun _ =>
  some ((aU + 1), none)
theorem Jej {n : Nat} {program : Ja} {aa : Option Addr} {ab : Nat} {K : Hp} {r : Int × Err}
    (hm : Jdr n program = some r) (hX : LiC Ja.R K aa ab 4 program.Aa ∧ GG K) :
    Fn Tryz.prog 91 [.agg #[.int .i64 program.Ab, str program.Ac, .slice aa program.Aa.length ab, .int .i64 program.Ad]] K [] (fun v K' H' => v = .tuple #[.int .i64 r.1, qcp 48 r.2] ∧ H' = []) := by
 obtain ⟨ae, hG⟩ := hX
 refine Fn.enter Tryz.func91 Tryz.call91 rfl fun F => ?_
 unfold Jdr at hm
 refine qar ?_
 intro b1
 refine ro (qab r0 rfl (nl rfl) ?_)
 refine cb hm fun x8 q8 hm => cgx (JcN q8 :) ?_
 refine qa5 rfl ?_
 refine cs rfl rfl hm ?_ ?_ <;> intro aW hm
 exact eE hm
 refine fa rfl (ro (ld r0 rfl rfl ?_))
 refine cb hm fun aV aU hm => cgx (Jei aU :) ?_
 refine ci hm fun hm => ?_
 exact eE hm

def qdf (n : Nat) (text : Str) : Option ((List Jf) × Err) :=
  (Jdm n text).bind fun aU =>
  if aU.2.2.isSome then
  some ([], aU.2.2)
  else
  (Jci n aU.1).bind fun aX =>
  if aX.2.isSome then
  some ([], aX.2)
  else
  (JcW n aU.1).bind fun aV =>
  if aV.2.isSome then
  some ([], aV.2)
  else
  (Jdr n aU.1).bind fun aW =>
  if aW.2.isSome then
  some ([], aW.2)
  else
  if decide (aW.1 > 10000) then
  some ([], (some 5))
  else
  some (aV.1, none)
theorem qe8 {n : Nat} {text : Str} {K : Hp} {r : (List Jf) × Err}
    (hm : qdf n text = some r) (hG : GG K) :
    Fn Tryz.prog 67 [str text] K [] (fun v K' H' => ∃ ar_0 : Option Addr, ∃ cr_0 : Nat, v = .tuple #[.slice ar_0 r.1.length cr_0, qcp 48 r.2] ∧ (0 < r.1.length → Has ar_0) ∧ H' = [qat Jf.enc ar_0 135 3 cr_0 r.1]) := by
 refine Fn.enter Tryz.func67 Tryz.call67 rfl fun F => ?_
 unfold qdf at hm
 refine cb hm fun bc a6 hm => cfx (Jed a6 :) ?_
 rintro _ bg _ bf ⟨aU, aY, rfl, aV, rfl⟩
 refine qaf rfl fun b4 => ?_
 refine qaa r0 rfl ⟨rfl, rfl, (nl rfl), ?_⟩
 refine qa5 rfl ?_
 refine cs rfl rfl hm ?_ ?_ <;> intro bd hm
 refine qci Jf.enc 135 3 ?_
 exact eE hm
 refine ro (qab r0 rfl (nl rfl) ?_)
 refine cb hm fun bm a8 hm => cgx (JcN a8 :) ?_
 refine qa5 rfl ?_
 refine cs rfl rfl hm ?_ ?_ <;> intro bj hm
 refine qci Jf.enc 135 3 ?_
 exact eE hm
 refine ro (qab r0 rfl (nl rfl) ?_)
 refine cb hm fun bp ba hm => ckx (Jd4 ba :) ?_
 rintro _ _ _ ⟨aW, aX, rfl, aZ, rfl⟩
 refine qa5 rfl ?_
 refine cs rfl rfl hm ?_ ?_ <;> intro bl hm
 refine qci Jf.enc 135 3 ?_
 exact eE hm
 refine ro (qab r1 rfl (nl rfl) ?_)
 refine cb hm fun bn bb hm => cgx (Jej bb :) ?_
 refine qa5 rfl ?_
 refine cs rfl rfl hm ?_ ?_ <;> intro bo hm
 refine qci Jf.enc 135 3 ?_
 exact eE hm
 refine cs rfl rfl hm ?_ ?_ <;> intro bh hm
 refine qas rfl ?_
 refine qci Jf.enc 135 3 ?_
 exact eE hm
 exact eE hm

def qb5 (n : Nat) (d : JH) (s : JK) : Option (Err × JH) :=
  (Jcr s.An).bind fun aV =>
  if ((aV.2.isSome || decide (aV.1 ≠ s.An)) || (mget d.sites s.An).isSome) then
  some ((some 8), d)
  else
  if (decide (s.Tenant < 0) || decide (s.Tenant ≥ 16)) then
  some ((some 1), d)
  else
  (qdf n s.Program).bind fun aU =>
  if aU.2.isSome then
  some (aU.2, d)
  else
  some (none, (⟨(mset d.sites s.An (⟨s.Tenant, aU.1⟩ : Jz))⟩ : JH))
theorem qdr {n : Nat} {d : JH} {s : JK} {b0 : Nat} {aG : Nat} {aI : List (Str × EnD Jz)} {K : Hp} {r : Err × JH}
    (hm : qb5 n d s = some r) (hX : MR Jz.R K aI d.sites ∧ GG K) :
    Fn Tryz.prog 35 [.pointer (some ⟨b0, 0, none⟩), .agg #[str s.An, .int .i64 s.Tenant, str s.Program]] K [Cells b0 78 [.map (some aG)], qle qld vAg aG aI] (fun v K' H' => ∃ mr_0 : Nat, ∃ wr_0 : List (Str × EnD Jz), v = qcp 48 r.1 ∧ MR Jz.R K' wr_0 r.2.sites ∧ H' = [Cells b0 78 [.map (some mr_0)], qle qld vAg mr_0 wr_0]) := by
 obtain ⟨ba, hG⟩ := hX
 refine Fn.enter Tryz.func35 Tryz.call35 rfl fun F => ?_
 unfold qb5 at hm
 refine qar ?_
 intro b3
 refine fa rfl (ro (ld r0 rfl rfl ?_))
 refine cb hm fun bd bo hm => cgx (JdR bo :) ?_
 refine qe1 ⟨⟨[], false⟩, _, [(_, _), (_, _)], []⟩ 13 rfl (by kernel_rfl) ⟨Hp.Le.refl _, (sc [1,0] rfl), ci0⟩ ?_
 refine qah (fa rfl (qao m0 rfl rfl (fa rfl (qao m1 rfl rfl ?_))))
 refine qhp (kenc := qld) (R := Jz.R) (zs := [.int .i64 0, .slice none 0 0]) (z := (⟨0, []⟩ : Jz)) r2 rfl rfl (qjn rfl) ba (⟨none, 0, rfl, RdC.nil⟩) fun bt bc => ?_
 obtain ⟨bf, bj, rfl, bg⟩ := bc
 refine qks rfl ?_
 intro b7
 intro bu
 refine qaa r0 rfl ⟨rfl, rfl, (nl rfl), ?_⟩
 refine ⟨⟨lr, (sc [2,1] rfl), ci0⟩, ?_⟩
 refine ⟨_, .cons r5 .nil, ⟨lr, (sc [2,1] rfl), ci0⟩, ?_⟩
 refine jR (σ := Unit) (rg 26 11) (fun _ => [(36, .bool ((bd.2.isSome || decide (bd.1 ≠ s.An)) || (mget d.sites s.An).isSome))]) (fun bl => True) ?_ ?_
 refine qaj rfl ?_
 refine qa5 rfl ?_
 refine qae ?_ ?_ <;> intro aV
 refine ct aV (ct aV (ct aV (ct aV (cT (cT ?_)))))
 exact eMt () ⟨bq (((qcn (qcn aV))).symm), trivial⟩
 refine cf aV (fa rfl (cf aV (ro (ld r1 rfl rfl (cf aV (qbk (cf aV ?_)))))))
 refine qae ?_ ?_ <;> intro aZ
 refine ct aZ ?_
 exact eMt () ⟨bq (((qcn (qg1 aV aZ))).symm), trivial⟩
 refine cf aZ ?_
 exact eMt () ⟨bq (qg2 (b := (mget d.sites s.An).isSome) (qew aV aZ)), trivial⟩
 rintro _ _ br
 refine cs rfl rfl hm ?_ ?_ <;> intro bv hm
 refine qas rfl ?_
 exact eE hm
 refine jR (σ := Unit) (rg 38 8) (fun _ => [(45, .bool (decide (s.Tenant < 0) || decide (s.Tenant ≥ 16)))]) (fun bp => True) ?_ ?_
 refine qaj rfl ?_
 refine fa rfl (ro (ld r1 rfl rfl ?_))
 refine qae ?_ ?_ <;> intro aX
 refine ct aX (ct aX (ct aX ?_))
 exact eMt () ⟨bq (((qcn aX)).symm), trivial⟩
 refine fa rfl (cf aX (ro (ld r1 rfl rfl (cf aX (cf aX ?_)))))
 exact eMt () ⟨bq (qg2 (b := decide (s.Tenant ≥ 16)) aX), trivial⟩
 rintro _ _ bn
 refine cs rfl rfl hm ?_ ?_ <;> intro bz hm
 refine qas rfl ?_
 exact eE hm
 refine fa rfl (ro (ld r1 rfl rfl ?_))
 refine cb hm fun bb bm hm => ckx (qe8 bm :) ?_
 rintro _ _ _ ⟨a6, a8, rfl, bh, rfl⟩
 refine qa5 rfl ?_
 refine cs rfl rfl hm ?_ ?_ <;> intro bw hm
 exact eE hm
 refine qa6 ⟨⟨[], false⟩, _, [(_, _), (_, _)], []⟩ (by kernel_rfl) ⟨Hp.Le.refl _, (sc [3,2] rfl), ci0⟩ ?_
 refine qah (fa rfl (qao m0 rfl rfl (fa rfl (qao m1 rfl rfl (fa rfl (qao m1 rfl rfl (qai rfl rfl ?_)))))))
 refine cT (cT ?_)
 refine fW r0 fun aY aU aW => ?_
 refine qjp (kenc := qld) (venc := vAg) ([.int .i64 s.Tenant, .slice a6 bb.1.length a8], (⟨s.Tenant, bb.1⟩ : Jz)) rfl r3 rfl (qjn rfl) ?_
 refine qk (sc [3,2] rfl) ?_
 cases hm
 exact en aU ⟨aG, (mset aI s.An ([.int .i64 s.Tenant, .slice a6 bb.1.length a8], (⟨s.Tenant, bb.1⟩ : Jz))), rfl, (MR.set (R := Jz.R) (MR.mono Jz.R_ok ba aU) s.An (⟨a6, a8, rfl, aW⟩)), rfl⟩ (sc [3,0,2] rfl)

def tenant_New_L0 (n : Nat) : List JK → Nat → JH → Option (Fl (Option JH × Int × Err) (JH))
  | [], _, ac => some (Fl.go ac)
  | e0 :: aV, i0, ac =>
    (qb5 n ac e0).bind fun aU =>
    if aU.1.isSome then
    some (Fl.ret (none, (i0 : Int), aU.1))
    else
    tenant_New_L0 n aV (i0 + 1) aU.2
def qdk (n : Nat) (sites : (List JK)) : Option (Option JH × Int × Err) :=
  (chk (sites.length ≤ qa3)).bind fun _ =>
  (tenant_New_L0 n sites 0 (⟨[]⟩ : JH)).bind fun s0 => s0.el some fun t0 =>
  some ((some t0), 0, none)
theorem qej {n : Nat} {sites : (List JK)} {aa : Option Addr} {ab : Nat} {n0 : Nat} {K : Hp} {r : Option JH × Int × Err}
    (hm : qdk n sites = some r) (hX : RdC JK.enc K aa ab 3 sites ∧ n0 = sites.length ∧ GG K) :
    Fn Tryz.prog 12 [.slice aa n0 ab] K [] (fun v K' H' => match r.1 with | none => (v = .tuple #[.pointer none, .int .i64 r.2.1, qcp 48 r.2.2] ∧ H' = []) | some ro => (∃ br_0 : Nat, ∃ mr_1 : Nat, ∃ wr_1 : List (Str × EnD Jz), v = .tuple #[.pointer (some ⟨br_0, 0, none⟩), .int .i64 r.2.1, qcp 48 r.2.2] ∧ MR Jz.R K' wr_1 ro.sites ∧ H' = [Cells br_0 78 [.map (some mr_1)], qle qld vAg mr_1 wr_1])) := by
 obtain ⟨ae, bj, hG⟩ := hX
 subst bj
 refine Fn.enter Tryz.func12 Tryz.call12 rfl fun F => ?_
 unfold qdk at hm
 refine qiu qld (venc := (vAg : EnD Jz → Value)) fun b9 => ?_
 refine qai rfl rfl (cT ?_)
 refine qar ?_
 intro bf
 refine ro (qak rfl ?_)
 obtain ⟨bg, hm⟩ := qaw hm
 obtain ⟨s0, aW, hm⟩ := bnd hm
 refine lC (σ := (JH) × Nat × List (Str × EnD Jz)) ([2,3,4,6,7,8] ++ rg 14 13) [2] (fun i0 => [(14, .int .i64 (i0 : Int))]) (fun _ => []) (fun (t0, aU, aV) => [Cells bf 78 [.map (some aU)], qle qld vAg aU aV]) (fun zz K1 => match zz with | (t0, aU, aV) => MR Jz.R K1 aV t0.sites ∧ True) (fun i0 (t0, aU, aV) => tenant_New_L0 n (sites.drop i0) i0 t0 = some s0) (fun (t0, aU, aV) => s0 = Fl.go t0) (fun i0 => sites.length - i0) 0 ((⟨[]⟩ : JH), b9, ([] : List (Str × EnD Jz))) aW (And.intro ⟨⟨MR.nil, trivial⟩, ⟨rfl, trivial⟩, _, (sp rfl)⟩ (And.intro ?_ ?_))
 clear aW
 rintro i0 ⟨ac, aX, aY⟩ bp bd ⟨a6, _⟩ aW j0
 conv at aW => whnf
 refine qac rfl ?_
 refine qae ?_ ?_ <;> intro w0
 obtain ⟨e0, a8, bl⟩ := ltx w0
 rw [bl, tenant_New_L0.eq_2] at aW
 refine qal rfl ?_
 refine RStep.ofN (qad rfl rfl (qff (ae.mono bd).rd a8) (nn _) (qbl a8) (ro (qan i0 _ (ae.mono bd).rd rfl (mp a8) rfl ?_)))
 refine qaf rfl fun b7 => ?_
 refine qaa r0 rfl ⟨rfl, rfl, (nl rfl), ?_⟩
 refine ro (qab r0 rfl (nl rfl) ?_)
 refine cb aW fun br bh aW => cfx (qdr bh :) ?_
 rintro _ bu _ bt ⟨bc, bb, rfl, ba, rfl⟩
 refine qa5 rfl ?_
 refine cs rfl rfl aW ?_ ?_ <;> intro bo aW
 exact eE (er aW hm)
 refine qam (qbn a8 bg) ?_
 exact eR aW (_, _, _, _)
 rw [lty w0, tenant_New_L0.eq_1] at aW
 refine cT ?_
 exact eM aW (_, _, _)
 rintro ⟨t0, aU, aV⟩ bn bm ⟨aZ, _⟩ rfl j0
 replace hm := elg hm
 exact eE hm

def Jbm (x9 : Str) : List Jc → Nat → (List Str) → Option ((List Str))
  | [], _, ac => some ac
  | e0 :: aU, i0, ac =>
    (JaK e0.Name).bind fun aV =>
    if decide (aV = x9) then
    (chk (ac.length + [e0.Value].length ≤ lim)).bind fun _ =>
    Jbm x9 aU (i0 + 1) (ac ++ [e0.Value])
    else
    Jbm x9 aU (i0 + 1) ac
def JbS (f : (List Jc)) (name : Str) : Option ((List Str)) :=
  (JaK name).bind fun x9 =>
  (chk (f.length ≤ qa3)).bind fun _ =>
  (Jbm x9 f 0 []).bind fun t0 =>
  some t0
theorem J9 {f : (List Jc)} {name : Str} {aa : Option Addr} {ab : Nat} {n0 : Nat} {K : Hp} {r : (List Str)}
    (hm : JbS f name = some r) (hX : RdC Jc.enc K aa ab 2 f ∧ n0 = f.length) :
    Fn Tryz.prog 24 [.slice aa n0 ab, str name] K [] (fun v K' H' => ∃ ar_0 : Option Addr, ∃ cr_0 : Nat, v = .slice ar_0 r.length cr_0 ∧ (0 < r.length → Has ar_0) ∧ H' = [qat eS ar_0 9 1 cr_0 r]) := by
 obtain ⟨ae, bd⟩ := hX
 subst bd
 refine Fn.enter Tryz.func24 Tryz.call24 rfl fun F => ?_
 unfold JbS at hm
 refine cb hm fun x9 q9 hm => cg0 (JaO q9 :) ?_
 refine ro (qak rfl ?_)
 obtain ⟨a6, hm⟩ := qaw hm
 obtain ⟨s0, aW, hm⟩ := bnd hm
 refine qhg eS 9 1 ?_
 refine lD (σ := ((List Str)) × Option Addr × Nat) ([5,7] ++ rg 12 15) [1] (fun i0 => [(12, .int .i64 (i0 : Int))]) (fun (t0, aU, aV) => [(5, .slice aU t0.length aV)]) (fun (t0, aU, aV) => [qat eS aU 9 1 aV t0]) (fun (t0, aU, aV) => (0 < t0.length → Has aU) ∧ True) (fun i0 (t0, aU, aV) => Jbm x9 (f.drop i0) i0 t0 = some s0) (fun (t0, aU, aV) => t0 = s0) (fun i0 => f.length - i0) 0 (_, _, _) aW (And.intro qe (And.intro ?_ ?_))
 clear aW
 rintro i0 ⟨ac, ba, a8⟩ ⟨aY, _⟩ aW j0
 conv at aW => whnf
 refine qac rfl ?_
 refine qae ?_ ?_ <;> intro w0
 obtain ⟨e0, aX, bf⟩ := ltx w0
 rw [bf, Jbm.eq_2] at aW
 refine qal rfl ?_
 refine RStep.ofN (qad rfl rfl (qff ae.rd aX) (nn _) (qbl aX) (ro (qan i0 _ ae.rd rfl (mp aX) rfl ?_)))
 refine qaf rfl fun b7 => ?_
 refine qaa r0 rfl ⟨rfl, rfl, (nl rfl), ?_⟩
 refine fa rfl (ro (ld r0 rfl rfl ?_))
 refine cb aW fun bm bc aW => cg0 (JaO bc :) ?_
 refine qaq (cs rfl rfl aW ?_ ?_) <;> intro bl aW
 refine fa rfl (ro (ld r0 rfl rfl ?_))
 refine bsO (len := 1) (enc := eS) (l := [e0.Value]) (cl := [str e0.Value]) qbw rfl rfl (fun _ _ => rfl) rfl rfl rfl ?_ fun bg => ?_
 · conv => whnf
   refine cT ?_
   first | done | rfl
 obtain ⟨bb, aW⟩ := qaw aW
 refine apE rfl r2 qbw (qay rfl r0 rfl (fun _ => rfl) (fun _ => rfl)) bb ?_
 intro bn bj bh
 refine qam (qbn aX a6) ?_
 exact eR aW (_, _, _, _)
 refine qam (qbn aX a6) ?_
 exact eR aW (_, _, _, _)
 rw [lty w0, Jbm.eq_1] at aW
 refine cT ?_
 exact eM aW (_, _, _)
 rintro ⟨t0, aU, aV⟩ ⟨aZ, _⟩ rfl j0
 exact eE hm

def tenant_lower_L0 : Nat → Nat → Str → Option (Str)
  | 0, _, ac => some ac
  | aV + 1, i0, ac =>
    (ix ac (i0 : Int)).bind fun aU =>
    if (decide ((aU.toNat : Int) ≥ 65) && decide ((aU.toNat : Int) ≤ 90)) then
    (ix ac (i0 : Int)).bind fun aW =>
    tenant_lower_L0 aV (i0 + 1) (ac.set (((i0 : Int)).toNat) (aU + (32 : UInt8)))
    else
    tenant_lower_L0 aV (i0 + 1) ac
def qcc (s : Str) : Option (Str) :=
  (chk (s.length ≤ lim)).bind fun _ =>
  (chk (InI (s.length : Int))).bind fun _ =>
  (tenant_lower_L0 (s.length : Int).toNat 0 s).bind fun t0 =>
  some t0
theorem qdx {s : Str} {K : Hp} {r : Str}
    (hm : qcc s = some r)  :
    Fn Tryz.prog 36 [str s] K [] (fun v K' H' => v = str r ∧ H' = []) := by
 refine Fn.enter Tryz.func36 Tryz.call36 rfl fun F => ?_
 unfold qcc at hm
 obtain ⟨h7, hm⟩ := qaw hm
 refine qfz rfl rfl rfl h7 ?_
 intro a7 c7 o7
 refine ro (qak rfl ?_)
 obtain ⟨a8, hm⟩ := qaw hm
 obtain ⟨s0, aV, hm⟩ := bnd hm
 refine lD (σ := (Str)) ([4,5] ++ rg 10 17) [1] (fun i0 => [(10, .int .i64 (i0 : Int))]) (fun _ => []) (fun t0 => [qat eU a7 5 1 c7 t0]) (fun t0 => (0 < t0.length → Has a7) ∧ s.length = t0.length) (fun i0 t0 => tenant_lower_L0 ((s.length : Int).toNat - i0) i0 t0 = some s0) (fun t0 => t0 = s0) (fun i0 => (s.length : Int).toNat - i0) 0 _ aV (And.intro qe (And.intro ?_ ?_))
 clear aV
 rintro i0 ac ⟨aW, aX⟩ aV j0
 conv at aV => whnf
 refine qac rfl ?_
 refine qae ?_ ?_ <;> intro w0
 rw [ltn w0, tenant_lower_L0.eq_2] at aV
 refine qal rfl ?_
 obtain ⟨a6, bc, ba, aV⟩ := ixb aV
 refine RStep.ofN (qad rfl rfl (qco aW ba) bc (qax aX bc ba) (ro (qbv (i := ((i0 : Int)).toNat) (o := 0) r0 rfl ba rfl rfl ?_)))
 refine qaj rfl ?_
 refine qae ?_ ?_ <;> intro aU
 refine ct aU (ct aU (qac rfl ?_))
 refine qae ?_ ?_ <;> intro bf
 replace aV := ift (qcy aU bf) aV
 refine qh2 (x := a6) (y := (32 : UInt8)) rfl rfl ?_
 obtain ⟨bg, bd, aZ, aV⟩ := ixb aV
 refine RStep.ofN (qad rfl rfl (qco aW aZ) bd (qax aX bd aZ) ?_)
 refine qex (o := 0) (y := (a6 + (32 : UInt8))) bg r0 rfl aZ rfl (by (conv => whnf); exact ⟨rfl, rfl, (nl rfl), rfl, rfl, rfl⟩) ?_
 refine qam (qij w0 a8) ?_
 exact rd (i0 + 1, (ac.set (((i0 : Int)).toNat) (a6 + (32 : UInt8)))) ⟨rfl, trivial⟩ rfl (pf rfl) lr (qqk w0) ⟨⟨(by first | simpa using aW | exact fun _ => ⟨_, _, rfl⟩), ((aX).trans List.length_set.symm)⟩, aV⟩
 replace aV := qa9 (qcz aU bf) aV
 refine qam (qij w0 a8) ?_
 exact eR aV (_, _)
 refine cf aU (cf aU (qac rfl (cF ?_)))
 replace aV := qa9 (qbc aU) aV
 refine qam (qij w0 a8) ?_
 exact eR aV (_, _)
 rw [lto w0, tenant_lower_L0.eq_1] at aV
 refine cT ?_
 exact eM aV _
 rintro t0 ⟨bb, aY⟩ rfl j0
 refine ro (qeh aY r0 rfl rfl rfl ?_)
 exact eE hm

def JaC (c : UInt8) : Option (Bool) :=
  (Jcu c).bind fun x4 =>
  some ((((x4 || decide ((c.toNat : Int) = 45)) || decide ((c.toNat : Int) = 46)) || decide ((c.toNat : Int) = 95)) || decide ((c.toNat : Int) = 126))
theorem JcR {c : UInt8} {K : Hp} {r : Bool}
    (hm : JaC c = some r)  :
    Fn Tryz.prog 79 [.int .u8 (c.toNat : Int)] K [] (fun v K' H' => v = .bool r ∧ H' = []) := by
 refine Fn.enter Tryz.func79 Tryz.call79 rfl fun F => ?_
 unfold JaC at hm
 refine qaj rfl ?_
 refine cb hm fun x4 q4 hm => cg0 (JdJ q4 :) ?_
 refine qae ?_ ?_ <;> intro aW
 refine ct aW (ct aW (cT (cT (cT (cT (cT (cT ?_)))))))
 refine cT (cT (cT ?_))
 exact bE (((qcn (qcn (qcn (qcn aW))))).symm) (eE hm)
 refine cf aW (qag (cf aW ?_))
 refine qae ?_ ?_ <;> intro aX
 refine ct aX (ct aX (cT (cT (cT (cT (cT (cT ?_)))))))
 exact bE (((qcn (qcn (qcn (qg1 aW aX))))).symm) (eE hm)
 refine cf aX (qag (cf aX ?_))
 refine qae ?_ ?_ <;> intro aU
 refine ct aU (ct aU (cT (cT (cT ?_))))
 exact bE (((qcn (qcn (qg1 (qew aW aX) aU)))).symm) (eE hm)
 refine cf aU (qag (cf aU ?_))
 refine qae ?_ ?_ <;> intro aV
 refine ct aV (ct aV ?_)
 exact bE (((qcn (qg1 (qew (qew aW aX) aU) aV))).symm) (eE hm)
 refine cf aV (qag (cf aV ?_))
 exact bE (qg2 (b := decide ((c.toNat : Int) = 126)) (qew (qew (qew aW aX) aU) aV)) (eE hm)

def Jbn (c : UInt8) : Option (Int) :=
  if (decide ((c.toNat : Int) ≥ 48) && decide ((c.toNat : Int) ≤ 57)) then
  some ((c - (48 : UInt8)).toNat : Int)
  else
  if (decide ((c.toNat : Int) ≥ 97) && decide ((c.toNat : Int) ≤ 102)) then
  (chk (InI (((c - (97 : UInt8)).toNat : Int) + 10))).bind fun _ =>
  some (((c - (97 : UInt8)).toNat : Int) + 10)
  else
  if (decide ((c.toNat : Int) ≥ 65) && decide ((c.toNat : Int) ≤ 70)) then
  (chk (InI (((c - (65 : UInt8)).toNat : Int) + 10))).bind fun _ =>
  some (((c - (65 : UInt8)).toNat : Int) + 10)
  else
  some (-1)
theorem Jcm {c : UInt8} {K : Hp} {r : Int}
    (hm : Jbn c = some r)  :
    Fn Tryz.prog 81 [.int .u8 (c.toNat : Int)] K [] (fun v K' H' => v = .int .i64 r ∧ H' = []) := by
 refine Fn.enter Tryz.func81 Tryz.call81 rfl fun F => ?_
 unfold Jbn at hm
 refine qal rfl ?_
 refine jR (σ := Unit) (rg 3 7) (fun _ => [(3, .bool (decide ((c.toNat : Int) ≥ 48) && decide ((c.toNat : Int) ≤ 57)))]) (fun a6 => True) ?_ ?_
 refine qaj rfl ?_
 refine qae ?_ ?_ <;> intro aW
 refine ct aW (ct aW ?_)
 exact eMt () ⟨bq (qc1 (b := decide ((c.toNat : Int) ≤ 57)) aW), trivial⟩
 refine cf aW (cf aW ?_)
 exact eMt () ⟨bq (((qbc aW)).symm), trivial⟩
 rintro _ _ a8
 refine cs rfl rfl hm ?_ ?_ <;> intro w3 hm
 refine qh3 (x := c) (y := (48 : UInt8)) rfl rfl (qfy rfl rfl (qru (c - (48 : UInt8))) ?_)
 exact eE hm
 refine jR (σ := Unit) (rg 13 7) (fun _ => [(13, .bool (decide ((c.toNat : Int) ≥ 97) && decide ((c.toNat : Int) ≤ 102)))]) (fun aZ => True) ?_ ?_
 refine qaj rfl ?_
 refine qae ?_ ?_ <;> intro aV
 refine ct aV (ct aV ?_)
 exact eMt () ⟨bq (qc1 (b := decide ((c.toNat : Int) ≤ 102)) aV), trivial⟩
 refine cf aV (cf aV ?_)
 exact eMt () ⟨bq (((qbc aV)).symm), trivial⟩
 rintro _ _ aY
 refine cs rfl rfl hm ?_ ?_ <;> intro ba hm
 refine qh3 (x := c) (y := (97 : UInt8)) rfl rfl (qfy rfl rfl (qru (c - (97 : UInt8))) ?_)
 refine ci hm fun hm => ?_
 exact eE hm
 refine qaj rfl ?_
 refine qae ?_ ?_ <;> intro aU
 refine ct aU (ct aU (qac rfl ?_))
 refine qae ?_ ?_ <;> intro aX
 replace hm := ift (qcy aU aX) hm
 refine qh3 (x := c) (y := (65 : UInt8)) rfl rfl (qfy rfl rfl (qru (c - (65 : UInt8))) ?_)
 refine ci hm fun hm => ?_
 exact eE hm
 replace hm := qa9 (qcz aU aX) hm
 exact eE hm
 refine cf aU (cf aU (qac rfl (cF ?_)))
 replace hm := qa9 (qbc aU) hm
 exact eE hm

def J7 (s : Str) (others : Str) : Nat → Str → Int → Option (Fl (Str × Bool) (Str × Int))
  | 0, _, _ => none
  | aY + 1, ac, aU =>
    if decide (aU < (s.length : Int)) then
    (ix s aU).bind fun aX =>
    if decide ((aX.toNat : Int) ≠ 37) then
    (JaC aX).bind fun bc =>
    (if (!bc) then (ixByteM others aX).bind fun bm =>
    some (decide (bm < 0)) else some false).bind fun bo =>
    if bo then
    some (Fl.ret (([] : Str), false))
    else
    (chk (ac.length + ([aX] : Str).length ≤ lim)).bind fun _ =>
    (chk (InI (aU + 1))).bind fun _ =>
    J7 s others aY (ac ++ ([aX] : Str)) (aU + 1)
    else
    (((chk (InI (aU + 2))).bind fun _ =>
    (if decide ((aU + 2) ≥ (s.length : Int)) then some true else (chk (InI (aU + 1))).bind fun _ =>
    (ix s (aU + 1)).bind fun bb =>
    (Jbn bb).bind fun bj =>
    some (decide (bj < 0))).bind fun bh =>
    (if bh then some true else (chk (InI (aU + 2))).bind fun _ =>
    (ix s (aU + 2)).bind fun bg =>
    (Jbn bg).bind fun bd =>
    some (decide (bd < 0))).bind fun bn =>
    some bn) : Option (Bool)).bind fun aZ =>
    if aZ then
    some (Fl.ret (([] : Str), false))
    else
    (chk (InI (aU + 1))).bind fun _ =>
    (ix s (aU + 1)).bind fun bl =>
    (Jbn bl).bind fun aV =>
    (chk (InI (16 * aV))).bind fun _ =>
    (chk (InI (aU + 2))).bind fun _ =>
    (ix s (aU + 2)).bind fun ba =>
    (Jbn ba).bind fun aW =>
    (chk (InI ((16 * aV) + aW))).bind fun _ =>
    (chk (InI (aU + 2))).bind fun _ =>
    if (decide (((qhf ((16 * aV) + aW)).toNat : Int) < 32) || decide (((qhf ((16 * aV) + aW)).toNat : Int) = 127)) then
    some (Fl.ret (([] : Str), false))
    else
    (JaC (qhf ((16 * aV) + aW))).bind fun bf =>
    if bf then
    (chk (ac.length + ([(qhf ((16 * aV) + aW))] : Str).length ≤ lim)).bind fun _ =>
    (chk (InI ((aU + 2) + 1))).bind fun _ =>
    J7 s others aY (ac ++ ([(qhf ((16 * aV) + aW))] : Str)) ((aU + 2) + 1)
    else
    (ix ([48, 49, 50, 51, 52, 53, 54, 55, 56, 57, 65, 66, 67, 68, 69, 70] : Str) (((qhf ((16 * aV) + aW)) / 16).toNat : Int)).bind fun a8 =>
    (ix ([48, 49, 50, 51, 52, 53, 54, 55, 56, 57, 65, 66, 67, 68, 69, 70] : Str) (((qhf ((16 * aV) + aW)) &&& (15 : UInt8)).toNat : Int)).bind fun a6 =>
    (chk (ac.length + ([(37 : UInt8), a8, a6] : Str).length ≤ lim)).bind fun _ =>
    (chk (InI ((aU + 2) + 1))).bind fun _ =>
    J7 s others aY (ac ++ ([(37 : UInt8), a8, a6] : Str)) ((aU + 2) + 1)
    else
    some (Fl.go (ac, aU))
def Ja9 (n : Nat) (s : Str) (others : Str) : Option (Str × Bool) :=
  (J7 s others n [] 0).bind fun s0 => s0.el some fun t0 =>
  some (t0.1, true)
theorem Jc0 {n : Nat} {s : Str} {others : Str} {K : Hp} {r : Str × Bool}
    (hm : Ja9 n s others = some r)  :
    Fn Tryz.prog 46 [str s, str others] K [] (fun v K' H' => v = .tuple #[str r.1, .bool r.2] ∧ H' = []) := by
 refine Fn.enter Tryz.func46 Tryz.call46 rfl fun F => ?_
 unfold Ja9 at hm
 obtain ⟨s0, aU, hm⟩ := bnd hm
 refine qhg eU 5 1 ?_
 refine lD (σ := (Str × Int) × Option Addr × Nat) (rg 4 86) [1] (fun _ => []) (fun (t0, a6, a8) => [(6, .slice a6 t0.1.length a8), (7, .int .i64 t0.2)]) (fun (t0, a6, a8) => [qat eU a6 5 1 a8 t0.1]) (fun (t0, a6, a8) => (0 < t0.1.length → Has a6) ∧ True) (fun i0 (t0, a6, a8) => J7 s others i0 t0.1 t0.2 = some s0) (fun (t0, a6, a8) => s0 = Fl.go t0) (fun i0 => i0) n ((_, _), _, _) aU (And.intro qe (And.intro ?_ ?_))
 clear aU
 rintro i0 ⟨⟨ac, bv⟩, bo, bn⟩ ⟨bm, _⟩ aU j0
 dsimp only at aU ⊢
 cases i0 with
 | zero => rw [J7.eq_1] at aU; cases aU
 | succ i0 =>
  rw [J7.eq_2] at aU
  refine ro (qa0 rfl ?_)
  refine cs rfl rfl aU ?_ ?_ <;> intro cU aU
  refine qal rfl ?_
  obtain ⟨bh, bJ, ca, aU⟩ := ixb aU
  refine qaz rfl bJ ca (qa8 ?_)
  refine cs rfl rfl aU ?_ ?_ <;> intro cV aU
  refine qaj rfl ?_
  refine cb aU fun cH bH aU => cg0 (JcR bH :) ?_
  refine qau ?_
  obtain ⟨cG, bd, aU⟩ := bnd aU
  refine cS bd (fun aY bd => ?_) fun aY bd => ?_
  refine ct aY (ct aY ?_)
  refine cb bd fun cC bZ bd => cg0 (qja bZ) ?_
  refine ct aY (ct aY (qac rfl ?_))
  refine qae ?_ ?_ <;> intro br
  replace aU := ift ((si bd).symm.trans br) aU
  exact eE (er aU hm)
  replace aU := qa9 ((si bd).symm.trans br) aU
  refine bsO (len := 1) (enc := eU) (l := ([bh] : Str)) (cl := [.int .u8 (bh.toNat : Int)]) qck rfl rfl (fun _ _ => rfl) rfl rfl rfl ?_ fun bW => ?_
  · conv => whnf
    refine cT ?_
    first | done | rfl
  obtain ⟨bl, aU⟩ := qaw aU
  refine apE rfl r1 qck (qay rfl r0 rfl (fun _ => rfl) (fun _ => rfl)) bl ?_
  intro bU bS bP
  refine cT ?_
  refine ci aU fun aU => ?_
  exact eR aU (_, (_, _), _, _)
  refine cf aY (cf aY (cf aY (cf aY (qac rfl (cF ?_)))))
  replace aU := qa9 (si bd).symm aU
  refine bsO (len := 1) (enc := eU) (l := ([bh] : Str)) (cl := [.int .u8 (bh.toNat : Int)]) qck rfl rfl (fun _ _ => rfl) rfl rfl rfl ?_ fun bW => ?_
  · conv => whnf
    refine cT ?_
    first | done | rfl
  obtain ⟨bl, aU⟩ := qaw aU
  refine apE rfl r1 qck (qay rfl r0 rfl (fun _ => rfl) (fun _ => rfl)) bl ?_
  intro bU bS bP
  refine cT ?_
  refine ci aU fun aU => ?_
  exact eR aU (_, (_, _), _, _)
  obtain ⟨bj, aX, aU⟩ := bnd aU
  refine jR (σ := Bool) (rg 33 21) (fun bc => [(53, .bool bc)]) (fun bc => bc = bj) ?_ ?_
  refine qaj rfl ?_
  obtain ⟨bL, aX⟩ := qaw aX
  refine qam bL (ro (qa0 rfl ?_))
  obtain ⟨cM, bb, aX⟩ := bnd aX
  refine cS bb (fun aW bb => ?_) fun aW bb => ?_
  refine ct aW (ct aW (ct aW (ct aW (ct aW (ct aW ?_)))))
  obtain ⟨bC, ba, aX⟩ := bnd aX
  replace ba := ift (si bb).symm ba
  refine cT (cT (cT (cT (cT (cT (cT ?_))))))
  exact eMq aX _ ⟨bq (si ba), trivial⟩
  refine cf aW (cf aW ?_)
  obtain ⟨cm, bb⟩ := qaw bb
  refine qam cm (cf aW ?_)
  obtain ⟨cw, cr, bG, bb⟩ := ixb bb
  refine qaz rfl cr bG (cf aW ?_)
  refine cb bb fun cR bX bb => cg0 (Jcm bX :) ?_
  refine cf aW (cf aW ?_)
  obtain ⟨bC, ba, aX⟩ := bnd aX
  refine qae ?_ ?_ <;> intro aV
  replace ba := ift ((si bb).symm.trans aV) ba
  refine ct aV (ct aV (ct aV (ct aV (ct aV (ct aV ?_)))))
  exact eMq aX _ ⟨bq (si ba), trivial⟩
  replace ba := qa9 ((si bb).symm.trans aV) ba
  refine cf aV (cf aV ?_)
  obtain ⟨bM, ba⟩ := qaw ba
  refine qam bM (cf aV ?_)
  obtain ⟨cI, co, bT, ba⟩ := ixb ba
  refine qaz rfl co bT (cf aV ?_)
  refine cb ba fun cy cn ba => cg0 (Jcm cn :) ?_
  refine cf aV (cf aV ?_)
  exact eMq aX _ ⟨bq (si ba), trivial⟩
  rintro bc rfl bI
  refine cs rfl rfl aU ?_ ?_ <;> intro cN aU
  exact eE (er aU hm)
  refine qa6 ⟨⟨[], false⟩, _, [], []⟩ (by kernel_rfl) ⟨Hp.Le.refl _, (pf rfl), ci0⟩ ?_
  refine ci aU fun aU => ?_
  obtain ⟨cB, bY, bA, aU⟩ := ixb aU
  refine qaz rfl bY bA ?_
  refine cb aU fun bf bB aU => cg0 (Jcm bB :) ?_
  refine qk (pf rfl) ?_
  refine ci aU fun aU => ?_
  refine ci aU fun aU => ?_
  obtain ⟨cu, cj, bD, aU⟩ := ixb aU
  refine qaz rfl cj bD ?_
  refine cb aU fun bg bR aU => cg0 (Jcm bR :) ?_
  refine qk (pf rfl) ?_
  refine ci aU fun aU => ?_
  refine qpv rfl rfl ?_
  refine ci aU fun aU => ?_
  refine jR (σ := Unit) (rg 69 6) (fun _ => [(74, .bool (decide (((qhf ((16 * bf) + bg)).toNat : Int) < 32) || decide (((qhf ((16 * bf) + bg)).toNat : Int) = 127)))]) (fun bQ => True) ?_ ?_
  refine qaj rfl ?_
  refine qae ?_ ?_ <;> intro aZ
  refine ct aZ (ct aZ ?_)
  exact eMt () ⟨bq (((qcn aZ)).symm), trivial⟩
  refine cf aZ (qag (cf aZ ?_))
  exact eMt () ⟨bq (qg2 (b := decide (((qhf ((16 * bf) + bg)).toNat : Int) = 127)) aZ), trivial⟩
  rintro _ _ bK
  refine cs rfl rfl aU ?_ ?_ <;> intro cL aU
  exact eE (er aU hm)
  refine cb aU fun cO bN aU => cg0 (JcR bN :) ?_
  refine cs rfl rfl aU ?_ ?_ <;> intro cK aU
  refine bsO (len := 1) (enc := eU) (l := ([(qhf ((16 * bf) + bg))] : Str)) (cl := [.int .u8 ((qhf ((16 * bf) + bg)).toNat : Int)]) qck rfl rfl (fun _ _ => rfl) rfl rfl rfl ?_ fun cz => ?_
  · conv => whnf
    refine cT ?_
    first | done | rfl
  obtain ⟨bw, aU⟩ := qaw aU
  refine apE rfl r1 qck (qay rfl r0 rfl (fun _ => rfl) (fun _ => rfl)) bw ?_
  intro cD cP cJ
  refine cT ?_
  refine ci aU fun aU => ?_
  exact eR aU (_, (_, _), _, _)
  refine qa6 ⟨⟨[], false⟩, _, [], []⟩ (by kernel_rfl) ⟨Hp.Le.refl _, (pf rfl), ci0⟩ ?_
  refine qq8 (x := (qhf ((16 * bf) + bg))) 16 rfl (by decide) (by decide) ?_
  obtain ⟨bp, bV, bO, aU⟩ := ixb aU
  refine qaz rfl bV bO ?_
  refine qq9 (x := (qhf ((16 * bf) + bg))) (y := (15 : UInt8)) rfl rfl ?_
  obtain ⟨bu, ce, bz, aU⟩ := ixb aU
  refine qaz rfl ce bz ?_
  refine bsO (len := 3) (enc := eU) (l := ([(37 : UInt8), bp, bu] : Str)) (cl := [.int .u8 37, .int .u8 (bp.toNat : Int), .int .u8 (bu.toNat : Int)]) qck rfl rfl (fun _ _ => rfl) rfl rfl rfl ?_ fun cA => ?_
  · conv => whnf
    refine cT (cT (cT ?_))
    first | done | rfl
  refine qk (pf rfl) ?_
  obtain ⟨bF, aU⟩ := qaw aU
  refine apE rfl r1 qck (qay rfl r0 rfl (fun _ => rfl) (fun _ => rfl)) bF ?_
  intro cQ cE cW
  refine qk (pf rfl) ?_
  refine ci aU fun aU => ?_
  exact eR aU (_, (_, _), _, _)
  refine cT ?_
  exact eM aU (_, _, _)
 rintro ⟨t0, a6, a8⟩ ⟨bt, _⟩ rfl j0
 replace hm := elg hm
 refine ro (qeh rfl r0 rfl rfl rfl ?_)
 exact eE hm

def Jct (a : Jn) : Option (Str) :=
  if a.HasQuery then
  (chk (a.An.length + a.Ae.length ≤ lim)).bind fun _ =>
  (chk ((a.An ++ a.Ae).length + ([63] : Str).length ≤ lim)).bind fun _ =>
  (chk (((a.An ++ a.Ae) ++ ([63] : Str)).length + a.Af.length ≤ lim)).bind fun _ =>
  some (((a.An ++ a.Ae) ++ ([63] : Str)) ++ a.Af)
  else
  (chk (a.An.length + a.Ae.length ≤ lim)).bind fun _ =>
  some (a.An ++ a.Ae)
theorem JdS {a : Jn} {K : Hp} {r : Str}
    (hm : Jct a = some r)  :
    Fn Tryz.prog 49 [.agg #[str a.An, str a.Ae, str a.Af, .bool a.HasQuery]] K [] (fun v K' H' => v = str r ∧ H' = []) := by
 refine Fn.enter Tryz.func49 Tryz.call49 rfl fun F => ?_
 unfold Jct at hm
 refine qar ?_
 intro b1
 refine fa rfl (ro (ld r0 rfl rfl ?_))
 refine cs rfl rfl hm ?_ ?_ <;> intro w4 hm
 refine fa rfl (ro (ld r0 rfl rfl (fa rfl (ro (ld r0 rfl rfl ?_)))))
 obtain ⟨h9, hm⟩ := qaw hm
 refine qbs h9 ?_
 obtain ⟨aV, hm⟩ := qaw hm
 refine qbs aV ?_
 refine fa rfl (ro (ld r0 rfl rfl ?_))
 obtain ⟨aU, hm⟩ := qaw hm
 refine qbs aU ?_
 exact eE hm
 refine fa rfl (ro (ld r0 rfl rfl (fa rfl (ro (ld r0 rfl rfl ?_)))))
 obtain ⟨aW, hm⟩ := qaw hm
 refine qbs aW ?_
 exact eE hm

def JJ (aC : (List Str)) : List Str → Nat → (List Str) → Option (Fl (Jn × Err) ((List Str)))
  | [], _, ac => some (Fl.go ac)
  | e0 :: aU, i0, ac =>
    if decide (e0 = ([46] : Str)) then
    if decide (e0 = ([46, 46] : Str)) then
    if decide ((ac.length : Int) = 0) then
    some (Fl.ret ((⟨([] : Str), ([] : Str), ([] : Str), false⟩ : Jn), (some 27)))
    else
    (chk (InI ((ac.length : Int) - 1))).bind fun _ =>
    (chk (0 ≤ (0 : Int) ∧ (0 : Int) ≤ ((ac.length : Int) - 1) ∧ ((ac.length : Int) - 1) ≤ (ac.length : Int))).bind fun _ =>
    (chk (InI ((aC.length : Int) - 1))).bind fun _ =>
    if decide ((i0 : Int) = ((aC.length : Int) - 1)) then
    (chk ((subL ac (0 : Int) ((ac.length : Int) - 1)).length + ([([] : Str)]).length ≤ lim)).bind fun _ =>
    JJ aC aU (i0 + 1) ((subL ac (0 : Int) ((ac.length : Int) - 1)) ++ [([] : Str)])
    else
    JJ aC aU (i0 + 1) (subL ac (0 : Int) ((ac.length : Int) - 1))
    else
    (chk (InI ((aC.length : Int) - 1))).bind fun _ =>
    if decide ((i0 : Int) = ((aC.length : Int) - 1)) then
    (chk (ac.length + ([([] : Str)]).length ≤ lim)).bind fun _ =>
    JJ aC aU (i0 + 1) (ac ++ [([] : Str)])
    else
    JJ aC aU (i0 + 1) ac
    else
    if decide (e0 = ([46, 46] : Str)) then
    if decide (e0 = ([46, 46] : Str)) then
    if decide ((ac.length : Int) = 0) then
    some (Fl.ret ((⟨([] : Str), ([] : Str), ([] : Str), false⟩ : Jn), (some 27)))
    else
    (chk (InI ((ac.length : Int) - 1))).bind fun _ =>
    (chk (0 ≤ (0 : Int) ∧ (0 : Int) ≤ ((ac.length : Int) - 1) ∧ ((ac.length : Int) - 1) ≤ (ac.length : Int))).bind fun _ =>
    (chk (InI ((aC.length : Int) - 1))).bind fun _ =>
    if decide ((i0 : Int) = ((aC.length : Int) - 1)) then
    (chk ((subL ac (0 : Int) ((ac.length : Int) - 1)).length + ([([] : Str)]).length ≤ lim)).bind fun _ =>
    JJ aC aU (i0 + 1) ((subL ac (0 : Int) ((ac.length : Int) - 1)) ++ [([] : Str)])
    else
    JJ aC aU (i0 + 1) (subL ac (0 : Int) ((ac.length : Int) - 1))
    else
    (chk (InI ((aC.length : Int) - 1))).bind fun _ =>
    if decide ((i0 : Int) = ((aC.length : Int) - 1)) then
    (chk (ac.length + ([([] : Str)]).length ≤ lim)).bind fun _ =>
    JJ aC aU (i0 + 1) (ac ++ [([] : Str)])
    else
    JJ aC aU (i0 + 1) ac
    else
    (chk (ac.length + [e0].length ≤ lim)).bind fun _ =>
    JJ aC aU (i0 + 1) (ac ++ [e0])
def Jbo (n : Nat) (host : Str) (target : Str) : Option (Jn × Err) :=
  (Jcr host).bind fun aX =>
  if aX.2.isSome then
  some ((⟨([] : Str), ([] : Str), ([] : Str), false⟩ : Jn), aX.2)
  else
  (qoy target ([63] : Str)).bind fun aW =>
  (if decide (aW.1 = ([] : Str)) then some true else (ix aW.1 0).bind fun a6 =>
  some (decide ((a6.toNat : Int) ≠ 47))).bind fun aZ =>
  if aZ then
  some ((⟨([] : Str), ([] : Str), ([] : Str), false⟩ : Jn), (some 27))
  else
  (Ja9 n aW.1 ([33, 36, 38, 39, 40, 41, 42, 43, 44, 59, 61, 58, 64, 47] : Str)).bind fun aV =>
  (Ja9 n aW.2.1 ([33, 36, 38, 39, 40, 41, 42, 43, 44, 59, 61, 58, 64, 47, 63] : Str)).bind fun az =>
  if ((!aV.2) || (!az.2)) then
  some ((⟨([] : Str), ([] : Str), ([] : Str), false⟩ : Jn), (some 27))
  else
  (chk (0 ≤ (1 : Int) ∧ (1 : Int) ≤ (aV.1.length : Int) ∧ (aV.1.length : Int) ≤ (aV.1.length : Int))).bind fun _ =>
  (qe4 (subL aV.1 (1 : Int) (aV.1.length : Int)) ([47] : Str)).bind fun aC =>
  (chk (aC.length ≤ qa3)).bind fun _ =>
  (JJ aC aC 0 []).bind fun s0 => s0.el some fun t0 =>
  (qi1 t0 ([47] : Str)).bind fun aU =>
  (chk (([47] : Str).length + aU.length ≤ lim)).bind fun _ =>
  (Jct (⟨aX.1, (([47] : Str) ++ aU), az.1, aW.2.2⟩ : Jn)).bind fun aY =>
  if decide ((aY.length : Int) > 1024) then
  some ((⟨([] : Str), ([] : Str), ([] : Str), false⟩ : Jn), (some 5))
  else
  some ((⟨aX.1, (([47] : Str) ++ aU), az.1, aW.2.2⟩ : Jn), none)
theorem Jcn {n : Nat} {host : Str} {target : Str} {K : Hp} {r : Jn × Err}
    (hm : Jbo n host target = some r) (hG : GG K) :
    Fn Tryz.prog 14 [str host, str target] K [] (fun v K' H' => v = .tuple #[.agg #[str r.1.An, str r.1.Ae, str r.1.Af, .bool r.1.HasQuery], qcp 48 r.2] ∧ H' = []) := by
 refine Fn.enter Tryz.func14 Tryz.call14 rfl fun F => ?_
 unfold Jbo at hm
 refine qaf rfl fun b4 => ?_
 refine cb hm fun cr bK hm => cgx (JdR bK :) ?_
 refine qa5 rfl ?_
 refine cs rfl rfl hm ?_ ?_ <;> intro ce hm
 refine qai rfl rfl ?_
 refine qaa r0 rfl ⟨rfl, rfl, (nl rfl), ?_⟩
 exact ro (qab r0 rfl (nl rfl) (eE hm))
 refine cb hm fun cm bU hm => cg0 (qm9 bU (gg0 hG)) ?_
 obtain ⟨bB, aZ, hm⟩ := bnd hm
 refine jR (σ := Bool) (rg 33 7) (fun ba => [(39, .bool ba)]) (fun ba => ba = bB) ?_ ?_
 replace aZ := bsm aZ
 refine qaj rfl ?_
 refine qaq ?_
 obtain ⟨co, bh, aZ⟩ := bnd aZ
 refine cS bh (fun aW bh => ?_) fun aW bh => ?_
 refine ct aW (ct aW (ct aW ?_))
 exact eMq aZ _ ⟨bq (si bh), trivial⟩
 refine cf aW ?_
 obtain ⟨cz, bT, bR, bh⟩ := ixb bh
 refine qaz rfl bT bR (cf aW (qa8 (cf aW ?_)))
 exact eMq aZ _ ⟨bq (si bh), trivial⟩
 rintro ba rfl bM
 refine cs rfl rfl hm ?_ ?_ <;> intro cj hm
 refine qai rfl rfl ?_
 refine qas rfl ?_
 refine qaa r0 rfl ⟨rfl, rfl, (nl rfl), ?_⟩
 exact ro (qab r0 rfl (nl rfl) (eE hm))
 refine cb hm fun bZ bL hm => cg0 (Jc0 bL :) ?_
 refine cb hm fun az bJ hm => cg0 (Jc0 bJ :) ?_
 refine jR (σ := Unit) (rg 52 6) (fun _ => [(57, .bool ((!bZ.2) || (!az.2)))]) (fun bY => True) ?_ ?_
 refine qaj rfl ?_
 refine qau ?_
 refine qae ?_ ?_ <;> intro aY
 refine ct aY (ct aY ?_)
 exact eMt () ⟨bq (((qcn (qdw (qik aY)))).symm), trivial⟩
 refine cf aY (qau (cf aY ?_))
 exact eMt () ⟨bq (qg2 (b := (!az.2)) (qc0 (qgn aY))), trivial⟩
 rintro _ _ bN
 refine cs rfl rfl hm ?_ ?_ <;> intro cu hm
 refine qai rfl rfl ?_
 refine qas rfl ?_
 refine qaa r0 rfl ⟨rfl, rfl, (nl rfl), ?_⟩
 exact ro (qab r0 rfl (nl rfl) (eE hm))
 obtain ⟨bS, hm⟩ := qaw hm
 refine RStep.ofN (qdp (lo := (some 1)) (hi := none) rfl bS ?_)
 refine cb hm fun aC bX hm => ck0 (qf4 bX (gg0 hG)) ?_
 rintro _ _ _ ⟨bC, bG, rfl, bm, rfl⟩
 refine ro (qak rfl ?_)
 obtain ⟨a8, hm⟩ := qaw hm
 obtain ⟨s0, aU, hm⟩ := bnd hm
 refine qhg eS 9 1 ?_
 refine lD (σ := ((List Str)) × Option Addr × Nat) ([5,13,15,16] ++ rg 65 34) [1, 2, 3] (fun i0 => [(65, .int .i64 (i0 : Int))]) (fun (t0, aV, aX) => [(13, .slice aV t0.length aX)]) (fun (t0, aV, aX) => [qat eS aV 9 1 aX t0]) (fun (t0, aV, aX) => (0 < t0.length → Has aV) ∧ True) (fun i0 (t0, aV, aX) => JJ aC (aC.drop i0) i0 t0 = some s0) (fun (t0, aV, aX) => s0 = Fl.go t0) (fun i0 => aC.length - i0) 0 (_, _, _) aU (And.intro qe (And.intro ?_ ?_))
 clear aU
 rintro i0 ⟨ac, bd, bc⟩ ⟨bb, _⟩ aU j0
 conv at aU => whnf
 refine qac rfl ?_
 refine qae ?_ ?_ <;> intro w0
 obtain ⟨e0, a6, bP⟩ := ltx w0
 rw [bP, JJ.eq_2] at aU
 refine qal rfl ?_
 refine RStep.ofN (qad rfl rfl (qco bm a6) (nn _) (qd2 rfl a6) (ro (qbv (i := i0) (o := 0) r1 rfl a6 rfl rfl ?_)))
 refine qal rfl ?_
 refine qaq (cs rfl rfl aU ?_ ?_) <;> intro bF aU
 refine qac rfl (ct bF (qaq ?_))
 refine cs rfl rfl aU ?_ ?_ <;> intro bH aU
 refine ro (qak rfl (qag ?_))
 refine cs rfl rfl aU ?_ ?_ <;> intro bO aU
 refine qai rfl rfl ?_
 refine qas rfl ?_
 refine qaa r2 rfl ⟨rfl, rfl, (nl rfl), ?_⟩
 exact ro (qab r0 rfl (nl rfl) (eE (er aU hm)))
 refine ro (qak rfl ?_)
 refine ci aU fun aU => ?_
 obtain ⟨bl, aU⟩ := qaw aU
 refine qnm (l := ac) (hi := (some ((ac.length : Int) - 1))) rfl r0 (by simp) rfl rfl bl ?_
 refine ro (qak rfl ?_)
 obtain ⟨bg, aU⟩ := qaw aU
 refine qam bg (qag ?_)
 refine cs rfl rfl aU ?_ ?_ <;> intro bw aU
 refine bsO (len := 1) (enc := eS) (l := [([] : Str)]) (cl := [str ([] : Str)]) qbw rfl rfl (fun _ _ => rfl) rfl rfl rfl ?_ fun bA => ?_
 · conv => whnf
   refine cT ?_
   first | done | rfl
 obtain ⟨bf, aU⟩ := qaw aU
 refine tkW ((ac.length : Int) - 1) r1 ?_
 refine apE rfl r0 qbw (qay rfl r0 rfl (fun _ => rfl) (fun _ => rfl)) bf ?_
 intro bz bt bp
 refine qam (qbn a6 a8) ?_
 exact eR aU (_, _, _, _)
 refine qam (qbn a6 a8) ?_
 refine qsv ((ac.length : Int) - 1) r0 ?_
 exact rd (i0 + 1, (subL ac (0 : Int) ((ac.length : Int) - 1)), bd, bc) ⟨rfl, rfl, trivial⟩ rfl (pf rfl) lr (ltm a6) ⟨⟨(fun h => bb (qgo bl h)), trivial⟩, aU⟩
 refine ro (qak rfl ?_)
 obtain ⟨bg, aU⟩ := qaw aU
 refine qam bg (qag ?_)
 refine cs rfl rfl aU ?_ ?_ <;> intro bw aU
 refine bsO (len := 1) (enc := eS) (l := [([] : Str)]) (cl := [str ([] : Str)]) qbw rfl rfl (fun _ _ => rfl) rfl rfl rfl ?_ fun bA => ?_
 · conv => whnf
   refine cT ?_
   first | done | rfl
 obtain ⟨bf, aU⟩ := qaw aU
 refine apE rfl r1 qbw (qay rfl r0 rfl (fun _ => rfl) (fun _ => rfl)) bf ?_
 intro bz bt bp
 refine qam (qbn a6 a8) ?_
 exact eR aU (_, _, _, _)
 refine qam (qbn a6 a8) ?_
 exact eR aU (_, _, _, _)
 refine qaq (cs rfl rfl aU ?_ ?_) <;> intro bF aU
 refine qaq (cs rfl rfl aU ?_ ?_) <;> intro bH aU
 refine ro (qak rfl (qag ?_))
 refine cs rfl rfl aU ?_ ?_ <;> intro bO aU
 refine qai rfl rfl ?_
 refine qas rfl ?_
 refine qaa r2 rfl ⟨rfl, rfl, (nl rfl), ?_⟩
 exact ro (qab r0 rfl (nl rfl) (eE (er aU hm)))
 refine ro (qak rfl ?_)
 refine ci aU fun aU => ?_
 obtain ⟨bl, aU⟩ := qaw aU
 refine qnm (l := ac) (hi := (some ((ac.length : Int) - 1))) rfl r0 (by simp) rfl rfl bl ?_
 refine ro (qak rfl ?_)
 obtain ⟨bg, aU⟩ := qaw aU
 refine qam bg (qag ?_)
 refine cs rfl rfl aU ?_ ?_ <;> intro bw aU
 refine bsO (len := 1) (enc := eS) (l := [([] : Str)]) (cl := [str ([] : Str)]) qbw rfl rfl (fun _ _ => rfl) rfl rfl rfl ?_ fun bA => ?_
 · conv => whnf
   refine cT ?_
   first | done | rfl
 obtain ⟨bf, aU⟩ := qaw aU
 refine tkW ((ac.length : Int) - 1) r1 ?_
 refine apE rfl r0 qbw (qay rfl r0 rfl (fun _ => rfl) (fun _ => rfl)) bf ?_
 intro bz bt bp
 refine qam (qbn a6 a8) ?_
 exact eR aU (_, _, _, _)
 refine qam (qbn a6 a8) ?_
 refine qsv ((ac.length : Int) - 1) r0 ?_
 exact rd (i0 + 1, (subL ac (0 : Int) ((ac.length : Int) - 1)), bd, bc) ⟨rfl, rfl, trivial⟩ rfl (pf rfl) lr (ltm a6) ⟨⟨(fun h => bb (qgo bl h)), trivial⟩, aU⟩
 refine ro (qak rfl ?_)
 obtain ⟨bg, aU⟩ := qaw aU
 refine qam bg (qag ?_)
 refine cs rfl rfl aU ?_ ?_ <;> intro bw aU
 refine bsO (len := 1) (enc := eS) (l := [([] : Str)]) (cl := [str ([] : Str)]) qbw rfl rfl (fun _ _ => rfl) rfl rfl rfl ?_ fun bA => ?_
 · conv => whnf
   refine cT ?_
   first | done | rfl
 obtain ⟨bf, aU⟩ := qaw aU
 refine apE rfl r1 qbw (qay rfl r0 rfl (fun _ => rfl) (fun _ => rfl)) bf ?_
 intro bz bt bp
 refine qam (qbn a6 a8) ?_
 exact eR aU (_, _, _, _)
 refine qam (qbn a6 a8) ?_
 exact eR aU (_, _, _, _)
 refine bsO (len := 1) (enc := eS) (l := [e0]) (cl := [str e0]) qbw rfl rfl (fun _ _ => rfl) rfl rfl rfl ?_ fun cw => ?_
 · conv => whnf
   refine cT ?_
   first | done | rfl
 obtain ⟨bI, aU⟩ := qaw aU
 refine apE rfl r1 qbw (qay rfl r0 rfl (fun _ => rfl) (fun _ => rfl)) bI ?_
 intro cn ca cy
 refine qam (qbn a6 a8) ?_
 exact eR aU (_, _, _, _)
 rw [lty w0, JJ.eq_1] at aU
 refine cT ?_
 exact eM aU (_, _, _)
 rintro ⟨t0, aV, aX⟩ ⟨bD, _⟩ rfl j0
 replace hm := elg hm
 refine cb hm fun bQ bo hm => ck0 (Fn.lend Tryz.call48 (fun br bv bj => (qm7 bo bj rfl)) (by exact fun _ _ _ _ h => h)) ?_
 rintro _ _ _ ⟨_, rfl, rfl, rfl⟩
 obtain ⟨bu, hm⟩ := qaw hm
 refine qbs bu ?_
 refine qai rfl rfl (cT (cT (cT (cT ?_))))
 refine qaf rfl fun cA => ?_
 refine qaa r0 rfl ⟨rfl, rfl, (nl rfl), ?_⟩
 refine ro (qab r0 rfl (nl rfl) ?_)
 refine cb hm fun bW bn hm => cg0 (JdS bn :) ?_
 refine ro (qa0 rfl ?_)
 refine cs rfl rfl hm ?_ ?_ <;> intro bV hm
 refine qai rfl rfl ?_
 refine qas rfl ?_
 refine qaa r3 rfl ⟨rfl, rfl, (nl rfl), ?_⟩
 exact ro (qab r0 rfl (nl rfl) (eE hm))
 refine ro (qab r0 rfl (nl rfl) ?_)
 refine qaa r3 rfl ⟨rfl, rfl, (nl rfl), ?_⟩
 exact ro (qab r0 rfl (nl rfl) (eE hm))

def Jbp (s : Str) : Option (Bool) :=
  (Jc6 s).bind fun x7 =>
  some x7.2.isNone
theorem Jb8 {s : Str} {K : Hp} {r : Bool}
    (hm : Jbp s = some r)  :
    Fn Tryz.prog 213 [str s] K [] (fun v K' H' => v = .bool r ∧ H' = []) := by
 refine Fn.enter Tryz.func213 Tryz.call213 rfl fun F => ?_
 unfold Jbp at hm
 refine cb hm fun x7 q7 hm => cg0 (JdL q7 :) ?_
 refine qd1 rfl ?_
 exact eE hm

def JaU (s : Str) (prefixZ : Str) : Option (Str × Bool) :=
  (J8 s prefixZ).bind fun x8 =>
  if (!x8) then
  some (s, false)
  else
  (chk (0 ≤ (prefixZ.length : Int) ∧ (prefixZ.length : Int) ≤ (s.length : Int) ∧ (s.length : Int) ≤ (s.length : Int))).bind fun _ =>
  some ((subL s (prefixZ.length : Int) (s.length : Int)), true)
theorem JcB {s : Str} {prefixZ : Str} {K : Hp} {r : Str × Bool}
    (hm : JaU s prefixZ = some r)  :
    Fn Tryz.prog 255 [str s, str prefixZ] K [] (fun v K' H' => v = .tuple #[str r.1, .bool r.2] ∧ H' = []) := by
 refine Fn.enter Tryz.func255 Tryz.call255 rfl fun F => ?_
 unfold JaU at hm
 refine cb hm fun x8 q8 hm => cg0 (Jbh q8 :) ?_
 refine qau ?_
 refine cs rfl rfl hm ?_ ?_ <;> intro w9 hm
 exact eE hm
 refine ro (qa0 rfl ?_)
 obtain ⟨aU, hm⟩ := qaw hm
 refine RStep.ofN (qdp (lo := (some (prefixZ.length : Int))) (hi := none) rfl aU ?_)
 exact eE hm

def Jcc (s : Str) (prefixZ : Str) : Option (Str × Bool) :=
  (JaU s prefixZ).bind fun x8 =>
  some (x8.1, x8.2)
theorem Jc1 {s : Str} {prefixZ : Str} {K : Hp} {r : Str × Bool}
    (hm : Jcc s prefixZ = some r)  :
    Fn Tryz.prog 239 [str s, str prefixZ] K [] (fun v K' H' => v = .tuple #[str r.1, .bool r.2] ∧ H' = []) := by
 refine Fn.enter Tryz.func239 Tryz.call239 rfl fun F => ?_
 unfold Jcc at hm
 refine cb hm fun x8 q8 hm => cg0 (JcB q8 :) ?_
 exact eE hm

def JdT (s : Str) : Option (Int × Bool) :=
  if decide (s = ([112, 97, 116, 104] : Str)) then
  some (1, true)
  else
  if decide (s = ([113, 117, 101, 114, 121] : Str)) then
  some (1, true)
  else
  if decide (s = ([116, 97, 103] : Str)) then
  some (1, true)
  else
  if decide (s = ([116, 116, 108] : Str)) then
  some (1, true)
  else
  if decide (s = ([100, 101, 110, 121] : Str)) then
  some (1, true)
  else
  if decide (s = ([112, 97, 115, 115] : Str)) then
  some (0, true)
  else
  if decide (s = ([116, 111, 107, 101, 110] : Str)) then
  some (0, true)
  else
  (Jcc s ([104, 101, 97, 100, 101, 114, 58] : Str)).bind fun aU =>
  if aU.2 then
  (Jbp aU.1).bind fun aW =>
  some (1, aW)
  else
  (Jcc s ([118, 97, 114, 121, 58] : Str)).bind fun aV =>
  (if aV.2 then (Jbp aV.1).bind fun aX =>
  some aX else some false).bind fun aY =>
  some (0, aY)
theorem Jev {s : Str} {K : Hp} {r : Int × Bool}
    (hm : JdT s = some r)  :
    Fn Tryz.prog 214 [str s] K [] (fun v K' H' => v = .tuple #[.int .i64 r.1, .bool r.2] ∧ H' = []) := by
 refine Fn.enter Tryz.func214 Tryz.call214 rfl fun F => ?_
 unfold JdT at hm
 refine qal rfl ?_
 refine qaq (cs rfl rfl hm ?_ ?_) <;> intro w9 hm
 refine qac rfl (ct w9 ?_)
 exact eE hm
 refine qaq (cs rfl rfl hm ?_ ?_) <;> intro w9 hm
 refine qac rfl (ct w9 ?_)
 exact eE hm
 refine qaq (cs rfl rfl hm ?_ ?_) <;> intro w9 hm
 refine qac rfl (ct w9 ?_)
 exact eE hm
 refine qaq (cs rfl rfl hm ?_ ?_) <;> intro w9 hm
 refine qac rfl (ct w9 ?_)
 exact eE hm
 refine qaq (cs rfl rfl hm ?_ ?_) <;> intro w9 hm
 exact eE hm
 refine qaq (cs rfl rfl hm ?_ ?_) <;> intro aW hm
 refine qac rfl (ct aW ?_)
 exact eE hm
 refine qaq (cs rfl rfl hm ?_ ?_) <;> intro aW hm
 exact eE hm
 refine cb hm fun a8 aX hm => cg0 (Jc1 aX :) ?_
 refine cs rfl rfl hm ?_ ?_ <;> intro ba hm
 refine cb hm fun bb aY hm => cg0 (Jb8 aY :) ?_
 exact eE hm
 refine cb hm fun bf aZ hm => cg0 (Jc1 aZ :) ?_
 refine qaj rfl ?_
 obtain ⟨bd, aV, hm⟩ := bnd hm
 refine cS aV (fun aU aV => ?_) fun aU aV => ?_
 refine ct aU ?_
 refine cb aV fun bc a6 aV => cg0 (Jb8 a6 :) ?_
 refine ct aU ?_
 cases hm
 exact en lr ⟨(by rw [← (si aV)] <;> rfl), rfl⟩ (pf rfl)
 refine cf aU (cf aU ?_)
 cases hm
 exact en lr ⟨(by rw [← ((si aV).symm).symm] <;> rfl), rfl⟩ (pf rfl)
