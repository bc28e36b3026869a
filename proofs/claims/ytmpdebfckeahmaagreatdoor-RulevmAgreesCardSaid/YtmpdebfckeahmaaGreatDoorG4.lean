/- Functions of the program: mirrors, and that a call returns what the mirror says. Printed by gen.py. -/
import Derived.Test.YtmpdebfckeahmaaGreatDoorG3
set_option linter.unusedVariables false
set_option linter.unusedSimpArgs false
open Go Go.SL Go.Proofs
noncomputable section
set_option maxRecDepth 1000000
set_option maxHeartbeats 8000000
def JA (c : Jb) (jump : Int) : Option (Jb) :=
  (ix c.code jump).bind fun aL =>
  some (⟨(c.code.set ((jump).toNat) (⟨aL.Op, (c.code.length : Int), aL.S⟩ : Jc)), c.names, c.Ap⟩ : Jb)
theorem J2 {c : Jb} {jump : Int} {b0 : Nat} {aa : Option Addr} {ab : Nat} {af : Option Addr} {ak : Nat} {K : Hp} {r : Jb}
    (hm : JA c jump = some r) (hX : (0 < c.code.length → Has aa) ∧ (0 < c.names.length → Has af)) :
    Fn Tryz.prog 165 [.pointer (some ⟨b0, 0, none⟩), .int .i64 jump] K [Cells b0 134 [.slice aa c.code.length ab, .slice af c.names.length ak, .int .i64 c.Ap], OwnL Jc.enc aa 54 3 ab c.code, OwnL Jj.enc af 230 2 ak c.names] (fun v K' H' => ∃ ar_0 : Option Addr, ∃ cr_0 : Nat, ∃ ar_1 : Option Addr, ∃ cr_1 : Nat, v = .tuple #[] ∧ (0 < r.code.length → Has ar_0) ∧ (0 < r.names.length → Has ar_1) ∧ H' = [Cells b0 134 [.slice ar_0 r.code.length cr_0, .slice ar_1 r.names.length cr_1, .int .i64 r.Ap], OwnL Jc.enc ar_0 54 3 cr_0 r.code, OwnL Jj.enc ar_1 230 2 cr_1 r.names]) := by
 obtain ⟨ae, aM⟩ := hX
 refine Fn.enter Tryz.func165 Tryz.call165 rfl fun F => ?_
 unfold JA at hm
 refine qa4 ⟨⟨[], false⟩, _, [(_, _)], []⟩ (by kernel_rfl) ⟨Hp.Le.refl _, (pf rfl), ci0⟩ ?_
 refine qae (fa rfl (qao m0 rfl rfl (qae (fa rfl (qao m0 rfl rfl (qcb rfl ?_))))))
 obtain ⟨aL, aO, aN, hm⟩ := ixb hm
 refine qac rfl rfl (qdh ae aN) aO (qaw rfl aO aN) (qax rfl (qdh ae aN) ?_)
 refine qgm (o := 1) (y := (⟨aL.Op, (c.code.length : Int), aL.S⟩ : Jc)) aL r1 rfl aN rfl (by (conv => whnf); exact ⟨rfl, rfl, (nl rfl), rfl, rfl, rfl⟩) ?_
 refine qk (sc [1] rfl) ?_
 obtain rfl := si hm
 refine qwi r1 (congrArg (fun q_ : Nat => ([.slice aa q_ ab, .slice af c.names.length ak, .int .i64 c.Ap] : List Value)) (show c.code.length = (c.code.set ((jump).toNat) (⟨aL.Op, (c.code.length : Int), aL.S⟩ : Jc)).length from ((rfl).trans List.length_set.symm))) ?_
 exact en lr ⟨aa, ab, af, ak, rfl, (by first | simpa using ae | exact fun _ => ⟨_, _, rfl⟩), aM, rfl⟩ (pf rfl)

def J5 (az : (Jb → Ja → Option (Jb))) (n : Nat) (c : Jb) (n' : Ja) (operator : Str) : Option (Jb) :=
  (ix n'.Aa 0).bind fun x9 =>
  (az c x9).bind fun aM =>
  (ix n'.Aa 1).bind fun aN =>
  (az aM aN).bind fun aO =>
  (Jd aO 7 0 operator).bind fun aL =>
  some aL.2
theorem Ja6 {az : (Jb → Ja → Option (Jb))} (ihrec1_0 : ∀ {c : Jb} {n' : Ja} {b0 : Nat} {aa : Option Addr} {ab : Nat} {af : Option Addr} {ak : Nat} {ah : Option Addr} {aj : Nat} {K : Hp} {r : Jb} (hm : az c n' = some r) (hX : (0 < c.code.length → Has aa) ∧ (0 < c.names.length → Has af) ∧ LiC Ja.R K ah aj 4 n'.Aa), Fn Tryz.prog 136 [.pointer (some ⟨b0, 0, none⟩), .agg #[.int .i64 n'.Ab, str n'.Ac, .slice ah n'.Aa.length aj, .int .i64 n'.Ad]] K [Cells b0 134 [.slice aa c.code.length ab, .slice af c.names.length ak, .int .i64 c.Ap], OwnL Jc.enc aa 54 3 ab c.code, OwnL Jj.enc af 230 2 ak c.names] (fun v K' H' => ∃ ar_0 : Option Addr, ∃ cr_0 : Nat, ∃ ar_1 : Option Addr, ∃ cr_1 : Nat, v = .tuple #[] ∧ (0 < r.code.length → Has ar_0) ∧ (0 < r.names.length → Has ar_1) ∧ H' = [Cells b0 134 [.slice ar_0 r.code.length cr_0, .slice ar_1 r.names.length cr_1, .int .i64 r.Ap], OwnL Jc.enc ar_0 54 3 cr_0 r.code, OwnL Jj.enc ar_1 230 2 cr_1 r.names])) {n : Nat} {c : Jb} {n' : Ja} {operator : Str} {b0 : Nat} {aa : Option Addr} {ab : Nat} {af : Option Addr} {ak : Nat} {ah : Option Addr} {aj : Nat} {K : Hp} {r : Jb}
    (hm : J5 az n c n' operator = some r) (hX : (0 < c.code.length → Has aa) ∧ (0 < c.names.length → Has af) ∧ LiC Ja.R K ah aj 4 n'.Aa) :
    Fn Tryz.prog 169 [.pointer (some ⟨b0, 0, none⟩), .agg #[.int .i64 n'.Ab, str n'.Ac, .slice ah n'.Aa.length aj, .int .i64 n'.Ad], str operator] K [Cells b0 134 [.slice aa c.code.length ab, .slice af c.names.length ak, .int .i64 c.Ap], OwnL Jc.enc aa 54 3 ab c.code, OwnL Jj.enc af 230 2 ak c.names] (fun v K' H' => ∃ ar_0 : Option Addr, ∃ cr_0 : Nat, ∃ ar_1 : Option Addr, ∃ cr_1 : Nat, v = .tuple #[] ∧ (0 < r.code.length → Has ar_0) ∧ (0 < r.names.length → Has ar_1) ∧ H' = [Cells b0 134 [.slice ar_0 r.code.length cr_0, .slice ar_1 r.names.length cr_1, .int .i64 r.Ap], OwnL Jc.enc ar_0 54 3 cr_0 r.code, OwnL Jj.enc ar_1 230 2 cr_1 r.names]) := by
 obtain ⟨ae, bw, ag⟩ := hX
 refine Fn.enter Tryz.func169 Tryz.call169 rfl fun F => ?_
 unfold J5 at hm
 refine qap ?_
 intro b4
 refine fa rfl (ro (ld r0 rfl rfl ?_))
 obtain ⟨x9, l9, k9, hm⟩ := ixb hm
 refine RStep.ofN (qac rfl rfl (qcc ag.rd k9) l9 (qaw rfl l9 k9) ?_)
 obtain ⟨bF, bJ, aN, aP, aR⟩ := LiR.get ag.rd k9
 obtain ⟨bA, aW, rfl, bm⟩ := Ja.out aR
 refine ro (qaj ((0 : Int).toNat) _ aN rfl aP rfl ?_)
 refine cb hm fun bK bI hm => ckx (ihrec1_0 bI :) ?_
 rintro _ _ _ ⟨aT, aZ, bh, bg, rfl, bo, bv, rfl⟩
 refine fa rfl (ro (ld r3 rfl rfl ?_))
 obtain ⟨bL, aS, aM, hm⟩ := ixb hm
 refine RStep.ofN (qac rfl rfl (qcc ag.rd aM) aS (qaw rfl aS aM) ?_)
 obtain ⟨bD, bG, aQ, aO, aL⟩ := LiR.get ag.rd aM
 obtain ⟨a8, ba, rfl, bz⟩ := Ja.out aL
 refine ro (qaj ((1 : Int).toNat) _ aQ rfl aO rfl ?_)
 refine cb hm fun bN bH hm => ckx (ihrec1_0 bH :) ?_
 rintro _ _ _ ⟨bn, bu, aU, bb, rfl, bp, aX, rfl⟩
 refine cb hm fun bM bC hm => ckx (Ji bC :) ?_
 rintro _ _ _ ⟨aV, bj, bB, bf, rfl, bt, aY, rfl⟩
 exact eE hm

def JB : Nat → Jb → Ja → Option (Jb)
  | 0, _, _ => none
  | n + 1, c, n' =>
    if decide (n'.Ab = 20) then
    (qnd n'.Ac).bind fun bb =>
    if bb.2.isSome then
    (Jd c 1 0 ([] : Str)).bind fun aT =>
    some aT.2
    else
    (Jd c 1 bb.1 ([] : Str)).bind fun aT =>
    some aT.2
    else
    if decide (n'.Ab = 21) then
    (Jd c 2 0 n'.Ac).bind fun bw =>
    some bw.2
    else
    if decide (n'.Ab = 22) then
    (JZ c (decide (n'.Ac = ([116, 114, 117, 101] : Str)))).bind fun bn =>
    some bn
    else
    if decide (n'.Ab = 23) then
    (Ja1 n c n'.Ac).bind fun bp =>
    some bp
    else
    if decide (n'.Ab = 24) then
    (ix n'.Aa 0).bind fun bv =>
    ((JB n) c bv).bind fun bm =>
    (Jd bm 6 0 n'.Ac).bind fun bz =>
    some bz.2
    else
    if decide (n'.Ab = 15) then
    (ix n'.Aa 0).bind fun bB =>
    ((JB n) c bB).bind fun bg =>
    (Jd bg 8 0 ([] : Str)).bind fun bf =>
    some bf.2
    else
    if decide (n'.Ab = 17) then
    (J5 (JB n) n c n' ([43] : Str)).bind fun bt =>
    some bt
    else
    if decide (n'.Ab = 18) then
    (J5 (JB n) n c n' ([45] : Str)).bind fun bo =>
    some bo
    else
    if decide (n'.Ab = 19) then
    (J5 (JB n) n c n' ([42] : Str)).bind fun bu =>
    some bu
    else
    if decide (n'.Ab = 16) then
    (J5 (JB n) n c n' n'.Ac).bind fun bj =>
    some bj
    else
    if decide (n'.Ab = 14) then
    (ix n'.Aa 0).bind fun bh =>
    ((JB n) c bh).bind fun bA =>
    (Jd bA 10 0 ([] : Str)).bind fun ba =>
    (ix n'.Aa 1).bind fun aV =>
    ((JB n) ba.2 aV).bind fun aS =>
    (Jd aS 9 0 ([] : Str)).bind fun aL =>
    (JA aL.2 ba.1).bind fun aZ =>
    (JZ aZ false).bind fun aU =>
    (JA aU aL.1).bind fun aY =>
    some aY
    else
    if decide (n'.Ab = 13) then
    (ix n'.Aa 0).bind fun aW =>
    ((JB n) c aW).bind fun aP =>
    (Jd aP 10 0 ([] : Str)).bind fun aM =>
    (JZ aM.2 true).bind fun a8 =>
    (Jd a8 9 0 ([] : Str)).bind fun aN =>
    (JA aN.2 aM.1).bind fun aR =>
    (ix n'.Aa 1).bind fun aX =>
    ((JB n) aR aX).bind fun aO =>
    (JA aO aN.1).bind fun aQ =>
    some aQ
    else
    some c
theorem Jb9 : ∀ {n : Nat} {c : Jb} {n' : Ja} {b0 : Nat} {aa : Option Addr} {ab : Nat} {af : Option Addr} {ak : Nat} {ah : Option Addr} {aj : Nat} {K : Hp} {r : Jb}
    (hm : JB n c n' = some r) (hX : (0 < c.code.length → Has aa) ∧ (0 < c.names.length → Has af) ∧ LiC Ja.R K ah aj 4 n'.Aa),
    Fn Tryz.prog 136 [.pointer (some ⟨b0, 0, none⟩), .agg #[.int .i64 n'.Ab, str n'.Ac, .slice ah n'.Aa.length aj, .int .i64 n'.Ad]] K [Cells b0 134 [.slice aa c.code.length ab, .slice af c.names.length ak, .int .i64 c.Ap], OwnL Jc.enc aa 54 3 ab c.code, OwnL Jj.enc af 230 2 ak c.names] (fun v K' H' => ∃ ar_0 : Option Addr, ∃ cr_0 : Nat, ∃ ar_1 : Option Addr, ∃ cr_1 : Nat, v = .tuple #[] ∧ (0 < r.code.length → Has ar_0) ∧ (0 < r.names.length → Has ar_1) ∧ H' = [Cells b0 134 [.slice ar_0 r.code.length cr_0, .slice ar_1 r.names.length cr_1, .int .i64 r.Ap], OwnL Jc.enc ar_0 54 3 cr_0 r.code, OwnL Jj.enc ar_1 230 2 cr_1 r.names]) := by
 intro n
 induction n with
 | zero =>
   intro c n' b0 aa ab af ak ah aj K r hm hX
   rw [JB.eq_1] at hm; cases hm
 | succ n ih =>
   intro c n' b0 aa ab af ak ah aj K r hm hX
   obtain ⟨ae, eK, ag⟩ := hX
   refine Fn.enter Tryz.func136 Tryz.call136 rfl fun F => ?_
   rw [JB.eq_2] at hm
   refine qap ?_
   intro b3
   refine fa rfl (ro (ld r0 rfl rfl ?_))
   refine qal rfl ?_
   refine qad (cs rfl rfl hm ?_ ?_) <;> intro iC hm
   refine fa rfl (ro (ld r0 rfl rfl ?_))
   refine cb hm fun hJ gu hm => cg0 (qvx (E := 87) gu) ?_
   refine qbe rfl ?_
   refine cs rfl rfl hm ?_ ?_ <;> intro ic hm
   refine cb hm fun gp bz hm => ckx (Ji bz :) ?_
   rintro _ _ _ ⟨aV, aZ, ba, aU, rfl, bf, aO, rfl⟩
   exact eE hm
   refine cb hm fun gp bz hm => ckx (Ji bz :) ?_
   rintro _ _ _ ⟨aV, aZ, ba, aU, rfl, bf, aO, rfl⟩
   exact eE hm
   refine qad (cs rfl rfl hm ?_ ?_) <;> intro hY hm
   refine fa rfl (ro (ld r0 rfl rfl ?_))
   refine cb hm fun iw gV hm => ckx (Ji gV :) ?_
   rintro _ _ _ ⟨ey, fN, fV, fM, rfl, fD, fR, rfl⟩
   exact eE hm
   refine qad (cs rfl rfl hm ?_ ?_) <;> intro hU hm
   refine fa rfl (ro (ld r0 rfl rfl (qas ?_)))
   refine cb hm fun iB gH hm => ckx (Jbu gH :) ?_
   rintro _ _ _ ⟨fX, d7, eL, fq, rfl, dP, eJ, rfl⟩
   exact eE hm
   refine qad (cs rfl rfl hm ?_ ?_) <;> intro im hm
   refine fa rfl (ro (ld r0 rfl rfl ?_))
   refine cb hm fun hZ gQ hm => ckx (Jc2 gQ :) ?_
   rintro _ _ _ ⟨gk, ge, eG, ez, rfl, dQ, eu, rfl⟩
   exact eE hm
   refine qad (cs rfl rfl hm ?_ ?_) <;> intro ip hm
   refine fa rfl (ro (ld r0 rfl rfl ?_))
   obtain ⟨ii, fm, cP, hm⟩ := ixb hm
   refine RStep.ofN (qac rfl rfl (qcc ag.rd cP) fm (qaw rfl fm cP) ?_)
   obtain ⟨gK, gS, bp, cM, bV⟩ := LiR.get ag.rd cP
   obtain ⟨d9, dU, rfl, d2⟩ := Ja.out bV
   refine ro (qaj ((0 : Int).toNat) _ bp rfl cM rfl ?_)
   refine cb hm fun ib gD hm => ckx (ih gD :) ?_
   rintro _ _ _ ⟨gc, fe, fg, dT, rfl, fA, dZ, rfl⟩
   refine fa rfl (ro (ld r3 rfl rfl ?_))
   refine cb hm fun iy gn hm => ckx (Ji gn :) ?_
   rintro _ _ _ ⟨gj, eC, d4, gh, rfl, e9, d3, rfl⟩
   exact eE hm
   refine qad (cs rfl rfl hm ?_ ?_) <;> intro ia hm
   refine fa rfl (ro (ld r0 rfl rfl ?_))
   obtain ⟨iz, f8, dw, hm⟩ := ixb hm
   refine RStep.ofN (qac rfl rfl (qcc ag.rd dw) f8 (qaw rfl f8 dw) ?_)
   obtain ⟨gB, gx, cU, c9, cB⟩ := LiR.get ag.rd dw
   obtain ⟨fv, gf, rfl, ei⟩ := Ja.out cB
   refine ro (qaj ((0 : Int).toNat) _ cU rfl c9 rfl ?_)
   refine cb hm fun g9 gr hm => ckx (ih gr :) ?_
   rintro _ _ _ ⟨dV, fP, ej, fH, rfl, dS, fL, rfl⟩
   refine cb hm fun iA gq hm => ckx (Ji gq :) ?_
   rintro _ _ _ ⟨fu, d6, eF, fk, rfl, fQ, fy, rfl⟩
   exact eE hm
   refine qad (cs rfl rfl hm ?_ ?_) <;> intro iu hm
   refine ro (qag r0 rfl (nl rfl) ?_)
   refine cb hm fun ij gO hm => ckx (Ja6 ih gO :) ?_
   rintro _ _ _ ⟨dW, fT, fU, fI, rfl, fh, d5, rfl⟩
   exact eE hm
   refine qad (cs rfl rfl hm ?_ ?_) <;> intro ir hm
   refine ro (qag r0 rfl (nl rfl) ?_)
   refine cb hm fun ie gR hm => ckx (Ja6 ih gR :) ?_
   rintro _ _ _ ⟨eV, fJ, fS, fG, rfl, fp, fb, rfl⟩
   exact eE hm
   refine qad (cs rfl rfl hm ?_ ?_) <;> intro iv hm
   refine ro (qag r0 rfl (nl rfl) ?_)
   refine cb hm fun ik gU hm => ckx (Ja6 ih gU :) ?_
   rintro _ _ _ ⟨ek, fl, eZ, fY, rfl, eo, d8, rfl⟩
   exact eE hm
   refine qad (cs rfl rfl hm ?_ ?_) <;> intro iq hm
   refine ro (qag r0 rfl (nl rfl) (fa rfl (ro (ld r0 rfl rfl ?_))))
   refine cb hm fun io gz hm => ckx (Ja6 ih gz :) ?_
   rintro _ _ _ ⟨dY, gi, fO, ga, rfl, eY, fc, rfl⟩
   exact eE hm
   refine qad (cs rfl rfl hm ?_ ?_) <;> intro hH hm
   refine fa rfl (ro (ld r0 rfl rfl ?_))
   obtain ⟨ig, ep, de, hm⟩ := ixb hm
   refine RStep.ofN (qac rfl rfl (qcc ag.rd de) ep (qaw rfl ep de) ?_)
   obtain ⟨gE, gY, cL, cZ, cz⟩ := LiR.get ag.rd de
   obtain ⟨fj, fo, rfl, em⟩ := Ja.out cz
   refine ro (qaj ((0 : Int).toNat) _ cL rfl cZ rfl ?_)
   refine cb hm fun iD gw hm => ckx (ih gw :) ?_
   rintro _ _ _ ⟨dX, fC, dR, fw, rfl, dN, eD, rfl⟩
   refine cb hm fun il gN hm => ckx (Ji gN :) ?_
   rintro _ _ _ ⟨fZ, gb, e8, gl, rfl, dO, fK, rfl⟩
   refine fa rfl (ro (ld r3 rfl rfl ?_))
   obtain ⟨gL, bb, aL, hm⟩ := ixb hm
   refine RStep.ofN (qac rfl rfl (qcc ag.rd aL) bb (qaw rfl bb aL) ?_)
   obtain ⟨fB, eQ, aY, aQ, bg⟩ := LiR.get ag.rd aL
   obtain ⟨cD, bM, rfl, ce⟩ := Ja.out bg
   refine ro (qaj ((1 : Int).toNat) _ aY rfl aQ rfl ?_)
   refine cb hm fun gJ bU hm => ckx (ih bU :) ?_
   rintro _ _ _ ⟨dl, bn, bF, dM, rfl, bN, dk, rfl⟩
   refine cb hm fun gy cr hm => ckx (Ji cr :) ?_
   rintro _ _ _ ⟨bA, bY, cJ, dK, rfl, bH, bm, rfl⟩
   refine cb hm fun gZ cX hm => ckx (J2 cX :) ?_
   rintro _ _ _ ⟨cQ, dm, bD, bZ, rfl, dE, dA, rfl⟩
   refine cb hm fun gv cO hm => ckx (Jbu cO :) ?_
   rintro _ _ _ ⟨dq, bJ, cV, cK, rfl, bS, bt, rfl⟩
   refine cb hm fun gM dI hm => ckx (J2 dI :) ?_
   rintro _ _ _ ⟨ca, dL, cH, bO, rfl, dC, cW, rfl⟩
   exact eE hm
   refine qad (cs rfl rfl hm ?_ ?_) <;> intro gC hm
   refine fa rfl (ro (ld r0 rfl rfl ?_))
   obtain ⟨gP, a8, aM, hm⟩ := ixb hm
   refine RStep.ofN (qac rfl rfl (qcc ag.rd aM) a8 (qaw rfl a8 aM) ?_)
   obtain ⟨eH, ff, aS, aR, bh⟩ := LiR.get ag.rd aM
   obtain ⟨bo, bQ, rfl, cw⟩ := Ja.out bh
   refine ro (qaj ((0 : Int).toNat) _ aS rfl aR rfl ?_)
   refine cb hm fun gX dc hm => ckx (ih dc :) ?_
   rintro _ _ _ ⟨dJ, dD, cj, bG, rfl, cd, bI, rfl⟩
   refine cb hm fun gm dF hm => ckx (Ji dF :) ?_
   rintro _ _ _ ⟨cY, bK, cu, c8, rfl, bj, dy, rfl⟩
   refine cb hm fun gG dt hm => ckx (Jbu dt :) ?_
   rintro _ _ _ ⟨bT, c6, cm, cA, rfl, cn, bX, rfl⟩
   refine cb hm fun gF bL hm => ckx (Ji bL :) ?_
   rintro _ _ _ ⟨dh, bB, cC, db, rfl, dj, du, rfl⟩
   refine cb hm fun gA bv hm => ckx (J2 bv :) ?_
   rintro _ _ _ ⟨dG, da, di, df, rfl, dx, cR, rfl⟩
   refine fa rfl (ro (ld r3 rfl rfl ?_))
   obtain ⟨gW, aX, aN, hm⟩ := ixb hm
   refine RStep.ofN (qac rfl rfl (qcc ag.rd aN) aX (qaw rfl aX aN) ?_)
   obtain ⟨fW, eX, aP, aT, aW⟩ := LiR.get ag.rd aN
   obtain ⟨cq, dp, rfl, cI⟩ := Ja.out aW
   refine ro (qaj ((1 : Int).toNat) _ aP rfl aT rfl ?_)
   refine cb hm fun gI bP hm => ckx (ih bP :) ?_
   rintro _ _ _ ⟨bC, bW, c5, dH, rfl, bR, dv, rfl⟩
   refine cb hm fun gT bw hm => ckx (J2 bw :) ?_
   rintro _ _ _ ⟨cp, cG, dz, bu, rfl, dg, dB, rfl⟩
   exact eE hm
   exact eE hm

def Jaa (aw : (Jb → (List Ja) → Option (Jb))) : Nat → Jb → Ja → Option (Jb)
  | 0, _, _ => none
  | n + 1, c, n' =>
    (ix n'.Aa 0).bind fun x9 =>
    (JB n c x9).bind fun aS =>
    (Jd aS 10 0 ([] : Str)).bind fun aM =>
    (ix n'.Aa 1).bind fun aV =>
    (aw aM.2 aV.Aa).bind fun aO =>
    if decide ((n'.Aa.length : Int) = 2) then
    (JA aO aM.1).bind fun aW =>
    some aW
    else
    (Jd aO 9 0 ([] : Str)).bind fun aN =>
    (JA aN.2 aM.1).bind fun aP =>
    (ix n'.Aa 2).bind fun aX =>
    if decide (aX.Ab = 2) then
    (ix n'.Aa 2).bind fun aQ =>
    ((Jaa aw n) aP aQ).bind fun aR =>
    (JA aR aN.1).bind fun aL =>
    some aL
    else
    (ix n'.Aa 2).bind fun aU =>
    (aw aP aU.Aa).bind fun aT =>
    (JA aT aN.1).bind fun aL =>
    some aL
theorem JcL {aw : (Jb → (List Ja) → Option (Jb))} (ihrec2_0 : ∀ {c : Jb} {list : (List Ja)} {b0 : Nat} {aa : Option Addr} {ab : Nat} {af : Option Addr} {ak : Nat} {ah : Option Addr} {aj : Nat} {n1 : Nat} {K : Hp} {r : Jb} (hm : aw c list = some r) (hX : (0 < c.code.length → Has aa) ∧ (0 < c.names.length → Has af) ∧ LiC Ja.R K ah aj 4 list ∧ n1 = list.length), Fn Tryz.prog 57 [.pointer (some ⟨b0, 0, none⟩), .slice ah n1 aj] K [Cells b0 134 [.slice aa c.code.length ab, .slice af c.names.length ak, .int .i64 c.Ap], OwnL Jc.enc aa 54 3 ab c.code, OwnL Jj.enc af 230 2 ak c.names] (fun v K' H' => ∃ ar_0 : Option Addr, ∃ cr_0 : Nat, ∃ ar_1 : Option Addr, ∃ cr_1 : Nat, v = .tuple #[] ∧ (0 < r.code.length → Has ar_0) ∧ (0 < r.names.length → Has ar_1) ∧ H' = [Cells b0 134 [.slice ar_0 r.code.length cr_0, .slice ar_1 r.names.length cr_1, .int .i64 r.Ap], OwnL Jc.enc ar_0 54 3 cr_0 r.code, OwnL Jj.enc ar_1 230 2 cr_1 r.names])) : ∀ {n : Nat} {c : Jb} {n' : Ja} {b0 : Nat} {aa : Option Addr} {ab : Nat} {af : Option Addr} {ak : Nat} {ah : Option Addr} {aj : Nat} {K : Hp} {r : Jb}
    (hm : Jaa aw n c n' = some r) (hX : (0 < c.code.length → Has aa) ∧ (0 < c.names.length → Has af) ∧ LiC Ja.R K ah aj 4 n'.Aa),
    Fn Tryz.prog 135 [.pointer (some ⟨b0, 0, none⟩), .agg #[.int .i64 n'.Ab, str n'.Ac, .slice ah n'.Aa.length aj, .int .i64 n'.Ad]] K [Cells b0 134 [.slice aa c.code.length ab, .slice af c.names.length ak, .int .i64 c.Ap], OwnL Jc.enc aa 54 3 ab c.code, OwnL Jj.enc af 230 2 ak c.names] (fun v K' H' => ∃ ar_0 : Option Addr, ∃ cr_0 : Nat, ∃ ar_1 : Option Addr, ∃ cr_1 : Nat, v = .tuple #[] ∧ (0 < r.code.length → Has ar_0) ∧ (0 < r.names.length → Has ar_1) ∧ H' = [Cells b0 134 [.slice ar_0 r.code.length cr_0, .slice ar_1 r.names.length cr_1, .int .i64 r.Ap], OwnL Jc.enc ar_0 54 3 cr_0 r.code, OwnL Jj.enc ar_1 230 2 cr_1 r.names]) := by
 intro n
 induction n with
 | zero =>
   intro c n' b0 aa ab af ak ah aj K r hm hX
   rw [Jaa.eq_1] at hm; cases hm
 | succ n ih =>
   intro c n' b0 aa ab af ak ah aj K r hm hX
   obtain ⟨ae, cK, ag⟩ := hX
   refine Fn.enter Tryz.func135 Tryz.call135 rfl fun F => ?_
   rw [Jaa.eq_2] at hm
   refine qap ?_
   intro b3
   refine fa rfl (ro (ld r0 rfl rfl ?_))
   obtain ⟨x9, l9, k9, hm⟩ := ixb hm
   refine RStep.ofN (qac rfl rfl (qcc ag.rd k9) l9 (qaw rfl l9 k9) ?_)
   obtain ⟨df, dm, bo, bn, bp⟩ := LiR.get ag.rd k9
   obtain ⟨cL, bz, rfl, bK⟩ := Ja.out bp
   refine ro (qaj ((0 : Int).toNat) _ bo rfl bn rfl ?_)
   refine cb hm fun dK dv hm => ckx (Jb9 dv :) ?_
   rintro _ _ _ ⟨bu, bB, ca, bH, rfl, cn, cq, rfl⟩
   refine cb hm fun dI dj hm => ckx (Ji dj :) ?_
   rintro _ _ _ ⟨c9, cr, bA, bU, rfl, c6, c5, rfl⟩
   refine fa rfl (ro (ld r3 rfl rfl ?_))
   obtain ⟨dC, cG, aT, hm⟩ := ixb hm
   refine RStep.ofN (qac rfl rfl (qcc ag.rd aT) cG (qaw rfl cG aT) (qax rfl (qcc ag.rd aT) ?_))
   obtain ⟨dq, du, bf, aY, aW⟩ := LiR.get ag.rd aT
   obtain ⟨bP, cH, rfl, cW⟩ := Ja.out aW
   refine ro (qca ((1 : Int).toNat) 2 _ _ bf rfl aY rfl rfl ?_)
   refine cb hm fun dE db hm => ckx (ihrec2_0 db :) ?_
   rintro _ _ _ ⟨cO, bZ, cM, cV, rfl, cp, cR, rfl⟩
   refine fa rfl (ro (ld r3 rfl rfl (ro (qai rfl (qad ?_)))))
   refine cs rfl rfl hm ?_ ?_ <;> intro dA hm
   refine cb hm fun dJ dy hm => ckx (J2 dy :) ?_
   rintro _ _ _ ⟨cI, bN, ce, bD, rfl, cd, cz, rfl⟩
   exact eE hm
   refine cb hm fun dB dg hm => ckx (Ji dg :) ?_
   rintro _ _ _ ⟨cu, bL, cQ, bt, rfl, bT, bw, rfl⟩
   refine cb hm fun dL de hm => ckx (J2 de :) ?_
   rintro _ _ _ ⟨bR, bX, cw, bJ, rfl, cY, bQ, rfl⟩
   refine fa rfl (ro (ld r3 rfl rfl ?_))
   obtain ⟨dH, cj, aS, hm⟩ := ixb hm
   refine RStep.ofN (qac rfl rfl (qcc ag.rd aS) cj (qaw rfl cj aS) (qax rfl (qcc ag.rd aS) ?_))
   obtain ⟨dh, dt, bg, bb, bh⟩ := LiR.get ag.rd aS
   obtain ⟨cC, bY, rfl, bC⟩ := Ja.out bh
   refine ro (qca ((2 : Int).toNat) 0 _ _ bg rfl bb rfl rfl (qad ?_))
   refine cs rfl rfl hm ?_ ?_ <;> intro dD hm
   refine fa rfl (ro (ld r3 rfl rfl ?_))
   obtain ⟨dz, da, a8, hm⟩ := ixb hm
   refine RStep.ofN (qac rfl rfl (qcc ag.rd a8) da (qaw rfl da a8) ?_)
   obtain ⟨dw, dp, bj, aV, ba⟩ := LiR.get ag.rd a8
   obtain ⟨c8, cU, rfl, bF⟩ := Ja.out ba
   refine ro (qaj ((2 : Int).toNat) _ bj rfl aV rfl ?_)
   refine cb hm fun dF dk hm => ckx (ih dk :) ?_
   rintro _ _ _ ⟨bS, cD, bG, cJ, rfl, cA, bv, rfl⟩
   refine cb hm fun dl aZ hm => ckx (J2 aZ :) ?_
   rintro _ _ _ ⟨aQ, aN, aP, aM, rfl, aO, aL, rfl⟩
   exact eE hm
   refine fa rfl (ro (ld r3 rfl rfl ?_))
   obtain ⟨dM, cB, aR, hm⟩ := ixb hm
   refine RStep.ofN (qac rfl rfl (qcc ag.rd aR) cB (qaw rfl cB aR) (qax rfl (qcc ag.rd aR) ?_))
   obtain ⟨dc, di, aX, aU, bm⟩ := LiR.get ag.rd aR
   obtain ⟨cm, bO, rfl, bW⟩ := Ja.out bm
   refine ro (qca ((2 : Int).toNat) 2 _ _ aX rfl aU rfl rfl ?_)
   refine cb hm fun dG dx hm => ckx (ihrec2_0 dx :) ?_
   rintro _ _ _ ⟨cP, cX, cZ, bM, rfl, bI, bV, rfl⟩
   refine cb hm fun dl aZ hm => ckx (J2 aZ :) ?_
   rintro _ _ _ ⟨aQ, aN, aP, aM, rfl, aO, aL, rfl⟩
   exact eE hm

def JaB (aw : (Jb → (List Ja) → Option (Jb))) (n : Nat) (c : Jb) (n' : Ja) : Option (Jb) :=
  if decide (n'.Ab = 2) then
  (Jaa aw n c n').bind fun x9 =>
  some x9
  else
  if decide ((n'.Aa.length : Int) > 0) then
  (ix n'.Aa 0).bind fun aV =>
  (JB n c aV).bind fun aM =>
  if decide (n'.Ab = 3) then
  (Jd aM 4 aM.Ap ([] : Str)).bind fun aL =>
  (chk (aL.2.names.length + [(⟨n'.Ac, aL.2.Ap⟩ : Jj)].length ≤ lim)).bind fun _ =>
  (chk (InI (aL.2.Ap + 1))).bind fun _ =>
  some (⟨aL.2.code, (aL.2.names ++ [(⟨n'.Ac, aL.2.Ap⟩ : Jj)]), (aL.2.Ap + 1)⟩ : Jb)
  else
  if decide (n'.Ab = 4) then
  (Jd aM 11 0 n'.Ac).bind fun aO =>
  some aO.2
  else
  if decide (n'.Ab = 5) then
  (chk (([104, 101, 97, 100, 101, 114, 58] : Str).length + n'.Ac.length ≤ lim)).bind fun _ =>
  (Jd aM 11 0 (([104, 101, 97, 100, 101, 114, 58] : Str) ++ n'.Ac)).bind fun aN =>
  some aN.2
  else
  if decide (n'.Ab = 6) then
  (chk (([118, 97, 114, 121, 58] : Str).length + n'.Ac.length ≤ lim)).bind fun _ =>
  (Jd aM 11 0 (([118, 97, 114, 121, 58] : Str) ++ n'.Ac)).bind fun aR =>
  some aR.2
  else
  if decide (n'.Ab = 7) then
  (Jd aM 11 0 ([116, 97, 103] : Str)).bind fun aQ =>
  some aQ.2
  else
  if decide (n'.Ab = 8) then
  (Jd aM 11 0 ([116, 116, 108] : Str)).bind fun aP =>
  some aP.2
  else
  if decide (n'.Ab = 9) then
  (Jd aM 11 0 ([100, 101, 110, 121] : Str)).bind fun aU =>
  some aU.2
  else
  if decide (n'.Ab = 10) then
  (Jd aM 11 0 ([112, 97, 115, 115] : Str)).bind fun aT =>
  some aT.2
  else
  if decide (n'.Ab = 11) then
  (Jd aM 11 0 ([116, 111, 107, 101, 110] : Str)).bind fun aS =>
  some aS.2
  else
  some aM
  else
  if decide (n'.Ab = 3) then
  (Jd c 4 c.Ap ([] : Str)).bind fun aL =>
  (chk (aL.2.names.length + [(⟨n'.Ac, aL.2.Ap⟩ : Jj)].length ≤ lim)).bind fun _ =>
  (chk (InI (aL.2.Ap + 1))).bind fun _ =>
  some (⟨aL.2.code, (aL.2.names ++ [(⟨n'.Ac, aL.2.Ap⟩ : Jj)]), (aL.2.Ap + 1)⟩ : Jb)
  else
  if decide (n'.Ab = 4) then
  (Jd c 11 0 n'.Ac).bind fun aO =>
  some aO.2
  else
  if decide (n'.Ab = 5) then
  (chk (([104, 101, 97, 100, 101, 114, 58] : Str).length + n'.Ac.length ≤ lim)).bind fun _ =>
  (Jd c 11 0 (([104, 101, 97, 100, 101, 114, 58] : Str) ++ n'.Ac)).bind fun aN =>
  some aN.2
  else
  if decide (n'.Ab = 6) then
  (chk (([118, 97, 114, 121, 58] : Str).length + n'.Ac.length ≤ lim)).bind fun _ =>
  (Jd c 11 0 (([118, 97, 114, 121, 58] : Str) ++ n'.Ac)).bind fun aR =>
  some aR.2
  else
  if decide (n'.Ab = 7) then
  (Jd c 11 0 ([116, 97, 103] : Str)).bind fun aQ =>
  some aQ.2
  else
  if decide (n'.Ab = 8) then
  (Jd c 11 0 ([116, 116, 108] : Str)).bind fun aP =>
  some aP.2
  else
  if decide (n'.Ab = 9) then
  (Jd c 11 0 ([100, 101, 110, 121] : Str)).bind fun aU =>
  some aU.2
  else
  if decide (n'.Ab = 10) then
  (Jd c 11 0 ([112, 97, 115, 115] : Str)).bind fun aT =>
  some aT.2
  else
  if decide (n'.Ab = 11) then
  (Jd c 11 0 ([116, 111, 107, 101, 110] : Str)).bind fun aS =>
  some aS.2
  else
  some c
theorem Jcz {aw : (Jb → (List Ja) → Option (Jb))} (ihrec2_0 : ∀ {c : Jb} {list : (List Ja)} {b0 : Nat} {aa : Option Addr} {ab : Nat} {af : Option Addr} {ak : Nat} {ah : Option Addr} {aj : Nat} {n1 : Nat} {K : Hp} {r : Jb} (hm : aw c list = some r) (hX : (0 < c.code.length → Has aa) ∧ (0 < c.names.length → Has af) ∧ LiC Ja.R K ah aj 4 list ∧ n1 = list.length), Fn Tryz.prog 57 [.pointer (some ⟨b0, 0, none⟩), .slice ah n1 aj] K [Cells b0 134 [.slice aa c.code.length ab, .slice af c.names.length ak, .int .i64 c.Ap], OwnL Jc.enc aa 54 3 ab c.code, OwnL Jj.enc af 230 2 ak c.names] (fun v K' H' => ∃ ar_0 : Option Addr, ∃ cr_0 : Nat, ∃ ar_1 : Option Addr, ∃ cr_1 : Nat, v = .tuple #[] ∧ (0 < r.code.length → Has ar_0) ∧ (0 < r.names.length → Has ar_1) ∧ H' = [Cells b0 134 [.slice ar_0 r.code.length cr_0, .slice ar_1 r.names.length cr_1, .int .i64 r.Ap], OwnL Jc.enc ar_0 54 3 cr_0 r.code, OwnL Jj.enc ar_1 230 2 cr_1 r.names])) {n : Nat} {c : Jb} {n' : Ja} {b0 : Nat} {aa : Option Addr} {ab : Nat} {af : Option Addr} {ak : Nat} {ah : Option Addr} {aj : Nat} {K : Hp} {r : Jb}
    (hm : JaB aw n c n' = some r) (hX : (0 < c.code.length → Has aa) ∧ (0 < c.names.length → Has af) ∧ LiC Ja.R K ah aj 4 n'.Aa) :
    Fn Tryz.prog 96 [.pointer (some ⟨b0, 0, none⟩), .agg #[.int .i64 n'.Ab, str n'.Ac, .slice ah n'.Aa.length aj, .int .i64 n'.Ad]] K [Cells b0 134 [.slice aa c.code.length ab, .slice af c.names.length ak, .int .i64 c.Ap], OwnL Jc.enc aa 54 3 ab c.code, OwnL Jj.enc af 230 2 ak c.names] (fun v K' H' => ∃ ar_0 : Option Addr, ∃ cr_0 : Nat, ∃ ar_1 : Option Addr, ∃ cr_1 : Nat, v = .tuple #[] ∧ (0 < r.code.length → Has ar_0) ∧ (0 < r.names.length → Has ar_1) ∧ H' = [Cells b0 134 [.slice ar_0 r.code.length cr_0, .slice ar_1 r.names.length cr_1, .int .i64 r.Ap], OwnL Jc.enc ar_0 54 3 cr_0 r.code, OwnL Jj.enc ar_1 230 2 cr_1 r.names]) := by
 obtain ⟨ae, cK, ag⟩ := hX
 refine Fn.enter Tryz.func96 Tryz.call96 rfl fun F => ?_
 unfold JaB at hm
 refine qap ?_
 intro b3
 refine fa rfl (ro (ld r0 rfl rfl (qad ?_)))
 refine cs rfl rfl hm ?_ ?_ <;> intro w6 hm
 refine ro (qag r0 rfl (nl rfl) ?_)
 refine cb hm fun x9 q9 hm => ckx (JcL ihrec2_0 q9 :) ?_
 rintro _ _ _ ⟨c6, dq, cW, cV, rfl, dg, c8, rfl⟩
 exact eE hm
 refine fa rfl (ro (ld r0 rfl rfl (ro (qai rfl ?_))))
 refine cs rfl rfl hm ?_ ?_ <;> intro dz hm
 refine fa rfl (ro (ld r0 rfl rfl ?_))
 obtain ⟨dA, cH, cw, hm⟩ := ixb hm
 refine RStep.ofN (qac rfl rfl (qcc ag.rd cw) cH (qaw rfl cH cw) ?_)
 obtain ⟨dc, dp, bZ, cp, cr⟩ := LiR.get ag.rd cw
 obtain ⟨cL, cP, rfl, cO⟩ := Ja.out cr
 refine ro (qaj ((0 : Int).toNat) _ bZ rfl cp rfl ?_)
 refine cb hm fun dB c5 hm => ckx (Jb9 c5 :) ?_
 rintro _ _ _ ⟨cM, cJ, cG, cR, rfl, cQ, cI, rfl⟩
 refine fa rfl (ro (ld r3 rfl rfl ?_))
 refine qal rfl ?_
 refine qad (cs rfl rfl hm ?_ ?_) <;> intro dh hm
 refine qae (fa rfl (ro (ld r0 rfl rfl ?_)))
 refine cb hm fun bg cu hm => ckx (Ji cu :) ?_
 rintro _ _ _ ⟨aU, bh, bz, aL, rfl, bw, aO, rfl⟩
 refine qbg ⟨⟨[], false⟩, _, [(_, _), (_, _)], []⟩ 14 rfl (by kernel_rfl) ⟨Hp.Le.refl _, (sc [0,2] rfl), ci0⟩ ?_
 refine qae (fa rfl (qao m0 rfl rfl (fa rfl (qao m1 rfl rfl (qae (fa rfl (qao m0 rfl rfl ?_)))))))
 refine qak rfl rfl (cT (cT ?_))
 refine bsO (len := 1) (enc := Jj.enc) (l := [(⟨n'.Ac, bg.2.Ap⟩ : Jj)]) (cl := [str n'.Ac, .int .i64 bg.2.Ap]) qle rfl rfl (fun _ _ => rfl) rfl rfl rfl ?_ fun de => ?_
 · conv => whnf
   refine cT ?_
   first | done | rfl
 refine qk (sc [1,3] rfl) ?_
 obtain ⟨ce, hm⟩ := qa5 hm
 refine apE rfl r3 qle (qa6 rfl r0 rfl (fun _ => rfl) (fun _ => rfl)) ce ?_
 intro da df dm
 refine qk (sc [2,3] rfl) ?_
 refine qae (fa rfl ?_)
 refine qab r2 rfl ⟨rfl, rfl, (nl rfl), ?_⟩
 refine ⟨⟨Hp.emp_le _, (pf rfl), ci0⟩, ?_⟩
 refine qae (fa rfl (ro (ld r0 rfl rfl ?_)))
 obtain ⟨cA, hm⟩ := qa5 hm
 refine qat cA (qae (fa rfl ?_))
 refine qab r0 rfl ⟨rfl, rfl, (nl rfl), ?_⟩
 exact eE hm
 refine qad (cs rfl rfl hm ?_ ?_) <;> intro dl hm
 refine fa rfl (ro (ld r3 rfl rfl ?_))
 refine cb hm fun cU cd hm => ckx (Ji cd :) ?_
 rintro _ _ _ ⟨aW, bL, aM, bo, rfl, aR, aS, rfl⟩
 exact eE hm
 refine qad (cs rfl rfl hm ?_ ?_) <;> intro dv hm
 refine fa rfl (ro (ld r3 rfl rfl ?_))
 obtain ⟨cC, hm⟩ := qa5 hm
 refine qdn cC ?_
 refine cb hm fun dt cn hm => ckx (Ji cn :) ?_
 rintro _ _ _ ⟨aT, bJ, ba, bU, rfl, aN, aZ, rfl⟩
 exact eE hm
 refine qad (cs rfl rfl hm ?_ ?_) <;> intro c9 hm
 refine fa rfl (ro (ld r3 rfl rfl ?_))
 obtain ⟨cz, hm⟩ := qa5 hm
 refine qdn cz ?_
 refine cb hm fun di cm hm => ckx (Ji cm :) ?_
 rintro _ _ _ ⟨bu, bp, bI, bm, rfl, aV, bP, rfl⟩
 exact eE hm
 refine qad (cs rfl rfl hm ?_ ?_) <;> intro dw hm
 refine cb hm fun du cB hm => ckx (Ji cB :) ?_
 rintro _ _ _ ⟨bO, bf, bF, bV, rfl, aY, bB, rfl⟩
 exact eE hm
 refine qad (cs rfl rfl hm ?_ ?_) <;> intro dj hm
 refine cb hm fun db ca hm => ckx (Ji ca :) ?_
 rintro _ _ _ ⟨bX, bW, bH, bb, rfl, bY, bK, rfl⟩
 exact eE hm
 refine qad (cs rfl rfl hm ?_ ?_) <;> intro cX hm
 refine cb hm fun dk cj hm => ckx (Ji cj :) ?_
 rintro _ _ _ ⟨bQ, a8, bN, aX, rfl, bR, bn, rfl⟩
 exact eE hm
 refine qad (cs rfl rfl hm ?_ ?_) <;> intro cY hm
 refine cb hm fun dy cq hm => ckx (Ji cq :) ?_
 rintro _ _ _ ⟨bA, bC, bM, aP, rfl, bt, aQ, rfl⟩
 exact eE hm
 refine qad (cs rfl rfl hm ?_ ?_) <;> intro cZ hm
 refine cb hm fun dx cD hm => ckx (Ji cD :) ?_
 rintro _ _ _ ⟨bS, bG, bj, bD, rfl, bT, bv, rfl⟩
 exact eE hm
 exact eE hm
 refine fa rfl (ro (ld r0 rfl rfl ?_))
 refine qal rfl ?_
 refine qad (cs rfl rfl hm ?_ ?_) <;> intro dh hm
 refine qae (fa rfl (ro (ld r1 rfl rfl ?_)))
 refine cb hm fun bg cu hm => ckx (Ji cu :) ?_
 rintro _ _ _ ⟨aU, bh, bz, aL, rfl, bw, aO, rfl⟩
 refine qbg ⟨⟨[], false⟩, _, [(_, _), (_, _)], []⟩ 14 rfl (by kernel_rfl) ⟨Hp.Le.refl _, (sc [0,2] rfl), ci0⟩ ?_
 refine qae (fa rfl (qao m0 rfl rfl (fa rfl (qao m1 rfl rfl (qae (fa rfl (qao m0 rfl rfl ?_)))))))
 refine qak rfl rfl (cT (cT ?_))
 refine bsO (len := 1) (enc := Jj.enc) (l := [(⟨n'.Ac, bg.2.Ap⟩ : Jj)]) (cl := [str n'.Ac, .int .i64 bg.2.Ap]) qle rfl rfl (fun _ _ => rfl) rfl rfl rfl ?_ fun de => ?_
 · conv => whnf
   refine cT ?_
   first | done | rfl
 refine qk (sc [1,3] rfl) ?_
 obtain ⟨ce, hm⟩ := qa5 hm
 refine apE rfl r3 qle (qa6 rfl r0 rfl (fun _ => rfl) (fun _ => rfl)) ce ?_
 intro da df dm
 refine qk (sc [2,3] rfl) ?_
 refine qae (fa rfl ?_)
 refine qab r2 rfl ⟨rfl, rfl, (nl rfl), ?_⟩
 refine ⟨⟨Hp.emp_le _, (pf rfl), ci0⟩, ?_⟩
 refine qae (fa rfl (ro (ld r0 rfl rfl ?_)))
 obtain ⟨cA, hm⟩ := qa5 hm
 refine qat cA (qae (fa rfl ?_))
 refine qab r0 rfl ⟨rfl, rfl, (nl rfl), ?_⟩
 exact eE hm
 refine qad (cs rfl rfl hm ?_ ?_) <;> intro dl hm
 refine fa rfl (ro (ld r0 rfl rfl ?_))
 refine cb hm fun cU cd hm => ckx (Ji cd :) ?_
 rintro _ _ _ ⟨aW, bL, aM, bo, rfl, aR, aS, rfl⟩
 exact eE hm
 refine qad (cs rfl rfl hm ?_ ?_) <;> intro dv hm
 refine fa rfl (ro (ld r0 rfl rfl ?_))
 obtain ⟨cC, hm⟩ := qa5 hm
 refine qdn cC ?_
 refine cb hm fun dt cn hm => ckx (Ji cn :) ?_
 rintro _ _ _ ⟨aT, bJ, ba, bU, rfl, aN, aZ, rfl⟩
 exact eE hm
 refine qad (cs rfl rfl hm ?_ ?_) <;> intro c9 hm
 refine fa rfl (ro (ld r0 rfl rfl ?_))
 obtain ⟨cz, hm⟩ := qa5 hm
 refine qdn cz ?_
 refine cb hm fun di cm hm => ckx (Ji cm :) ?_
 rintro _ _ _ ⟨bu, bp, bI, bm, rfl, aV, bP, rfl⟩
 exact eE hm
 refine qad (cs rfl rfl hm ?_ ?_) <;> intro dw hm
 refine cb hm fun du cB hm => ckx (Ji cB :) ?_
 rintro _ _ _ ⟨bO, bf, bF, bV, rfl, aY, bB, rfl⟩
 exact eE hm
 refine qad (cs rfl rfl hm ?_ ?_) <;> intro dj hm
 refine cb hm fun db ca hm => ckx (Ji ca :) ?_
 rintro _ _ _ ⟨bX, bW, bH, bb, rfl, bY, bK, rfl⟩
 exact eE hm
 refine qad (cs rfl rfl hm ?_ ?_) <;> intro cX hm
 refine cb hm fun dk cj hm => ckx (Ji cj :) ?_
 rintro _ _ _ ⟨bQ, a8, bN, aX, rfl, bR, bn, rfl⟩
 exact eE hm
 refine qad (cs rfl rfl hm ?_ ?_) <;> intro cY hm
 refine cb hm fun dy cq hm => ckx (Ji cq :) ?_
 rintro _ _ _ ⟨bA, bC, bM, aP, rfl, bt, aQ, rfl⟩
 exact eE hm
 refine qad (cs rfl rfl hm ?_ ?_) <;> intro cZ hm
 refine cb hm fun dx cD hm => ckx (Ji cD :) ?_
 rintro _ _ _ ⟨bS, bG, bj, bD, rfl, bT, bv, rfl⟩
 exact eE hm
 exact eE hm

def JR (rec_ : (Jb → (List Ja) → Option (Jb))) (n : Nat) : List Ja → Nat → Jb → Option (Jb)
  | [], _, ac => some ac
  | e0 :: aM, i0, ac =>
    (JaB rec_ n ac e0).bind fun aL =>
    JR rec_ n aM (i0 + 1) aL
def JS : Nat → Jb → (List Ja) → Option (Jb)
  | 0, _, _ => none
  | n + 1, c, list =>
    (chk (list.length ≤ qau)).bind fun _ =>
    (JR (JS n) n list 0 c).bind fun t0 =>
    (chk (0 ≤ (0 : Int) ∧ (0 : Int) ≤ (c.names.length : Int) ∧ (c.names.length : Int) ≤ (t0.names.length : Int))).bind fun _ =>
    some (⟨t0.code, (subL t0.names (0 : Int) (c.names.length : Int)), t0.Ap⟩ : Jb)
theorem JcV : ∀ {n : Nat} {c : Jb} {list : (List Ja)} {b0 : Nat} {aa : Option Addr} {ab : Nat} {af : Option Addr} {ak : Nat} {ah : Option Addr} {aj : Nat} {n1 : Nat} {K : Hp} {r : Jb}
    (hm : JS n c list = some r) (hX : (0 < c.code.length → Has aa) ∧ (0 < c.names.length → Has af) ∧ LiC Ja.R K ah aj 4 list ∧ n1 = list.length),
    Fn Tryz.prog 57 [.pointer (some ⟨b0, 0, none⟩), .slice ah n1 aj] K [Cells b0 134 [.slice aa c.code.length ab, .slice af c.names.length ak, .int .i64 c.Ap], OwnL Jc.enc aa 54 3 ab c.code, OwnL Jj.enc af 230 2 ak c.names] (fun v K' H' => ∃ ar_0 : Option Addr, ∃ cr_0 : Nat, ∃ ar_1 : Option Addr, ∃ cr_1 : Nat, v = .tuple #[] ∧ (0 < r.code.length → Has ar_0) ∧ (0 < r.names.length → Has ar_1) ∧ H' = [Cells b0 134 [.slice ar_0 r.code.length cr_0, .slice ar_1 r.names.length cr_1, .int .i64 r.Ap], OwnL Jc.enc ar_0 54 3 cr_0 r.code, OwnL Jj.enc ar_1 230 2 cr_1 r.names]) := by
 intro n
 induction n with
 | zero =>
   intro c list b0 aa ab af ak ah aj n1 K r hm hX
   rw [JS.eq_1] at hm; cases hm
 | succ n ih =>
   intro c list b0 aa ab af ak ah aj n1 K r hm hX
   obtain ⟨ae, bt, ag, bC⟩ := hX
   subst bC
   refine Fn.enter Tryz.func57 Tryz.call57 rfl fun F => ?_
   rw [JS.eq_2] at hm
   refine qae (fa rfl (ro (ld r0 rfl rfl (ro (qai rfl (ro (qai rfl ?_)))))))
   obtain ⟨bw, hm⟩ := qa5 hm
   obtain ⟨s0, aP, hm⟩ := bnd hm
   refine lD (σ := (Jb) × Option Addr × Nat × Option Addr × Nat) ([6] ++ rg 14 8) [3] (fun i0 => [(14, .int .i64 (i0 : Int))]) (fun _ => []) (fun (t0, aM, aN, aL, aO) => [Cells b0 134 [.slice aM t0.code.length aN, .slice aL t0.names.length aO, .int .i64 t0.Ap], OwnL Jc.enc aM 54 3 aN t0.code, OwnL Jj.enc aL 230 2 aO t0.names]) (fun (t0, aM, aN, aL, aO) => (0 < t0.code.length → Has aM) ∧ (0 < t0.names.length → Has aL)) (fun i0 (t0, aM, aN, aL, aO) => JR (JS n) n (list.drop i0) i0 t0 = some s0) (fun (t0, aM, aN, aL, aO) => t0 = s0) (fun i0 => list.length - i0) 0 (_, _, _, _, _) aP (And.intro qe (And.intro ?_ ?_))
   clear aP
   rintro i0 ⟨ac, aV, aU, aY, aW⟩ ⟨aS, aT⟩ aP j0
   conv at aP => whnf
   refine qaf rfl ?_
   refine qah ?_ ?_ <;> intro w0
   obtain ⟨e0, aX, bB⟩ := ltx w0
   rw [bB, JR.eq_2] at aP
   refine qal rfl ?_
   refine RStep.ofN (qac rfl rfl (qcc ag.rd aX) (nn _) (qbr aX) ?_)
   obtain ⟨bA, bz, ba, a8, aZ⟩ := LiR.get ag.rd aX
   obtain ⟨bm, bp, rfl, bn⟩ := Ja.out aZ
   refine ro (qaj i0 _ ba rfl a8 rfl ?_)
   refine qan rfl fun b6 => ?_
   refine qab r0 rfl ⟨rfl, rfl, (nl rfl), ?_⟩
   refine ro (qag r0 rfl (nl rfl) ?_)
   refine cb aP fun bD bv aP => ckx (Jcz ih bv :) ?_
   rintro _ _ _ ⟨bb, bj, bu, bh, rfl, bo, bf, rfl⟩
   refine qat (qcn aX bw) ?_
   exact eR aP (_, _, _, _, _, _)
   rw [lty w0, JR.eq_1] at aP
   refine cT ?_
   exact eM aP (_, _, _, _, _)
   rintro ⟨t0, aM, aN, aL, aO⟩ ⟨aR, aQ⟩ rfl j0
   refine qae (fa rfl (ro (ld r0 rfl rfl ?_)))
   obtain ⟨bg, hm⟩ := qa5 hm
   refine qyv (l := t0.names) (hi := (some (c.names.length : Int))) rfl r2 (by simp) rfl rfl bg ?_
   refine qae (fa rfl ?_)
   refine tkW (c.names.length : Int) r2 ?_
   refine qab r1 rfl ⟨rfl, rfl, (nl rfl), ?_⟩
   cases hm
   exact en lr ⟨aM, aN, aL, aO, rfl, aR, (fun h => aQ (qoe bg h)), rfl⟩ (sc [0,1,0,0] rfl)

def JaZ (n : Nat) (program : Ja) : Option ((List Jc) × Err) :=
  (JbD n program).bind fun x9 =>
  if x9.2.isSome then
  some ([], x9.2)
  else
  (JS n (⟨[], [], 0⟩ : Jb) program.Aa).bind fun aM =>
  (Jd aM 12 0 ([] : Str)).bind fun aL =>
  if decide ((aL.2.code.length : Int) > 2048) then
  some ([], (some 5))
  else
  some (aL.2.code, none)
theorem JdV {n : Nat} {program : Ja} {aa : Option Addr} {ab : Nat} {K : Hp} {r : (List Jc) × Err}
    (hm : JaZ n program = some r) (hX : LiC Ja.R K aa ab 4 program.Aa ∧ GG K) :
    Fn Tryz.prog 29 [.agg #[.int .i64 program.Ab, str program.Ac, .slice aa program.Aa.length ab, .int .i64 program.Ad]] K [] (fun v K' H' => ∃ ar_0 : Option Addr, ∃ cr_0 : Nat, v = .tuple #[.slice ar_0 r.1.length cr_0, qcx 87 r.2] ∧ (0 < r.1.length → Has ar_0) ∧ H' = [OwnL Jc.enc ar_0 54 3 cr_0 r.1]) := by
 obtain ⟨ae, hG⟩ := hX
 refine Fn.enter Tryz.func29 Tryz.call29 rfl fun F => ?_
 unfold JaZ at hm
 refine qap ?_
 intro b1
 refine ro (qag r0 rfl (nl rfl) ?_)
 refine cb hm fun x9 q9 hm => cgx (Jdc q9 :) ?_
 refine qbe rfl ?_
 refine cs rfl rfl hm ?_ ?_ <;> intro ba hm
 refine qi7 Jc.enc 54 3 ?_
 exact eE hm
 refine qak rfl rfl ?_
 refine qap ?_
 intro aZ
 refine fa rfl (ro (ld r1 rfl rfl ?_))
 refine qv8 Tryz.call57 Jc.enc 54 3 ?_
 refine qv8 Tryz.call57 Jj.enc 230 2 ?_
 refine cb hm fun bb aX hm => ckx (JcV aX :) ?_
 rintro _ _ _ ⟨aM, aL, aW, aT, rfl, aR, aO, rfl⟩
 refine cb hm fun a8 aY hm => ckx (Ji aY :) ?_
 rintro _ _ _ ⟨aP, aV, aS, aN, rfl, aQ, aU, rfl⟩
 refine qae (fa rfl (ro (ld r0 rfl rfl (ro (qai rfl ?_)))))
 refine cs rfl rfl hm ?_ ?_ <;> intro bf hm
 refine qa3 rfl ?_
 refine qi7 Jc.enc 54 3 ?_
 exact eE hm
 refine qae (fa rfl (ro (ld r0 rfl rfl ?_)))
 exact eE hm

def Ja9 : List Jo → Nat → (List Jg) → Option ((List Jg))
  | [], _, ac => some ac
  | e0 :: aL, i0, ac =>
    (chk (ac.length + [(⟨e0.Name, e0.Value⟩ : Jg)].length ≤ lim)).bind fun _ =>
    Ja9 aL (i0 + 1) (ac ++ [(⟨e0.Name, e0.Value⟩ : Jg)])
def JcA (l : (List Jo)) : Option ((List Jg)) :=
  (chk (l.length ≤ qau)).bind fun _ =>
  (Ja9 l 0 []).bind fun t0 =>
  some t0
theorem JeK {l : (List Jo)} {aa : Option Addr} {ab : Nat} {n0 : Nat} {K : Hp} {r : (List Jg)}
    (hm : JcA l = some r) (hX : RdC Jo.enc K aa ab 2 l ∧ n0 = l.length) :
    Fn Tryz.prog 34 [.slice aa n0 ab] K [] (fun v K' H' => ∃ ar_0 : Option Addr, ∃ cr_0 : Nat, v = .slice ar_0 r.length cr_0 ∧ (0 < r.length → Has ar_0) ∧ H' = [OwnL Jg.enc ar_0 77 2 cr_0 r]) := by
 obtain ⟨ae, aU⟩ := hX
 subst aU
 refine Fn.enter Tryz.func34 Tryz.call34 rfl fun F => ?_
 unfold JcA at hm
 refine ro (qai rfl ?_)
 obtain ⟨aV, hm⟩ := qa5 hm
 obtain ⟨s0, aN, hm⟩ := bnd hm
 refine qnr Jg.enc 77 2 ?_
 refine lD (σ := ((List Jg)) × Option Addr × Nat) ([3,5] ++ rg 8 13) [1] (fun i0 => [(8, .int .i64 (i0 : Int))]) (fun (t0, aL, aM) => [(3, .slice aL t0.length aM)]) (fun (t0, aL, aM) => [OwnL Jg.enc aL 77 2 aM t0]) (fun (t0, aL, aM) => (0 < t0.length → Has aL) ∧ True) (fun i0 (t0, aL, aM) => Ja9 (l.drop i0) i0 t0 = some s0) (fun (t0, aL, aM) => t0 = s0) (fun i0 => l.length - i0) 0 (_, _, _) aN (And.intro qe (And.intro ?_ ?_))
 clear aN
 rintro i0 ⟨ac, aR, aS⟩ ⟨aP, _⟩ aN j0
 conv at aN => whnf
 refine qaf rfl ?_
 refine qah ?_ ?_ <;> intro w0
 obtain ⟨e0, aO, aW⟩ := ltx w0
 rw [aW, Ja9.eq_2] at aN
 refine qal rfl ?_
 refine RStep.ofN (qac rfl rfl (qdm ae.rd aO) (nn _) (qbr aO) (ro (qaj i0 _ ae.rd rfl (mp aO) rfl ?_)))
 refine qan rfl fun b5 => ?_
 refine qab r0 rfl ⟨rfl, rfl, (nl rfl), ?_⟩
 refine fa rfl (ro (ld r0 rfl rfl (fa rfl (ro (ld r0 rfl rfl (qak rfl rfl (cT (cT ?_))))))))
 refine bsO (len := 1) (enc := Jg.enc) (l := [(⟨e0.Name, e0.Value⟩ : Jg)]) (cl := [str e0.Name, str e0.Value]) qiv rfl rfl (fun _ _ => rfl) rfl rfl rfl ?_ fun aX => ?_
 · conv => whnf
   refine cT ?_
   first | done | rfl
 obtain ⟨aT, aN⟩ := qa5 aN
 refine apE rfl r2 qiv (qa6 rfl r0 rfl (fun _ => rfl) (fun _ => rfl)) aT ?_
 intro a8 aY aZ
 refine qat (qcn aO aV) ?_
 exact eR aN (_, _, _, _)
 rw [lty w0, Ja9.eq_1] at aN
 refine cT ?_
 exact eM aN (_, _, _)
 rintro ⟨t0, aL, aM⟩ ⟨aQ, _⟩ rfl j0
 exact eE hm

def Ja2 (Ar : Jw) : Option (JH) :=
  (JcA Ar.Ao).bind fun aL =>
  some (⟨Ar.Am, Ar.An, Ar.Ae, Ar.Af, aL⟩ : JH)
theorem JdK {Ar : Jw} {aa : Option Addr} {ab : Nat} {K : Hp} {r : JH}
    (hm : Ja2 Ar = some r) (ae : RdC Jo.enc K aa ab 2 Ar.Ao) :
    Fn Tryz.prog 15 [.agg #[str Ar.Am, str Ar.An, str Ar.Ae, str Ar.Af, .slice aa Ar.Ao.length ab]] K [] (fun v K' H' => ∃ ar_0 : Option Addr, ∃ cr_0 : Nat, v = .agg #[str r.Am, str r.An, str r.Ae, str r.Af, .slice ar_0 r.Ao.length cr_0] ∧ (0 < r.Ao.length → Has ar_0) ∧ H' = [OwnL Jg.enc ar_0 77 2 cr_0 r.Ao]) := by
 refine Fn.enter Tryz.func15 Tryz.call15 rfl fun F => ?_
 unfold Ja2 at hm
 refine qap ?_
 intro b1
 refine qan rfl fun b2 => ?_
 refine qa4 ⟨⟨[], false⟩, _, [(_, _)], []⟩ (by kernel_rfl) ⟨Hp.Le.refl _, (sc [1] rfl), ci0⟩ ?_
 refine fa rfl (qao m0 rfl rfl (fa rfl (qao m0 rfl rfl (fa rfl (qao m0 rfl rfl (fa rfl (qao m0 rfl rfl ?_)))))))
 refine fa rfl (qao m0 rfl rfl ?_)
 refine cb hm fun aP aO hm => ckx (JeK aO :) ?_
 rintro _ _ _ ⟨aN, aM, rfl, aL, rfl⟩
 refine qk (sc [2] rfl) ?_
 refine qak rfl rfl (cT (cT (cT (cT (cT ?_)))))
 refine qab r1 rfl ⟨rfl, rfl, (nl rfl), ?_⟩
 refine qk (sc [2] rfl) ?_
 exact ro (qag r0 rfl (nl rfl) (eE hm))

def JbH (x : Jf) : Option (Jf × Err) :=
  if decide ((x.s.length : Int) > 2048) then
  some ((⟨0, 0, ([] : Str), false⟩ : Jf), (some 5))
  else
  some (x, none)
theorem Jcm {x : Jf} {K : Hp} {r : Jf × Err}
    (hm : JbH x = some r)  :
    Fn Tryz.prog 130 [.agg #[.int .i64 x.kind, .int .i64 x.n, str x.s, .bool x.Au]] K [] (fun v K' H' => v = .tuple #[.agg #[.int .i64 r.1.kind, .int .i64 r.1.n, str r.1.s, .bool r.1.Au], qcx 87 r.2] ∧ H' = []) := by
 refine Fn.enter Tryz.func130 Tryz.call130 rfl fun F => ?_
 unfold JbH at hm
 refine qap ?_
 intro b1
 refine qan rfl fun b2 => ?_
 refine fa rfl (ro (ld r1 rfl rfl (ro (qa2 rfl ?_))))
 refine cs rfl rfl hm ?_ ?_ <;> intro w7 hm
 refine qak rfl rfl ?_
 refine qa3 rfl ?_
 refine qab r0 rfl ⟨rfl, rfl, (nl rfl), ?_⟩
 exact ro (qag r0 rfl (nl rfl) (eE hm))
 refine ro (qag r1 rfl (nl rfl) ?_)
 refine qab r0 rfl ⟨rfl, rfl, (nl rfl), ?_⟩
 exact ro (qag r0 rfl (nl rfl) (eE hm))

def Jak (env : (List JD)) (n' : Ja) : Nat → Int → Option (Fl (Jf × Err) (Int))
  | 0, _ => none
  | aO + 1, aL =>
    if decide (aL ≥ 0) then
    (ix env aL).bind fun aN =>
    if decide (aN.name = n'.Ac) then
    (ix env aL).bind fun aM =>
    some (Fl.ret (aM.value, none))
    else
    (chk (InI (aL - 1))).bind fun _ =>
    Jak env n' aO (aL - 1)
    else
    some (Fl.go aL)
def Jac : Nat → Jr → Ja → (List JD) → Option (Jf × Err)
  | 0, _, _, _ => none
  | n + 1, w', n', env =>
    if decide (n'.Ab = 20) then
    (Jb1 n'.Ac).bind fun a8 =>
    (JaX a8).bind fun bj =>
    some (bj, none)
    else
    if decide (n'.Ab = 21) then
    (Jat n'.Ac).bind fun bf =>
    (JbH bf).bind fun aZ =>
    some (aZ.1, aZ.2)
    else
    if decide (n'.Ab = 22) then
    (Jaj (decide (n'.Ac = ([116, 114, 117, 101] : Str)))).bind fun bg =>
    some (bg, none)
    else
    if decide (n'.Ab = 23) then
    (chk (InI ((env.length : Int) - 1))).bind fun _ =>
    (Jak env n' n ((env.length : Int) - 1)).bind fun s1 => s1.el some fun t1 =>
    (Jau n'.Ac w'.Ar).bind fun ba =>
    (JbH ba).bind fun aY =>
    some (aY.1, aY.2)
    else
    (ix n'.Aa 0).bind fun bb =>
    ((Jac n) w' bb env).bind fun aL =>
    if aL.2.isSome then
    some ((⟨0, 0, ([] : Str), false⟩ : Jf), aL.2)
    else
    ((if decide (n'.Ab = 24) then
    (JE n'.Ac aL.1 w'.Ar).bind fun bh =>
    (JbH bh.1).bind fun aQ =>
    some (Fl.ret (aQ.1, aQ.2))
    else
    if decide (n'.Ab = 15) then
    (Jaj (!aL.1.Au)).bind fun aS =>
    some (Fl.ret (aS, none))
    else
    if decide (n'.Ab = 14) then
    if (!aL.1.Au) then
    some (Fl.ret (aL.1, none))
    else
    (ix n'.Aa 1).bind fun aT =>
    ((Jac n) w' aT env).bind fun aP =>
    some (Fl.ret (aP.1, aP.2))
    else
    if decide (n'.Ab = 13) then
    if aL.1.Au then
    some (Fl.ret (aL.1, none))
    else
    (ix n'.Aa 1).bind fun aR =>
    ((Jac n) w' aR env).bind fun aN =>
    some (Fl.ret (aN.1, aN.2))
    else
    if decide (n'.Ab = 17) then
    some (Fl.go ([43] : Str))
    else
    if decide (n'.Ab = 18) then
    some (Fl.go ([45] : Str))
    else
    if decide (n'.Ab = 19) then
    some (Fl.go ([42] : Str))
    else
    some (Fl.go n'.Ac) : Option (Fl (Jf × Err) (Str)))).bind fun aV => aV.el some fun aX =>
    (ix n'.Aa 1).bind fun aU =>
    ((Jac n) w' aU env).bind fun aM =>
    if aM.2.isSome then
    some ((⟨0, 0, ([] : Str), false⟩ : Jf), aM.2)
    else
    (JI aX aL.1 aM.1).bind fun aW =>
    (JbH aW.1).bind fun aO =>
    some (aO.1, aO.2)
theorem Jdy : ∀ {n : Nat} {w' : Jr} {n' : Ja} {env : (List JD)} {b0 : Nat} {aa : Option Addr} {ab : Nat} {af : Option Addr} {ak : Nat} {al : Option Addr} {am : Nat} {an : Option Addr} {ar : Nat} {ah : Option Addr} {aj : Nat} {ao : Option Addr} {aq : Nat} {n2 : Nat} {K : Hp} {r : Jf × Err}
    (hm : Jac n w' n' env = some r) (hX : RdC Jg.enc K aa ab 2 w'.Ar.Ao ∧ (0 < w'.result.Ag.length → Has af) ∧ (0 < w'.result.Vary.length → Has al) ∧ (0 < w'.result.Ah.length → Has an) ∧ LiC Ja.R K ah aj 4 n'.Aa ∧ RdC JD.enc K ao aq 5 env ∧ n2 = env.length ∧ GG K),
    Fn Tryz.prog 86 [.pointer (some ⟨b0, 0, none⟩), .agg #[.int .i64 n'.Ab, str n'.Ac, .slice ah n'.Aa.length aj, .int .i64 n'.Ad], .slice ao n2 aq] K [Cells b0 125 [str w'.Ar.Am, str w'.Ar.An, str w'.Ar.Ae, str w'.Ar.Af, .slice aa w'.Ar.Ao.length ab, str w'.result.Ae, str w'.result.Af, .slice af w'.result.Ag.length ak, .slice al w'.result.Vary.length am, .slice an w'.result.Ah.length ar, .int .i64 w'.result.TTL, .int .i64 w'.result.Ai, .int .i64 w'.result.Aj, .bool w'.result.Ak, .bool w'.result.Al, .bool w'.Aq], OwnL Jg.enc af 77 2 ak w'.result.Ag, OwnL eS al 9 1 am w'.result.Vary, OwnL eS an 9 1 ar w'.result.Ah] (fun v K' H' => v = .tuple #[.agg #[.int .i64 r.1.kind, .int .i64 r.1.n, str r.1.s, .bool r.1.Au], qcx 87 r.2] ∧ H' = [Cells b0 125 [str w'.Ar.Am, str w'.Ar.An, str w'.Ar.Ae, str w'.Ar.Af, .slice aa w'.Ar.Ao.length ab, str w'.result.Ae, str w'.result.Af, .slice af w'.result.Ag.length ak, .slice al w'.result.Vary.length am, .slice an w'.result.Ah.length ar, .int .i64 w'.result.TTL, .int .i64 w'.result.Ai, .int .i64 w'.result.Aj, .bool w'.result.Ak, .bool w'.result.Al, .bool w'.Aq], OwnL Jg.enc af 77 2 ak w'.result.Ag, OwnL eS al 9 1 am w'.result.Vary, OwnL eS an 9 1 ar w'.result.Ah]) := by
 intro n
 induction n with
 | zero =>
   intro w' n' env b0 aa ab af ak al am an ar ah aj ao aq n2 K r hm hX
   rw [Jac.eq_1] at hm; cases hm
 | succ n ih =>
   intro w' n' env b0 aa ab af ak al am an ar ah aj ao aq n2 K r hm hX
   obtain ⟨ae, bZ, bV, bW, ag, aN, cV, hG⟩ := hX
   subst cV
   refine Fn.enter Tryz.func86 Tryz.call86 rfl fun F => ?_
   rw [Jac.eq_2] at hm
   refine qap ?_
   intro b4
   refine qan rfl fun b6 => ?_
   refine fa rfl (ro (ld r1 rfl rfl ?_))
   refine qal rfl ?_
   refine qad (cs rfl rfl hm ?_ ?_) <;> intro dm hm
   refine fa rfl (ro (ld r1 rfl rfl ?_))
   refine cb hm fun dv cP hm => cg0 (Jdo cP :) ?_
   refine cb hm fun dh cr hm => cg0 (Jbj cr :) ?_
   refine qab r0 rfl ⟨rfl, rfl, (nl rfl), ?_⟩
   exact ro (qag r0 rfl (nl rfl) (eE hm))
   refine qad (cs rfl rfl hm ?_ ?_) <;> intro dj hm
   refine fa rfl (ro (ld r1 rfl rfl ?_))
   refine cb hm fun dc cC hm => cg0 (Jao cC :) ?_
   refine cb hm fun dw cL hm => cg0 (Jcm cL :) ?_
   refine qab r0 rfl ⟨rfl, rfl, (nl rfl), ?_⟩
   exact ro (qag r0 rfl (nl rfl) (eE hm))
   refine qad (cs rfl rfl hm ?_ ?_) <;> intro du hm
   refine fa rfl (ro (ld r1 rfl rfl (qas ?_)))
   refine cb hm fun df c5 hm => cg0 (JaA c5 :) ?_
   refine qab r0 rfl ⟨rfl, rfl, (nl rfl), ?_⟩
   exact ro (qag r0 rfl (nl rfl) (eE hm))
   refine qad (cs rfl rfl hm ?_ ?_) <;> intro dq hm
   refine ro (qai rfl ?_)
   refine ci hm fun hm => ?_
   obtain ⟨s1, aM, hm⟩ := bnd hm
   refine lD (σ := (Int)) ([7,8] ++ rg 44 17) [0, 1, 2, 3, 4, 5, 6] (fun _ => []) (fun t1 => [(8, .int .i64 t1)]) (fun _ => []) (fun _ => True) (fun i1 t1 => Jak env n' i1 t1 = some s1) (fun t1 => s1 = Fl.go t1) (fun i1 => i1) n _ aM (And.intro qe (And.intro ?_ ?_))
   clear aM
   rintro i1 aV _ aM j1
   conv at aM => whnf
   cases i1 with
   | zero => rw [Jak.eq_1] at aM; cases aM
   | succ i1 =>
    rw [Jak.eq_2] at aM
    refine cs rfl rfl aM ?_ ?_ <;> intro dA aM
    refine qal rfl ?_
    refine qa4 ⟨⟨[], false⟩, _, [(_, _)], []⟩ (by kernel_rfl) ⟨Hp.Le.refl _, (sc [1] rfl), ci0⟩ ?_
    obtain ⟨de, bU, bm, aM⟩ := ixb aM
    refine qac rfl rfl (qdm aN.rd bm) bU (qaw rfl bU bm) (qax rfl (qdm aN.rd bm) (qbm ((aV).toNat) 0 _ _ aN.rd rfl (mp bm) rfl rfl (fa rfl (qao m0 rfl rfl (qas ?_)))))
    refine cs rfl rfl aM ?_ ?_ <;> intro di aM
    obtain ⟨bh, bO, bj, aM⟩ := ixb aM
    refine RStep.ofN (qac rfl rfl (qdm aN.rd bj) bO (qaw rfl bO bj) (qax rfl (qdm aN.rd bj) (ro (qjg ((aV).toNat) 1 4 _ [.int .i64 bh.value.kind, .int .i64 bh.value.n, str bh.value.s, .bool bh.value.Au] aN.rd rfl (mp bj) rfl rfl rfl ?_))))
    refine qab r0 rfl ⟨rfl, rfl, (nl rfl), ?_⟩
    exact ro (qag r0 rfl (nl rfl) (eE (er aM hm)))
    refine ci aM fun aM => ?_
    exact eR aM (_, _)
    refine cT ?_
    exact eM aM _
   rintro t1 _ rfl j1
   replace hm := elg hm
   refine qa4 ⟨⟨[], false⟩, _, [(_, _), (_, _)], []⟩ (by kernel_rfl) ⟨Hp.Le.refl _, (sc [1,1] rfl), ci0⟩ ?_
   refine fa rfl (qao m0 rfl rfl (qae (fa rfl (qbq m1 rfl (nl rfl) ?_))))
   refine cb hm fun dy cn hm => cgx (Jcx cn :) ?_
   refine qk (sc [1,1] rfl) ?_
   refine cb hm fun dx cX hm => cg0 (Jcm cX :) ?_
   refine qk (sc [1,1] rfl) ?_
   refine qab r0 rfl ⟨rfl, rfl, (nl rfl), ?_⟩
   refine qk (sc [1,1] rfl) ?_
   exact ro (qag r0 rfl (nl rfl) (eE hm))
   refine fa rfl (ro (ld r1 rfl rfl ?_))
   obtain ⟨dt, cd, bD, hm⟩ := ixb hm
   refine RStep.ofN (qac rfl rfl (qcc ag.rd bD) cd (qaw rfl cd bD) ?_)
   obtain ⟨cw, cG, bC, bH, bt⟩ := LiR.get ag.rd bD
   obtain ⟨ce, bP, rfl, bX⟩ := Ja.out bt
   refine ro (qaj ((0 : Int).toNat) _ bC rfl bH rfl ?_)
   refine cb hm fun db cq hm => cgx (ih cq :) ?_
   refine qan rfl fun b9 => ?_
   refine qab r0 rfl ⟨rfl, rfl, (nl rfl), ?_⟩
   refine qbe rfl ?_
   refine cs rfl rfl hm ?_ ?_ <;> intro dg hm
   refine qak rfl rfl ?_
   refine qab r5 rfl ⟨rfl, rfl, (nl rfl), ?_⟩
   exact ro (qag r0 rfl (nl rfl) (eE hm))
   refine fa rfl (ro (ld r6 rfl rfl (fa rfl (ro (ld r6 rfl rfl ?_)))))
   obtain ⟨bp, aL, hm⟩ := bnd hm
   refine jD (σ := (Str)) ([7,11,12,13] ++ rg 89 58) [0, 1, 2, 3, 4, 5, 6, 7] (fun aO => [(11, str aO)]) (fun aO => []) (fun aO => bp = Fl.go aO) (And.intro ?_ ?_)
   refine qal rfl ?_
   refine qad (cs rfl rfl aL ?_ ?_) <;> intro da aL
   refine qdp ⟨⟨[], false⟩, _, [(_, _), (_, _), (_, _)], []⟩ 14 rfl (by kernel_rfl) ⟨Hp.Le.refl _, (sc [6,0,0] rfl), ci0⟩ ?_
   refine fa rfl (qao m0 rfl rfl (qbq m1 rfl (nl rfl) (qae (fa rfl (qbq m2 rfl (nl rfl) ?_)))))
   intro dk
   refine cb aL fun c9 cM aL => cgx (JdI cM :) ?_
   refine ⟨⟨lr, (sc [6,0,0] rfl), ci0⟩, ?_⟩
   refine ⟨_, .cons r8 .nil, ⟨lr, (sc [6,0,0] rfl), ci0⟩, ?_⟩
   refine qjb rfl ?_
   intro dz
   intro cW
   refine qab r0 rfl ⟨rfl, rfl, (nl rfl), ?_⟩
   refine ⟨⟨lr, (sc [7,1,1] rfl), ci0⟩, ?_⟩
   refine ⟨_, .cons r9 .nil, ⟨lr, (sc [7,1,1] rfl), ci0⟩, ?_⟩
   refine ro (qag r0 rfl (nl rfl) ?_)
   refine cb aL fun cu bG aL => cg0 (Jcm bG :) ?_
   refine qab r6 rfl ⟨rfl, rfl, (nl rfl), ?_⟩
   exact ro (qag r0 rfl (nl rfl) (eE (er aL hm)))
   refine qad (cs rfl rfl aL ?_ ?_) <;> intro c6 aL
   refine fa rfl (ro (ld r0 rfl rfl (qaz ?_)))
   refine cb aL fun cj bL aL => cg0 (JaA bL :) ?_
   refine qab r5 rfl ⟨rfl, rfl, (nl rfl), ?_⟩
   exact ro (qag r0 rfl (nl rfl) (eE (er aL hm)))
   refine qad (cs rfl rfl aL ?_ ?_) <;> intro c8 aL
   refine fa rfl (ro (ld r0 rfl rfl (qaz ?_)))
   refine cs rfl rfl aL ?_ ?_ <;> intro cO aL
   refine ro (qag r0 rfl (nl rfl) ?_)
   refine qab r5 rfl ⟨rfl, rfl, (nl rfl), ?_⟩
   exact ro (qag r0 rfl (nl rfl) (eE (er aL hm)))
   refine fa rfl (ro (ld r6 rfl rfl ?_))
   obtain ⟨cY, bg, aQ, aL⟩ := ixb aL
   refine RStep.ofN (qac rfl rfl (qcc ag.rd aQ) bg (qaw rfl bg aQ) ?_)
   obtain ⟨bS, bY, aT, aU, ba⟩ := LiR.get ag.rd aQ
   obtain ⟨bA, bn, rfl, bM⟩ := Ja.out ba
   refine ro (qaj ((1 : Int).toNat) _ aT rfl aU rfl ?_)
   refine cb aL fun cp bN aL => cgx (ih bN :) ?_
   refine qab r5 rfl ⟨rfl, rfl, (nl rfl), ?_⟩
   exact ro (qag r0 rfl (nl rfl) (eE (er aL hm)))
   refine qad (cs rfl rfl aL ?_ ?_) <;> intro cI aL
   refine fa rfl (ro (ld r0 rfl rfl ?_))
   refine cs rfl rfl aL ?_ ?_ <;> intro cJ aL
   refine ro (qag r0 rfl (nl rfl) ?_)
   refine qab r5 rfl ⟨rfl, rfl, (nl rfl), ?_⟩
   exact ro (qag r0 rfl (nl rfl) (eE (er aL hm)))
   refine fa rfl (ro (ld r6 rfl rfl ?_))
   obtain ⟨cQ, bf, aR, aL⟩ := ixb aL
   refine RStep.ofN (qac rfl rfl (qcc ag.rd aR) bf (qaw rfl bf aR) ?_)
   obtain ⟨ca, bT, aZ, aS, a8⟩ := LiR.get ag.rd aR
   obtain ⟨bu, bJ, rfl, bF⟩ := Ja.out a8
   refine ro (qaj ((1 : Int).toNat) _ aZ rfl aS rfl ?_)
   refine cb aL fun cB bo aL => cgx (ih bo :) ?_
   refine qab r5 rfl ⟨rfl, rfl, (nl rfl), ?_⟩
   exact ro (qag r0 rfl (nl rfl) (eE (er aL hm)))
   refine qad (cs rfl rfl aL ?_ ?_) <;> intro cD aL
   exact eM aL _
   refine qad (cs rfl rfl aL ?_ ?_) <;> intro cH aL
   exact eM aL _
   refine qad (cs rfl rfl aL ?_ ?_) <;> intro cm aL
   exact eM aL _
   exact eM aL _
   rintro aO rfl cA
   replace hm := elg hm
   refine fa rfl (ro (ld r6 rfl rfl ?_))
   obtain ⟨cR, aY, aP, hm⟩ := ixb hm
   refine RStep.ofN (qac rfl rfl (qcc ag.rd aP) aY (qaw rfl aY aP) ?_)
   obtain ⟨bQ, bR, bb, aX, aW⟩ := LiR.get ag.rd aP
   obtain ⟨bw, bK, rfl, bv⟩ := Ja.out aW
   refine ro (qaj ((1 : Int).toNat) _ bb rfl aX rfl ?_)
   refine cb hm fun cZ bB hm => cgx (ih bB :) ?_
   refine qan rfl fun dp => ?_
   refine qab r0 rfl ⟨rfl, rfl, (nl rfl), ?_⟩
   refine qbe rfl ?_
   refine cs rfl rfl hm ?_ ?_ <;> intro cz hm
   refine qak rfl rfl ?_
   refine qab r6 rfl ⟨rfl, rfl, (nl rfl), ?_⟩
   exact ro (qag r0 rfl (nl rfl) (eE hm))
   refine ro (qag r5 rfl (nl rfl) (ro (qag r0 rfl (nl rfl) ?_)))
   refine cb hm fun cK bI hm => cgx (Jc7 bI :) ?_
   refine qan rfl fun dl => ?_
   refine qab r0 rfl ⟨rfl, rfl, (nl rfl), ?_⟩
   refine ro (qag r0 rfl (nl rfl) ?_)
   refine cb hm fun cU bz hm => cg0 (Jcm bz :) ?_
   refine qab r7 rfl ⟨rfl, rfl, (nl rfl), ?_⟩
   exact ro (qag r0 rfl (nl rfl) (eE hm))

def JcM (n' : Ja) : Option (Str) :=
  if decide (n'.Ab = 5) then
  (chk (([104, 101, 97, 100, 101, 114, 58] : Str).length + n'.Ac.length ≤ lim)).bind fun _ =>
  some (([104, 101, 97, 100, 101, 114, 58] : Str) ++ n'.Ac)
  else
  if decide (n'.Ab = 6) then
  (chk (([118, 97, 114, 121, 58] : Str).length + n'.Ac.length ≤ lim)).bind fun _ =>
  some (([118, 97, 114, 121, 58] : Str) ++ n'.Ac)
  else
  if decide (n'.Ab = 7) then
  some ([116, 97, 103] : Str)
  else
  if decide (n'.Ab = 8) then
  some ([116, 116, 108] : Str)
  else
  if decide (n'.Ab = 9) then
  some ([100, 101, 110, 121] : Str)
  else
  if decide (n'.Ab = 10) then
  some ([112, 97, 115, 115] : Str)
  else
  if decide (n'.Ab = 11) then
  some ([116, 111, 107, 101, 110] : Str)
  else
  some n'.Ac
theorem JeZ {n' : Ja} {aa : Option Addr} {ab : Nat} {K : Hp} {r : Str}
    (hm : JcM n' = some r) (ae : LiC Ja.R K aa ab 4 n'.Aa) :
    Fn Tryz.prog 87 [.agg #[.int .i64 n'.Ab, str n'.Ac, .slice aa n'.Aa.length ab, .int .i64 n'.Ad]] K [] (fun v K' H' => v = str r ∧ H' = []) := by
 refine Fn.enter Tryz.func87 Tryz.call87 rfl fun F => ?_
 unfold JcM at hm
 refine qap ?_
 intro b1
 refine fa rfl (ro (ld r0 rfl rfl ?_))
 refine qal rfl ?_
 refine qad (cs rfl rfl hm ?_ ?_) <;> intro w5 hm
 refine fa rfl (ro (ld r0 rfl rfl ?_))
 obtain ⟨h9, hm⟩ := qa5 hm
 refine qdn h9 ?_
 exact eE hm
 refine qad (cs rfl rfl hm ?_ ?_) <;> intro aR hm
 refine fa rfl (ro (ld r0 rfl rfl ?_))
 obtain ⟨aL, hm⟩ := qa5 hm
 refine qdn aL ?_
 exact eE hm
 refine qad (cs rfl rfl hm ?_ ?_) <;> intro aP hm
 exact eE hm
 refine qad (cs rfl rfl hm ?_ ?_) <;> intro aN hm
 exact eE hm
 refine qad (cs rfl rfl hm ?_ ?_) <;> intro aQ hm
 exact eE hm
 refine qad (cs rfl rfl hm ?_ ?_) <;> intro aO hm
 exact eE hm
 refine qad (cs rfl rfl hm ?_ ?_) <;> intro aM hm
 exact eE hm
 refine fa rfl (ro (ld r0 rfl rfl ?_))
 exact eE hm

def JT (w' : Jr) (n : Nat) (rec_ : (Jr → (List Ja) → (List JD) → Option (Err × Jr))) : List Ja → Nat → (List JD) → Jr → Option (Fl (Err × Jr) ((List JD) × Jr))
  | [], _, ac, aL => some (Fl.go (ac, (⟨w'.Ar, aL.result, aL.Aq⟩ : Jr)))
  | e0 :: aW, i0, ac, aL =>
    if aL.Aq then
    some (Fl.ret (none, (⟨w'.Ar, aL.result, aL.Aq⟩ : Jr)))
    else
    ((if decide ((e0.Aa.length : Int) > 0) then
    (ix e0.Aa 0).bind fun aX =>
    (Jac n (⟨w'.Ar, aL.result, aL.Aq⟩ : Jr) aX ac).bind fun aQ =>
    if aQ.2.isSome then
    some (Fl.ret (aQ.2, (⟨w'.Ar, aL.result, aL.Aq⟩ : Jr)))
    else
    some (Fl.go (aQ.1.kind, aQ.1.n, aQ.1.s, aQ.1.Au))
    else
    some (Fl.go (0, 0, ([] : Str), false)) : Option (Fl (Err × Jr) (Int × Int × Str × Bool)))).bind fun aS => aS.el (fun r => some (Fl.ret r)) fun aM =>
    ((if decide (e0.Ab = 3) then
    (chk (ac.length + [(⟨e0.Ac, (⟨aM.1, aM.2.1, aM.2.2.1, aM.2.2.2⟩ : Jf)⟩ : JD)].length ≤ lim)).bind fun _ =>
    some ((ac ++ [(⟨e0.Ac, (⟨aM.1, aM.2.1, aM.2.2.1, aM.2.2.2⟩ : Jf)⟩ : JD)]), none, (⟨w'.Ar, aL.result, aL.Aq⟩ : Jr))
    else
    if decide (e0.Ab = 2) then
    if aM.2.2.2 then
    (ix e0.Aa 1).bind fun a8 =>
    (rec_ (⟨w'.Ar, aL.result, aL.Aq⟩ : Jr) a8.Aa ac).bind fun aR =>
    some (ac, aR.1, (⟨w'.Ar, aR.2.result, aR.2.Aq⟩ : Jr))
    else
    (if decide ((e0.Aa.length : Int) > 2) then (ix e0.Aa 2).bind fun aZ =>
    some (decide (aZ.Ab = 2)) else some false).bind fun aT =>
    if aT then
    (chk (0 ≤ (2 : Int) ∧ (2 : Int) ≤ (e0.Aa.length : Int) ∧ (e0.Aa.length : Int) ≤ (e0.Aa.length : Int))).bind fun _ =>
    (rec_ (⟨w'.Ar, aL.result, aL.Aq⟩ : Jr) (subL e0.Aa (2 : Int) (e0.Aa.length : Int)) ac).bind fun aP =>
    some (ac, aP.1, (⟨w'.Ar, aP.2.result, aP.2.Aq⟩ : Jr))
    else
    if decide ((e0.Aa.length : Int) > 2) then
    (ix e0.Aa 2).bind fun aU =>
    (rec_ (⟨w'.Ar, aL.result, aL.Aq⟩ : Jr) aU.Aa ac).bind fun aO =>
    some (ac, aO.1, (⟨w'.Ar, aO.2.result, aO.2.Aq⟩ : Jr))
    else
    some (ac, none, (⟨w'.Ar, aL.result, aL.Aq⟩ : Jr))
    else
    (JcM e0).bind fun aY =>
    (JaP aL.result aY (⟨aM.1, aM.2.1, aM.2.2.1, aM.2.2.2⟩ : Jf)).bind fun aV =>
    some (ac, aV.1, (⟨w'.Ar, aV.2, decide (e0.Ab = 9)⟩ : Jr)) : Option ((List JD) × Err × Jr))).bind fun aN =>
    if aN.2.1.isSome then
    some (Fl.ret (aN.2.1, (⟨w'.Ar, aN.2.2.result, aN.2.2.Aq⟩ : Jr)))
    else
    JT w' n rec_ aW (i0 + 1) aN.1 (⟨w'.Ar, aN.2.2.result, aN.2.2.Aq⟩ : Jr)
def JJ : Nat → Jr → (List Ja) → (List JD) → Option (Err × Jr)
  | 0, _, _, _ => none
  | n + 1, w', list, env =>
    (chk (list.length ≤ qau)).bind fun _ =>
    (JT w' n (JJ n) list 0 env w').bind fun s0 => s0.el some fun t0 =>
    some (none, (⟨w'.Ar, t0.2.result, t0.2.Aq⟩ : Jr))
theorem JcN : ∀ {n : Nat} {w' : Jr} {list : (List Ja)} {env : (List JD)} {b0 : Nat} {aa : Option Addr} {ab : Nat} {af : Option Addr} {ak : Nat} {al : Option Addr} {am : Nat} {an : Option Addr} {ar : Nat} {ah : Option Addr} {aj : Nat} {n1 : Nat} {ao : Option Addr} {aq : Nat} {n2 : Nat} {K : Hp} {r : Err × Jr}
    (hm : JJ n w' list env = some r) (hX : RdC Jg.enc K aa ab 2 w'.Ar.Ao ∧ (0 < w'.result.Ag.length → Has af) ∧ (0 < w'.result.Vary.length → Has al) ∧ (0 < w'.result.Ah.length → Has an) ∧ LiC Ja.R K ah aj 4 list ∧ n1 = list.length ∧ RdC JD.enc K ao aq 5 env ∧ n2 = env.length ∧ GG K),
    Fn Tryz.prog 52 [.pointer (some ⟨b0, 0, none⟩), .slice ah n1 aj, .slice ao n2 aq] K [Cells b0 125 [str w'.Ar.Am, str w'.Ar.An, str w'.Ar.Ae, str w'.Ar.Af, .slice aa w'.Ar.Ao.length ab, str w'.result.Ae, str w'.result.Af, .slice af w'.result.Ag.length ak, .slice al w'.result.Vary.length am, .slice an w'.result.Ah.length ar, .int .i64 w'.result.TTL, .int .i64 w'.result.Ai, .int .i64 w'.result.Aj, .bool w'.result.Ak, .bool w'.result.Al, .bool w'.Aq], OwnL Jg.enc af 77 2 ak w'.result.Ag, OwnL eS al 9 1 am w'.result.Vary, OwnL eS an 9 1 ar w'.result.Ah] (fun v K' H' => ∃ ar_0 : Option Addr, ∃ cr_0 : Nat, ∃ ar_1 : Option Addr, ∃ cr_1 : Nat, ∃ ar_2 : Option Addr, ∃ cr_2 : Nat, v = qcx 87 r.1 ∧ (0 < r.2.result.Ag.length → Has ar_0) ∧ (0 < r.2.result.Vary.length → Has ar_1) ∧ (0 < r.2.result.Ah.length → Has ar_2) ∧ H' = [Cells b0 125 [str w'.Ar.Am, str w'.Ar.An, str w'.Ar.Ae, str w'.Ar.Af, .slice aa w'.Ar.Ao.length ab, str r.2.result.Ae, str r.2.result.Af, .slice ar_0 r.2.result.Ag.length cr_0, .slice ar_1 r.2.result.Vary.length cr_1, .slice ar_2 r.2.result.Ah.length cr_2, .int .i64 r.2.result.TTL, .int .i64 r.2.result.Ai, .int .i64 r.2.result.Aj, .bool r.2.result.Ak, .bool r.2.result.Al, .bool r.2.Aq], OwnL Jg.enc ar_0 77 2 cr_0 r.2.result.Ag, OwnL eS ar_1 9 1 cr_1 r.2.result.Vary, OwnL eS ar_2 9 1 cr_2 r.2.result.Ah]) := by
 intro n
 induction n with
 | zero =>
   intro w' list env b0 aa ab af ak al am an ar ah aj n1 ao aq n2 K r hm hX
   rw [JJ.eq_1] at hm; cases hm
 | succ n ih =>
   intro w' list env b0 aa ab af ak al am an ar ah aj n1 ao aq n2 K r hm hX
   obtain ⟨ae, dJ, dD, dE, ag, e9, dS, eL, hG⟩ := hX
   subst e9
   subst eL
   refine Fn.enter Tryz.func52 Tryz.call52 rfl fun F => ?_
   rw [JJ.eq_2] at hm
   refine ro (qai rfl ?_)
   obtain ⟨d8, hm⟩ := qa5 hm
   obtain ⟨s0, bm, hm⟩ := bnd hm
   refine lC (σ := ((List JD) × Jr) × Option Addr × Nat × Option Addr × Nat × Option Addr × Nat × Option Addr × Nat) ([2,6] ++ rg 8 5 ++ rg 15 102) [4] (fun i0 => [(15, .int .i64 (i0 : Int))]) (fun (t0, bh, bj, aT, a8, aR, aY, aS, aZ) => [(2, .slice bh t0.1.length bj)]) (fun (t0, bh, bj, aT, a8, aR, aY, aS, aZ) => [Cells b0 125 [str w'.Ar.Am, str w'.Ar.An, str w'.Ar.Ae, str w'.Ar.Af, .slice aa w'.Ar.Ao.length ab, str t0.2.result.Ae, str t0.2.result.Af, .slice aT t0.2.result.Ag.length a8, .slice aR t0.2.result.Vary.length aY, .slice aS t0.2.result.Ah.length aZ, .int .i64 t0.2.result.TTL, .int .i64 t0.2.result.Ai, .int .i64 t0.2.result.Aj, .bool t0.2.result.Ak, .bool t0.2.result.Al, .bool t0.2.Aq], OwnL Jg.enc aT 77 2 a8 t0.2.result.Ag, OwnL eS aR 9 1 aY t0.2.result.Vary, OwnL eS aS 9 1 aZ t0.2.result.Ah]) (fun zz K1 => match zz with | (t0, bh, bj, aT, a8, aR, aY, aS, aZ) => RdC JD.enc K1 bh bj 5 t0.1 ∧ (0 < t0.2.result.Ag.length → Has aT) ∧ (0 < t0.2.result.Vary.length → Has aR) ∧ (0 < t0.2.result.Ah.length → Has aS)) (fun i0 (t0, bh, bj, aT, a8, aR, aY, aS, aZ) => JT w' n (JJ n) (list.drop i0) i0 t0.1 t0.2 = some s0) (fun (t0, bh, bj, aT, a8, aR, aY, aS, aZ) => s0 = Fl.go t0) (fun i0 => list.length - i0) 0 ((_, _), _, _, _, _, _, _, _, _) bm (And.intro qe (And.intro ?_ ?_))
   clear bm
   rintro i0 ⟨⟨ac, cJ⟩, dI, c9, bG, bP, bT, bS, bJ, bF⟩ fg dx ⟨bt, bL, bH, bQ⟩ bm j0
   dsimp only at bm ⊢
   refine qaf rfl ?_
   refine qah ?_ ?_ <;> intro w0
   obtain ⟨e0, bI, eF⟩ := ltx w0
   rw [eF, JT.eq_2] at bm
   refine qal rfl ?_
   refine RStep.ofN (qac rfl rfl (qcc (LiC.mono Ja.R_ok dx ag).rd bI) (nn _) (qbr bI) ?_)
   obtain ⟨eD, eQ, bV, cw, cV⟩ := LiR.get (LiC.mono Ja.R_ok dx ag).rd bI
   obtain ⟨dL, dP, rfl, aW⟩ := Ja.out cV
   refine ro (qaj i0 _ bV rfl cw rfl ?_)
   refine qan rfl fun b8 => ?_
   refine qab r0 rfl ⟨rfl, rfl, (nl rfl), ?_⟩
   refine qae (fa rfl (ro (ld r1 rfl rfl ?_)))
   refine cs rfl rfl bm ?_ ?_ <;> intro fo bm
   exact eE (er bm hm)
   refine qak rfl rfl ?_
   refine qan rfl fun b9 => ?_
   refine qab r0 rfl ⟨rfl, rfl, (nl rfl), ?_⟩
   refine fa rfl (ro (ld r1 rfl rfl (ro (qai rfl ?_))))
   obtain ⟨cG, ba, bm⟩ := bnd bm
   refine jD (σ := (Int × Int × Str × Bool)) ([6,10,11] ++ rg 28 14) [1, 2, 3, 4, 5, 6] (fun bb => []) (fun bb => [Cells b9 95 [.int .i64 bb.1, .int .i64 bb.2.1, str bb.2.2.1, .bool bb.2.2.2]]) (fun bb => cG = Fl.go bb) (And.intro ?_ ?_)
   refine cs rfl rfl ba ?_ ?_ <;> intro ff ba
   refine fa rfl (ro (ld r1 rfl rfl ?_))
   obtain ⟨fK, di, c5, ba⟩ := ixb ba
   refine RStep.ofN (qac rfl rfl (qcc aW.rd c5) di (qaw rfl di c5) ?_)
   obtain ⟨eK, eX, cK, cQ, cH⟩ := LiR.get aW.rd c5
   obtain ⟨dO, db, rfl, c8⟩ := Ja.out cH
   refine ro (qaj ((0 : Int).toNat) _ cK rfl cQ rfl ?_)
   refine cb ba fun fC dZ ba => cgx (Jdy dZ :) ?_
   refine qan rfl fun fA => ?_
   refine qab r0 rfl ⟨rfl, rfl, (nl rfl), ?_⟩
   refine qbe rfl ?_
   refine cs rfl rfl ba ?_ ?_ <;> intro fD ba
   exact eE (er (er ba bm :) hm)
   refine ro (qag r0 rfl (nl rfl) ?_)
   refine qab r5 rfl ⟨rfl, rfl, (nl rfl), ?_⟩
   exact eM ba _
   exact eM ba _
   rintro bb rfl d2
   replace bm := elg bm
   refine fa rfl (ro (ld r1 rfl rfl ?_))
   obtain ⟨cD, aL, bm⟩ := bnd bm
   refine jC (σ := ((List JD) × Err × Jr) × Option Addr × Nat × Option Addr × Nat × Option Addr × Nat × Option Addr × Nat) ([2,12] ++ rg 44 69) [0, 1, 6] (fun (aN, bg, bf, aQ, aU, aP, aV, aO, aX) => [(2, .slice bg aN.1.length bf), (12, qcx 87 aN.2.1)]) (fun (aN, bg, bf, aQ, aU, aP, aV, aO, aX) => [Cells b0 125 [str w'.Ar.Am, str w'.Ar.An, str w'.Ar.Ae, str w'.Ar.Af, .slice aa w'.Ar.Ao.length ab, str aN.2.2.result.Ae, str aN.2.2.result.Af, .slice aQ aN.2.2.result.Ag.length aU, .slice aP aN.2.2.result.Vary.length aV, .slice aO aN.2.2.result.Ah.length aX, .int .i64 aN.2.2.result.TTL, .int .i64 aN.2.2.result.Ai, .int .i64 aN.2.2.result.Aj, .bool aN.2.2.result.Ak, .bool aN.2.2.result.Al, .bool aN.2.2.Aq], OwnL Jg.enc aQ 77 2 aU aN.2.2.result.Ag, OwnL eS aP 9 1 aV aN.2.2.result.Vary, OwnL eS aO 9 1 aX aN.2.2.result.Ah]) (fun zz K1 => match zz with | (aN, bg, bf, aQ, aU, aP, aV, aO, aX) => RdC JD.enc K1 bg bf 5 aN.1 ∧ (0 < aN.2.2.result.Ag.length → Has aQ) ∧ (0 < aN.2.2.result.Vary.length → Has aP) ∧ (0 < aN.2.2.result.Ah.length → Has aO) ∧ aN = cD) (And.intro ?_ ?_)
   refine qal rfl ?_
   refine qad ?_
   refine CStep.ownLe r3 fun fy => ?_
   refine CStep.ownLe r4 fun fj => ?_
   refine CStep.ownLe r5 fun fw => ?_
   refine cs rfl rfl aL ?_ ?_ <;> intro fu aL
   refine qa4 ⟨⟨[], false⟩, _, [(_, _), (_, _)], []⟩ (by kernel_rfl) ⟨Hp.Le.refl _, (sc [1,0] rfl), ci0⟩ ?_
   refine qcb rfl (qcb rfl ?_)
   refine qy2 (l := ac) rfl bt.le rfl rfl ?_
   refine fa rfl (qao m0 rfl rfl (qbq m1 rfl (nl rfl) (qak rfl rfl (cT (cT ?_)))))
   refine bsO (len := 1) (enc := JD.enc) (l := [(⟨e0.Ac, (⟨bb.1, bb.2.1, bb.2.2.1, bb.2.2.2⟩ : Jf)⟩ : JD)]) (cl := [str e0.Ac, .int .i64 bb.1, .int .i64 bb.2.1, str bb.2.2.1, .bool bb.2.2.2]) qsq rfl rfl (fun _ _ => rfl) rfl rfl rfl ?_ fun fl => ?_
   · conv => whnf
     refine cT ?_
     first | done | rfl
   refine qk (sc [2,1] rfl) ?_
   obtain ⟨eJ, aL⟩ := qa5 aL
   refine qAb (l := ac) bt.clip qsq (qa6 rfl r0 rfl (fun _ => rfl) (fun _ => rfl)) (nl rfl) eJ ?_
   intro fH fm ez ep eo
   refine qk (sc [2,1] rfl) ?_
   exact eM aL (_, _, _, _, _, _, _, _, _)
   refine qad ?_
   refine CStep.ownLe r3 fun eC => ?_
   refine CStep.ownLe r4 fun em => ?_
   refine CStep.ownLe r5 fun e8 => ?_
   refine cs rfl rfl aL ?_ ?_ <;> intro fB aL
   refine fa rfl (ro (ld r0 rfl rfl ?_))
   refine CStep.ownLe r3 fun ey => ?_
   refine CStep.ownLe r4 fun d9 => ?_
   refine CStep.ownLe r5 fun d4 => ?_
   refine cs rfl rfl aL ?_ ?_ <;> intro fq aL
   refine fa rfl (ro (ld r1 rfl rfl ?_))
   obtain ⟨fh, df, bR, aL⟩ := ixb aL
   refine RStep.ofN (qac rfl rfl (qcc aW.rd bR) df (qaw rfl df bR) (qax rfl (qcc aW.rd bR) ?_))
   obtain ⟨eH, ej, c6, cz, cm⟩ := LiR.get aW.rd bR
   obtain ⟨dz, dU, rfl, dA⟩ := Ja.out cm
   refine ro (qca ((1 : Int).toNat) 2 _ _ c6 rfl cz rfl rfl ?_)
   refine cb aL fun fG ei aL => ckx (ih ei :) ?_
   rintro _ _ _ ⟨dB, dN, dF, da, dm, dy, rfl, dp, dG, dV, rfl⟩
   exact eM aL (_, _, _, _, _, _, _, _, _)
   obtain ⟨cd, bn, aL⟩ := bnd aL
   refine jR (σ := Bool) (rg 83 12) (fun bo => [(94, .bool bo)]) (fun bo => bo = cd) ?_ ?_
   replace bn := bsm bn
   refine qam rfl ?_
   refine fa rfl (ro (ld r1 rfl rfl (ro (qai rfl ?_))))
   obtain ⟨fv, bu, bn⟩ := bnd bn
   refine cS bu (fun aM bu => ?_) fun aM bu => ?_
   refine fa rfl (ct aM (ro (ld r1 rfl rfl (ct aM ?_))))
   obtain ⟨fJ, dR, bU, bu⟩ := ixb bu
   refine RStep.ofN (qac rfl rfl (qcc aW.rd bU) dR (qaw rfl dR bU) (ct aM (qax rfl (qcc aW.rd bU) (ct aM ?_))))
   obtain ⟨eG, d7, cR, cZ, ca⟩ := LiR.get aW.rd bU
   obtain ⟨dv, dQ, rfl, dw⟩ := Ja.out ca
   refine ro (qca ((2 : Int).toNat) 0 _ _ cR rfl cZ rfl rfl (ct aM (qad (ct aM ?_))))
   exact eMq bn _ ⟨bq (si bu), trivial⟩
   refine cf aM (cf aM (cf aM (cf aM (cf aM (cf aM ?_)))))
   exact eMq bn _ ⟨bq (si bu), trivial⟩
   rintro bo rfl fb
   refine CStep.ownLe r3 fun dX => ?_
   refine CStep.ownLe r4 fun d3 => ?_
   refine CStep.ownLe r5 fun d5 => ?_
   refine cs rfl rfl aL ?_ ?_ <;> intro fI aL
   refine fa rfl (ro (ld r1 rfl rfl ?_))
   obtain ⟨dt, aL⟩ := qa5 aL
   have eV := aW.subC dt
   refine RStep.ofN (qon (l := e0.Aa) (lo := (some 2)) (hi := none) (lo' := (2 : Int)) (hi' := (e0.Aa.length : Int)) rfl rfl rfl rfl rfl aW.le dt ?_)
   refine cb aL fun eu bW aL => ckx (ih bW :) ?_
   rintro _ _ _ ⟨cA, bX, bY, cu, bZ, cn, rfl, ce, cC, cq, rfl⟩
   exact eM aL (_, _, _, _, _, _, _, _, _)
   refine fa rfl (ro (ld r1 rfl rfl (ro (qai rfl ?_))))
   refine cs rfl rfl aL ?_ ?_ <;> intro dW aL
   refine fa rfl (ro (ld r1 rfl rfl ?_))
   obtain ⟨fc, bC, bp, aL⟩ := ixb aL
   refine RStep.ofN (qac rfl rfl (qcc aW.rd bp) bC (qaw rfl bC bp) (qax rfl (qcc aW.rd bp) ?_))
   obtain ⟨dq, dT, bD, bB, bA⟩ := LiR.get aW.rd bp
   obtain ⟨cM, cr, rfl, cI⟩ := Ja.out bA
   refine ro (qca ((2 : Int).toNat) 2 _ _ bD rfl bB rfl rfl ?_)
   refine cb aL fun eZ cP aL => ckx (ih cP :) ?_
   rintro _ _ _ ⟨cO, cW, cB, cL, cU, cj, rfl, cX, cp, cY, rfl⟩
   exact eM aL (_, _, _, _, _, _, _, _, _)
   exact eM aL (_, _, _, _, _, _, _, _, _)
   refine qa4 ⟨⟨[], false⟩, _, [(_, _), (_, _)], []⟩ (by kernel_rfl) ⟨Hp.Le.refl _, (sc [1,0] rfl), ci0⟩ ?_
   refine qae (fa rfl (qbq m0 rfl (nl rfl) ?_))
   refine cb aL fun fL ek aL => cgx (JeZ ek :) ?_
   refine qk (sc [1,0] rfl) ?_
   refine qbq m1 rfl (nl rfl) ?_
   refine cb aL fun fk d6 aL => ckx (Jcp (aB := [str w'.Ar.Am, str w'.Ar.An, str w'.Ar.Ae, str w'.Ar.Af, .slice aa w'.Ar.Ao.length ab]) (aI := [.bool cJ.Aq]) d6 :) ?_
   rintro _ _ _ ⟨du, dg, dK, dc, dk, dh, rfl, dl, dj, de, rfl⟩
   refine qk (sc [5,4] rfl) ?_
   refine fa rfl (ro (ld r5 rfl rfl (qad (qae (fa rfl ?_)))))
   refine qab r0 rfl ⟨rfl, rfl, (nl rfl), ?_⟩
   exact eM aL (_, _, _, _, _, _, _, _, _)
   rintro ⟨aN, bg, bf, aQ, aU, aP, aV, aO, aX⟩ dH dC ⟨bK, bz, bw, bv, rfl⟩ dY
   refine qbe rfl ?_
   refine cs rfl rfl bm ?_ ?_ <;> intro eY bm
   exact eE (er bm hm)
   refine qat (qcn bI d8) ?_
   exact eR bm (_, (_, _), _, _, _, _, _, _, _, _)
   rw [lty w0, JT.eq_1] at bm
   refine cT ?_
   exact eM bm (_, _, _, _, _, _, _, _, _)
   rintro ⟨t0, bh, bj, aT, a8, aR, aY, aS, aZ⟩ fp fe ⟨dM, bO, bN, bM⟩ rfl j0
   replace hm := elg hm
   exact eE hm

def JbY (n : Nat) (program : Ja) (Ar : JH) : Option (Jk × Err) :=
  (JbD n program).bind fun au =>
  if au.2.isSome then
  some ((⟨([] : Str), ([] : Str), [], [], [], 0, 0, 0, false, false⟩ : Jk), au.2)
  else
  (JJ n (⟨Ar, (⟨Ar.Ae, Ar.Af, [], [], [], (-1), 0, 0, false, false⟩ : Jk), false⟩ : Jr) program.Aa []).bind fun aL =>
  if aL.1.isSome then
  some ((⟨([] : Str), ([] : Str), [], [], [], 0, 0, 0, false, false⟩ : Jk), aL.1)
  else
  some (aL.2.result, none)
theorem Je0 {n : Nat} {program : Ja} {Ar : JH} {aa : Option Addr} {ab : Nat} {ah : Option Addr} {aj : Nat} {K : Hp} {r : Jk × Err}
    (hm : JbY n program Ar = some r) (hX : LiC Ja.R K aa ab 4 program.Aa ∧ RdC Jg.enc K ah aj 2 Ar.Ao ∧ GG K) :
    Fn Tryz.prog 22 [.agg #[.int .i64 program.Ab, str program.Ac, .slice aa program.Aa.length ab, .int .i64 program.Ad], .agg #[str Ar.Am, str Ar.An, str Ar.Ae, str Ar.Af, .slice ah Ar.Ao.length aj]] K [] (fun v K' H' => ∃ ar_0 : Option Addr, ∃ cr_0 : Nat, ∃ ar_1 : Option Addr, ∃ cr_1 : Nat, ∃ ar_2 : Option Addr, ∃ cr_2 : Nat, v = .tuple #[.agg #[str r.1.Ae, str r.1.Af, .slice ar_0 r.1.Ag.length cr_0, .slice ar_1 r.1.Vary.length cr_1, .slice ar_2 r.1.Ah.length cr_2, .int .i64 r.1.TTL, .int .i64 r.1.Ai, .int .i64 r.1.Aj, .bool r.1.Ak, .bool r.1.Al], qcx 87 r.2] ∧ (0 < r.1.Ag.length → Has ar_0) ∧ (0 < r.1.Vary.length → Has ar_1) ∧ (0 < r.1.Ah.length → Has ar_2) ∧ H' = [OwnL Jg.enc ar_0 77 2 cr_0 r.1.Ag, OwnL eS ar_1 9 1 cr_1 r.1.Vary, OwnL eS ar_2 9 1 cr_2 r.1.Ah]) := by
 obtain ⟨ae, ag, hG⟩ := hX
 refine Fn.enter Tryz.func22 Tryz.call22 rfl fun F => ?_
 unfold JbY at hm
 refine qap ?_
 intro b2
 refine qap ?_
 intro b3
 refine qan rfl fun b4 => ?_
 refine ro (qag r2 rfl (nl rfl) ?_)
 refine cb hm fun au aU hm => cgx (Jdc aU :) ?_
 refine qbe rfl ?_
 refine cs rfl rfl hm ?_ ?_ <;> intro aW hm
 refine qak rfl rfl ?_
 refine qab r0 rfl ⟨rfl, rfl, (nl rfl), ?_⟩
 refine ro (qag r0 rfl (nl rfl) ?_)
 refine qi7 Jg.enc 77 2 ?_
 refine qi7 eS 9 1 ?_
 refine qi7 eS 9 1 ?_
 exact eE hm
 refine ro (qag r1 rfl (nl rfl) (fa rfl (ro (ld r1 rfl rfl (fa rfl (ro (ld r1 rfl rfl (qak rfl rfl (cT (cT ?_))))))))))
 refine cT (qak rfl rfl (cT (cT ?_)))
 refine qap ?_
 intro aX
 refine fa rfl (ro (ld r3 rfl rfl ?_))
 refine qv8 Tryz.call52 Jg.enc 77 2 ?_
 refine qv8 Tryz.call52 eS 9 1 ?_
 refine qv8 Tryz.call52 eS 9 1 ?_
 refine cb hm fun aZ aV hm => ckx (JcN aV :) ?_
 rintro _ _ _ ⟨aR, aT, aS, aQ, aM, aP, rfl, aL, aN, aO, rfl⟩
 refine qbe rfl ?_
 refine cs rfl rfl hm ?_ ?_ <;> intro aY hm
 refine qak rfl rfl ?_
 refine qab r4 rfl ⟨rfl, rfl, (nl rfl), ?_⟩
 refine ro (qag r0 rfl (nl rfl) ?_)
 refine qi7 Jg.enc 77 2 ?_
 refine qi7 eS 9 1 ?_
 refine qi7 eS 9 1 ?_
 exact eE hm
 refine qae (fa rfl (ro (qag r0 rfl (nl rfl) ?_)))
 refine qab r4 rfl ⟨rfl, rfl, (nl rfl), ?_⟩
 exact ro (qag r0 rfl (nl rfl) (eE hm))

def JcF (e : Err) : Option (Int) :=
  if e.isNone then
  some 0
  else
  if (!e.isSome) then
  some (-1)
  else
  some (e.getD 0)
theorem JeL {e : Err} {K : Hp} {r : Int}
    (hm : JcF e = some r)  :
    Fn Tryz.prog 17 [qcx 87 e] K [] (fun v K' H' => v = .int .i64 r ∧ H' = []) := by
 refine Fn.enter Tryz.func17 Tryz.call17 rfl fun F => ?_
 unfold JcF at hm
 refine qgl rfl ?_
 refine cs rfl rfl hm ?_ ?_ <;> intro w6 hm
 exact eE hm
 refine qz4 rfl rfl rfl ?_
 refine qaz ?_
 refine cs rfl rfl hm ?_ ?_ <;> intro aL hm
 exact eE hm
 exact eE hm

def JbI : List Jg → Nat → (List Jo) → Option ((List Jo))
  | [], _, ac => some ac
  | e0 :: aL, i0, ac =>
    (chk (ac.length + [(⟨e0.Name, e0.Value⟩ : Jo)].length ≤ lim)).bind fun _ =>
    JbI aL (i0 + 1) (ac ++ [(⟨e0.Name, e0.Value⟩ : Jo)])
def Jd2 (l : (List Jg)) : Option ((List Jo)) :=
  (chk (l.length ≤ qau)).bind fun _ =>
  (JbI l 0 []).bind fun t0 =>
  some t0
theorem Jfg {l : (List Jg)} {aa : Option Addr} {ab : Nat} {n0 : Nat} {K : Hp} {r : (List Jo)}
    (hm : Jd2 l = some r) (hX : RdC Jg.enc K aa ab 2 l ∧ n0 = l.length) :
    Fn Tryz.prog 56 [.slice aa n0 ab] K [] (fun v K' H' => ∃ ar_0 : Option Addr, ∃ cr_0 : Nat, v = .slice ar_0 r.length cr_0 ∧ (0 < r.length → Has ar_0) ∧ H' = [OwnL Jo.enc ar_0 90 2 cr_0 r]) := by
 obtain ⟨ae, aU⟩ := hX
 subst aU
 refine Fn.enter Tryz.func56 Tryz.call56 rfl fun F => ?_
 unfold Jd2 at hm
 refine ro (qai rfl ?_)
 obtain ⟨aV, hm⟩ := qa5 hm
 obtain ⟨s0, aN, hm⟩ := bnd hm
 refine qnr Jo.enc 90 2 ?_
 refine lD (σ := ((List Jo)) × Option Addr × Nat) ([3,5] ++ rg 8 13) [1] (fun i0 => [(8, .int .i64 (i0 : Int))]) (fun (t0, aL, aM) => [(3, .slice aL t0.length aM)]) (fun (t0, aL, aM) => [OwnL Jo.enc aL 90 2 aM t0]) (fun (t0, aL, aM) => (0 < t0.length → Has aL) ∧ True) (fun i0 (t0, aL, aM) => JbI (l.drop i0) i0 t0 = some s0) (fun (t0, aL, aM) => t0 = s0) (fun i0 => l.length - i0) 0 (_, _, _) aN (And.intro qe (And.intro ?_ ?_))
 clear aN
 rintro i0 ⟨ac, aR, aS⟩ ⟨aP, _⟩ aN j0
 conv at aN => whnf
 refine qaf rfl ?_
 refine qah ?_ ?_ <;> intro w0
 obtain ⟨e0, aO, aW⟩ := ltx w0
 rw [aW, JbI.eq_2] at aN
 refine qal rfl ?_
 refine RStep.ofN (qac rfl rfl (qdm ae.rd aO) (nn _) (qbr aO) (ro (qaj i0 _ ae.rd rfl (mp aO) rfl ?_)))
 refine qan rfl fun b5 => ?_
 refine qab r0 rfl ⟨rfl, rfl, (nl rfl), ?_⟩
 refine fa rfl (ro (ld r0 rfl rfl (fa rfl (ro (ld r0 rfl rfl (qak rfl rfl (cT (cT ?_))))))))
 refine bsO (len := 1) (enc := Jo.enc) (l := [(⟨e0.Name, e0.Value⟩ : Jo)]) (cl := [str e0.Name, str e0.Value]) qv5 rfl rfl (fun _ _ => rfl) rfl rfl rfl ?_ fun aX => ?_
 · conv => whnf
   refine cT ?_
   first | done | rfl
 obtain ⟨aT, aN⟩ := qa5 aN
 refine apE rfl r2 qv5 (qa6 rfl r0 rfl (fun _ => rfl) (fun _ => rfl)) aT ?_
 intro a8 aY aZ
 refine qat (qcn aO aV) ?_
 exact eR aN (_, _, _, _)
 rw [lty w0, JbI.eq_1] at aN
 refine cT ?_
 exact eM aN (_, _, _)
 rintro ⟨t0, aL, aM⟩ ⟨aQ, _⟩ rfl j0
 exact eE hm

def JcO (r' : Jk) : Option (Jq) :=
  (Jd2 r'.Ag).bind fun x9 =>
  some (⟨r'.Ae, r'.Af, x9, r'.Vary, r'.Ah, r'.TTL, r'.Ai, r'.Aj, r'.Ak, r'.Al⟩ : Jq)
theorem Jfh {r' : Jk} {aa : Option Addr} {ab : Nat} {af : Option Addr} {ak : Nat} {al : Option Addr} {am : Nat} {K : Hp} {r : Jq}
    (hm : JcO r' = some r) (hX : RdC Jg.enc K aa ab 2 r'.Ag ∧ RdC eS K af ak 1 r'.Vary ∧ RdC eS K al am 1 r'.Ah) :
    Fn Tryz.prog 26 [.agg #[str r'.Ae, str r'.Af, .slice aa r'.Ag.length ab, .slice af r'.Vary.length ak, .slice al r'.Ah.length am, .int .i64 r'.TTL, .int .i64 r'.Ai, .int .i64 r'.Aj, .bool r'.Ak, .bool r'.Al]] K [] (fun v K' H' => ∃ ar_0 : Option Addr, ∃ cr_0 : Nat, ∃ ar_1 : Option Addr, ∃ cr_1 : Nat, ∃ ar_2 : Option Addr, ∃ cr_2 : Nat, v = .agg #[str r.Ae, str r.Af, .slice ar_0 r.Ag.length cr_0, .slice ar_1 r.Vary.length cr_1, .slice ar_2 r.Ah.length cr_2, .int .i64 r.TTL, .int .i64 r.Ai, .int .i64 r.Aj, .bool r.Ak, .bool r.Al] ∧ RdC Jo.enc K' ar_0 cr_0 2 r.Ag ∧ RdC eS K' ar_1 cr_1 1 r.Vary ∧ RdC eS K' ar_2 cr_2 1 r.Ah ∧ H' = []) := by
 obtain ⟨ae, aL, aM⟩ := hX
 refine Fn.enter Tryz.func26 Tryz.call26 rfl fun F => ?_
 unfold JcO at hm
 refine qap ?_
 intro b1
 refine qan rfl fun b2 => ?_
 refine qa4 ⟨⟨[], false⟩, _, [(_, _)], []⟩ (by kernel_rfl) ⟨Hp.Le.refl _, (sc [1] rfl), ci0⟩ ?_
 refine fa rfl (qao m0 rfl rfl (fa rfl (qao m0 rfl rfl (fa rfl (qao m0 rfl rfl ?_)))))
 refine cb hm fun x9 q9 hm => ckx (Jfg q9 :) ?_
 rintro _ _ _ ⟨aP, aN, rfl, aO, rfl⟩
 refine qk (sc [2] rfl) ?_
 refine fa rfl (qao m0 rfl rfl (fa rfl (qao m0 rfl rfl (fa rfl (qao m0 rfl rfl (fa rfl (qao m0 rfl rfl ?_)))))))
 refine fa rfl (qao m0 rfl rfl (fa rfl (qao m0 rfl rfl (fa rfl (qao m0 rfl rfl (qak rfl rfl (cT ?_)))))))
 refine cT (cT (cT (cT (cT (cT (cT (cT ?_)))))))
 refine cT ?_
 refine qab r1 rfl ⟨rfl, rfl, (nl rfl), ?_⟩
 refine qk (sc [2] rfl) ?_
 refine ro (qag r0 rfl (nl rfl) ?_)
 refine fE r1 fun aS aR aQ => ?_
 exact eE hm

def JbZ (b : (List Jo)) : List Jg → Nat → Option (Fl (Bool) (Unit))
  | [], _ => some (Fl.go ())
  | e0 :: aN, i0 =>
    (ix b (i0 : Int)).bind fun aM =>
    (if decide (e0.Name ≠ aM.Name) then some true else (ix b (i0 : Int)).bind fun aO =>
    some (decide (e0.Value ≠ aO.Value))).bind fun aL =>
    if aL then
    some (Fl.ret false)
    else
    JbZ b aN (i0 + 1)
def Jdz (a : (List Jg)) (b : (List Jo)) : Option (Bool) :=
  if decide ((a.length : Int) ≠ (b.length : Int)) then
  some false
  else
  (chk (a.length ≤ qau)).bind fun _ =>
  (JbZ b a 0).bind fun s0 => s0.el some fun t0 =>
  some true
theorem Jfi {a : (List Jg)} {b : (List Jo)} {aa : Option Addr} {ab : Nat} {n0 : Nat} {ah : Option Addr} {aj : Nat} {n1 : Nat} {K : Hp} {r : Bool}
    (hm : Jdz a b = some r) (hX : RdC Jg.enc K aa ab 2 a ∧ n0 = a.length ∧ RdC Jo.enc K ah aj 2 b ∧ n1 = b.length) :
    Fn Tryz.prog 27 [.slice aa n0 ab, .slice ah n1 aj] K [] (fun v K' H' => v = .bool r ∧ H' = []) := by
 obtain ⟨ae, aU, ag, aX⟩ := hX
 subst aU
 subst aX
 refine Fn.enter Tryz.func27 Tryz.call27 rfl fun F => ?_
 unfold Jdz at hm
 refine ro (qai rfl (ro (qai rfl (qbd ?_))))
 refine cs rfl rfl hm ?_ ?_ <;> intro a8 hm
 exact eE hm
 refine ro (qai rfl ?_)
 obtain ⟨aV, hm⟩ := qa5 hm
 obtain ⟨s0, aM, hm⟩ := bnd hm
 refine lD (σ := (Unit)) ([4,5] ++ rg 13 28) [0] (fun i0 => [(13, .int .i64 (i0 : Int))]) (fun _ => []) (fun _ => []) (fun _ => True) (fun i0 _ => JbZ b (a.drop i0) i0 = some s0) (fun t0 => s0 = Fl.go t0) (fun i0 => a.length - i0) 0 () aM (And.intro qe (And.intro ?_ ?_))
 clear aM
 rintro i0 _ _ aM j0
 conv at aM => whnf
 refine qaf rfl ?_
 refine qah ?_ ?_ <;> intro w0
 obtain ⟨e0, aN, aW⟩ := ltx w0
 rw [aW, JbZ.eq_2] at aM
 refine qal rfl ?_
 refine qa4 ⟨⟨[], false⟩, _, [], []⟩ (by kernel_rfl) ⟨Hp.Le.refl _, (pf rfl), ci0⟩ ?_
 refine qac rfl rfl (qdm ae.rd aN) (nn _) (qbr aN) (qax rfl (qdm ae.rd aN) (qbm i0 0 _ _ ae.rd rfl (mp aN) rfl rfl ?_))
 obtain ⟨aY, aS, aP, aM⟩ := ixb aM
 refine qac rfl rfl (qdm ag.rd aP) aS (qaw rfl aS aP) (qax rfl (qdm ag.rd aP) (qbm (((i0 : Int)).toNat) 0 _ _ ag.rd rfl (mp aP) rfl rfl (qb2 ?_)))
 obtain ⟨aZ, aO, aM⟩ := bnd aM
 refine cS aO (fun aL aO => ?_) fun aL aO => ?_
 refine ct aL (ct aL (ct aL (ct aL (ct aL (ct aL (ct aL (ct aL ?_)))))))
 refine ct aL (ct aL (ct aL (qaf rfl (cT ?_))))
 replace aM := ift (si aO).symm aM
 exact eE (er aM hm)
 refine cf aL (cf aL (qac rfl rfl (qdm ae.rd aN) (nn _) (qbr aN) (cf aL (qax rfl (qdm ae.rd aN) (cf aL (qbm i0 1 _ _ ae.rd rfl (mp aN) rfl rfl (cf aL ?_)))))))
 refine cf aL (cf aL ?_)
 obtain ⟨ba, aT, aQ, aO⟩ := ixb aO
 refine qac rfl rfl (qdm ag.rd aQ) aT (qaw rfl aT aQ) (cf aL (qax rfl (qdm ag.rd aQ) (cf aL (qbm (((i0 : Int)).toNat) 1 _ _ ag.rd rfl (mp aQ) rfl rfl (cf aL (qb2 (cf aL ?_)))))))
 refine qaf rfl ?_
 refine qah ?_ ?_ <;> intro aR
 replace aM := ift ((si aO).symm.trans aR) aM
 exact eE (er aM hm)
 replace aM := qbs ((si aO).symm.trans aR) aM
 refine qat (qcn aN aV) ?_
 exact eR aM (_, ())
 rw [lty w0, JbZ.eq_1] at aM
 refine cT ?_
 exact eM aM _
 rintro t0 _ rfl j0
 replace hm := elg hm
 exact eE hm

def JbN (b : (List Str)) : List Str → Nat → Option (Fl (Bool) (Unit))
  | [], _ => some (Fl.go ())
  | e0 :: aL, i0 =>
    (ix b (i0 : Int)).bind fun aM =>
    if decide (e0 ≠ aM) then
    some (Fl.ret false)
    else
    JbN b aL (i0 + 1)
def JcG (a : (List Str)) (b : (List Str)) : Option (Bool) :=
  if decide ((a.length : Int) ≠ (b.length : Int)) then
  some false
  else
  (chk (a.length ≤ qau)).bind fun _ =>
  (JbN b a 0).bind fun s0 => s0.el some fun t0 =>
  some true
theorem Jd3 {a : (List Str)} {b : (List Str)} {aa : Option Addr} {ab : Nat} {n0 : Nat} {ah : Option Addr} {aj : Nat} {n1 : Nat} {K : Hp} {r : Bool}
    (hm : JcG a b = some r) (hX : RdC eS K aa ab 1 a ∧ n0 = a.length ∧ RdC eS K ah aj 1 b ∧ n1 = b.length) :
    Fn Tryz.prog 38 [.slice aa n0 ab, .slice ah n1 aj] K [] (fun v K' H' => v = .bool r ∧ H' = []) := by
 obtain ⟨ae, aP, ag, aS⟩ := hX
 subst aP
 subst aS
 refine Fn.enter Tryz.func38 Tryz.call38 rfl fun F => ?_
 unfold JcG at hm
 refine ro (qai rfl (ro (qai rfl (qbd ?_))))
 refine cs rfl rfl hm ?_ ?_ <;> intro aV hm
 exact eE hm
 refine ro (qai rfl ?_)
 obtain ⟨aQ, hm⟩ := qa5 hm
 obtain ⟨s0, aL, hm⟩ := bnd hm
 refine lD (σ := (Unit)) ([4,5] ++ rg 13 13) [0] (fun i0 => [(13, .int .i64 (i0 : Int))]) (fun _ => []) (fun _ => []) (fun _ => True) (fun i0 _ => JbN b (a.drop i0) i0 = some s0) (fun t0 => s0 = Fl.go t0) (fun i0 => a.length - i0) 0 () aL (And.intro qe (And.intro ?_ ?_))
 clear aL
 rintro i0 _ _ aL j0
 conv at aL => whnf
 refine qaf rfl ?_
 refine qah ?_ ?_ <;> intro w0
 obtain ⟨e0, aM, aR⟩ := ltx w0
 rw [aR, JbN.eq_2] at aL
 refine qal rfl ?_
 refine qa4 ⟨⟨[], false⟩, _, [], []⟩ (by kernel_rfl) ⟨Hp.Le.refl _, (pf rfl), ci0⟩ ?_
 refine qac rfl rfl (qdm ae.rd aM) (nn _) (qbr aM) (qbm i0 0 _ _ ae.rd rfl (mp aM) rfl rfl ?_)
 obtain ⟨aT, aO, aN, aL⟩ := ixb aL
 refine qac rfl rfl (qdm ag.rd aN) aO (qaw rfl aO aN) (qbm (((i0 : Int)).toNat) 0 _ _ ag.rd rfl (mp aN) rfl rfl (qb2 ?_))
 refine cs rfl rfl aL ?_ ?_ <;> intro aU aL
 exact eE (er aL hm)
 refine qat (qcn aM aQ) ?_
 exact eR aL (_, ())
 rw [lty w0, JbN.eq_1] at aL
 refine cT ?_
 exact eM aL _
 rintro t0 _ rfl j0
 replace hm := elg hm
 exact eE hm
