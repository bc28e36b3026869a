/- Functions of the program: mirrors, and that a call returns what the mirror says. Printed by gen.py. -/
import Derived.Test.YtmpdebfckeahmaaGreatDoorG3
set_option linter.unusedVariables false
set_option linter.unusedSimpArgs false
open Go Go.SL Go.Proofs
noncomputable section
set_option maxRecDepth 1000000
set_option maxHeartbeats 8000000
def JA (c : Jb) (jump : Int) : Option (Jb) :=
  (ix c.code jump).bind fun aL =>
  some (⟨(c.code.set ((jump).toNat) (⟨aL.Op, (c.code.length : Int), aL.S⟩ : Jc)), c.names, c.Ap⟩ : Jb)
theorem J0 {c : Jb} {jump : Int} {b0 : Nat} {aa : Option Addr} {ab : Nat} {ah : Option Addr} {ak : Nat} {K : Hp} {r : Jb}
    (hm : JA c jump = some r) (hX : (0 < c.code.length → Has aa) ∧ (0 < c.names.length → Has ah)) :
    Fn Tryz.prog 165 [.pointer (some ⟨b0, 0, none⟩), .int .i64 jump] K [Cells b0 134 [.slice aa c.code.length ab, .slice ah c.names.length ak, .int .i64 c.Ap], OwnL Jc.enc aa 54 3 ab c.code, OwnL Ji.enc ah 230 2 ak c.names] (fun v K' H' => ∃ ar_0 : Option Addr, ∃ cr_0 : Nat, ∃ ar_1 : Option Addr, ∃ cr_1 : Nat, v = .tuple #[] ∧ (0 < r.code.length → Has ar_0) ∧ (0 < r.names.length → Has ar_1) ∧ H' = [Cells b0 134 [.slice ar_0 r.code.length cr_0, .slice ar_1 r.names.length cr_1, .int .i64 r.Ap], OwnL Jc.enc ar_0 54 3 cr_0 r.code, OwnL Ji.enc ar_1 230 2 cr_1 r.names]) := by
 obtain ⟨ae, aM⟩ := hX
 refine Fn.enter Tryz.func165 Tryz.call165 rfl fun F => ?_
 unfold JA at hm
 refine qa6 ⟨⟨[], false⟩, _, [(_, _)], []⟩ (by kernel_rfl) ⟨Hp.Le.refl _, (pf rfl), ci0⟩ ?_
 refine qaf (fa rfl (qan m0 rfl rfl (qaf (fa rfl (qan m0 rfl rfl (qc1 rfl ?_))))))
 obtain ⟨aL, aO, aN, hm⟩ := ixb hm
 refine qac rfl rfl (qdj ae aN) aO (qax rfl aO aN) (qa0 rfl (qdj ae aN) ?_)
 refine qgq (o := 1) (y := (⟨aL.Op, (c.code.length : Int), aL.S⟩ : Jc)) aL r1 rfl aN rfl (by (conv => whnf); exact ⟨rfl, rfl, (nl rfl), rfl, rfl, rfl⟩) ?_
 refine qk (sc [1] rfl) ?_
 obtain rfl := si hm
 refine qwt r1 (congrArg (fun q_ : Nat => ([.slice aa q_ ab, .slice ah c.names.length ak, .int .i64 c.Ap] : List Value)) (show c.code.length = (c.code.set ((jump).toNat) (⟨aL.Op, (c.code.length : Int), aL.S⟩ : Jc)).length from ((rfl).trans List.length_set.symm))) ?_
 exact en lr ⟨aa, ab, ah, ak, rfl, (by first | simpa using ae | exact fun _ => ⟨_, _, rfl⟩), aM, rfl⟩ (pf rfl)

def J3 (az : (Jb → Ja → Option (Jb))) (n : Nat) (c : Jb) (n' : Ja) (operator : Str) : Option (Jb) :=
  (ix n'.Aa 0).bind fun x9 =>
  (az c x9).bind fun aM =>
  (ix n'.Aa 1).bind fun aN =>
  (az aM aN).bind fun aO =>
  (Jd aO 7 0 operator).bind fun aL =>
  some aL.2
theorem Ja8 {az : (Jb → Ja → Option (Jb))} (ihrec1_0 : ∀ {c : Jb} {n' : Ja} {b0 : Nat} {aa : Option Addr} {ab : Nat} {ah : Option Addr} {ak : Nat} {af : Option Addr} {ag : Nat} {K : Hp} {r : Jb} (hm : az c n' = some r) (hX : (0 < c.code.length → Has aa) ∧ (0 < c.names.length → Has ah) ∧ LiC Ja.R K af ag 4 n'.Aa), Fn Tryz.prog 136 [.pointer (some ⟨b0, 0, none⟩), .agg #[.int .i64 n'.Ab, str n'.Ac, .slice af n'.Aa.length ag, .int .i64 n'.Ad]] K [Cells b0 134 [.slice aa c.code.length ab, .slice ah c.names.length ak, .int .i64 c.Ap], OwnL Jc.enc aa 54 3 ab c.code, OwnL Ji.enc ah 230 2 ak c.names] (fun v K' H' => ∃ ar_0 : Option Addr, ∃ cr_0 : Nat, ∃ ar_1 : Option Addr, ∃ cr_1 : Nat, v = .tuple #[] ∧ (0 < r.code.length → Has ar_0) ∧ (0 < r.names.length → Has ar_1) ∧ H' = [Cells b0 134 [.slice ar_0 r.code.length cr_0, .slice ar_1 r.names.length cr_1, .int .i64 r.Ap], OwnL Jc.enc ar_0 54 3 cr_0 r.code, OwnL Ji.enc ar_1 230 2 cr_1 r.names])) {n : Nat} {c : Jb} {n' : Ja} {operator : Str} {b0 : Nat} {aa : Option Addr} {ab : Nat} {ah : Option Addr} {ak : Nat} {af : Option Addr} {ag : Nat} {K : Hp} {r : Jb}
    (hm : J3 az n c n' operator = some r) (hX : (0 < c.code.length → Has aa) ∧ (0 < c.names.length → Has ah) ∧ LiC Ja.R K af ag 4 n'.Aa) :
    Fn Tryz.prog 169 [.pointer (some ⟨b0, 0, none⟩), .agg #[.int .i64 n'.Ab, str n'.Ac, .slice af n'.Aa.length ag, .int .i64 n'.Ad], str operator] K [Cells b0 134 [.slice aa c.code.length ab, .slice ah c.names.length ak, .int .i64 c.Ap], OwnL Jc.enc aa 54 3 ab c.code, OwnL Ji.enc ah 230 2 ak c.names] (fun v K' H' => ∃ ar_0 : Option Addr, ∃ cr_0 : Nat, ∃ ar_1 : Option Addr, ∃ cr_1 : Nat, v = .tuple #[] ∧ (0 < r.code.length → Has ar_0) ∧ (0 < r.names.length → Has ar_1) ∧ H' = [Cells b0 134 [.slice ar_0 r.code.length cr_0, .slice ar_1 r.names.length cr_1, .int .i64 r.Ap], OwnL Jc.enc ar_0 54 3 cr_0 r.code, OwnL Ji.enc ar_1 230 2 cr_1 r.names]) := by
 obtain ⟨ae, bw, aj⟩ := hX
 refine Fn.enter Tryz.func169 Tryz.call169 rfl fun F => ?_
 unfold J3 at hm
 refine qaq ?_
 intro b4
 refine fa rfl (ro (ld r0 rfl rfl ?_))
 obtain ⟨x9, l9, k9, hm⟩ := ixb hm
 refine RStep.ofN (qac rfl rfl (qcl aj.rd k9) l9 (qax rfl l9 k9) ?_)
 obtain ⟨bF, bJ, aN, aP, aR⟩ := LiR.get aj.rd k9
 obtain ⟨bA, aW, rfl, bm⟩ := Ja.out aR
 refine ro (qaj ((0 : Int).toNat) _ aN rfl aP rfl ?_)
 refine cb hm fun bK bI hm => ckx (ihrec1_0 bI :) ?_
 rintro _ _ _ ⟨aT, aZ, bh, bg, rfl, bo, bv, rfl⟩
 refine fa rfl (ro (ld r3 rfl rfl ?_))
 obtain ⟨bL, aS, aM, hm⟩ := ixb hm
 refine RStep.ofN (qac rfl rfl (qcl aj.rd aM) aS (qax rfl aS aM) ?_)
 obtain ⟨bD, bG, aQ, aO, aL⟩ := LiR.get aj.rd aM
 obtain ⟨a8, ba, rfl, bz⟩ := Ja.out aL
 refine ro (qaj ((1 : Int).toNat) _ aQ rfl aO rfl ?_)
 refine cb hm fun bN bH hm => ckx (ihrec1_0 bH :) ?_
 rintro _ _ _ ⟨bn, bu, aU, bb, rfl, bp, aX, rfl⟩
 refine cb hm fun bM bC hm => ckx (Jh bC :) ?_
 rintro _ _ _ ⟨aV, bj, bB, bf, rfl, bt, aY, rfl⟩
 exact eE hm

def JB : Nat → Jb → Ja → Option (Jb)
  | 0, _, _ => none
  | n + 1, c, n' =>
    if decide (n'.Ab = 20) then
    (qnr n'.Ac).bind fun bb =>
    if bb.2.isSome then
    (Jd c 1 0 ([] : Str)).bind fun aT =>
    some aT.2
    else
    (Jd c 1 bb.1 ([] : Str)).bind fun aT =>
    some aT.2
    else
    if decide (n'.Ab = 21) then
    (Jd c 2 0 n'.Ac).bind fun bw =>
    some bw.2
    else
    if decide (n'.Ab = 22) then
    (JX c (decide (n'.Ac = ([116, 114, 117, 101] : Str)))).bind fun bn =>
    some bn
    else
    if decide (n'.Ab = 23) then
    (Ja3 n c n'.Ac).bind fun bp =>
    some bp
    else
    if decide (n'.Ab = 24) then
    (ix n'.Aa 0).bind fun bv =>
    ((JB n) c bv).bind fun bm =>
    (Jd bm 6 0 n'.Ac).bind fun bz =>
    some bz.2
    else
    if decide (n'.Ab = 15) then
    (ix n'.Aa 0).bind fun bB =>
    ((JB n) c bB).bind fun bg =>
    (Jd bg 8 0 ([] : Str)).bind fun bf =>
    some bf.2
    else
    if decide (n'.Ab = 17) then
    (J3 (JB n) n c n' ([43] : Str)).bind fun bt =>
    some bt
    else
    if decide (n'.Ab = 18) then
    (J3 (JB n) n c n' ([45] : Str)).bind fun bo =>
    some bo
    else
    if decide (n'.Ab = 19) then
    (J3 (JB n) n c n' ([42] : Str)).bind fun bu =>
    some bu
    else
    if decide (n'.Ab = 16) then
    (J3 (JB n) n c n' n'.Ac).bind fun bj =>
    some bj
    else
    if decide (n'.Ab = 14) then
    (ix n'.Aa 0).bind fun bh =>
    ((JB n) c bh).bind fun bA =>
    (Jd bA 10 0 ([] : Str)).bind fun ba =>
    (ix n'.Aa 1).bind fun aV =>
    ((JB n) ba.2 aV).bind fun aS =>
    (Jd aS 9 0 ([] : Str)).bind fun aL =>
    (JA aL.2 ba.1).bind fun aZ =>
    (JX aZ false).bind fun aU =>
    (JA aU aL.1).bind fun aY =>
    some aY
    else
    if decide (n'.Ab = 13) then
    (ix n'.Aa 0).bind fun aW =>
    ((JB n) c aW).bind fun aP =>
    (Jd aP 10 0 ([] : Str)).bind fun aM =>
    (JX aM.2 true).bind fun a8 =>
    (Jd a8 9 0 ([] : Str)).bind fun aN =>
    (JA aN.2 aM.1).bind fun aR =>
    (ix n'.Aa 1).bind fun aX =>
    ((JB n) aR aX).bind fun aO =>
    (JA aO aN.1).bind fun aQ =>
    some aQ
    else
    some c
theorem Jcc : ∀ {n : Nat} {c : Jb} {n' : Ja} {b0 : Nat} {aa : Option Addr} {ab : Nat} {ah : Option Addr} {ak : Nat} {af : Option Addr} {ag : Nat} {K : Hp} {r : Jb}
    (hm : JB n c n' = some r) (hX : (0 < c.code.length → Has aa) ∧ (0 < c.names.length → Has ah) ∧ LiC Ja.R K af ag 4 n'.Aa),
    Fn Tryz.prog 136 [.pointer (some ⟨b0, 0, none⟩), .agg #[.int .i64 n'.Ab, str n'.Ac, .slice af n'.Aa.length ag, .int .i64 n'.Ad]] K [Cells b0 134 [.slice aa c.code.length ab, .slice ah c.names.length ak, .int .i64 c.Ap], OwnL Jc.enc aa 54 3 ab c.code, OwnL Ji.enc ah 230 2 ak c.names] (fun v K' H' => ∃ ar_0 : Option Addr, ∃ cr_0 : Nat, ∃ ar_1 : Option Addr, ∃ cr_1 : Nat, v = .tuple #[] ∧ (0 < r.code.length → Has ar_0) ∧ (0 < r.names.length → Has ar_1) ∧ H' = [Cells b0 134 [.slice ar_0 r.code.length cr_0, .slice ar_1 r.names.length cr_1, .int .i64 r.Ap], OwnL Jc.enc ar_0 54 3 cr_0 r.code, OwnL Ji.enc ar_1 230 2 cr_1 r.names]) := by
 intro n
 induction n with
 | zero =>
   intro c n' b0 aa ab ah ak af ag K r hm hX
   rw [JB.eq_1] at hm; cases hm
 | succ n ih =>
   intro c n' b0 aa ab ah ak af ag K r hm hX
   obtain ⟨ae, eL, aj⟩ := hX
   refine Fn.enter Tryz.func136 Tryz.call136 rfl fun F => ?_
   rw [JB.eq_2] at hm
   refine qaq ?_
   intro b3
   refine fa rfl (ro (ld r0 rfl rfl ?_))
   refine qal rfl ?_
   refine qad (cs rfl rfl hm ?_ ?_) <;> intro iD hm
   refine fa rfl (ro (ld r0 rfl rfl ?_))
   refine cb hm fun hU gv hm => cg0 (qv8 (E := 87) gv) ?_
   refine qbh rfl ?_
   refine cs rfl rfl hm ?_ ?_ <;> intro ie hm
   refine cb hm fun gq bz hm => ckx (Jh bz :) ?_
   rintro _ _ _ ⟨aV, aZ, ba, aU, rfl, bf, aO, rfl⟩
   exact eE hm
   refine cb hm fun gq bz hm => ckx (Jh bz :) ?_
   rintro _ _ _ ⟨aV, aZ, ba, aU, rfl, bf, aO, rfl⟩
   exact eE hm
   refine qad (cs rfl rfl hm ?_ ?_) <;> intro hZ hm
   refine fa rfl (ro (ld r0 rfl rfl ?_))
   refine cb hm fun iy gW hm => ckx (Jh gW :) ?_
   rintro _ _ _ ⟨ez, fO, fW, fN, rfl, fG, fS, rfl⟩
   exact eE hm
   refine qad (cs rfl rfl hm ?_ ?_) <;> intro hY hm
   refine fa rfl (ro (ld r0 rfl rfl (qat ?_)))
   refine cb hm fun iC gI hm => ckx (Jbx gI :) ?_
   rintro _ _ _ ⟨fY, d8, eQ, fu, rfl, dP, eK, rfl⟩
   exact eE hm
   refine qad (cs rfl rfl hm ?_ ?_) <;> intro io hm
   refine fa rfl (ro (ld r0 rfl rfl ?_))
   refine cb hm fun ia gR hm => ckx (Jc3 gR :) ?_
   rintro _ _ _ ⟨gl, gf, eH, eC, rfl, dQ, ey, rfl⟩
   exact eE hm
   refine qad (cs rfl rfl hm ?_ ?_) <;> intro iq hm
   refine fa rfl (ro (ld r0 rfl rfl ?_))
   obtain ⟨ij, fo, cP, hm⟩ := ixb hm
   refine RStep.ofN (qac rfl rfl (qcl aj.rd cP) fo (qax rfl fo cP) ?_)
   obtain ⟨gL, gT, bp, cM, bV⟩ := LiR.get aj.rd cP
   obtain ⟨ei, dU, rfl, d3⟩ := Ja.out bV
   refine ro (qaj ((0 : Int).toNat) _ bp rfl cM rfl ?_)
   refine cb hm fun ic gE hm => ckx (ih gE :) ?_
   rintro _ _ _ ⟨ge, ff, fh, dT, rfl, fB, dZ, rfl⟩
   refine fa rfl (ro (ld r3 rfl rfl ?_))
   refine cb hm fun iz gp hm => ckx (Jh gp :) ?_
   rintro _ _ _ ⟨gk, eD, d5, gi, rfl, fb, d4, rfl⟩
   exact eE hm
   refine qad (cs rfl rfl hm ?_ ?_) <;> intro ib hm
   refine fa rfl (ro (ld r0 rfl rfl ?_))
   obtain ⟨iA, ga, dw, hm⟩ := ixb hm
   refine RStep.ofN (qac rfl rfl (qcl aj.rd dw) ga (qax rfl ga dw) ?_)
   obtain ⟨gC, gy, cU, c9, cB⟩ := LiR.get aj.rd dw
   obtain ⟨fw, gh, rfl, ej⟩ := Ja.out cB
   refine ro (qaj ((0 : Int).toNat) _ cU rfl c9 rfl ?_)
   refine cb hm fun hH gu hm => ckx (ih gu :) ?_
   rintro _ _ _ ⟨dV, fQ, ek, fI, rfl, dS, fM, rfl⟩
   refine cb hm fun iB gr hm => ckx (Jh gr :) ?_
   rintro _ _ _ ⟨fv, d7, eG, fl, rfl, fR, fA, rfl⟩
   exact eE hm
   refine qad (cs rfl rfl hm ?_ ?_) <;> intro iv hm
   refine ro (qah r0 rfl (nl rfl) ?_)
   refine cb hm fun ik gP hm => ckx (Ja8 ih gP :) ?_
   rintro _ _ _ ⟨dW, fU, fV, fJ, rfl, fj, d6, rfl⟩
   exact eE hm
   refine qad (cs rfl rfl hm ?_ ?_) <;> intro iu hm
   refine ro (qah r0 rfl (nl rfl) ?_)
   refine cb hm fun ig gS hm => ckx (Ja8 ih gS :) ?_
   rintro _ _ _ ⟨eX, fK, fT, fH, rfl, fq, fc, rfl⟩
   exact eE hm
   refine qad (cs rfl rfl hm ?_ ?_) <;> intro iw hm
   refine ro (qah r0 rfl (nl rfl) ?_)
   refine cb hm fun il gV hm => ckx (Ja8 ih gV :) ?_
   rintro _ _ _ ⟨em, fm, e8, fZ, rfl, ep, d9, rfl⟩
   exact eE hm
   refine qad (cs rfl rfl hm ?_ ?_) <;> intro ir hm
   refine ro (qah r0 rfl (nl rfl) (fa rfl (ro (ld r0 rfl rfl ?_))))
   refine cb hm fun ip gA hm => ckx (Ja8 ih gA :) ?_
   rintro _ _ _ ⟨dY, gj, fP, gb, rfl, eZ, fe, rfl⟩
   exact eE hm
   refine qad (cs rfl rfl hm ?_ ?_) <;> intro hJ hm
   refine fa rfl (ro (ld r0 rfl rfl ?_))
   obtain ⟨ii, eu, de, hm⟩ := ixb hm
   refine RStep.ofN (qac rfl rfl (qcl aj.rd de) eu (qax rfl eu de) ?_)
   obtain ⟨gF, gZ, cL, cZ, cz⟩ := LiR.get aj.rd de
   obtain ⟨fk, fp, rfl, eo⟩ := Ja.out cz
   refine ro (qaj ((0 : Int).toNat) _ cL rfl cZ rfl ?_)
   refine cb hm fun iE gx hm => ckx (ih gx :) ?_
   rintro _ _ _ ⟨dX, fD, dR, fy, rfl, dN, eF, rfl⟩
   refine cb hm fun im gO hm => ckx (Jh gO :) ?_
   rintro _ _ _ ⟨f9, gc, e9, gm, rfl, dO, fL, rfl⟩
   refine fa rfl (ro (ld r3 rfl rfl ?_))
   obtain ⟨gM, bb, aL, hm⟩ := ixb hm
   refine RStep.ofN (qac rfl rfl (qcl aj.rd aL) bb (qax rfl bb aL) ?_)
   obtain ⟨fC, eV, aY, aQ, bg⟩ := LiR.get aj.rd aL
   obtain ⟨cD, bM, rfl, ce⟩ := Ja.out bg
   refine ro (qaj ((1 : Int).toNat) _ aY rfl aQ rfl ?_)
   refine cb hm fun gK bU hm => ckx (ih bU :) ?_
   rintro _ _ _ ⟨dl, bn, bF, dM, rfl, bN, dk, rfl⟩
   refine cb hm fun gz cr hm => ckx (Jh cr :) ?_
   rintro _ _ _ ⟨bA, bY, cJ, dK, rfl, bH, bm, rfl⟩
   refine cb hm fun g9 cX hm => ckx (J0 cX :) ?_
   rintro _ _ _ ⟨cQ, dm, bD, bZ, rfl, dE, dA, rfl⟩
   refine cb hm fun gw cO hm => ckx (Jbx cO :) ?_
   rintro _ _ _ ⟨dq, bJ, cV, cK, rfl, bS, bt, rfl⟩
   refine cb hm fun gN dI hm => ckx (J0 dI :) ?_
   rintro _ _ _ ⟨ca, dL, cH, bO, rfl, dC, cW, rfl⟩
   exact eE hm
   refine qad (cs rfl rfl hm ?_ ?_) <;> intro gD hm
   refine fa rfl (ro (ld r0 rfl rfl ?_))
   obtain ⟨gQ, a8, aM, hm⟩ := ixb hm
   refine RStep.ofN (qac rfl rfl (qcl aj.rd aM) a8 (qax rfl a8 aM) ?_)
   obtain ⟨eJ, fg, aS, aR, bh⟩ := LiR.get aj.rd aM
   obtain ⟨bo, bQ, rfl, cw⟩ := Ja.out bh
   refine ro (qaj ((0 : Int).toNat) _ aS rfl aR rfl ?_)
   refine cb hm fun gY dc hm => ckx (ih dc :) ?_
   rintro _ _ _ ⟨dJ, dD, cj, bG, rfl, cd, bI, rfl⟩
   refine cb hm fun gn dF hm => ckx (Jh dF :) ?_
   rintro _ _ _ ⟨cY, bK, cu, c8, rfl, bj, dy, rfl⟩
   refine cb hm fun gH dt hm => ckx (Jbx dt :) ?_
   rintro _ _ _ ⟨bT, c6, cm, cA, rfl, cn, bX, rfl⟩
   refine cb hm fun gG bL hm => ckx (Jh bL :) ?_
   rintro _ _ _ ⟨dh, bB, cC, db, rfl, dj, du, rfl⟩
   refine cb hm fun gB bv hm => ckx (J0 bv :) ?_
   rintro _ _ _ ⟨dG, da, di, df, rfl, dx, cR, rfl⟩
   refine fa rfl (ro (ld r3 rfl rfl ?_))
   obtain ⟨gX, aX, aN, hm⟩ := ixb hm
   refine RStep.ofN (qac rfl rfl (qcl aj.rd aN) aX (qax rfl aX aN) ?_)
   obtain ⟨fX, eY, aP, aT, aW⟩ := LiR.get aj.rd aN
   obtain ⟨cq, dp, rfl, cI⟩ := Ja.out aW
   refine ro (qaj ((1 : Int).toNat) _ aP rfl aT rfl ?_)
   refine cb hm fun gJ bP hm => ckx (ih bP :) ?_
   rintro _ _ _ ⟨bC, bW, c5, dH, rfl, bR, dv, rfl⟩
   refine cb hm fun gU bw hm => ckx (J0 bw :) ?_
   rintro _ _ _ ⟨cp, cG, dz, bu, rfl, dg, dB, rfl⟩
   exact eE hm
   exact eE hm

def J8 (au : (Jb → (List Ja) → Option (Jb))) : Nat → Jb → Ja → Option (Jb)
  | 0, _, _ => none
  | n + 1, c, n' =>
    (ix n'.Aa 0).bind fun x9 =>
    (JB n c x9).bind fun aS =>
    (Jd aS 10 0 ([] : Str)).bind fun aM =>
    (ix n'.Aa 1).bind fun aV =>
    (au aM.2 aV.Aa).bind fun aO =>
    if decide ((n'.Aa.length : Int) = 2) then
    (JA aO aM.1).bind fun aW =>
    some aW
    else
    (Jd aO 9 0 ([] : Str)).bind fun aN =>
    (JA aN.2 aM.1).bind fun aP =>
    (ix n'.Aa 2).bind fun aX =>
    if decide (aX.Ab = 2) then
    (ix n'.Aa 2).bind fun aQ =>
    ((J8 au n) aP aQ).bind fun aR =>
    (JA aR aN.1).bind fun aL =>
    some aL
    else
    (ix n'.Aa 2).bind fun aU =>
    (au aP aU.Aa).bind fun aT =>
    (JA aT aN.1).bind fun aL =>
    some aL
theorem JcQ {au : (Jb → (List Ja) → Option (Jb))} (ihrec2_0 : ∀ {c : Jb} {list : (List Ja)} {b0 : Nat} {aa : Option Addr} {ab : Nat} {ah : Option Addr} {ak : Nat} {af : Option Addr} {ag : Nat} {n1 : Nat} {K : Hp} {r : Jb} (hm : au c list = some r) (hX : (0 < c.code.length → Has aa) ∧ (0 < c.names.length → Has ah) ∧ LiC Ja.R K af ag 4 list ∧ n1 = list.length), Fn Tryz.prog 57 [.pointer (some ⟨b0, 0, none⟩), .slice af n1 ag] K [Cells b0 134 [.slice aa c.code.length ab, .slice ah c.names.length ak, .int .i64 c.Ap], OwnL Jc.enc aa 54 3 ab c.code, OwnL Ji.enc ah 230 2 ak c.names] (fun v K' H' => ∃ ar_0 : Option Addr, ∃ cr_0 : Nat, ∃ ar_1 : Option Addr, ∃ cr_1 : Nat, v = .tuple #[] ∧ (0 < r.code.length → Has ar_0) ∧ (0 < r.names.length → Has ar_1) ∧ H' = [Cells b0 134 [.slice ar_0 r.code.length cr_0, .slice ar_1 r.names.length cr_1, .int .i64 r.Ap], OwnL Jc.enc ar_0 54 3 cr_0 r.code, OwnL Ji.enc ar_1 230 2 cr_1 r.names])) : ∀ {n : Nat} {c : Jb} {n' : Ja} {b0 : Nat} {aa : Option Addr} {ab : Nat} {ah : Option Addr} {ak : Nat} {af : Option Addr} {ag : Nat} {K : Hp} {r : Jb}
    (hm : J8 au n c n' = some r) (hX : (0 < c.code.length → Has aa) ∧ (0 < c.names.length → Has ah) ∧ LiC Ja.R K af ag 4 n'.Aa),
    Fn Tryz.prog 135 [.pointer (some ⟨b0, 0, none⟩), .agg #[.int .i64 n'.Ab, str n'.Ac, .slice af n'.Aa.length ag, .int .i64 n'.Ad]] K [Cells b0 134 [.slice aa c.code.length ab, .slice ah c.names.length ak, .int .i64 c.Ap], OwnL Jc.enc aa 54 3 ab c.code, OwnL Ji.enc ah 230 2 ak c.names] (fun v K' H' => ∃ ar_0 : Option Addr, ∃ cr_0 : Nat, ∃ ar_1 : Option Addr, ∃ cr_1 : Nat, v = .tuple #[] ∧ (0 < r.code.length → Has ar_0) ∧ (0 < r.names.length → Has ar_1) ∧ H' = [Cells b0 134 [.slice ar_0 r.code.length cr_0, .slice ar_1 r.names.length cr_1, .int .i64 r.Ap], OwnL Jc.enc ar_0 54 3 cr_0 r.code, OwnL Ji.enc ar_1 230 2 cr_1 r.names]) := by
 intro n
 induction n with
 | zero =>
   intro c n' b0 aa ab ah ak af ag K r hm hX
   rw [J8.eq_1] at hm; cases hm
 | succ n ih =>
   intro c n' b0 aa ab ah ak af ag K r hm hX
   obtain ⟨ae, cK, aj⟩ := hX
   refine Fn.enter Tryz.func135 Tryz.call135 rfl fun F => ?_
   rw [J8.eq_2] at hm
   refine qaq ?_
   intro b3
   refine fa rfl (ro (ld r0 rfl rfl ?_))
   obtain ⟨x9, l9, k9, hm⟩ := ixb hm
   refine RStep.ofN (qac rfl rfl (qcl aj.rd k9) l9 (qax rfl l9 k9) ?_)
   obtain ⟨df, dm, bo, bn, bp⟩ := LiR.get aj.rd k9
   obtain ⟨cL, bz, rfl, bK⟩ := Ja.out bp
   refine ro (qaj ((0 : Int).toNat) _ bo rfl bn rfl ?_)
   refine cb hm fun dK dv hm => ckx (Jcc dv :) ?_
   rintro _ _ _ ⟨bu, bB, ca, bH, rfl, cn, cq, rfl⟩
   refine cb hm fun dI dj hm => ckx (Jh dj :) ?_
   rintro _ _ _ ⟨c9, cr, bA, bU, rfl, c6, c5, rfl⟩
   refine fa rfl (ro (ld r3 rfl rfl ?_))
   obtain ⟨dC, cG, aT, hm⟩ := ixb hm
   refine RStep.ofN (qac rfl rfl (qcl aj.rd aT) cG (qax rfl cG aT) (qa0 rfl (qcl aj.rd aT) ?_))
   obtain ⟨dq, du, bf, aY, aW⟩ := LiR.get aj.rd aT
   obtain ⟨bP, cH, rfl, cW⟩ := Ja.out aW
   refine ro (qcw ((1 : Int).toNat) 2 _ _ bf rfl aY rfl rfl ?_)
   refine cb hm fun dE db hm => ckx (ihrec2_0 db :) ?_
   rintro _ _ _ ⟨cO, bZ, cM, cV, rfl, cp, cR, rfl⟩
   refine fa rfl (ro (ld r3 rfl rfl (ro (qai rfl (qad ?_)))))
   refine cs rfl rfl hm ?_ ?_ <;> intro dA hm
   refine cb hm fun dJ dy hm => ckx (J0 dy :) ?_
   rintro _ _ _ ⟨cI, bN, ce, bD, rfl, cd, cz, rfl⟩
   exact eE hm
   refine cb hm fun dB dg hm => ckx (Jh dg :) ?_
   rintro _ _ _ ⟨cu, bL, cQ, bt, rfl, bT, bw, rfl⟩
   refine cb hm fun dL de hm => ckx (J0 de :) ?_
   rintro _ _ _ ⟨bR, bX, cw, bJ, rfl, cY, bQ, rfl⟩
   refine fa rfl (ro (ld r3 rfl rfl ?_))
   obtain ⟨dH, cj, aS, hm⟩ := ixb hm
   refine RStep.ofN (qac rfl rfl (qcl aj.rd aS) cj (qax rfl cj aS) (qa0 rfl (qcl aj.rd aS) ?_))
   obtain ⟨dh, dt, bg, bb, bh⟩ := LiR.get aj.rd aS
   obtain ⟨cC, bY, rfl, bC⟩ := Ja.out bh
   refine ro (qcw ((2 : Int).toNat) 0 _ _ bg rfl bb rfl rfl (qad ?_))
   refine cs rfl rfl hm ?_ ?_ <;> intro dD hm
   refine fa rfl (ro (ld r3 rfl rfl ?_))
   obtain ⟨dz, da, a8, hm⟩ := ixb hm
   refine RStep.ofN (qac rfl rfl (qcl aj.rd a8) da (qax rfl da a8) ?_)
   obtain ⟨dw, dp, bj, aV, ba⟩ := LiR.get aj.rd a8
   obtain ⟨c8, cU, rfl, bF⟩ := Ja.out ba
   refine ro (qaj ((2 : Int).toNat) _ bj rfl aV rfl ?_)
   refine cb hm fun dF dk hm => ckx (ih dk :) ?_
   rintro _ _ _ ⟨bS, cD, bG, cJ, rfl, cA, bv, rfl⟩
   refine cb hm fun dl aZ hm => ckx (J0 aZ :) ?_
   rintro _ _ _ ⟨aQ, aN, aP, aM, rfl, aO, aL, rfl⟩
   exact eE hm
   refine fa rfl (ro (ld r3 rfl rfl ?_))
   obtain ⟨dM, cB, aR, hm⟩ := ixb hm
   refine RStep.ofN (qac rfl rfl (qcl aj.rd aR) cB (qax rfl cB aR) (qa0 rfl (qcl aj.rd aR) ?_))
   obtain ⟨dc, di, aX, aU, bm⟩ := LiR.get aj.rd aR
   obtain ⟨cm, bO, rfl, bW⟩ := Ja.out bm
   refine ro (qcw ((2 : Int).toNat) 2 _ _ aX rfl aU rfl rfl ?_)
   refine cb hm fun dG dx hm => ckx (ihrec2_0 dx :) ?_
   rintro _ _ _ ⟨cP, cX, cZ, bM, rfl, bI, bV, rfl⟩
   refine cb hm fun dl aZ hm => ckx (J0 aZ :) ?_
   rintro _ _ _ ⟨aQ, aN, aP, aM, rfl, aO, aL, rfl⟩
   exact eE hm

def Jay (au : (Jb → (List Ja) → Option (Jb))) (n : Nat) (c : Jb) (n' : Ja) : Option (Jb) :=
  if decide (n'.Ab = 2) then
  (J8 au n c n').bind fun x9 =>
  some x9
  else
  if decide ((n'.Aa.length : Int) > 0) then
  (ix n'.Aa 0).bind fun aV =>
  (JB n c aV).bind fun aM =>
  if decide (n'.Ab = 3) then
  (Jd aM 4 aM.Ap ([] : Str)).bind fun aL =>
  (chk (aL.2.names.length + [(⟨n'.Ac, aL.2.Ap⟩ : Ji)].length ≤ lim)).bind fun _ =>
  (chk (InI (aL.2.Ap + 1))).bind fun _ =>
  some (⟨aL.2.code, (aL.2.names ++ [(⟨n'.Ac, aL.2.Ap⟩ : Ji)]), (aL.2.Ap + 1)⟩ : Jb)
  else
  if decide (n'.Ab = 4) then
  (Jd aM 11 0 n'.Ac).bind fun aO =>
  some aO.2
  else
  if decide (n'.Ab = 5) then
  (chk (([104, 101, 97, 100, 101, 114, 58] : Str).length + n'.Ac.length ≤ lim)).bind fun _ =>
  (Jd aM 11 0 (([104, 101, 97, 100, 101, 114, 58] : Str) ++ n'.Ac)).bind fun aN =>
  some aN.2
  else
  if decide (n'.Ab = 6) then
  (chk (([118, 97, 114, 121, 58] : Str).length + n'.Ac.length ≤ lim)).bind fun _ =>
  (Jd aM 11 0 (([118, 97, 114, 121, 58] : Str) ++ n'.Ac)).bind fun aR =>
  some aR.2
  else
  if decide (n'.Ab = 7) then
  (Jd aM 11 0 ([116, 97, 103] : Str)).bind fun aQ =>
  some aQ.2
  else
  if decide (n'.Ab = 8) then
  (Jd aM 11 0 ([116, 116, 108] : Str)).bind fun aP =>
  some aP.2
  else
  if decide (n'.Ab = 9) then
  (Jd aM 11 0 ([100, 101, 110, 121] : Str)).bind fun aU =>
  some aU.2
  else
  if decide (n'.Ab = 10) then
  (Jd aM 11 0 ([112, 97, 115, 115] : Str)).bind fun aT =>
  some aT.2
  else
  if decide (n'.Ab = 11) then
  (Jd aM 11 0 ([116, 111, 107, 101, 110] : Str)).bind fun aS =>
  some aS.2
  else
  some aM
  else
  if decide (n'.Ab = 3) then
  (Jd c 4 c.Ap ([] : Str)).bind fun aL =>
  (chk (aL.2.names.length + [(⟨n'.Ac, aL.2.Ap⟩ : Ji)].length ≤ lim)).bind fun _ =>
  (chk (InI (aL.2.Ap + 1))).bind fun _ =>
  some (⟨aL.2.code, (aL.2.names ++ [(⟨n'.Ac, aL.2.Ap⟩ : Ji)]), (aL.2.Ap + 1)⟩ : Jb)
  else
  if decide (n'.Ab = 4) then
  (Jd c 11 0 n'.Ac).bind fun aO =>
  some aO.2
  else
  if decide (n'.Ab = 5) then
  (chk (([104, 101, 97, 100, 101, 114, 58] : Str).length + n'.Ac.length ≤ lim)).bind fun _ =>
  (Jd c 11 0 (([104, 101, 97, 100, 101, 114, 58] : Str) ++ n'.Ac)).bind fun aN =>
  some aN.2
  else
  if decide (n'.Ab = 6) then
  (chk (([118, 97, 114, 121, 58] : Str).length + n'.Ac.length ≤ lim)).bind fun _ =>
  (Jd c 11 0 (([118, 97, 114, 121, 58] : Str) ++ n'.Ac)).bind fun aR =>
  some aR.2
  else
  if decide (n'.Ab = 7) then
  (Jd c 11 0 ([116, 97, 103] : Str)).bind fun aQ =>
  some aQ.2
  else
  if decide (n'.Ab = 8) then
  (Jd c 11 0 ([116, 116, 108] : Str)).bind fun aP =>
  some aP.2
  else
  if decide (n'.Ab = 9) then
  (Jd c 11 0 ([100, 101, 110, 121] : Str)).bind fun aU =>
  some aU.2
  else
  if decide (n'.Ab = 10) then
  (Jd c 11 0 ([112, 97, 115, 115] : Str)).bind fun aT =>
  some aT.2
  else
  if decide (n'.Ab = 11) then
  (Jd c 11 0 ([116, 111, 107, 101, 110] : Str)).bind fun aS =>
  some aS.2
  else
  some c
theorem JcC {au : (Jb → (List Ja) → Option (Jb))} (ihrec2_0 : ∀ {c : Jb} {list : (List Ja)} {b0 : Nat} {aa : Option Addr} {ab : Nat} {ah : Option Addr} {ak : Nat} {af : Option Addr} {ag : Nat} {n1 : Nat} {K : Hp} {r : Jb} (hm : au c list = some r) (hX : (0 < c.code.length → Has aa) ∧ (0 < c.names.length → Has ah) ∧ LiC Ja.R K af ag 4 list ∧ n1 = list.length), Fn Tryz.prog 57 [.pointer (some ⟨b0, 0, none⟩), .slice af n1 ag] K [Cells b0 134 [.slice aa c.code.length ab, .slice ah c.names.length ak, .int .i64 c.Ap], OwnL Jc.enc aa 54 3 ab c.code, OwnL Ji.enc ah 230 2 ak c.names] (fun v K' H' => ∃ ar_0 : Option Addr, ∃ cr_0 : Nat, ∃ ar_1 : Option Addr, ∃ cr_1 : Nat, v = .tuple #[] ∧ (0 < r.code.length → Has ar_0) ∧ (0 < r.names.length → Has ar_1) ∧ H' = [Cells b0 134 [.slice ar_0 r.code.length cr_0, .slice ar_1 r.names.length cr_1, .int .i64 r.Ap], OwnL Jc.enc ar_0 54 3 cr_0 r.code, OwnL Ji.enc ar_1 230 2 cr_1 r.names])) {n : Nat} {c : Jb} {n' : Ja} {b0 : Nat} {aa : Option Addr} {ab : Nat} {ah : Option Addr} {ak : Nat} {af : Option Addr} {ag : Nat} {K : Hp} {r : Jb}
    (hm : Jay au n c n' = some r) (hX : (0 < c.code.length → Has aa) ∧ (0 < c.names.length → Has ah) ∧ LiC Ja.R K af ag 4 n'.Aa) :
    Fn Tryz.prog 96 [.pointer (some ⟨b0, 0, none⟩), .agg #[.int .i64 n'.Ab, str n'.Ac, .slice af n'.Aa.length ag, .int .i64 n'.Ad]] K [Cells b0 134 [.slice aa c.code.length ab, .slice ah c.names.length ak, .int .i64 c.Ap], OwnL Jc.enc aa 54 3 ab c.code, OwnL Ji.enc ah 230 2 ak c.names] (fun v K' H' => ∃ ar_0 : Option Addr, ∃ cr_0 : Nat, ∃ ar_1 : Option Addr, ∃ cr_1 : Nat, v = .tuple #[] ∧ (0 < r.code.length → Has ar_0) ∧ (0 < r.names.length → Has ar_1) ∧ H' = [Cells b0 134 [.slice ar_0 r.code.length cr_0, .slice ar_1 r.names.length cr_1, .int .i64 r.Ap], OwnL Jc.enc ar_0 54 3 cr_0 r.code, OwnL Ji.enc ar_1 230 2 cr_1 r.names]) := by
 obtain ⟨ae, cK, aj⟩ := hX
 refine Fn.enter Tryz.func96 Tryz.call96 rfl fun F => ?_
 unfold Jay at hm
 refine qaq ?_
 intro b3
 refine fa rfl (ro (ld r0 rfl rfl (qad ?_)))
 refine cs rfl rfl hm ?_ ?_ <;> intro w6 hm
 refine ro (qah r0 rfl (nl rfl) ?_)
 refine cb hm fun x9 q9 hm => ckx (JcQ ihrec2_0 q9 :) ?_
 rintro _ _ _ ⟨c6, dq, cW, cV, rfl, dg, c8, rfl⟩
 exact eE hm
 refine fa rfl (ro (ld r0 rfl rfl (ro (qai rfl ?_))))
 refine cs rfl rfl hm ?_ ?_ <;> intro dz hm
 refine fa rfl (ro (ld r0 rfl rfl ?_))
 obtain ⟨dA, cH, cw, hm⟩ := ixb hm
 refine RStep.ofN (qac rfl rfl (qcl aj.rd cw) cH (qax rfl cH cw) ?_)
 obtain ⟨dc, dp, bZ, cp, cr⟩ := LiR.get aj.rd cw
 obtain ⟨cL, cP, rfl, cO⟩ := Ja.out cr
 refine ro (qaj ((0 : Int).toNat) _ bZ rfl cp rfl ?_)
 refine cb hm fun dB c5 hm => ckx (Jcc c5 :) ?_
 rintro _ _ _ ⟨cM, cJ, cG, cR, rfl, cQ, cI, rfl⟩
 refine fa rfl (ro (ld r3 rfl rfl ?_))
 refine qal rfl ?_
 refine qad (cs rfl rfl hm ?_ ?_) <;> intro dh hm
 refine qaf (fa rfl (ro (ld r0 rfl rfl ?_)))
 refine cb hm fun bg cu hm => ckx (Jh cu :) ?_
 rintro _ _ _ ⟨aU, bh, bz, aL, rfl, bw, aO, rfl⟩
 refine qbe ⟨⟨[], false⟩, _, [(_, _), (_, _)], []⟩ 14 rfl (by kernel_rfl) ⟨Hp.Le.refl _, (sc [0,2] rfl), ci0⟩ ?_
 refine qaf (fa rfl (qan m0 rfl rfl (fa rfl (qan m1 rfl rfl (qaf (fa rfl (qan m0 rfl rfl ?_)))))))
 refine qam rfl rfl (cT (cT ?_))
 refine bsO (len := 1) (enc := Ji.enc) (l := [(⟨n'.Ac, bg.2.Ap⟩ : Ji)]) (cl := [str n'.Ac, .int .i64 bg.2.Ap]) qln rfl rfl (fun _ _ => rfl) rfl rfl rfl ?_ fun de => ?_
 · conv => whnf
   refine cT ?_
   first | done | rfl
 refine qk (sc [1,3] rfl) ?_
 obtain ⟨ce, hm⟩ := qa2 hm
 refine apE rfl r3 qln (qa5 rfl r0 rfl (fun _ => rfl) (fun _ => rfl)) ce ?_
 intro da df dm
 refine qk (sc [2,3] rfl) ?_
 refine qaf (fa rfl ?_)
 refine qab r2 rfl ⟨rfl, rfl, (nl rfl), ?_⟩
 refine ⟨⟨Hp.emp_le _, (pf rfl), ci0⟩, ?_⟩
 refine qaf (fa rfl (ro (ld r0 rfl rfl ?_)))
 obtain ⟨cA, hm⟩ := qa2 hm
 refine qap cA (qaf (fa rfl ?_))
 refine qab r0 rfl ⟨rfl, rfl, (nl rfl), ?_⟩
 exact eE hm
 refine qad (cs rfl rfl hm ?_ ?_) <;> intro dl hm
 refine fa rfl (ro (ld r3 rfl rfl ?_))
 refine cb hm fun cU cd hm => ckx (Jh cd :) ?_
 rintro _ _ _ ⟨aW, bL, aM, bo, rfl, aR, aS, rfl⟩
 exact eE hm
 refine qad (cs rfl rfl hm ?_ ?_) <;> intro dv hm
 refine fa rfl (ro (ld r3 rfl rfl ?_))
 obtain ⟨cC, hm⟩ := qa2 hm
 refine qff cC ?_
 refine cb hm fun dt cn hm => ckx (Jh cn :) ?_
 rintro _ _ _ ⟨aT, bJ, ba, bU, rfl, aN, aZ, rfl⟩
 exact eE hm
 refine qad (cs rfl rfl hm ?_ ?_) <;> intro c9 hm
 refine fa rfl (ro (ld r3 rfl rfl ?_))
 obtain ⟨cz, hm⟩ := qa2 hm
 refine qff cz ?_
 refine cb hm fun di cm hm => ckx (Jh cm :) ?_
 rintro _ _ _ ⟨bu, bp, bI, bm, rfl, aV, bP, rfl⟩
 exact eE hm
 refine qad (cs rfl rfl hm ?_ ?_) <;> intro dw hm
 refine cb hm fun du cB hm => ckx (Jh cB :) ?_
 rintro _ _ _ ⟨bO, bf, bF, bV, rfl, aY, bB, rfl⟩
 exact eE hm
 refine qad (cs rfl rfl hm ?_ ?_) <;> intro dj hm
 refine cb hm fun db ca hm => ckx (Jh ca :) ?_
 rintro _ _ _ ⟨bX, bW, bH, bb, rfl, bY, bK, rfl⟩
 exact eE hm
 refine qad (cs rfl rfl hm ?_ ?_) <;> intro cX hm
 refine cb hm fun dk cj hm => ckx (Jh cj :) ?_
 rintro _ _ _ ⟨bQ, a8, bN, aX, rfl, bR, bn, rfl⟩
 exact eE hm
 refine qad (cs rfl rfl hm ?_ ?_) <;> intro cY hm
 refine cb hm fun dy cq hm => ckx (Jh cq :) ?_
 rintro _ _ _ ⟨bA, bC, bM, aP, rfl, bt, aQ, rfl⟩
 exact eE hm
 refine qad (cs rfl rfl hm ?_ ?_) <;> intro cZ hm
 refine cb hm fun dx cD hm => ckx (Jh cD :) ?_
 rintro _ _ _ ⟨bS, bG, bj, bD, rfl, bT, bv, rfl⟩
 exact eE hm
 exact eE hm
 refine fa rfl (ro (ld r0 rfl rfl ?_))
 refine qal rfl ?_
 refine qad (cs rfl rfl hm ?_ ?_) <;> intro dh hm
 refine qaf (fa rfl (ro (ld r1 rfl rfl ?_)))
 refine cb hm fun bg cu hm => ckx (Jh cu :) ?_
 rintro _ _ _ ⟨aU, bh, bz, aL, rfl, bw, aO, rfl⟩
 refine qbe ⟨⟨[], false⟩, _, [(_, _), (_, _)], []⟩ 14 rfl (by kernel_rfl) ⟨Hp.Le.refl _, (sc [0,2] rfl), ci0⟩ ?_
 refine qaf (fa rfl (qan m0 rfl rfl (fa rfl (qan m1 rfl rfl (qaf (fa rfl (qan m0 rfl rfl ?_)))))))
 refine qam rfl rfl (cT (cT ?_))
 refine bsO (len := 1) (enc := Ji.enc) (l := [(⟨n'.Ac, bg.2.Ap⟩ : Ji)]) (cl := [str n'.Ac, .int .i64 bg.2.Ap]) qln rfl rfl (fun _ _ => rfl) rfl rfl rfl ?_ fun de => ?_
 · conv => whnf
   refine cT ?_
   first | done | rfl
 refine qk (sc [1,3] rfl) ?_
 obtain ⟨ce, hm⟩ := qa2 hm
 refine apE rfl r3 qln (qa5 rfl r0 rfl (fun _ => rfl) (fun _ => rfl)) ce ?_
 intro da df dm
 refine qk (sc [2,3] rfl) ?_
 refine qaf (fa rfl ?_)
 refine qab r2 rfl ⟨rfl, rfl, (nl rfl), ?_⟩
 refine ⟨⟨Hp.emp_le _, (pf rfl), ci0⟩, ?_⟩
 refine qaf (fa rfl (ro (ld r0 rfl rfl ?_)))
 obtain ⟨cA, hm⟩ := qa2 hm
 refine qap cA (qaf (fa rfl ?_))
 refine qab r0 rfl ⟨rfl, rfl, (nl rfl), ?_⟩
 exact eE hm
 refine qad (cs rfl rfl hm ?_ ?_) <;> intro dl hm
 refine fa rfl (ro (ld r0 rfl rfl ?_))
 refine cb hm fun cU cd hm => ckx (Jh cd :) ?_
 rintro _ _ _ ⟨aW, bL, aM, bo, rfl, aR, aS, rfl⟩
 exact eE hm
 refine qad (cs rfl rfl hm ?_ ?_) <;> intro dv hm
 refine fa rfl (ro (ld r0 rfl rfl ?_))
 obtain ⟨cC, hm⟩ := qa2 hm
 refine qff cC ?_
 refine cb hm fun dt cn hm => ckx (Jh cn :) ?_
 rintro _ _ _ ⟨aT, bJ, ba, bU, rfl, aN, aZ, rfl⟩
 exact eE hm
 refine qad (cs rfl rfl hm ?_ ?_) <;> intro c9 hm
 refine fa rfl (ro (ld r0 rfl rfl ?_))
 obtain ⟨cz, hm⟩ := qa2 hm
 refine qff cz ?_
 refine cb hm fun di cm hm => ckx (Jh cm :) ?_
 rintro _ _ _ ⟨bu, bp, bI, bm, rfl, aV, bP, rfl⟩
 exact eE hm
 refine qad (cs rfl rfl hm ?_ ?_) <;> intro dw hm
 refine cb hm fun du cB hm => ckx (Jh cB :) ?_
 rintro _ _ _ ⟨bO, bf, bF, bV, rfl, aY, bB, rfl⟩
 exact eE hm
 refine qad (cs rfl rfl hm ?_ ?_) <;> intro dj hm
 refine cb hm fun db ca hm => ckx (Jh ca :) ?_
 rintro _ _ _ ⟨bX, bW, bH, bb, rfl, bY, bK, rfl⟩
 exact eE hm
 refine qad (cs rfl rfl hm ?_ ?_) <;> intro cX hm
 refine cb hm fun dk cj hm => ckx (Jh cj :) ?_
 rintro _ _ _ ⟨bQ, a8, bN, aX, rfl, bR, bn, rfl⟩
 exact eE hm
 refine qad (cs rfl rfl hm ?_ ?_) <;> intro cY hm
 refine cb hm fun dy cq hm => ckx (Jh cq :) ?_
 rintro _ _ _ ⟨bA, bC, bM, aP, rfl, bt, aQ, rfl⟩
 exact eE hm
 refine qad (cs rfl rfl hm ?_ ?_) <;> intro cZ hm
 refine cb hm fun dx cD hm => ckx (Jh cD :) ?_
 rintro _ _ _ ⟨bS, bG, bj, bD, rfl, bT, bv, rfl⟩
 exact eE hm
 exact eE hm

def JQ (rec_ : (Jb → (List Ja) → Option (Jb))) (n : Nat) : List Ja → Nat → Jb → Option (Jb)
  | [], _, ac => some ac
  | e0 :: aM, i0, ac =>
    (Jay rec_ n ac e0).bind fun aL =>
    JQ rec_ n aM (i0 + 1) aL
def JR : Nat → Jb → (List Ja) → Option (Jb)
  | 0, _, _ => none
  | n + 1, c, list =>
    (chk (list.length ≤ qau)).bind fun _ =>
    (JQ (JR n) n list 0 c).bind fun t0 =>
    (chk (0 ≤ (0 : Int) ∧ (0 : Int) ≤ (c.names.length : Int) ∧ (c.names.length : Int) ≤ (t0.names.length : Int))).bind fun _ =>
    some (⟨t0.code, (subL t0.names (0 : Int) (c.names.length : Int)), t0.Ap⟩ : Jb)
theorem JcY : ∀ {n : Nat} {c : Jb} {list : (List Ja)} {b0 : Nat} {aa : Option Addr} {ab : Nat} {ah : Option Addr} {ak : Nat} {af : Option Addr} {ag : Nat} {n1 : Nat} {K : Hp} {r : Jb}
    (hm : JR n c list = some r) (hX : (0 < c.code.length → Has aa) ∧ (0 < c.names.length → Has ah) ∧ LiC Ja.R K af ag 4 list ∧ n1 = list.length),
    Fn Tryz.prog 57 [.pointer (some ⟨b0, 0, none⟩), .slice af n1 ag] K [Cells b0 134 [.slice aa c.code.length ab, .slice ah c.names.length ak, .int .i64 c.Ap], OwnL Jc.enc aa 54 3 ab c.code, OwnL Ji.enc ah 230 2 ak c.names] (fun v K' H' => ∃ ar_0 : Option Addr, ∃ cr_0 : Nat, ∃ ar_1 : Option Addr, ∃ cr_1 : Nat, v = .tuple #[] ∧ (0 < r.code.length → Has ar_0) ∧ (0 < r.names.length → Has ar_1) ∧ H' = [Cells b0 134 [.slice ar_0 r.code.length cr_0, .slice ar_1 r.names.length cr_1, .int .i64 r.Ap], OwnL Jc.enc ar_0 54 3 cr_0 r.code, OwnL Ji.enc ar_1 230 2 cr_1 r.names]) := by
 intro n
 induction n with
 | zero =>
   intro c list b0 aa ab ah ak af ag n1 K r hm hX
   rw [JR.eq_1] at hm; cases hm
 | succ n ih =>
   intro c list b0 aa ab ah ak af ag n1 K r hm hX
   obtain ⟨ae, bt, aj, bC⟩ := hX
   subst bC
   refine Fn.enter Tryz.func57 Tryz.call57 rfl fun F => ?_
   rw [JR.eq_2] at hm
   refine qaf (fa rfl (ro (ld r0 rfl rfl (ro (qai rfl (ro (qai rfl ?_)))))))
   obtain ⟨bw, hm⟩ := qa2 hm
   obtain ⟨s0, aP, hm⟩ := bnd hm
   refine lD (σ := (Jb) × Option Addr × Nat × Option Addr × Nat) ([6] ++ rg 14 8) [3] (fun i0 => [(14, .int .i64 (i0 : Int))]) (fun _ => []) (fun (t0, aM, aN, aL, aO) => [Cells b0 134 [.slice aM t0.code.length aN, .slice aL t0.names.length aO, .int .i64 t0.Ap], OwnL Jc.enc aM 54 3 aN t0.code, OwnL Ji.enc aL 230 2 aO t0.names]) (fun (t0, aM, aN, aL, aO) => (0 < t0.code.length → Has aM) ∧ (0 < t0.names.length → Has aL)) (fun i0 (t0, aM, aN, aL, aO) => JQ (JR n) n (list.drop i0) i0 t0 = some s0) (fun (t0, aM, aN, aL, aO) => t0 = s0) (fun i0 => list.length - i0) 0 (_, _, _, _, _) aP (And.intro qe (And.intro ?_ ?_))
   clear aP
   rintro i0 ⟨ac, aV, aU, aY, aW⟩ ⟨aS, aT⟩ aP j0
   conv at aP => whnf
   refine qae rfl ?_
   refine qag ?_ ?_ <;> intro w0
   obtain ⟨e0, aX, bB⟩ := ltx w0
   rw [bB, JQ.eq_2] at aP
   refine qal rfl ?_
   refine RStep.ofN (qac rfl rfl (qcl aj.rd aX) (nn _) (qbq aX) ?_)
   obtain ⟨bA, bz, ba, a8, aZ⟩ := LiR.get aj.rd aX
   obtain ⟨bm, bp, rfl, bn⟩ := Ja.out aZ
   refine ro (qaj i0 _ ba rfl a8 rfl ?_)
   refine qao rfl fun b6 => ?_
   refine qab r0 rfl ⟨rfl, rfl, (nl rfl), ?_⟩
   refine ro (qah r0 rfl (nl rfl) ?_)
   refine cb aP fun bD bv aP => ckx (JcC ih bv :) ?_
   rintro _ _ _ ⟨bb, bj, bu, bh, rfl, bo, bf, rfl⟩
   refine qap (qcf aX bw) ?_
   exact eR aP (_, _, _, _, _, _)
   rw [lty w0, JQ.eq_1] at aP
   refine cT ?_
   exact eM aP (_, _, _, _, _)
   rintro ⟨t0, aM, aN, aL, aO⟩ ⟨aR, aQ⟩ rfl j0
   refine qaf (fa rfl (ro (ld r0 rfl rfl ?_)))
   obtain ⟨bg, hm⟩ := qa2 hm
   refine qy5 (l := t0.names) (hi := (some (c.names.length : Int))) rfl r2 (by simp) rfl rfl bg ?_
   refine qaf (fa rfl ?_)
   refine tkW (c.names.length : Int) r2 ?_
   refine qab r1 rfl ⟨rfl, rfl, (nl rfl), ?_⟩
   cases hm
   exact en lr ⟨aM, aN, aL, aO, rfl, aR, (fun h => aQ (qot bg h)), rfl⟩ (sc [0,1,0,0] rfl)

def Ja1 (n : Nat) (program : Ja) : Option ((List Jc) × Err) :=
  (JbH n program).bind fun x9 =>
  if x9.2.isSome then
  some ([], x9.2)
  else
  (JR n (⟨[], [], 0⟩ : Jb) program.Aa).bind fun aM =>
  (Jd aM 12 0 ([] : Str)).bind fun aL =>
  if decide ((aL.2.code.length : Int) > 2048) then
  some ([], (some 5))
  else
  some (aL.2.code, none)
theorem JdR {n : Nat} {program : Ja} {aa : Option Addr} {ab : Nat} {K : Hp} {r : (List Jc) × Err}
    (hm : Ja1 n program = some r) (hX : LiC Ja.R K aa ab 4 program.Aa ∧ GG K) :
    Fn Tryz.prog 29 [.agg #[.int .i64 program.Ab, str program.Ac, .slice aa program.Aa.length ab, .int .i64 program.Ad]] K [] (fun v K' H' => ∃ ar_0 : Option Addr, ∃ cr_0 : Nat, v = .tuple #[.slice ar_0 r.1.length cr_0, qc9 87 r.2] ∧ (0 < r.1.length → Has ar_0) ∧ H' = [OwnL Jc.enc ar_0 54 3 cr_0 r.1]) := by
 obtain ⟨ae, hG⟩ := hX
 refine Fn.enter Tryz.func29 Tryz.call29 rfl fun F => ?_
 unfold Ja1 at hm
 refine qaq ?_
 intro b1
 refine ro (qah r0 rfl (nl rfl) ?_)
 refine cb hm fun x9 q9 hm => cgx (Jdc q9 :) ?_
 refine qbh rfl ?_
 refine cs rfl rfl hm ?_ ?_ <;> intro ba hm
 refine qor Jc.enc 54 3 ?_
 exact eE hm
 refine qam rfl rfl ?_
 refine qaq ?_
 intro aZ
 refine fa rfl (ro (ld r1 rfl rfl ?_))
 refine qz7 Tryz.call57 Jc.enc 54 3 ?_
 refine qz7 Tryz.call57 Ji.enc 230 2 ?_
 refine cb hm fun bb aX hm => ckx (JcY aX :) ?_
 rintro _ _ _ ⟨aM, aL, aW, aT, rfl, aR, aO, rfl⟩
 refine cb hm fun a8 aY hm => ckx (Jh aY :) ?_
 rintro _ _ _ ⟨aP, aV, aS, aN, rfl, aQ, aU, rfl⟩
 refine qaf (fa rfl (ro (ld r0 rfl rfl (ro (qai rfl ?_)))))
 refine cs rfl rfl hm ?_ ?_ <;> intro bf hm
 refine qa4 rfl ?_
 refine qor Jc.enc 54 3 ?_
 exact eE hm
 refine qaf (fa rfl (ro (ld r0 rfl rfl ?_)))
 exact eE hm

def Jaf (rec_ : (Ja → (List Jk) → Option (Int × Int))) (env : (List Jk)) : List Ja → Nat → (List Int) → Int → Int → Option ((List Int) × Int × Int)
  | [], _, ac, aN, aL => some (ac, aN, aL)
  | e0 :: aO, i0, ac, aN, aL =>
    (rec_ e0 env).bind fun aM =>
    (chk (ac.length + [aM.1].length ≤ lim)).bind fun _ =>
    if decide ((i0 : Int) = 0) then
    (chk (InI (aL + aM.2))).bind fun _ =>
    Jaf rec_ env aO (i0 + 1) (ac ++ [aM.1]) aM.2 (aL + aM.2)
    else
    (chk (InI (aL + aM.2))).bind fun _ =>
    Jaf rec_ env aO (i0 + 1) (ac ++ [aM.1]) aN (aL + aM.2)
def Ja9 : Nat → Ja → (List Jk) → Option (Int × Int)
  | 0, _, _ => none
  | n + 1, n', env =>
    (chk (n'.Aa.length ≤ qau)).bind fun _ =>
    (Jaf (Ja9 n) env n'.Aa 0 [] 0 0).bind fun t0 =>
    if decide (n'.Ab = 20) then
    some (2, 1)
    else
    if decide (n'.Ab = 21) then
    some (1, 1)
    else
    if decide (n'.Ab = 22) then
    some (3, 3)
    else
    if decide (n'.Ab = 23) then
    (JaX n n'.Ac env).bind fun aN =>
    some (aN, 1)
    else
    if decide (n'.Ab = 24) then
    (JY (⟨0, none⟩ : Jn) n' t0.1).bind fun aM =>
    if decide (aM.1 = 1) then
    (chk (InI (t0.2.2 + 32))).bind fun _ =>
    (chk (InI ((t0.2.2 + 32) + 1))).bind fun _ =>
    some (aM.1, ((t0.2.2 + 32) + 1))
    else
    (chk (InI (t0.2.2 + 1))).bind fun _ =>
    some (aM.1, (t0.2.2 + 1))
    else
    if decide (n'.Ab = 14) then
    if decide (n'.Ab = 14) then
    (chk (InI (t0.2.1 + 1))).bind fun _ =>
    (chk (InI (t0.2.2 - t0.2.1))).bind fun _ =>
    (chk (InI ((t0.2.2 - t0.2.1) + 1))).bind fun _ =>
    (chk (InI ((t0.2.1 + 1) + (max 3 ((t0.2.2 - t0.2.1) + 1))))).bind fun _ =>
    some (3, ((t0.2.1 + 1) + (max 3 ((t0.2.2 - t0.2.1) + 1))))
    else
    (chk (InI (t0.2.1 + 1))).bind fun _ =>
    (chk (InI (t0.2.2 - t0.2.1))).bind fun _ =>
    (chk (InI ((t0.2.1 + 1) + (max 4 (t0.2.2 - t0.2.1))))).bind fun _ =>
    some (3, ((t0.2.1 + 1) + (max 4 (t0.2.2 - t0.2.1))))
    else
    if decide (n'.Ab = 13) then
    if decide (n'.Ab = 14) then
    (chk (InI (t0.2.1 + 1))).bind fun _ =>
    (chk (InI (t0.2.2 - t0.2.1))).bind fun _ =>
    (chk (InI ((t0.2.2 - t0.2.1) + 1))).bind fun _ =>
    (chk (InI ((t0.2.1 + 1) + (max 3 ((t0.2.2 - t0.2.1) + 1))))).bind fun _ =>
    some (3, ((t0.2.1 + 1) + (max 3 ((t0.2.2 - t0.2.1) + 1))))
    else
    (chk (InI (t0.2.1 + 1))).bind fun _ =>
    (chk (InI (t0.2.2 - t0.2.1))).bind fun _ =>
    (chk (InI ((t0.2.1 + 1) + (max 4 (t0.2.2 - t0.2.1))))).bind fun _ =>
    some (3, ((t0.2.1 + 1) + (max 4 (t0.2.2 - t0.2.1))))
    else
    (JJ n' t0.1).bind fun aL =>
    if decide (aL = 1) then
    (chk (InI (t0.2.2 + 32))).bind fun _ =>
    (chk (InI ((t0.2.2 + 32) + 1))).bind fun _ =>
    some (aL, ((t0.2.2 + 32) + 1))
    else
    (chk (InI (t0.2.2 + 1))).bind fun _ =>
    some (aL, (t0.2.2 + 1))
theorem Jem : ∀ {n : Nat} {n' : Ja} {env : (List Jk)} {aa : Option Addr} {ab : Nat} {af : Option Addr} {ag : Nat} {n1 : Nat} {K : Hp} {r : Int × Int}
    (hm : Ja9 n n' env = some r) (hX : LiC Ja.R K aa ab 4 n'.Aa ∧ RdC Jk.enc K af ag 2 env ∧ n1 = env.length),
    Fn Tryz.prog 97 [.agg #[.int .i64 n'.Ab, str n'.Ac, .slice aa n'.Aa.length ab, .int .i64 n'.Ad], .slice af n1 ag] K [] (fun v K' H' => v = .tuple #[.int .i64 r.1, .int .i64 r.2] ∧ H' = []) := by
 intro n
 induction n with
 | zero =>
   intro n' env aa ab af ag n1 K r hm hX
   rw [Ja9.eq_1] at hm; cases hm
 | succ n ih =>
   intro n' env aa ab af ag n1 K r hm hX
   obtain ⟨ae, aj, bH⟩ := hX
   subst bH
   refine Fn.enter Tryz.func97 Tryz.call97 rfl fun F => ?_
   rw [Ja9.eq_2] at hm
   refine qaq ?_
   intro b2
   refine fa rfl (ro (ld r0 rfl rfl (ro (qai rfl ?_))))
   obtain ⟨bn, hm⟩ := qa2 hm
   obtain ⟨s0, aN, hm⟩ := bnd hm
   refine qnk eN 3 1 ?_
   refine lD (σ := ((List Int) × Int × Int) × Option Addr × Nat) (rg 6 7 ++ rg 19 22) [1, 2] (fun i0 => [(19, .int .i64 (i0 : Int))]) (fun (t0, aL, aM) => [(6, .slice aL t0.1.length aM), (7, .int .i64 t0.2.1), (8, .int .i64 t0.2.2)]) (fun (t0, aL, aM) => [OwnL eN aL 3 1 aM t0.1]) (fun (t0, aL, aM) => (0 < t0.1.length → Has aL) ∧ True) (fun i0 (t0, aL, aM) => Jaf (Ja9 n) env (n'.Aa.drop i0) i0 t0.1 t0.2.1 t0.2.2 = some s0) (fun (t0, aL, aM) => t0 = s0) (fun i0 => n'.Aa.length - i0) 0 ((_, _, _), _, _) aN (And.intro qe (And.intro ?_ ?_))
   clear aN
   rintro i0 ⟨⟨ac, bt, bD⟩, bj, ba⟩ ⟨aZ, _⟩ aN j0
   dsimp only at aN ⊢
   refine qae rfl ?_
   refine qag ?_ ?_ <;> intro w0
   obtain ⟨e0, aP, bz⟩ := ltx w0
   rw [bz, Jaf.eq_2] at aN
   refine qal rfl ?_
   refine RStep.ofN (qac rfl rfl (qcl ae.rd aP) (nn _) (qbq aP) ?_)
   obtain ⟨bu, bC, aW, aU, aT⟩ := LiR.get ae.rd aP
   obtain ⟨bf, a8, rfl, bp⟩ := Ja.out aT
   refine ro (qaj i0 _ aW rfl aU rfl ?_)
   refine qao rfl fun bK => ?_
   refine qab r0 rfl ⟨rfl, rfl, (nl rfl), ?_⟩
   refine ro (qah r0 rfl (nl rfl) ?_)
   refine cb aN fun bg bG aN => cgx (ih bG :) ?_
   refine bsO (len := 1) (enc := eN) (l := [bg.1]) (cl := [.int .i64 bg.1]) qll rfl rfl (fun _ _ => rfl) rfl rfl rfl ?_ fun bQ => ?_
   · conv => whnf
     refine cT ?_
     first | done | rfl
   obtain ⟨bv, aN⟩ := qa2 aN
   refine apE rfl r2 qll (qa5 rfl r0 rfl (fun _ => rfl) (fun _ => rfl)) bv ?_
   intro bM bL bP
   refine qad (cs rfl rfl aN ?_ ?_) <;> intro bY aN
   obtain ⟨aX, aN⟩ := qa2 aN
   refine qap aX (qap (qcf aP bn) ?_)
   exact eR aN (_, (_, _, _), _, _)
   obtain ⟨aX, aN⟩ := qa2 aN
   refine qap aX (qap (qcf aP bn) ?_)
   exact eR aN (_, (_, _, _), _, _)
   rw [lty w0, Jaf.eq_1] at aN
   refine cT ?_
   exact eM aN (_, _, _)
   rintro ⟨t0, aL, aM⟩ ⟨bm, _⟩ rfl j0
   refine qam rfl rfl ?_
   refine qaq ?_
   intro bO
   refine fa rfl (ro (ld r2 rfl rfl ?_))
   refine qal rfl ?_
   refine qad (cs rfl rfl hm ?_ ?_) <;> intro bX hm
   exact eE hm
   refine qad (cs rfl rfl hm ?_ ?_) <;> intro bW hm
   exact eE hm
   refine qad (cs rfl rfl hm ?_ ?_) <;> intro bN hm
   exact eE hm
   refine qad (cs rfl rfl hm ?_ ?_) <;> intro bR hm
   refine fa rfl (ro (ld r2 rfl rfl ?_))
   refine cb hm fun bI bw hm => cgx (Jcr bw :) ?_
   exact eE hm
   refine qad (cs rfl rfl hm ?_ ?_) <;> intro bT hm
   refine ro (qah r2 rfl (nl rfl) ?_)
   refine cb hm fun bV bF hm => ck0 (Fn.lend Tryz.call138 (fun bh aQ aO => (Jch (c := (⟨0, none⟩ : Jn)) (n' := n') bF ⟨(LiC.mono Ja.R_ok aQ ae), aO, rfl⟩)) (by exact fun _ _ _ _ h => h)) ?_
   rintro _ _ _ ⟨_, rfl, rfl, rfl⟩
   refine qad (cs rfl rfl hm ?_ ?_) <;> intro bJ hm
   refine ci hm fun hm => ?_
   refine ci hm fun hm => ?_
   exact eE hm
   refine ci hm fun hm => ?_
   exact eE hm
   refine qad (cs rfl rfl hm ?_ ?_) <;> intro bo hm
   refine qae rfl (ct bo (fa rfl (ro (ld r2 rfl rfl (qad ?_)))))
   refine cs rfl rfl hm ?_ ?_ <;> intro bA hm
   refine ci hm fun hm => ?_
   refine ci hm fun hm => ?_
   obtain ⟨aY, hm⟩ := qa2 hm
   refine qap aY (ro (qca ?_))
   refine ci hm fun hm => ?_
   exact eE hm
   refine ci hm fun hm => ?_
   obtain ⟨aV, hm⟩ := qa2 hm
   refine qap aV (ro (qca ?_))
   refine ci hm fun hm => ?_
   exact eE hm
   refine qad (cs rfl rfl hm ?_ ?_) <;> intro bo hm
   refine fa rfl (ro (ld r2 rfl rfl (qad ?_)))
   refine cs rfl rfl hm ?_ ?_ <;> intro bA hm
   refine ci hm fun hm => ?_
   refine ci hm fun hm => ?_
   obtain ⟨aY, hm⟩ := qa2 hm
   refine qap aY (ro (qca ?_))
   refine ci hm fun hm => ?_
   exact eE hm
   refine ci hm fun hm => ?_
   obtain ⟨aV, hm⟩ := qa2 hm
   refine qap aV (ro (qca ?_))
   refine ci hm fun hm => ?_
   exact eE hm
   refine ro (qah r2 rfl (nl rfl) ?_)
   refine cb hm fun bU bB hm => ck0 (Fn.lend Tryz.call139 (fun bb aR aS => (JcH (n' := n') bB ⟨(LiC.mono Ja.R_ok aR ae), aS, rfl⟩)) (by exact fun _ _ _ _ h => h)) ?_
   rintro _ _ _ ⟨_, rfl, rfl, rfl⟩
   refine qad (cs rfl rfl hm ?_ ?_) <;> intro bS hm
   refine ci hm fun hm => ?_
   refine ci hm fun hm => ?_
   exact eE hm
   refine ci hm fun hm => ?_
   exact eE hm

def J1 (n : Nat) (rec_ : ((List Ja) → (List Jk) → Option (Int))) : List Ja → Nat → (List Jk) → Int → Option ((List Jk) × Int)
  | [], _, ac, aL => some (ac, aL)
  | e0 :: aO, i0, ac, aL =>
    (chk (InI (aL + 1))).bind fun _ =>
    if decide ((e0.Aa.length : Int) = 0) then
    J1 n rec_ aO (i0 + 1) ac (aL + 1)
    else
    (ix e0.Aa 0).bind fun aR =>
    (Ja9 n aR ac).bind fun aM =>
    (chk (InI ((aL + 1) + aM.2))).bind fun _ =>
    if decide (e0.Ab = 3) then
    (Jae ac e0.Ac aM.1).bind fun aU =>
    J1 n rec_ aO (i0 + 1) aU ((aL + 1) + aM.2)
    else
    if decide (e0.Ab = 2) then
    (ix e0.Aa 1).bind fun aS =>
    (Jax aS).bind fun aT =>
    (rec_ aT ac).bind fun aN =>
    if decide ((e0.Aa.length : Int) > 2) then
    (chk (InI (aN + 1))).bind fun _ =>
    (ix e0.Aa 2).bind fun aV =>
    (Jax aV).bind fun aQ =>
    (rec_ aQ ac).bind fun aP =>
    (chk (InI (((aL + 1) + aM.2) + (max (aN + 1) aP)))).bind fun _ =>
    J1 n rec_ aO (i0 + 1) ac (((aL + 1) + aM.2) + (max (aN + 1) aP))
    else
    (chk (InI (((aL + 1) + aM.2) + aN))).bind fun _ =>
    J1 n rec_ aO (i0 + 1) ac (((aL + 1) + aM.2) + aN)
    else
    J1 n rec_ aO (i0 + 1) ac ((aL + 1) + aM.2)
def JaS : Nat → (List Ja) → (List Jk) → Option (Int)
  | 0, _, _ => none
  | n + 1, list, env =>
    (chk (list.length ≤ qau)).bind fun _ =>
    (J1 n (JaS n) list 0 env 0).bind fun t0 =>
    some t0.2
theorem Jen : ∀ {n : Nat} {list : (List Ja)} {env : (List Jk)} {aa : Option Addr} {ab : Nat} {n0 : Nat} {af : Option Addr} {ag : Nat} {n1 : Nat} {K : Hp} {r : Int}
    (hm : JaS n list env = some r) (hX : LiC Ja.R K aa ab 4 list ∧ n0 = list.length ∧ RdC Jk.enc K af ag 2 env ∧ n1 = env.length),
    Fn Tryz.prog 59 [.slice aa n0 ab, .slice af n1 ag] K [] (fun v K' H' => v = .int .i64 r ∧ H' = []) := by
 intro n
 induction n with
 | zero =>
   intro list env aa ab n0 af ag n1 K r hm hX
   rw [JaS.eq_1] at hm; cases hm
 | succ n ih =>
   intro list env aa ab n0 af ag n1 K r hm hX
   obtain ⟨ae, cj, aj, cH⟩ := hX
   subst cj
   subst cH
   refine Fn.enter Tryz.func59 Tryz.call59 rfl fun F => ?_
   rw [JaS.eq_2] at hm
   refine ro (qai rfl ?_)
   obtain ⟨aQ, hm⟩ := qa2 hm
   obtain ⟨s0, aL, hm⟩ := bnd hm
   refine lC (σ := ((List Jk) × Int) × Option Addr × Nat) ([1,5,7,8,9,10] ++ rg 13 58) [0] (fun i0 => [(13, .int .i64 (i0 : Int))]) (fun (t0, aM, aO) => [(1, .slice aM t0.1.length aO), (5, .int .i64 t0.2)]) (fun _ => []) (fun zz K1 => match zz with | (t0, aM, aO) => RdC Jk.enc K1 aM aO 2 t0.1 ∧ True) (fun i0 (t0, aM, aO) => J1 n (JaS n) (list.drop i0) i0 t0.1 t0.2 = some s0) (fun (t0, aM, aO) => t0 = s0) (fun i0 => list.length - i0) 0 ((_, _), _, _) aL (And.intro qe (And.intro ?_ ?_))
   clear aL
   rintro i0 ⟨⟨ac, bY⟩, bA, bw⟩ cM bT ⟨bm, _⟩ aL j0
   dsimp only at aL ⊢
   refine qae rfl ?_
   refine qag ?_ ?_ <;> intro w0
   obtain ⟨e0, aP, cn⟩ := ltx w0
   rw [cn, J1.eq_2] at aL
   refine qal rfl ?_
   refine RStep.ofN (qac rfl rfl (qcl (LiC.mono Ja.R_ok bT ae).rd aP) (nn _) (qbq aP) ?_)
   obtain ⟨cA, ce, bg, aU, aY⟩ := LiR.get (LiC.mono Ja.R_ok bT ae).rd aP
   obtain ⟨bM, bt, rfl, aN⟩ := Ja.out aY
   refine ro (qaj i0 _ bg rfl aU rfl ?_)
   refine qao rfl fun b7 => ?_
   refine qab r0 rfl ⟨rfl, rfl, (nl rfl), ?_⟩
   obtain ⟨cp, aL⟩ := qa2 aL
   refine qap cp (fa rfl (ro (ld r0 rfl rfl (ro (qai rfl (qad ?_))))))
   refine cs rfl rfl aL ?_ ?_ <;> intro cR aL
   refine cT (qap (qcf aP aQ) ?_)
   exact eR aL (_, (_, _), _, _)
   refine fa rfl (ro (ld r0 rfl rfl ?_))
   obtain ⟨cO, bH, aV, aL⟩ := ixb aL
   refine RStep.ofN (qac rfl rfl (qcl aN.rd aV) bH (qax rfl bH aV) ?_)
   obtain ⟨ca, cu, aX, ba, aZ⟩ := LiR.get aN.rd aV
   obtain ⟨bB, bD, rfl, bP⟩ := Ja.out aZ
   refine ro (qaj ((0 : Int).toNat) _ aX rfl ba rfl ?_)
   refine cb aL fun cP cB aL => cgx (Jem cB :) ?_
   obtain ⟨cm, aL⟩ := qa2 aL
   refine qap cm (fa rfl (ro (ld r0 rfl rfl ?_)))
   refine qal rfl ?_
   refine qad (cs rfl rfl aL ?_ ?_) <;> intro cY aL
   refine fa rfl (ro (ld r0 rfl rfl ?_))
   refine cb aL fun cZ cC aL => ckx (Jbn cC :) ?_
   rintro _ _ _ ⟨bU, bL, rfl, bu, rfl⟩
   refine qap (qcf aP aQ) ?_
   refine fRo r0 fun bV bo bS => ?_
   exact eR aL (_, (_, _), _, _)
   refine qad (cs rfl rfl aL ?_ ?_) <;> intro c8 aL
   refine fa rfl (ro (ld r0 rfl rfl ?_))
   obtain ⟨c9, bz, aW, aL⟩ := ixb aL
   refine RStep.ofN (qac rfl rfl (qcl aN.rd aW) bz (qax rfl bz aW) ?_)
   obtain ⟨bZ, cq, aR, a8, bh⟩ := LiR.get aN.rd aW
   obtain ⟨bX, bO, rfl, bv⟩ := Ja.out bh
   refine ro (qaj ((1 : Int).toNat) _ aR rfl a8 rfl ?_)
   refine cb aL fun cQ cr aL => cfx (JbU cr :) ?_
   rintro _ c5 _ bW ⟨bQ, bF, rfl, bK, rfl⟩
   refine cb aL fun cV cI aL => cgx (ih cI :) ?_
   refine fa rfl (ro (ld r0 rfl rfl (ro (qai rfl ?_))))
   refine cs rfl rfl aL ?_ ?_ <;> intro cJ aL
   obtain ⟨cG, aL⟩ := qa2 aL
   refine qap cG (fa rfl (ro (ld r0 rfl rfl ?_)))
   obtain ⟨cW, bG, aT, aL⟩ := ixb aL
   refine RStep.ofN (qac rfl rfl (qcl (LiC.mono Ja.R_ok bW aN).rd aT) bG (qax rfl bG aT) ?_)
   obtain ⟨cD, cd, aS, bb, bf⟩ := LiR.get (LiC.mono Ja.R_ok bW aN).rd aT
   obtain ⟨bp, bN, rfl, bR⟩ := Ja.out bf
   refine ro (qaj ((2 : Int).toNat) _ aS rfl bb rfl ?_)
   refine cb aL fun cK cz aL => cfx (JbU cz :) ?_
   rintro _ da _ c6 ⟨bI, bn, rfl, bC, rfl⟩
   refine cb aL fun cX cw aL => cgx (ih cw :) ?_
   refine ro (qca ?_)
   obtain ⟨bj, aL⟩ := qa2 aL
   refine qap bj (qap (qcf aP aQ) ?_)
   exact eR aL (_, (_, _), _, _)
   obtain ⟨bj, aL⟩ := qa2 aL
   refine qap bj (qap (qcf aP aQ) ?_)
   exact eR aL (_, (_, _), _, _)
   refine qap (qcf aP aQ) ?_
   exact eR aL (_, (_, _), _, _)
   rw [lty w0, J1.eq_1] at aL
   refine cT ?_
   exact eM aL (_, _, _)
   rintro ⟨t0, aM, aO⟩ cU cL ⟨bJ, _⟩ rfl j0
   exact eE hm

def JbI (n : Nat) (program : Ja) : Option (Int × Err) :=
  (JbH n program).bind fun x8 =>
  if x8.2.isSome then
  some (0, x8.2)
  else
  (JaS n program.Aa []).bind fun aL =>
  (chk (InI (aL + 1))).bind fun _ =>
  some ((aL + 1), none)
theorem Jeo {n : Nat} {program : Ja} {aa : Option Addr} {ab : Nat} {K : Hp} {r : Int × Err}
    (hm : JbI n program = some r) (hX : LiC Ja.R K aa ab 4 program.Aa ∧ GG K) :
    Fn Tryz.prog 30 [.agg #[.int .i64 program.Ab, str program.Ac, .slice aa program.Aa.length ab, .int .i64 program.Ad]] K [] (fun v K' H' => v = .tuple #[.int .i64 r.1, qc9 87 r.2] ∧ H' = []) := by
 obtain ⟨ae, hG⟩ := hX
 refine Fn.enter Tryz.func30 Tryz.call30 rfl fun F => ?_
 unfold JbI at hm
 refine qaq ?_
 intro b1
 refine ro (qah r0 rfl (nl rfl) ?_)
 refine cb hm fun x8 q8 hm => cgx (Jdc q8 :) ?_
 refine qbh rfl ?_
 refine cs rfl rfl hm ?_ ?_ <;> intro aN hm
 exact eE hm
 refine fa rfl (ro (ld r0 rfl rfl ?_))
 refine cb hm fun aM aL hm => cgx (Jen aL :) ?_
 refine ci hm fun hm => ?_
 exact eE hm

def Jbc : List Jq → Nat → (List Jj) → Option ((List Jj))
  | [], _, ac => some ac
  | e0 :: aL, i0, ac =>
    (chk (ac.length + [(⟨e0.Name, e0.Value⟩ : Jj)].length ≤ lim)).bind fun _ =>
    Jbc aL (i0 + 1) (ac ++ [(⟨e0.Name, e0.Value⟩ : Jj)])
def JcD (l : (List Jq)) : Option ((List Jj)) :=
  (chk (l.length ≤ qau)).bind fun _ =>
  (Jbc l 0 []).bind fun t0 =>
  some t0
theorem JeN {l : (List Jq)} {aa : Option Addr} {ab : Nat} {n0 : Nat} {K : Hp} {r : (List Jj)}
    (hm : JcD l = some r) (hX : RdC Jq.enc K aa ab 2 l ∧ n0 = l.length) :
    Fn Tryz.prog 34 [.slice aa n0 ab] K [] (fun v K' H' => ∃ ar_0 : Option Addr, ∃ cr_0 : Nat, v = .slice ar_0 r.length cr_0 ∧ (0 < r.length → Has ar_0) ∧ H' = [OwnL Jj.enc ar_0 77 2 cr_0 r]) := by
 obtain ⟨ae, aU⟩ := hX
 subst aU
 refine Fn.enter Tryz.func34 Tryz.call34 rfl fun F => ?_
 unfold JcD at hm
 refine ro (qai rfl ?_)
 obtain ⟨aV, hm⟩ := qa2 hm
 obtain ⟨s0, aN, hm⟩ := bnd hm
 refine qnk Jj.enc 77 2 ?_
 refine lD (σ := ((List Jj)) × Option Addr × Nat) ([3,5] ++ rg 8 13) [1] (fun i0 => [(8, .int .i64 (i0 : Int))]) (fun (t0, aL, aM) => [(3, .slice aL t0.length aM)]) (fun (t0, aL, aM) => [OwnL Jj.enc aL 77 2 aM t0]) (fun (t0, aL, aM) => (0 < t0.length → Has aL) ∧ True) (fun i0 (t0, aL, aM) => Jbc (l.drop i0) i0 t0 = some s0) (fun (t0, aL, aM) => t0 = s0) (fun i0 => l.length - i0) 0 (_, _, _) aN (And.intro qe (And.intro ?_ ?_))
 clear aN
 rintro i0 ⟨ac, aR, aS⟩ ⟨aP, _⟩ aN j0
 conv at aN => whnf
 refine qae rfl ?_
 refine qag ?_ ?_ <;> intro w0
 obtain ⟨e0, aO, aW⟩ := ltx w0
 rw [aW, Jbc.eq_2] at aN
 refine qal rfl ?_
 refine RStep.ofN (qac rfl rfl (qec ae.rd aO) (nn _) (qbq aO) (ro (qaj i0 _ ae.rd rfl (mp aO) rfl ?_)))
 refine qao rfl fun b5 => ?_
 refine qab r0 rfl ⟨rfl, rfl, (nl rfl), ?_⟩
 refine fa rfl (ro (ld r0 rfl rfl (fa rfl (ro (ld r0 rfl rfl (qam rfl rfl (cT (cT ?_))))))))
 refine bsO (len := 1) (enc := Jj.enc) (l := [(⟨e0.Name, e0.Value⟩ : Jj)]) (cl := [str e0.Name, str e0.Value]) qi2 rfl rfl (fun _ _ => rfl) rfl rfl rfl ?_ fun aX => ?_
 · conv => whnf
   refine cT ?_
   first | done | rfl
 obtain ⟨aT, aN⟩ := qa2 aN
 refine apE rfl r2 qi2 (qa5 rfl r0 rfl (fun _ => rfl) (fun _ => rfl)) aT ?_
 intro a8 aY aZ
 refine qap (qcf aO aV) ?_
 exact eR aN (_, _, _, _)
 rw [lty w0, Jbc.eq_1] at aN
 refine cT ?_
 exact eM aN (_, _, _)
 rintro ⟨t0, aL, aM⟩ ⟨aQ, _⟩ rfl j0
 exact eE hm

def Ja4 (Ar : Jw) : Option (JI) :=
  (JcD Ar.Ao).bind fun aL =>
  some (⟨Ar.Am, Ar.An, Ar.Ae, Ar.Af, aL⟩ : JI)
theorem Jc4 {Ar : Jw} {aa : Option Addr} {ab : Nat} {K : Hp} {r : JI}
    (hm : Ja4 Ar = some r) (ae : RdC Jq.enc K aa ab 2 Ar.Ao) :
    Fn Tryz.prog 15 [.agg #[str Ar.Am, str Ar.An, str Ar.Ae, str Ar.Af, .slice aa Ar.Ao.length ab]] K [] (fun v K' H' => ∃ ar_0 : Option Addr, ∃ cr_0 : Nat, v = .agg #[str r.Am, str r.An, str r.Ae, str r.Af, .slice ar_0 r.Ao.length cr_0] ∧ (0 < r.Ao.length → Has ar_0) ∧ H' = [OwnL Jj.enc ar_0 77 2 cr_0 r.Ao]) := by
 refine Fn.enter Tryz.func15 Tryz.call15 rfl fun F => ?_
 unfold Ja4 at hm
 refine qaq ?_
 intro b1
 refine qao rfl fun b2 => ?_
 refine qa6 ⟨⟨[], false⟩, _, [(_, _)], []⟩ (by kernel_rfl) ⟨Hp.Le.refl _, (sc [1] rfl), ci0⟩ ?_
 refine fa rfl (qan m0 rfl rfl (fa rfl (qan m0 rfl rfl (fa rfl (qan m0 rfl rfl (fa rfl (qan m0 rfl rfl ?_)))))))
 refine fa rfl (qan m0 rfl rfl ?_)
 refine cb hm fun aP aO hm => ckx (JeN aO :) ?_
 rintro _ _ _ ⟨aN, aM, rfl, aL, rfl⟩
 refine qk (sc [2] rfl) ?_
 refine qam rfl rfl (cT (cT (cT (cT (cT ?_)))))
 refine qab r1 rfl ⟨rfl, rfl, (nl rfl), ?_⟩
 refine qk (sc [2] rfl) ?_
 exact ro (qah r0 rfl (nl rfl) (eE hm))

def JcK (e : Err) : Option (Int) :=
  if e.isNone then
  some 0
  else
  if (!e.isSome) then
  some (-1)
  else
  some (e.getD 0)
theorem Jfq {e : Err} {K : Hp} {r : Int}
    (hm : JcK e = some r)  :
    Fn Tryz.prog 17 [qc9 87 e] K [] (fun v K' H' => v = .int .i64 r ∧ H' = []) := by
 refine Fn.enter Tryz.func17 Tryz.call17 rfl fun F => ?_
 unfold JcK at hm
 refine qft rfl ?_
 refine cs rfl rfl hm ?_ ?_ <;> intro w6 hm
 exact eE hm
 refine qAe rfl rfl rfl ?_
 refine qay ?_
 refine cs rfl rfl hm ?_ ?_ <;> intro aL hm
 exact eE hm
 exact eE hm

def Jdi (e : Err) (want : Int) : Option (Bool) :=
  (JcK e).bind fun x6 =>
  some (decide (x6 = want) && decide (want ≠ 0))
theorem Jep {e : Err} {want : Int} {K : Hp} {r : Bool}
    (hm : Jdi e want = some r)  :
    Fn Tryz.prog 31 [qc9 87 e, .int .i64 want] K [] (fun v K' H' => v = .bool r ∧ H' = []) := by
 refine Fn.enter Tryz.func31 Tryz.call31 rfl fun F => ?_
 unfold Jdi at hm
 refine qak rfl ?_
 refine cb hm fun x6 q6 hm => cg0 (Jfq q6 :) ?_
 refine qad ?_
 refine qag ?_ ?_ <;> intro aL
 refine ct aL (qbd (ct aL ?_))
 exact bE (qdp (b := decide (want ≠ 0)) aL) (eE hm)
 refine cf aL (cf aL ?_)
 exact bE (((qaz aL)).symm) (eE hm)

def Jb1 (b : (List Jq)) : List Jj → Nat → Option (Fl (Bool) (Unit))
  | [], _ => some (Fl.go ())
  | e0 :: aN, i0 =>
    (ix b (i0 : Int)).bind fun aM =>
    (if decide (e0.Name ≠ aM.Name) then some true else (ix b (i0 : Int)).bind fun aO =>
    some (decide (e0.Value ≠ aO.Value))).bind fun aL =>
    if aL then
    some (Fl.ret false)
    else
    Jb1 b aN (i0 + 1)
def JdA (a : (List Jj)) (b : (List Jq)) : Option (Bool) :=
  if decide ((a.length : Int) ≠ (b.length : Int)) then
  some false
  else
  (chk (a.length ≤ qau)).bind fun _ =>
  (Jb1 b a 0).bind fun s0 => s0.el some fun t0 =>
  some true
theorem Jfg {a : (List Jj)} {b : (List Jq)} {aa : Option Addr} {ab : Nat} {n0 : Nat} {af : Option Addr} {ag : Nat} {n1 : Nat} {K : Hp} {r : Bool}
    (hm : JdA a b = some r) (hX : RdC Jj.enc K aa ab 2 a ∧ n0 = a.length ∧ RdC Jq.enc K af ag 2 b ∧ n1 = b.length) :
    Fn Tryz.prog 27 [.slice aa n0 ab, .slice af n1 ag] K [] (fun v K' H' => v = .bool r ∧ H' = []) := by
 obtain ⟨ae, aU, aj, aX⟩ := hX
 subst aU
 subst aX
 refine Fn.enter Tryz.func27 Tryz.call27 rfl fun F => ?_
 unfold JdA at hm
 refine ro (qai rfl (ro (qai rfl (qbd ?_))))
 refine cs rfl rfl hm ?_ ?_ <;> intro a8 hm
 exact eE hm
 refine ro (qai rfl ?_)
 obtain ⟨aV, hm⟩ := qa2 hm
 obtain ⟨s0, aM, hm⟩ := bnd hm
 refine lD (σ := (Unit)) ([4,5] ++ rg 13 28) [0] (fun i0 => [(13, .int .i64 (i0 : Int))]) (fun _ => []) (fun _ => []) (fun _ => True) (fun i0 _ => Jb1 b (a.drop i0) i0 = some s0) (fun t0 => s0 = Fl.go t0) (fun i0 => a.length - i0) 0 () aM (And.intro qe (And.intro ?_ ?_))
 clear aM
 rintro i0 _ _ aM j0
 conv at aM => whnf
 refine qae rfl ?_
 refine qag ?_ ?_ <;> intro w0
 obtain ⟨e0, aN, aW⟩ := ltx w0
 rw [aW, Jb1.eq_2] at aM
 refine qal rfl ?_
 refine qa6 ⟨⟨[], false⟩, _, [], []⟩ (by kernel_rfl) ⟨Hp.Le.refl _, (pf rfl), ci0⟩ ?_
 refine qac rfl rfl (qec ae.rd aN) (nn _) (qbq aN) (qa0 rfl (qec ae.rd aN) (qbp i0 0 _ _ ae.rd rfl (mp aN) rfl rfl ?_))
 obtain ⟨aY, aS, aP, aM⟩ := ixb aM
 refine qac rfl rfl (qec aj.rd aP) aS (qax rfl aS aP) (qa0 rfl (qec aj.rd aP) (qbp (((i0 : Int)).toNat) 0 _ _ aj.rd rfl (mp aP) rfl rfl (qb0 ?_)))
 obtain ⟨aZ, aO, aM⟩ := bnd aM
 refine cS aO (fun aL aO => ?_) fun aL aO => ?_
 refine ct aL (ct aL (ct aL (ct aL (ct aL (ct aL (ct aL (ct aL ?_)))))))
 refine ct aL (ct aL (ct aL (qae rfl (cT ?_))))
 replace aM := ift (si aO).symm aM
 exact eE (er aM hm)
 refine cf aL (cf aL (qac rfl rfl (qec ae.rd aN) (nn _) (qbq aN) (cf aL (qa0 rfl (qec ae.rd aN) (cf aL (qbp i0 1 _ _ ae.rd rfl (mp aN) rfl rfl (cf aL ?_)))))))
 refine cf aL (cf aL ?_)
 obtain ⟨ba, aT, aQ, aO⟩ := ixb aO
 refine qac rfl rfl (qec aj.rd aQ) aT (qax rfl aT aQ) (cf aL (qa0 rfl (qec aj.rd aQ) (cf aL (qbp (((i0 : Int)).toNat) 1 _ _ aj.rd rfl (mp aQ) rfl rfl (cf aL (qb0 (cf aL ?_)))))))
 refine qae rfl ?_
 refine qag ?_ ?_ <;> intro aR
 replace aM := ift ((si aO).symm.trans aR) aM
 exact eE (er aM hm)
 replace aM := qbo ((si aO).symm.trans aR) aM
 refine qap (qcf aN aV) ?_
 exact eR aM (_, ())
 rw [lty w0, Jb1.eq_1] at aM
 refine cT ?_
 exact eM aM _
 rintro t0 _ rfl j0
 replace hm := elg hm
 exact eE hm

def JbQ (b : (List Str)) : List Str → Nat → Option (Fl (Bool) (Unit))
  | [], _ => some (Fl.go ())
  | e0 :: aL, i0 =>
    (ix b (i0 : Int)).bind fun aM =>
    if decide (e0 ≠ aM) then
    some (Fl.ret false)
    else
    JbQ b aL (i0 + 1)
def JcL (a : (List Str)) (b : (List Str)) : Option (Bool) :=
  if decide ((a.length : Int) ≠ (b.length : Int)) then
  some false
  else
  (chk (a.length ≤ qau)).bind fun _ =>
  (JbQ b a 0).bind fun s0 => s0.el some fun t0 =>
  some true
theorem JdZ {a : (List Str)} {b : (List Str)} {aa : Option Addr} {ab : Nat} {n0 : Nat} {af : Option Addr} {ag : Nat} {n1 : Nat} {K : Hp} {r : Bool}
    (hm : JcL a b = some r) (hX : RdC eS K aa ab 1 a ∧ n0 = a.length ∧ RdC eS K af ag 1 b ∧ n1 = b.length) :
    Fn Tryz.prog 38 [.slice aa n0 ab, .slice af n1 ag] K [] (fun v K' H' => v = .bool r ∧ H' = []) := by
 obtain ⟨ae, aP, aj, aS⟩ := hX
 subst aP
 subst aS
 refine Fn.enter Tryz.func38 Tryz.call38 rfl fun F => ?_
 unfold JcL at hm
 refine ro (qai rfl (ro (qai rfl (qbd ?_))))
 refine cs rfl rfl hm ?_ ?_ <;> intro aV hm
 exact eE hm
 refine ro (qai rfl ?_)
 obtain ⟨aQ, hm⟩ := qa2 hm
 obtain ⟨s0, aL, hm⟩ := bnd hm
 refine lD (σ := (Unit)) ([4,5] ++ rg 13 13) [0] (fun i0 => [(13, .int .i64 (i0 : Int))]) (fun _ => []) (fun _ => []) (fun _ => True) (fun i0 _ => JbQ b (a.drop i0) i0 = some s0) (fun t0 => s0 = Fl.go t0) (fun i0 => a.length - i0) 0 () aL (And.intro qe (And.intro ?_ ?_))
 clear aL
 rintro i0 _ _ aL j0
 conv at aL => whnf
 refine qae rfl ?_
 refine qag ?_ ?_ <;> intro w0
 obtain ⟨e0, aM, aR⟩ := ltx w0
 rw [aR, JbQ.eq_2] at aL
 refine qal rfl ?_
 refine qa6 ⟨⟨[], false⟩, _, [], []⟩ (by kernel_rfl) ⟨Hp.Le.refl _, (pf rfl), ci0⟩ ?_
 refine qac rfl rfl (qec ae.rd aM) (nn _) (qbq aM) (qbp i0 0 _ _ ae.rd rfl (mp aM) rfl rfl ?_)
 obtain ⟨aT, aO, aN, aL⟩ := ixb aL
 refine qac rfl rfl (qec aj.rd aN) aO (qax rfl aO aN) (qbp (((i0 : Int)).toNat) 0 _ _ aj.rd rfl (mp aN) rfl rfl (qb0 ?_))
 refine cs rfl rfl aL ?_ ?_ <;> intro aU aL
 exact eE (er aL hm)
 refine qap (qcf aM aQ) ?_
 exact eR aL (_, ())
 rw [lty w0, JbQ.eq_1] at aL
 refine cT ?_
 exact eM aL _
 rintro t0 _ rfl j0
 replace hm := elg hm
 exact eE hm

def Jb6 (r' : Jl) (w' : Jp) : Option (Bool) :=
  (if (decide (r'.Ae = w'.Ae) && decide (r'.Af = w'.Af)) then (JdA r'.Ag w'.Ag).bind fun aP =>
  some aP else some false).bind fun aL =>
  (if aL then (JcL r'.Vary w'.Vary).bind fun aM =>
  some aM else some false).bind fun aN =>
  (if aN then (JcL r'.Ah w'.Ah).bind fun aO =>
  some aO else some false).bind fun aQ =>
  some (((((aQ && decide (r'.TTL = w'.TTL)) && decide (r'.Ai = w'.Ai)) && decide (r'.Aj = w'.Aj)) && (r'.Ak == w'.Ak)) && (r'.Al == w'.Al))
theorem JdS {r' : Jl} {w' : Jp} {aa : Option Addr} {ab : Nat} {ah : Option Addr} {ak : Nat} {al : Option Addr} {am : Nat} {af : Option Addr} {ag : Nat} {aD : Option Addr} {aE : Nat} {aF : Option Addr} {aG : Nat} {K : Hp} {r : Bool}
    (hm : Jb6 r' w' = some r) (hX : RdC Jj.enc K aa ab 2 r'.Ag ∧ RdC eS K ah ak 1 r'.Vary ∧ RdC eS K al am 1 r'.Ah ∧ RdC Jq.enc K af ag 2 w'.Ag ∧ RdC eS K aD aE 1 w'.Vary ∧ RdC eS K aF aG 1 w'.Ah) :
    Fn Tryz.prog 18 [.agg #[str r'.Ae, str r'.Af, .slice aa r'.Ag.length ab, .slice ah r'.Vary.length ak, .slice al r'.Ah.length am, .int .i64 r'.TTL, .int .i64 r'.Ai, .int .i64 r'.Aj, .bool r'.Ak, .bool r'.Al], .agg #[str w'.Ae, str w'.Af, .slice af w'.Ag.length ag, .slice aD w'.Vary.length aE, .slice aF w'.Ah.length aG, .int .i64 w'.TTL, .int .i64 w'.Ai, .int .i64 w'.Aj, .bool w'.Ak, .bool w'.Al]] K [] (fun v K' H' => v = .bool r ∧ H' = []) := by
 obtain ⟨ae, ba, a8, aj, aZ, aY⟩ := hX
 refine Fn.enter Tryz.func18 Tryz.call18 rfl fun F => ?_
 unfold Jb6 at hm
 refine qaq ?_
 intro b2
 refine qaq ?_
 intro b3
 refine qak rfl ?_
 refine fa rfl (ro (ld r1 rfl rfl (fa rfl (ro (ld r0 rfl rfl (qat ?_))))))
 refine qag ?_ ?_ <;> intro aP
 refine fa rfl (ct aP (ro (ld r1 rfl rfl (ct aP (fa rfl (ct aP (ro (ld r0 rfl rfl (ct aP ?_)))))))))
 refine qat (ct aP ?_)
 obtain ⟨bf, aW, hm⟩ := bnd hm
 refine qag ?_ ?_ <;> intro aR
 replace aW := ift (qb7 aP aR) aW
 refine fa rfl (ct aR (ro (ld r1 rfl rfl (ct aR (fa rfl (ct aR (ro (ld r0 rfl rfl (ct aR ?_)))))))))
 refine cb aW fun bm bg aW => cgx (Jfg bg :) ?_
 refine ct aR ?_
 obtain ⟨bb, aV, hm⟩ := bnd hm
 refine qag ?_ ?_ <;> intro aS
 replace aV := ift ((si aW).symm.trans aS) aV
 refine fa rfl (ct aS (ro (ld r1 rfl rfl (ct aS (fa rfl (ct aS (ro (ld r0 rfl rfl (ct aS ?_)))))))))
 refine cb aV fun bn bj aV => cgx (JdZ bj :) ?_
 refine ct aS ?_
 obtain ⟨aX, aU, hm⟩ := bnd hm
 refine qag ?_ ?_ <;> intro aQ
 replace aU := ift ((si aV).symm.trans aQ) aU
 refine fa rfl (ct aQ (ro (ld r1 rfl rfl (ct aQ (fa rfl (ct aQ (ro (ld r0 rfl rfl (ct aQ ?_)))))))))
 refine cb aU fun bo bh aU => cgx (JdZ bh :) ?_
 refine ct aQ ?_
 refine qag ?_ ?_ <;> intro aL
 refine fa rfl (ct aL (ro (ld r1 rfl rfl (ct aL (fa rfl (ct aL (ro (ld r0 rfl rfl (ct aL ?_)))))))))
 refine qad (ct aL ?_)
 refine qag ?_ ?_ <;> intro aM
 refine fa rfl (ct aM (ro (ld r1 rfl rfl (ct aM (fa rfl (ct aM (ro (ld r0 rfl rfl (ct aM ?_)))))))))
 refine qad (ct aM ?_)
 refine qag ?_ ?_ <;> intro aN
 refine fa rfl (ct aN (ro (ld r1 rfl rfl (ct aN (fa rfl (ct aN (ro (ld r0 rfl rfl (ct aN ?_)))))))))
 refine qad (ct aN ?_)
 refine qag ?_ ?_ <;> intro aO
 refine fa rfl (ct aO (ro (ld r1 rfl rfl (ct aO (fa rfl (ct aO (ro (ld r0 rfl rfl (ct aO ?_)))))))))
 refine qoi rfl (ct aO ?_)
 refine qag ?_ ?_ <;> intro aT
 refine fa rfl (ct aT (ro (ld r1 rfl rfl (ct aT (fa rfl (ct aT (ro (ld r0 rfl rfl (ct aT ?_)))))))))
 refine qoi rfl (ct aT ?_)
 exact bE (qdp (b := (r'.Al == w'.Al)) (qb7 (qb7 (qb7 (qb7 ((si aU).symm.trans aL) aM) aN) aO) aT)) (eE hm)
 refine cf aT (cf aT (cf aT (cf aT (cf aT ?_))))
 exact bE (((qaz (qcx (qb7 (qb7 (qb7 ((si aU).symm.trans aL) aM) aN) aO) aT))).symm) (eE hm)
 refine cf aO (cf aO (cf aO (cf aO (cf aO (cF (cF (cF ?_)))))))
 refine cF (cF (cF ?_))
 exact bE (((qaz (qaz (qcx (qb7 (qb7 ((si aU).symm.trans aL) aM) aN) aO)))).symm) (eE hm)
 refine cf aN (cf aN (cf aN (cf aN (cf aN (cF (cF (cF ?_)))))))
 refine cF (cF (cF (cF (cF (cF (cF (cF ?_)))))))
 refine cF ?_
 exact bE (((qaz (qaz (qaz (qcx (qb7 ((si aU).symm.trans aL) aM) aN))))).symm) (eE hm)
 refine cf aM (cf aM (cf aM (cf aM (cf aM (cF (cF (cF ?_)))))))
 refine cF (cF (cF (cF (cF (cF (cF (cF ?_)))))))
 refine cF (cF (cF (cF (cF (cF (cF ?_))))))
 exact bE (((qaz (qaz (qaz (qaz (qcx ((si aU).symm.trans aL) aM)))))).symm) (eE hm)
 refine cf aL (cf aL (cf aL (cf aL (cf aL (cF (cF (cF ?_)))))))
 refine cF (cF (cF (cF (cF (cF (cF (cF ?_)))))))
 refine cF (cF (cF (cF (cF (cF (cF (cF ?_)))))))
 refine cF (cF (cF (cF (cF ?_))))
 exact bE (((qaz (qaz (qaz (qaz (qaz ((si aU).symm.trans aL))))))).symm) (eE hm)
 replace aU := qbo ((si aV).symm.trans aQ) aU
 refine cf aQ (cf aQ (cf aQ (cf aQ (cf aQ (cF (cF (cF ?_)))))))
 refine cF (cF (cF (cF (cF (cF (cF (cF ?_)))))))
 refine cF (cF (cF (cF (cF (cF (cF (cF ?_)))))))
 refine cF (cF (cF (cF (cF (cF (cF (cF ?_)))))))
 refine cF (cF (cF ?_))
 exact bE (((qaz (qaz (qaz (qaz (qaz (si aU).symm)))))).symm) (eE hm)
 replace aV := qbo ((si aW).symm.trans aS) aV
 refine cf aS (cf aS (cf aS (cf aS (cf aS ?_))))
 obtain ⟨aX, aU, hm⟩ := bnd hm
 replace aU := qbo (si aV).symm aU
 refine cF (cF (cF (cF (cF (cF (cF (cF ?_)))))))
 refine cF (cF (cF (cF (cF (cF (cF (cF ?_)))))))
 refine cF (cF (cF (cF (cF (cF (cF (cF ?_)))))))
 refine cF (cF (cF (cF (cF (cF (cF (cF ?_)))))))
 refine cF (cF (cF (cF ?_)))
 exact bE (((qaz (qaz (qaz (qaz (qaz (si aU).symm)))))).symm) (eE hm)
 replace aW := qbo (qcx aP aR) aW
 refine cf aR (cf aR (cf aR (cf aR (cf aR ?_))))
 obtain ⟨bb, aV, hm⟩ := bnd hm
 replace aV := qbo (si aW).symm aV
 refine cF (cF (cF (cF (cF (cF ?_)))))
 obtain ⟨aX, aU, hm⟩ := bnd hm
 replace aU := qbo (si aV).symm aU
 refine cF (cF (cF (cF (cF (cF (cF (cF ?_)))))))
 refine cF (cF (cF (cF (cF (cF (cF (cF ?_)))))))
 refine cF (cF (cF (cF (cF (cF (cF (cF ?_)))))))
 refine cF (cF (cF (cF (cF (cF (cF (cF ?_)))))))
 refine cF (cF (cF (cF ?_)))
 exact bE (((qaz (qaz (qaz (qaz (qaz (si aU).symm)))))).symm) (eE hm)
 refine cf aP (cf aP (cf aP (cf aP (cf aP ?_))))
 obtain ⟨bf, aW, hm⟩ := bnd hm
 replace aW := qbo (qaz aP) aW
 refine cF (cF (cF (cF (cF (cF ?_)))))
 obtain ⟨bb, aV, hm⟩ := bnd hm
 replace aV := qbo (si aW).symm aV
 refine cF (cF (cF (cF (cF (cF ?_)))))
 obtain ⟨aX, aU, hm⟩ := bnd hm
 replace aU := qbo (si aV).symm aU
 refine cF (cF (cF (cF (cF (cF (cF (cF ?_)))))))
 refine cF (cF (cF (cF (cF (cF (cF (cF ?_)))))))
 refine cF (cF (cF (cF (cF (cF (cF (cF ?_)))))))
 refine cF (cF (cF (cF (cF (cF (cF (cF ?_)))))))
 refine cF (cF (cF (cF ?_)))
 exact bE (((qaz (qaz (qaz (qaz (qaz (si aU).symm)))))).symm) (eE hm)

def JbL : List Jj → Nat → (List Jq) → Option ((List Jq))
  | [], _, ac => some ac
  | e0 :: aL, i0, ac =>
    (chk (ac.length + [(⟨e0.Name, e0.Value⟩ : Jq)].length ≤ lim)).bind fun _ =>
    JbL aL (i0 + 1) (ac ++ [(⟨e0.Name, e0.Value⟩ : Jq)])
def Jd0 (l : (List Jj)) : Option ((List Jq)) :=
  (chk (l.length ≤ qau)).bind fun _ =>
  (JbL l 0 []).bind fun t0 =>
  some t0
theorem Jfh {l : (List Jj)} {aa : Option Addr} {ab : Nat} {n0 : Nat} {K : Hp} {r : (List Jq)}
    (hm : Jd0 l = some r) (hX : RdC Jj.enc K aa ab 2 l ∧ n0 = l.length) :
    Fn Tryz.prog 56 [.slice aa n0 ab] K [] (fun v K' H' => ∃ ar_0 : Option Addr, ∃ cr_0 : Nat, v = .slice ar_0 r.length cr_0 ∧ (0 < r.length → Has ar_0) ∧ H' = [OwnL Jq.enc ar_0 90 2 cr_0 r]) := by
 obtain ⟨ae, aU⟩ := hX
 subst aU
 refine Fn.enter Tryz.func56 Tryz.call56 rfl fun F => ?_
 unfold Jd0 at hm
 refine ro (qai rfl ?_)
 obtain ⟨aV, hm⟩ := qa2 hm
 obtain ⟨s0, aN, hm⟩ := bnd hm
 refine qnk Jq.enc 90 2 ?_
 refine lD (σ := ((List Jq)) × Option Addr × Nat) ([3,5] ++ rg 8 13) [1] (fun i0 => [(8, .int .i64 (i0 : Int))]) (fun (t0, aL, aM) => [(3, .slice aL t0.length aM)]) (fun (t0, aL, aM) => [OwnL Jq.enc aL 90 2 aM t0]) (fun (t0, aL, aM) => (0 < t0.length → Has aL) ∧ True) (fun i0 (t0, aL, aM) => JbL (l.drop i0) i0 t0 = some s0) (fun (t0, aL, aM) => t0 = s0) (fun i0 => l.length - i0) 0 (_, _, _) aN (And.intro qe (And.intro ?_ ?_))
 clear aN
 rintro i0 ⟨ac, aR, aS⟩ ⟨aP, _⟩ aN j0
 conv at aN => whnf
 refine qae rfl ?_
 refine qag ?_ ?_ <;> intro w0
 obtain ⟨e0, aO, aW⟩ := ltx w0
 rw [aW, JbL.eq_2] at aN
 refine qal rfl ?_
 refine RStep.ofN (qac rfl rfl (qec ae.rd aO) (nn _) (qbq aO) (ro (qaj i0 _ ae.rd rfl (mp aO) rfl ?_)))
 refine qao rfl fun b5 => ?_
 refine qab r0 rfl ⟨rfl, rfl, (nl rfl), ?_⟩
 refine fa rfl (ro (ld r0 rfl rfl (fa rfl (ro (ld r0 rfl rfl (qam rfl rfl (cT (cT ?_))))))))
 refine bsO (len := 1) (enc := Jq.enc) (l := [(⟨e0.Name, e0.Value⟩ : Jq)]) (cl := [str e0.Name, str e0.Value]) qwh rfl rfl (fun _ _ => rfl) rfl rfl rfl ?_ fun aX => ?_
 · conv => whnf
   refine cT ?_
   first | done | rfl
 obtain ⟨aT, aN⟩ := qa2 aN
 refine apE rfl r2 qwh (qa5 rfl r0 rfl (fun _ => rfl) (fun _ => rfl)) aT ?_
 intro a8 aY aZ
 refine qap (qcf aO aV) ?_
 exact eR aN (_, _, _, _)
 rw [lty w0, JbL.eq_1] at aN
 refine cT ?_
 exact eM aN (_, _, _)
 rintro ⟨t0, aL, aM⟩ ⟨aQ, _⟩ rfl j0
 exact eE hm

def JcR (r' : Jl) : Option (Jp) :=
  (Jd0 r'.Ag).bind fun x9 =>
  some (⟨r'.Ae, r'.Af, x9, r'.Vary, r'.Ah, r'.TTL, r'.Ai, r'.Aj, r'.Ak, r'.Al⟩ : Jp)
theorem Jfi {r' : Jl} {aa : Option Addr} {ab : Nat} {ah : Option Addr} {ak : Nat} {al : Option Addr} {am : Nat} {K : Hp} {r : Jp}
    (hm : JcR r' = some r) (hX : RdC Jj.enc K aa ab 2 r'.Ag ∧ RdC eS K ah ak 1 r'.Vary ∧ RdC eS K al am 1 r'.Ah) :
    Fn Tryz.prog 26 [.agg #[str r'.Ae, str r'.Af, .slice aa r'.Ag.length ab, .slice ah r'.Vary.length ak, .slice al r'.Ah.length am, .int .i64 r'.TTL, .int .i64 r'.Ai, .int .i64 r'.Aj, .bool r'.Ak, .bool r'.Al]] K [] (fun v K' H' => ∃ ar_0 : Option Addr, ∃ cr_0 : Nat, ∃ ar_1 : Option Addr, ∃ cr_1 : Nat, ∃ ar_2 : Option Addr, ∃ cr_2 : Nat, v = .agg #[str r.Ae, str r.Af, .slice ar_0 r.Ag.length cr_0, .slice ar_1 r.Vary.length cr_1, .slice ar_2 r.Ah.length cr_2, .int .i64 r.TTL, .int .i64 r.Ai, .int .i64 r.Aj, .bool r.Ak, .bool r.Al] ∧ RdC Jq.enc K' ar_0 cr_0 2 r.Ag ∧ RdC eS K' ar_1 cr_1 1 r.Vary ∧ RdC eS K' ar_2 cr_2 1 r.Ah ∧ H' = []) := by
 obtain ⟨ae, aL, aM⟩ := hX
 refine Fn.enter Tryz.func26 Tryz.call26 rfl fun F => ?_
 unfold JcR at hm
 refine qaq ?_
 intro b1
 refine qao rfl fun b2 => ?_
 refine qa6 ⟨⟨[], false⟩, _, [(_, _)], []⟩ (by kernel_rfl) ⟨Hp.Le.refl _, (sc [1] rfl), ci0⟩ ?_
 refine fa rfl (qan m0 rfl rfl (fa rfl (qan m0 rfl rfl (fa rfl (qan m0 rfl rfl ?_)))))
 refine cb hm fun x9 q9 hm => ckx (Jfh q9 :) ?_
 rintro _ _ _ ⟨aP, aN, rfl, aO, rfl⟩
 refine qk (sc [2] rfl) ?_
 refine fa rfl (qan m0 rfl rfl (fa rfl (qan m0 rfl rfl (fa rfl (qan m0 rfl rfl (fa rfl (qan m0 rfl rfl ?_)))))))
 refine fa rfl (qan m0 rfl rfl (fa rfl (qan m0 rfl rfl (fa rfl (qan m0 rfl rfl (qam rfl rfl (cT ?_)))))))
 refine cT (cT (cT (cT (cT (cT (cT (cT ?_)))))))
 refine cT ?_
 refine qab r1 rfl ⟨rfl, rfl, (nl rfl), ?_⟩
 refine qk (sc [2] rfl) ?_
 refine ro (qah r0 rfl (nl rfl) ?_)
 refine fE r1 fun aS aR aQ => ?_
 exact eE hm

def JbV (n : Nat) (n' : Je) (Ar : Jw) (less : UInt8) : Option (Bool) :=
  (((JaI n).bind fun bt =>
  (if (!bt) then some true else (JbX n n').bind fun bg =>
  some bg).bind fun bf =>
  (if bf then some true else (Jb4 n Ar).bind fun bb =>
  some (!bb)).bind fun bp =>
  some bp) : Option (Bool)).bind fun aO =>
  if aO then
  (JaI n).bind fun bu =>
  some bu
  else
  (Jb5 n n').bind fun aZ =>
  (Ja1 n aZ).bind fun aM =>
  (JbI n aZ).bind fun aQ =>
  if aM.2.isSome then
  some true
  else
  (Ja4 Ar).bind fun bj =>
  (JaM n aM.1 bj aQ.1).bind fun aL =>
  (((if aQ.2.isSome then some true else (Jdi aL.2 13).bind fun bv =>
  some bv).bind fun bh =>
  (if bh then some true else (Jdi aL.2 9).bind fun bo =>
  some bo).bind fun bn =>
  some bn) : Option (Bool)).bind fun aS =>
  if aS then
  some false
  else
  if aL.2.isSome then
  (Jb6 aL.1 (⟨([] : Str), ([] : Str), [], [], [], 0, 0, 0, false, false⟩ : Jp)).bind fun a8 =>
  some a8
  else
  if (decide (aL.1.Aj < 1) || decide (aL.1.Aj > aQ.1)) then
  some false
  else
  (Ja4 Ar).bind fun bm =>
  (JaM n aM.1 bm aL.1.Aj).bind fun aY =>
  (Ja4 Ar).bind fun ba =>
  (chk (InI (aL.1.Aj - 1))).bind fun _ =>
  (chk (InI ((aL.1.Aj - 1) - (less.toNat : Int)))).bind fun _ =>
  (JaM n aM.1 ba ((aL.1.Aj - 1) - (less.toNat : Int))).bind fun aX =>
  (if aY.2.isNone then (JcR aL.1).bind fun aP =>
  (Jb6 aY.1 aP).bind fun aT =>
  some aT else some false).bind fun aU =>
  (if aU then (Jdi aX.2 13).bind fun aN =>
  some aN else some false).bind fun aW =>
  (if aW then (Jb6 aX.1 (⟨([] : Str), ([] : Str), [], [], [], 0, 0, 0, false, false⟩ : Jp)).bind fun aR =>
  some aR else some false).bind fun aV =>
  some aV
theorem Jdv {n : Nat} {n' : Je} {Ar : Jw} {less : UInt8} {aa : Option Addr} {ab : Nat} {af : Option Addr} {ag : Nat} {K : Hp} {r : Bool}
    (hm : JbV n n' Ar less = some r) (hX : LiC Je.R K aa ab 4 n'.Aa ∧ RdC Jq.enc K af ag 2 Ar.Ao ∧ GG K) :
    Fn Tryz.prog 8 [.agg #[.int .i64 n'.Ab, str n'.Ac, .slice aa n'.Aa.length ab, .int .i64 n'.Ad], .agg #[str Ar.Am, str Ar.An, str Ar.Ae, str Ar.Af, .slice af Ar.Ao.length ag], .int .u8 (less.toNat : Int)] K [] (fun v K' H' => v = .bool r ∧ H' = []) := by
 obtain ⟨ae, aj, hG⟩ := hX
 refine Fn.enter Tryz.func8 Tryz.call8 rfl fun F => ?_
 unfold JbV at hm
 refine qaq ?_
 intro b3
 refine qaq ?_
 intro b4
 obtain ⟨cM, aQ, hm⟩ := bnd hm
 refine jR (σ := Bool) (rg 17 11) (fun bA => [(27, .bool bA)]) (fun bA => bA = cM) ?_ ?_
 refine qak rfl ?_
 refine cb aQ fun fp ez aQ => cgx (JdI ez :) ?_
 refine qay ?_
 obtain ⟨fw, bG, aQ⟩ := bnd aQ
 refine cS bG (fun bm bG => ?_) fun bm bG => ?_
 refine ct bm (ct bm ?_)
 obtain ⟨eK, bt, aQ⟩ := bnd aQ
 replace bt := ift (si bG).symm bt
 refine cT (cT (cT (cT ?_)))
 exact eMq aQ _ ⟨bq (si bt), trivial⟩
 refine ro (qah r1 rfl (nl rfl) (cf bm ?_))
 refine cb bG fun fl ei bG => cgx (Je1 ei :) ?_
 refine cf bm ?_
 obtain ⟨eK, bt, aQ⟩ := bnd aQ
 refine qag ?_ ?_ <;> intro ba
 replace bt := ift ((si bG).symm.trans ba) bt
 refine ct ba (ct ba (ct ba ?_))
 exact eMq aQ _ ⟨bq (si bt), trivial⟩
 replace bt := qbo ((si bG).symm.trans ba) bt
 refine ro (qah r0 rfl (nl rfl) (cf ba ?_))
 refine cb bt fun fv ff bt => cgx (Jfa ff :) ?_
 refine cf ba (qay (cf ba ?_))
 exact eMq aQ _ ⟨bq (si bt), trivial⟩
 rintro bA rfl eD
 refine cs rfl rfl hm ?_ ?_ <;> intro fh hm
 refine cb hm fun fk ek hm => cgx (JdI ek :) ?_
 exact eE hm
 refine ro (qah r1 rfl (nl rfl) ?_)
 refine cb hm fun fI eG hm => cfx (Jfp eG :) ?_
 rintro _ fo _ c8 ⟨dJ, dF, dT, rfl, du, cz, rfl⟩
 refine qao rfl fun b7 => ?_
 refine qab r0 rfl ⟨rfl, rfl, (nl rfl), ?_⟩
 refine ro (qah r0 rfl (nl rfl) ?_)
 refine qAi Tryz.call29 Ja.R_ok r1 cz fun ce bb cG => ?_
 refine cb hm fun fK fg hm => ckx (JdR fg :) ?_
 rintro _ _ _ ⟨dR, dj, rfl, dh, rfl⟩
 refine ro (qah r1 rfl (nl rfl) ?_)
 refine cb hm fun cP fb hm => cgx (Jeo fb :) ?_
 refine qbh rfl ?_
 refine cs rfl rfl hm ?_ ?_ <;> intro fN hm
 exact eE hm
 refine ro (qah r2 rfl (nl rfl) ?_)
 refine cb hm fun eZ e9 hm => ckx (Jc4 e9 :) ?_
 rintro _ _ _ ⟨dy, dA, rfl, dP, rfl⟩
 refine fF Tryz.call13 r0 fun cu bf bw => ?_
 refine cb hm fun cK ey hm => ck0 (Fn.lend Tryz.call13 (fun dY bF cn => (JcJ (Ar := eZ) (most := cP.1) ey ⟨cn, rfl, (bw.mono bF), (hG.mono (((c8.trans bb).trans bf).trans bF))⟩)) (by exact fun _ _ _ _ h => h)) ?_
 rintro _ _ _ ⟨_, rfl, dz, dL, dV, dt, dD, d3, rfl, df, dG, dS, rfl⟩
 refine qao rfl fun fM => ?_
 refine qab r0 rfl ⟨rfl, rfl, (nl rfl), ?_⟩
 obtain ⟨cO, aW, hm⟩ := bnd hm
 refine jR (σ := Bool) (rg 51 10) (fun bB => [(60, .bool bB)]) (fun bB => bB = cO) ?_ ?_
 refine qak rfl ?_
 refine qbh rfl ?_
 obtain ⟨fC, bI, aW⟩ := bnd aW
 refine cS bI (fun bj bI => ?_) fun bj bI => ?_
 refine ct bj (ct bj ?_)
 obtain ⟨eJ, bu, aW⟩ := bnd aW
 replace bu := ift (si bI).symm bu
 refine cT (cT (cT ?_))
 exact eMq aW _ ⟨bq (si bu), trivial⟩
 refine cf bj ?_
 refine cb bI fun fJ d5 bI => cg0 (Jep d5 :) ?_
 refine cf bj ?_
 obtain ⟨eJ, bu, aW⟩ := bnd aW
 refine qag ?_ ?_ <;> intro bh
 replace bu := ift ((si bI).symm.trans bh) bu
 refine ct bh (ct bh ?_)
 exact eMq aW _ ⟨bq (si bu), trivial⟩
 replace bu := qbo ((si bI).symm.trans bh) bu
 refine cf bh ?_
 refine cb bu fun fD d4 bu => cg0 (Jep d4 :) ?_
 refine cf bh ?_
 exact eMq aW _ ⟨bq (si bu), trivial⟩
 rintro bB rfl eL
 refine cs rfl rfl hm ?_ ?_ <;> intro fj hm
 exact eE hm
 refine qbh rfl ?_
 refine cs rfl rfl hm ?_ ?_ <;> intro fA hm
 refine ro (qah r0 rfl (nl rfl) (qam rfl rfl ?_))
 refine fF Tryz.call18 r2 fun cI cw cj => ?_
 refine fF Tryz.call18 r2 fun cr cd cm => ?_
 refine fF Tryz.call18 r2 fun cA cC cD => ?_
 refine cb hm fun fL em hm => cgx (JdS em :) ?_
 exact eE hm
 refine jR (σ := Unit) (rg 66 9) (fun _ => [(74, .bool (decide (cK.1.Aj < 1) || decide (cK.1.Aj > cP.1)))]) (fun fe => True) ?_ ?_
 refine qak rfl ?_
 refine fa rfl (ro (ld r0 rfl rfl ?_))
 refine qag ?_ ?_ <;> intro aM
 refine ct aM (ct aM (ct aM (ct aM ?_)))
 exact eMt () ⟨bq (((qdo aM)).symm), trivial⟩
 refine fa rfl (cf aM (ro (ld r0 rfl rfl (cf aM (cf aM (cf aM ?_))))))
 exact eMt () ⟨bq (qlv (b := decide (cK.1.Aj > cP.1)) aM), trivial⟩
 rintro _ _ eo
 refine cs rfl rfl hm ?_ ?_ <;> intro fq hm
 exact eE hm
 refine qdr ⟨⟨[], false⟩, _, [(_, _), (_, _)], []⟩ 12 rfl (by kernel_rfl) ⟨Hp.Le.refl _, (sc [6,0] rfl), ci0⟩ ?_
 refine qb9 m0 rfl (nl rfl) ?_
 intro eF
 refine cb hm fun d9 d6 hm => ckx (Jc4 d6 :) ?_
 rintro _ _ _ ⟨dI, dX, rfl, dC, rfl⟩
 refine ⟨⟨lr, (sc [7,1] rfl), ci0⟩, ?_⟩
 refine ⟨_, .cons r10 .nil, ⟨lr, (sc [7,1] rfl), ci0⟩, ?_⟩
 refine fa rfl (qan m1 rfl rfl ?_)
 intro fH
 refine fF Tryz.call13 r0 fun cJ aN bv => ?_
 refine cb hm fun fu e8 hm => ck0 (Fn.lend Tryz.call13 (fun dk bH cH => (JcJ (Ar := d9) (most := cK.1.Aj) e8 ⟨cH, rfl, (bv.mono bH), (hG.mono ((((c8.trans bb).trans bf).trans aN).trans bH))⟩)) (by exact fun _ _ _ _ h => h)) ?_
 rintro _ _ _ ⟨_, rfl, dN, dc, dg, dm, dK, dl, rfl, dH, dO, dM, rfl⟩
 refine ⟨⟨aN, (sc [9,4] rfl), ci0⟩, ?_⟩
 refine ⟨_, .cons r12 .nil, ⟨aN, (sc [9,4] rfl), ci0⟩, ?_⟩
 refine qjh rfl ?_
 intro fG
 intro eV
 refine qab r0 rfl ⟨rfl, rfl, (nl rfl), ?_⟩
 refine ⟨⟨aN, (sc [10,5] rfl), ci0⟩, ?_⟩
 refine ⟨_, .cons r13 .nil, ⟨aN, (sc [10,5] rfl), ci0⟩, ?_⟩
 refine qdr ⟨⟨[], false⟩, _, [(_, _), (_, _)], []⟩ 16 rfl (by kernel_rfl) ⟨Hp.Le.refl _, (sc [10,5] rfl), ci0⟩ ?_
 refine qb9 m0 rfl (nl rfl) ?_
 intro eF
 refine cb hm fun eu eQ hm => ckx (Jc4 eQ :) ?_
 rintro _ _ _ ⟨dx, dU, rfl, dQ, rfl⟩
 refine ⟨⟨lr, (sc [11,6] rfl), ci0⟩, ?_⟩
 refine ⟨_, .cons r14 .nil, ⟨lr, (sc [11,6] rfl), ci0⟩, ?_⟩
 refine fa rfl (qan m1 rfl rfl ?_)
 obtain ⟨eC, hm⟩ := qa2 hm
 refine qap eC (qls rfl rfl (qz4 less) ?_)
 refine ci hm fun hm => ?_
 intro fm
 refine fF Tryz.call13 r0 fun cq aP bz => ?_
 refine cb hm fun fy eY hm => ck0 (Fn.lend Tryz.call13 (fun dp bD cB => (JcJ (Ar := eu) (most := ((cK.1.Aj - 1) - (less.toNat : Int))) eY ⟨cB, rfl, (bz.mono bD), (hG.mono (((((c8.trans bb).trans bf).trans aN).trans aP).trans bD))⟩)) (by exact fun _ _ _ _ h => h)) ?_
 rintro _ _ _ ⟨_, rfl, dW, dZ, dB, di, de, dv, rfl, dE, dq, dw, rfl⟩
 refine ⟨⟨aP, (sc [13,8] rfl), ci0⟩, ?_⟩
 refine ⟨_, .cons r16 .nil, ⟨aP, (sc [13,8] rfl), ci0⟩, ?_⟩
 refine qjh rfl ?_
 intro fB
 intro d7
 refine qab r0 rfl ⟨rfl, rfl, (nl rfl), ?_⟩
 refine ⟨⟨aP, (sc [14,9] rfl), ci0⟩, ?_⟩
 refine ⟨_, .cons r17 .nil, ⟨aP, (sc [14,9] rfl), ci0⟩, ?_⟩
 refine qa6 ⟨⟨[], false⟩, _, [(_, _), (_, _), (_, _)], []⟩ (by kernel_rfl) ⟨Hp.Le.refl _, (sc [5,8,0] rfl), ci0⟩ ?_
 refine qft rfl ?_
 obtain ⟨eH, bg, hm⟩ := bnd hm
 refine cS bg (fun aO bg => ?_) fun aO bg => ?_
 refine qb9 m0 rfl (nl rfl) (ct aO (qb9 m1 rfl (nl rfl) (ct aO ?_)))
 refine fF Tryz.call26 r10 fun ca aS bT => ?_
 refine fF Tryz.call26 r10 fun bZ aU bO => ?_
 refine fF Tryz.call26 r10 fun bU aT bQ => ?_
 refine cb bg fun ej cX bg => cfx (Jfi cX :) ?_
 rintro _ eX _ bC ⟨c9, cR, cV, db, cY, cZ, rfl, c5, da, cQ, rfl⟩
 refine ⟨⟨(((aS.trans aU).trans aT).trans bC), (sc [5,8,0] rfl), ci0⟩, ?_⟩
 refine ct aO ?_
 refine fF Tryz.call18 r6 fun bL a8 bJ => ?_
 refine fF Tryz.call18 r6 fun bW aY bX => ?_
 refine fF Tryz.call18 r6 fun bY aZ bM => ?_
 refine cb bg fun d8 cW bg => cgx (JdS cW :) ?_
 refine ⟨⟨((((((aS.trans aU).trans aT).trans bC).trans a8).trans aY).trans aZ), (sc [5,5,0] rfl), ci0⟩, ?_⟩
 refine ct aO ?_
 obtain ⟨cU, aX, hm⟩ := bnd hm
 refine qag ?_ ?_ <;> intro aR
 replace aX := ift ((si bg).symm.trans aR) aX
 refine ct aR ?_
 refine cb aX fun ep cL aX => cg0 (Jep cL :) ?_
 refine ⟨⟨((((((aS.trans aU).trans aT).trans bC).trans a8).trans aY).trans aZ), (sc [5,5,0] rfl), ci0⟩, ?_⟩
 refine ct aR ?_
 obtain ⟨cp, aV, hm⟩ := bnd hm
 refine qag ?_ ?_ <;> intro aL
 replace aV := ift ((si aX).symm.trans aL) aV
 refine qb9 m2 rfl (nl rfl) (ct aL (qam rfl rfl (ct aL ?_)))
 refine fF Tryz.call18 r2 fun bR bo bP => ?_
 refine fF Tryz.call18 r2 fun bN bp bK => ?_
 refine fF Tryz.call18 r2 fun bS bn bV => ?_
 refine cb aV fun fc c6 aV => cgx (JdS c6 :) ?_
 refine ⟨⟨(((((((((aS.trans aU).trans aT).trans bC).trans a8).trans aY).trans aZ).trans bo).trans bp).trans bn), (sc [2,2,0] rfl), ci0⟩, ?_⟩
 refine ct aL ?_
 exact bE (si aV) (eE hm)
 replace aV := qbo ((si aX).symm.trans aL) aV
 refine cf aL (cf aL (cf aL ?_))
 exact bE (si aV) (eE hm)
 replace aX := qbo ((si bg).symm.trans aR) aX
 refine cf aR (cf aR ?_)
 obtain ⟨cp, aV, hm⟩ := bnd hm
 replace aV := qbo (si aX).symm aV
 refine cF (cF (cF (cF ?_)))
 exact bE (si aV) (eE hm)
 refine cf aO (cf aO (cf aO (cf aO ?_)))
 obtain ⟨cU, aX, hm⟩ := bnd hm
 replace aX := qbo (si bg).symm aX
 refine cF (cF (cF ?_))
 obtain ⟨cp, aV, hm⟩ := bnd hm
 replace aV := qbo (si aX).symm aV
 refine cF (cF (cF (cF ?_)))
 exact bE (si aV) (eE hm)
