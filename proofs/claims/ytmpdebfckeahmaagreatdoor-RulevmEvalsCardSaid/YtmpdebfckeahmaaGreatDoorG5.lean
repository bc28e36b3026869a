/- Functions of the program: mirrors, and that a call returns what the mirror says. Printed by gen.py. -/
import Derived.Test.YtmpdebfckeahmaaGreatDoorG4
set_option linter.unusedVariables false
set_option linter.unusedSimpArgs false
open Go Go.SL Go.Proofs
noncomputable section
set_option maxRecDepth 1000000
set_option maxHeartbeats 8000000
def J5 (ax : ((List Jb) → Option (Bool))) : Nat → Jb → Option (Bool)
  | 0, _ => none
  | n + 1, n' =>
    if decide (n'.Ab = 2) then
    (if ((decide (n'.Ac ≠ ([] : Str)) || decide ((n'.Aa.length : Int) < 2)) || decide ((n'.Aa.length : Int) > 3)) then some true else (ix n'.Aa 0).bind fun aV =>
    (Jt n aV).bind fun bc =>
    some (!bc)).bind fun a6 =>
    (if a6 then some true else (ix n'.Aa 1).bind fun bd =>
    (JcZ ax n bd).bind fun bp =>
    some (!bp)).bind fun aW =>
    if aW then
    some false
    else
    (if decide ((n'.Aa.length : Int) = 2) then some true else (ix n'.Aa 2).bind fun bf =>
    (JcZ ax n bf).bind fun bb =>
    some bb).bind fun aX =>
    if aX then
    some true
    else
    (ix n'.Aa 2).bind fun ba =>
    (if decide (ba.Ab = 2) then (ix n'.Aa 2).bind fun bm =>
    ((J5 ax n) bm).bind fun a8 =>
    some a8 else some false).bind fun aZ =>
    some aZ
    else
    if decide (n'.Ab = 3) then
    (JcV n n'.Ac).bind fun bo =>
    (if bo then (Jag (Jt n) n n'.Aa 1).bind fun bh =>
    some bh else some false).bind fun bg =>
    some bg
    else
    if decide (n'.Ab = 4) then
    (if (decide (n'.Ac = ([112, 97, 116, 104] : Str)) || decide (n'.Ac = ([113, 117, 101, 114, 121] : Str))) then (Jag (Jt n) n n'.Aa 1).bind fun bj =>
    some bj else some false).bind fun bt =>
    some bt
    else
    if decide (n'.Ab = 5) then
    (JbC n'.Ac).bind fun aY =>
    (if aY then (Jag (Jt n) n n'.Aa 1).bind fun br =>
    some br else some false).bind fun bn =>
    some bn
    else
    if decide (n'.Ab = 6) then
    (JbC n'.Ac).bind fun aU =>
    some (aU && decide ((n'.Aa.length : Int) = 0))
    else
    if decide (n'.Ab = 7) then
    (if decide (n'.Ac = ([] : Str)) then (Jag (Jt n) n n'.Aa 1).bind fun aT =>
    some aT else some false).bind fun aS =>
    some aS
    else
    if decide (n'.Ab = 8) then
    (if decide (n'.Ac = ([] : Str)) then (Jag (Jt n) n n'.Aa 1).bind fun aT =>
    some aT else some false).bind fun aS =>
    some aS
    else
    if decide (n'.Ab = 9) then
    (if decide (n'.Ac = ([] : Str)) then (Jag (Jt n) n n'.Aa 1).bind fun aT =>
    some aT else some false).bind fun aS =>
    some aS
    else
    if decide (n'.Ab = 10) then
    some (decide (n'.Ac = ([] : Str)) && decide ((n'.Aa.length : Int) = 0))
    else
    if decide (n'.Ab = 11) then
    some (decide (n'.Ac = ([] : Str)) && decide ((n'.Aa.length : Int) = 0))
    else
    some false
theorem JfA {ax : ((List Jb) → Option (Bool))} (ihrec2_0 : ∀ {l : (List Jb)} {aa : Option Addr} {ab : Nat} {n0 : Nat} {K : Hp} {r : Bool} (hm : ax l = some r) (hX : LiC Jb.R K aa ab 4 l ∧ n0 = l.length), Fn Tryz.prog 90 [.slice aa n0 ab] K [] (fun v K' H' => v = .bool r ∧ H' = [])) : ∀ {n : Nat} {n' : Jb} {aa : Option Addr} {ab : Nat} {K : Hp} {r : Bool}
    (hm : J5 ax n n' = some r) (ae : LiC Jb.R K aa ab 4 n'.Aa),
    Fn Tryz.prog 131 [.agg #[.int .i64 n'.Ab, str n'.Ac, .slice aa n'.Aa.length ab, .int .i64 n'.Ad]] K [] (fun v K' H' => v = .bool r ∧ H' = []) := by
 intro n
 induction n with
 | zero =>
   intro n' aa ab K r hm ae
   rw [J5.eq_1] at hm; cases hm
 | succ n ih =>
   intro n' aa ab K r hm ae
   refine Fn.enter Tryz.func131 Tryz.call131 rfl fun F => ?_
   rw [J5.eq_2] at hm
   refine qaq ?_
   intro b1
   refine fa rfl (ro (ld r0 rfl rfl ?_))
   refine qai rfl ?_
   refine qad (cs rfl rfl hm ?_ ?_) <;> intro w6 hm
   refine fa rfl (ro (ld r0 rfl rfl (ro (qaj rfl ?_))))
   refine qah rfl ?_
   refine fa rfl (ro (ld r0 rfl rfl (qb4 ?_)))
   refine qag ?_ ?_ <;> intro bc
   refine ct bc (ct bc (cT (cT (cT ?_))))
   obtain ⟨cp, bh, hm⟩ := bnd hm
   replace bh := ift (qcj (qcj bc)) bh
   refine cT (cT (cT (cT (cT (cT (cT ?_))))))
   obtain ⟨bU, bf, hm⟩ := bnd hm
   replace bf := ift (si bh).symm bf
   refine cT (cT (cT (cT (cT (cT (cT (qaf rfl ?_)))))))
   refine cT ?_
   replace hm := ift (si bf).symm hm
   exact eE hm
   refine cf bc (cf bc ?_)
   refine qag ?_ ?_ <;> intro bd
   refine ct bd (ct bd ?_)
   obtain ⟨cp, bh, hm⟩ := bnd hm
   replace bh := ift (qcj (qf0 bc bd)) bh
   refine cT (cT (cT (cT (cT (cT (cT ?_))))))
   obtain ⟨bU, bf, hm⟩ := bnd hm
   replace bf := ift (si bh).symm bf
   refine cT (cT (cT (cT (cT (cT (cT (qaf rfl ?_)))))))
   refine cT ?_
   replace hm := ift (si bf).symm hm
   exact eE hm
   refine cf bd (cf bd ?_)
   obtain ⟨cp, bh, hm⟩ := bnd hm
   refine qag ?_ ?_ <;> intro aX
   replace bh := ift (qf0 (qee bc bd) aX) bh
   refine ct aX (ct aX (ct aX (ct aX (ct aX (ct aX ?_)))))
   obtain ⟨bU, bf, hm⟩ := bnd hm
   replace bf := ift (si bh).symm bf
   refine cT (cT (cT (cT (cT (cT (cT (qaf rfl ?_)))))))
   refine cT ?_
   replace hm := ift (si bf).symm hm
   exact eE hm
   replace bh := qa6 (qee (qee bc bd) aX) bh
   refine fa rfl (cf aX (ro (ld r0 rfl rfl (cf aX ?_))))
   obtain ⟨dz, cG, bB, bh⟩ := ixb bh
   refine RStep.ofN (qac rfl rfl (qcf ae.rd bB) cG (qas rfl cG bB) (cf aX ?_))
   obtain ⟨cV, cY, bN, bP, bF⟩ := LiR.get ae.rd bB
   obtain ⟨cq, cn, rfl, cE⟩ := Jb.out bF
   refine ro (qap ((0 : Int).toNat) _ bN rfl bP rfl (cf aX ?_))
   refine cb bh fun dt de bh => cgx (Jar de :) ?_
   refine cf aX (qa1 (cf aX ?_))
   obtain ⟨bU, bf, hm⟩ := bnd hm
   refine qag ?_ ?_ <;> intro aY
   replace bf := ift ((si bh).symm.trans (qii (qra aY))) bf
   refine ct aY (ct aY (ct aY (ct aY (ct aY (ct aY (qaf rfl (cT ?_)))))))
   replace hm := ift (si bf).symm hm
   exact eE hm
   replace bf := qa6 ((si bh).symm.trans (qeb (qlu aY))) bf
   refine fa rfl (cf aY (ro (ld r0 rfl rfl (cf aY ?_))))
   obtain ⟨dy, cA, bV, bf⟩ := ixb bf
   refine RStep.ofN (qac rfl rfl (qcf ae.rd bV) cA (qas rfl cA bV) (cf aY ?_))
   obtain ⟨cP, cL, bK, bX, bW⟩ := LiR.get ae.rd bV
   obtain ⟨cd, cw, rfl, cr⟩ := Jb.out bW
   refine ro (qap ((1 : Int).toNat) _ bK rfl bX rfl (cf aY ?_))
   refine cb bf fun dm cO bf => cgx (Jeu ihrec2_0 cO :) ?_
   refine cf aY (qa1 (cf aY (qaf rfl ?_)))
   refine qag ?_ ?_ <;> intro cC
   replace hm := ift ((si bf).symm.trans (qii (qra cC))) hm
   exact eE hm
   replace hm := qa6 ((si bf).symm.trans (qeb (qlu cC))) hm
   refine qah rfl ?_
   refine qad ?_
   obtain ⟨dv, bn, hm⟩ := bnd hm
   refine cS bn (fun a6 bn => ?_) fun a6 bn => ?_
   refine ct a6 (ct a6 (ct a6 (ct a6 (ct a6 ?_))))
   replace hm := ift (si bn).symm hm
   refine cT (cT (cT (cT (cT (cT (cT (cT ?_)))))))
   refine cT ?_
   exact eE hm
   refine fa rfl (cf a6 (ro (ld r0 rfl rfl (cf a6 ?_))))
   obtain ⟨dA, ce, bR, bn⟩ := ixb bn
   refine RStep.ofN (qac rfl rfl (qcf ae.rd bR) ce (qas rfl ce bR) (cf a6 ?_))
   obtain ⟨cQ, df, bQ, bS, bJ⟩ := LiR.get ae.rd bR
   obtain ⟨cu, co, rfl, cm⟩ := Jb.out bJ
   refine ro (qap ((2 : Int).toNat) _ bQ rfl bS rfl (cf a6 ?_))
   refine cb bn fun dw da bn => cgx (Jeu ihrec2_0 da :) ?_
   refine cf a6 ?_
   refine qag ?_ ?_ <;> intro aU
   replace hm := ift ((si bn).symm.trans aU) hm
   refine ct aU (ct aU (ct aU (ct aU (ct aU (ct aU (ct aU (ct aU ?_)))))))
   exact eE hm
   replace hm := qa6 ((si bn).symm.trans aU) hm
   refine fa rfl (cf aU (ro (ld r0 rfl rfl (cf aU ?_))))
   obtain ⟨du, cH, bA, hm⟩ := ixb hm
   refine RStep.ofN (qac rfl rfl (qcf ae.rd bA) cH (qas rfl cH bA) (cf aU (qaw rfl (qcf ae.rd bA) (cf aU ?_))))
   obtain ⟨db, cR, bT, bL, bI⟩ := LiR.get ae.rd bA
   obtain ⟨bZ, ca, rfl, cz⟩ := Jb.out bI
   refine ro (qbd ((2 : Int).toNat) 0 _ _ bT rfl bL rfl rfl (cf aU (qad (cf aU ?_))))
   obtain ⟨dq, bo, hm⟩ := bnd hm
   refine cS bo (fun a8 bo => ?_) fun a8 bo => ?_
   refine fa rfl (ct a8 (ro (ld r0 rfl rfl (ct a8 ?_))))
   obtain ⟨dk, cB, bG, bo⟩ := ixb bo
   refine RStep.ofN (qac rfl rfl (qcf ae.rd bG) cB (qas rfl cB bG) (ct a8 ?_))
   obtain ⟨dc, cX, bH, bD, bO⟩ := LiR.get ae.rd bG
   obtain ⟨cj, cD, rfl, bY⟩ := Jb.out bO
   refine ro (qap ((2 : Int).toNat) _ bH rfl bD rfl (ct a8 ?_))
   refine cb bo fun dh cJ bo => cgx (ih cJ :) ?_
   refine cf aU (ct a8 (cf aU ?_))
   exact bE (si bo) (eE hm)
   refine cf a8 (cf a8 (cf a8 (cf a8 (cf aU (cf a8 (cf aU ?_))))))
   exact bE (si bo) (eE hm)
   refine qad (cs rfl rfl hm ?_ ?_) <;> intro dD hm
   refine qah rfl ?_
   refine fa rfl (ro (ld r0 rfl rfl ?_))
   refine cb hm fun dx c8 hm => cg0 (JdW c8 :) ?_
   obtain ⟨di, bt, hm⟩ := bnd hm
   refine cS bt (fun bg bt => ?_) fun bg bt => ?_
   refine fa rfl (ct bg (ro (ld r0 rfl rfl (ct bg ?_))))
   refine cb bt fun dj cZ bt => cgx (J6 (Jar (n := n)) cZ :) ?_
   refine ct bg ?_
   exact bE (si bt) (eE hm)
   refine cf bg (cf bg (cf bg ?_))
   exact bE (si bt) (eE hm)
   refine qad (cs rfl rfl hm ?_ ?_) <;> intro dB hm
   refine qah rfl ?_
   refine fa rfl (ro (ld r0 rfl rfl (qam ?_)))
   refine qag ?_ ?_ <;> intro aZ
   refine ct aZ (ct aZ (ct aZ ?_))
   obtain ⟨cW, bj, hm⟩ := bnd hm
   replace bj := ift (qcj aZ) bj
   refine cT (fa rfl (cT (ro (ld r0 rfl rfl (cT ?_)))))
   refine cb bj fun cM bM bj => cgx (J6 (Jar (n := n)) bM :) ?_
   refine cT ?_
   exact bE (si bj) (eE hm)
   refine fa rfl (cf aZ (ro (ld r0 rfl rfl (cf aZ (qam (cf aZ ?_))))))
   obtain ⟨cW, bj, hm⟩ := bnd hm
   refine qag ?_ ?_ <;> intro ba
   replace bj := ift (qf0 aZ ba) bj
   refine fa rfl (ct ba (ro (ld r0 rfl rfl (ct ba ?_))))
   refine cb bj fun cM bM bj => cgx (J6 (Jar (n := n)) bM :) ?_
   refine ct ba ?_
   exact bE (si bj) (eE hm)
   replace bj := qa6 (qee aZ ba) bj
   refine cf ba (cf ba (cf ba ?_))
   exact bE (si bj) (eE hm)
   refine qad (cs rfl rfl hm ?_ ?_) <;> intro dC hm
   refine qah rfl ?_
   refine fa rfl (ro (ld r0 rfl rfl ?_))
   refine cb hm fun dp cK hm => cg0 (Jc9 cK :) ?_
   obtain ⟨dl, br, hm⟩ := bnd hm
   refine cS br (fun bb br => ?_) fun bb br => ?_
   refine fa rfl (ct bb (ro (ld r0 rfl rfl (ct bb ?_))))
   refine cb br fun dE cI br => cgx (J6 (Jar (n := n)) cI :) ?_
   refine ct bb ?_
   exact bE (si br) (eE hm)
   refine cf bb (cf bb (cf bb ?_))
   exact bE (si br) (eE hm)
   refine qad (cs rfl rfl hm ?_ ?_) <;> intro dg hm
   refine qah rfl ?_
   refine fa rfl (ro (ld r0 rfl rfl ?_))
   refine cb hm fun cU bC hm => cg0 (Jc9 bC :) ?_
   refine qag ?_ ?_ <;> intro aV
   refine fa rfl (ct aV (ro (ld r0 rfl rfl (ct aV (ro (qaj rfl (ct aV (qad (ct aV ?_)))))))))
   exact bE (qbw (b := decide ((n'.Aa.length : Int) = 0)) aV) (eE hm)
   refine cf aV (cf aV (cf aV (cf aV ?_)))
   exact bE (((qa0 aV)).symm) (eE hm)
   refine qad (cs rfl rfl hm ?_ ?_) <;> intro bp hm
   refine qaf rfl (ct bp ?_)
   refine qah rfl ?_
   refine fa rfl (ro (ld r0 rfl rfl (qam ?_)))
   obtain ⟨bw, aW, hm⟩ := bnd hm
   refine cS aW (fun aS aW => ?_) fun aS aW => ?_
   refine fa rfl (ct aS (ro (ld r0 rfl rfl (ct aS ?_))))
   refine cb aW fun bz bm aW => cgx (J6 (Jar (n := n)) bm :) ?_
   refine ct aS ?_
   exact bE (si aW) (eE hm)
   refine cf aS (cf aS (cf aS ?_))
   exact bE (si aW) (eE hm)
   refine qad (cs rfl rfl hm ?_ ?_) <;> intro bp hm
   refine qaf rfl (ct bp ?_)
   refine qah rfl ?_
   refine fa rfl (ro (ld r0 rfl rfl (qam ?_)))
   obtain ⟨bw, aW, hm⟩ := bnd hm
   refine cS aW (fun aS aW => ?_) fun aS aW => ?_
   refine fa rfl (ct aS (ro (ld r0 rfl rfl (ct aS ?_))))
   refine cb aW fun bz bm aW => cgx (J6 (Jar (n := n)) bm :) ?_
   refine ct aS ?_
   exact bE (si aW) (eE hm)
   refine cf aS (cf aS (cf aS ?_))
   exact bE (si aW) (eE hm)
   refine qad (cs rfl rfl hm ?_ ?_) <;> intro bp hm
   refine qah rfl ?_
   refine fa rfl (ro (ld r0 rfl rfl (qam ?_)))
   obtain ⟨bw, aW, hm⟩ := bnd hm
   refine cS aW (fun aS aW => ?_) fun aS aW => ?_
   refine fa rfl (ct aS (ro (ld r0 rfl rfl (ct aS ?_))))
   refine cb aW fun bz bm aW => cgx (J6 (Jar (n := n)) bm :) ?_
   refine ct aS ?_
   exact bE (si aW) (eE hm)
   refine cf aS (cf aS (cf aS ?_))
   exact bE (si aW) (eE hm)
   refine qad (cs rfl rfl hm ?_ ?_) <;> intro bu hm
   refine qaf rfl (ct bu ?_)
   refine qah rfl ?_
   refine fa rfl (ro (ld r0 rfl rfl (qam ?_)))
   refine qag ?_ ?_ <;> intro aT
   refine fa rfl (ct aT (ro (ld r0 rfl rfl (ct aT (ro (qaj rfl (ct aT (qad (ct aT ?_)))))))))
   exact bE (qbw (b := decide ((n'.Aa.length : Int) = 0)) aT) (eE hm)
   refine cf aT (cf aT (cf aT (cf aT ?_)))
   exact bE (((qa0 aT)).symm) (eE hm)
   refine qad (cs rfl rfl hm ?_ ?_) <;> intro bu hm
   refine qah rfl ?_
   refine fa rfl (ro (ld r0 rfl rfl (qam ?_)))
   refine qag ?_ ?_ <;> intro aT
   refine fa rfl (ct aT (ro (ld r0 rfl rfl (ct aT (ro (qaj rfl (ct aT (qad (ct aT ?_)))))))))
   exact bE (qbw (b := decide ((n'.Aa.length : Int) = 0)) aT) (eE hm)
   refine cf aT (cf aT (cf aT (cf aT ?_)))
   exact bE (((qa0 aT)).symm) (eE hm)
   exact eE hm

def Jcb (rec_ : ((List Jb) → Option (Bool))) (n : Nat) : List Jb → Nat → Option (Fl (Bool) (Unit))
  | [], _ => some (Fl.go ())
  | e0 :: aT, i0 =>
    (J5 rec_ n e0).bind fun aS =>
    if (!aS) then
    some (Fl.ret false)
    else
    Jcb rec_ n aT (i0 + 1)
def JbP : Nat → (List Jb) → Option (Bool)
  | 0, _ => none
  | n + 1, l =>
    (chk (l.length ≤ qax)).bind fun _ =>
    (Jcb (JbP n) n l 0).bind fun s0 => s0.el some fun t0 =>
    some true
theorem Jgl : ∀ {n : Nat} {l : (List Jb)} {aa : Option Addr} {ab : Nat} {n0 : Nat} {K : Hp} {r : Bool}
    (hm : JbP n l = some r) (hX : LiC Jb.R K aa ab 4 l ∧ n0 = l.length),
    Fn Tryz.prog 90 [.slice aa n0 ab] K [] (fun v K' H' => v = .bool r ∧ H' = []) := by
 intro n
 induction n with
 | zero =>
   intro l aa ab n0 K r hm hX
   rw [JbP.eq_1] at hm; cases hm
 | succ n ih =>
   intro l aa ab n0 K r hm hX
   obtain ⟨ae, bc⟩ := hX
   subst bc
   refine Fn.enter Tryz.func90 Tryz.call90 rfl fun F => ?_
   rw [JbP.eq_2] at hm
   refine ro (qaj rfl ?_)
   obtain ⟨bb, hm⟩ := qay hm
   obtain ⟨s0, aS, hm⟩ := bnd hm
   refine lD (σ := (Unit)) ([2,3] ++ rg 6 10) [0] (fun i0 => [(6, .int .i64 (i0 : Int))]) (fun _ => []) (fun _ => []) (fun _ => True) (fun i0 _ => Jcb (JbP n) n (l.drop i0) i0 = some s0) (fun t0 => s0 = Fl.go t0) (fun i0 => l.length - i0) 0 () aS (And.intro qe (And.intro ?_ ?_))
   clear aS
   rintro i0 _ _ aS j0
   conv at aS => whnf
   refine qaf rfl ?_
   refine qag ?_ ?_ <;> intro w0
   obtain ⟨e0, aT, bd⟩ := ltx w0
   rw [bd, Jcb.eq_2] at aS
   refine qai rfl ?_
   refine RStep.ofN (qac rfl rfl (qcf ae.rd aT) (nn _) (qbg aT) ?_)
   obtain ⟨a6, ba, aU, aV, aW⟩ := LiR.get ae.rd aT
   obtain ⟨aZ, aY, rfl, aX⟩ := Jb.out aW
   refine ro (qap i0 _ aU rfl aV rfl ?_)
   refine cb aS fun bf a8 aS => cgx (JfA ih a8 :) ?_
   refine qa1 ?_
   refine cs rfl rfl aS ?_ ?_ <;> intro bg aS
   exact eE (er aS hm)
   refine qar (qbu aT bb) ?_
   exact eR aS (_, ())
   rw [lty w0, Jcb.eq_1] at aS
   refine cT ?_
   exact eM aS _
   rintro t0 _ rfl j0
   replace hm := elg hm
   exact eE hm

def Jdi (n : Nat) (n' : Jb) : Option (Bool) :=
  (if (decide (n'.Ab = 1) && decide (n'.Ac = ([] : Str))) then (JcY n n').bind fun aU =>
  some (decide (aU ≤ 512)) else some false).bind fun aX =>
  (if aX then (Jcw n n').bind fun aS =>
  some (decide (aS ≤ 32)) else some false).bind fun aT =>
  (if aT then (JbP n n'.Aa).bind fun aV =>
  some aV else some false).bind fun aW =>
  some aW
theorem JfS {n : Nat} {n' : Jb} {aa : Option Addr} {ab : Nat} {K : Hp} {r : Bool}
    (hm : Jdi n n' = some r) (ae : LiC Jb.R K aa ab 4 n'.Aa) :
    Fn Tryz.prog 53 [.agg #[.int .i64 n'.Ab, str n'.Ac, .slice aa n'.Aa.length ab, .int .i64 n'.Ad]] K [] (fun v K' H' => v = .bool r ∧ H' = []) := by
 refine Fn.enter Tryz.func53 Tryz.call53 rfl fun F => ?_
 unfold Jdi at hm
 refine qaq ?_
 intro b1
 refine qah rfl ?_
 refine fa rfl (ro (ld r0 rfl rfl (qad ?_)))
 refine qag ?_ ?_ <;> intro aW
 refine fa rfl (ct aW (ro (ld r0 rfl rfl (ct aW (qam (ct aW ?_))))))
 obtain ⟨a8, aY, hm⟩ := bnd hm
 refine qag ?_ ?_ <;> intro aS
 replace aY := ift (qby aW aS) aY
 refine ro (qae r0 rfl (nl rfl) (ct aS ?_))
 refine cb aY fun bf ba aY => cgx (Jf8 ba :) ?_
 refine ct aS (ct aS ?_)
 obtain ⟨a6, aX, hm⟩ := bnd hm
 refine qag ?_ ?_ <;> intro aU
 replace aX := ift ((si aY).symm.trans aU) aX
 refine ro (qae r0 rfl (nl rfl) (ct aU ?_))
 refine cb aX fun bd bc aX => cgx (JfP bc :) ?_
 refine ct aU (ct aU ?_)
 obtain ⟨aZ, aV, hm⟩ := bnd hm
 refine qag ?_ ?_ <;> intro aT
 replace aV := ift ((si aX).symm.trans aT) aV
 refine fa rfl (ct aT (ro (ld r0 rfl rfl (ct aT ?_))))
 refine cb aV fun bg bb aV => cgx (Jgl bb :) ?_
 refine ct aT ?_
 exact bE (si aV) (eE hm)
 replace aV := qa6 ((si aX).symm.trans aT) aV
 refine cf aT (cf aT (cf aT ?_))
 exact bE (si aV) (eE hm)
 replace aX := qa6 ((si aY).symm.trans aU) aX
 refine cf aU (cf aU (cf aU ?_))
 obtain ⟨aZ, aV, hm⟩ := bnd hm
 replace aV := qa6 (si aX).symm aV
 refine cF (cF (cF (cF ?_)))
 exact bE (si aV) (eE hm)
 replace aY := qa6 (qb8 aW aS) aY
 refine cf aS (cf aS (cf aS ?_))
 obtain ⟨a6, aX, hm⟩ := bnd hm
 replace aX := qa6 (si aY).symm aX
 refine cF (cF (cF (cF ?_)))
 obtain ⟨aZ, aV, hm⟩ := bnd hm
 replace aV := qa6 (si aX).symm aV
 refine cF (cF (cF (cF ?_)))
 exact bE (si aV) (eE hm)
 refine cf aW (cf aW (cf aW ?_))
 obtain ⟨a8, aY, hm⟩ := bnd hm
 replace aY := qa6 (qa0 aW) aY
 refine cF (cF (cF (cF ?_)))
 obtain ⟨a6, aX, hm⟩ := bnd hm
 replace aX := qa6 (si aY).symm aX
 refine cF (cF (cF (cF ?_)))
 obtain ⟨aZ, aV, hm⟩ := bnd hm
 replace aV := qa6 (si aX).symm aV
 refine cF (cF (cF (cF ?_)))
 exact bE (si aV) (eE hm)

def JcH (s : Str) : Option (Bool) :=
  some (((decide (s = ([109, 101, 116, 104, 111, 100] : Str)) || decide (s = ([104, 111, 115, 116] : Str))) || decide (s = ([112, 97, 116, 104] : Str))) || decide (s = ([113, 117, 101, 114, 121] : Str)))
theorem JeI {s : Str} {K : Hp} {r : Bool}
    (hm : JcH s = some r)  :
    Fn Tryz.prog 116 [str s] K [] (fun v K' H' => v = .bool r ∧ H' = []) := by
 refine Fn.enter Tryz.func116 Tryz.call116 rfl fun F => ?_
 unfold JcH at hm
 refine qah rfl ?_
 refine qam ?_
 refine qag ?_ ?_ <;> intro aT
 refine ct aT (ct aT (cT (cT (cT (cT (cT (cT ?_)))))))
 exact bE (((qcj (qcj (qcj aT)))).symm) (eE hm)
 refine cf aT (qam (cf aT ?_))
 refine qag ?_ ?_ <;> intro aU
 refine ct aU (ct aU (cT (cT (cT ?_))))
 exact bE (((qcj (qcj (qf0 aT aU)))).symm) (eE hm)
 refine cf aU (qam (cf aU ?_))
 refine qag ?_ ?_ <;> intro aS
 refine ct aS (ct aS ?_)
 exact bE (((qcj (qf0 (qee aT aU) aS))).symm) (eE hm)
 refine cf aS (qam (cf aS ?_))
 exact bE (qhe (b := decide (s = ([113, 117, 101, 114, 121] : Str))) (qee (qee aT aU) aS)) (eE hm)

def Jbg (env : (List JC)) (s : Str) : Nat → Int → Option (Fl (Int) (Int))
  | 0, _ => none
  | aS + 1, ac =>
    if decide (ac ≥ 0) then
    (ix env ac).bind fun aU =>
    if decide (aU.Name = s) then
    (ix env ac).bind fun aT =>
    some (Fl.ret aT.As)
    else
    (chk (InI (ac - 1))).bind fun _ =>
    Jbg env s aS (ac - 1)
    else
    some (Fl.go ac)
def Jc0 (n : Nat) (s : Str) (env : (List JC)) : Option (Int) :=
  (chk (InI ((env.length : Int) - 1))).bind fun _ =>
  (Jbg env s n ((env.length : Int) - 1)).bind fun s0 => s0.el some fun t0 =>
  (JcH s).bind fun aS =>
  if aS then
  some 1
  else
  some 0
theorem Jev {n : Nat} {s : Str} {env : (List JC)} {ag : Option Addr} {ah : Nat} {n1 : Nat} {K : Hp} {r : Int}
    (hm : Jc0 n s env = some r) (hX : RdC JC.enc K ag ah 2 env ∧ n1 = env.length) :
    Fn Tryz.prog 93 [str s, .slice ag n1 ah] K [] (fun v K' H' => v = .int .i64 r ∧ H' = []) := by
 obtain ⟨af, aY⟩ := hX
 subst aY
 refine Fn.enter Tryz.func93 Tryz.call93 rfl fun F => ?_
 unfold Jc0 at hm
 refine ro (qaj rfl ?_)
 refine ci hm fun hm => ?_
 obtain ⟨s0, aS, hm⟩ := bnd hm
 refine lD (σ := (Int)) ([4,5] ++ rg 9 16) [0] (fun _ => []) (fun t0 => [(5, .int .i64 t0)]) (fun _ => []) (fun _ => True) (fun i0 t0 => Jbg env s i0 t0 = some s0) (fun t0 => s0 = Fl.go t0) (fun i0 => i0) n _ aS (And.intro qe (And.intro ?_ ?_))
 clear aS
 rintro i0 ac _ aS j0
 conv at aS => whnf
 cases i0 with
 | zero => rw [Jbg.eq_1] at aS; cases aS
 | succ i0 =>
  rw [Jbg.eq_2] at aS
  refine cs rfl rfl aS ?_ ?_ <;> intro bc aS
  refine qai rfl ?_
  obtain ⟨a6, aV, aU, aS⟩ := ixb aS
  refine RStep.ofN (qac rfl rfl (qcc af.rd aU) aV (qas rfl aV aU) (qaw rfl (qcc af.rd aU) (ro (qbd ((ac).toNat) 0 _ _ af.rd rfl (mp aU) rfl rfl (qam ?_)))))
  refine cs rfl rfl aS ?_ ?_ <;> intro ba aS
  obtain ⟨aZ, aW, aT, aS⟩ := ixb aS
  refine RStep.ofN (qac rfl rfl (qcc af.rd aT) aW (qas rfl aW aT) (qaw rfl (qcc af.rd aT) (ro (qbd ((ac).toNat) 1 _ _ af.rd rfl (mp aT) rfl rfl ?_))))
  exact eE (er aS hm)
  refine ci aS fun aS => ?_
  exact eR aS (_, _)
  refine cT ?_
  exact eM aS _
 rintro t0 _ rfl j0
 replace hm := elg hm
 refine cb hm fun a8 aX hm => cg0 (JeI aX :) ?_
 refine cs rfl rfl hm ?_ ?_ <;> intro bb hm
 exact eE hm
 exact eE hm

def Jbw (s : Str) : Option (Int × Int × Bool) :=
  if decide (s = ([104, 101, 97, 100, 101, 114] : Str)) then
  some (1, 1, true)
  else
  if decide (s = ([97, 114, 103] : Str)) then
  some (1, 1, true)
  else
  if decide (s = ([108, 111, 119, 101, 114] : Str)) then
  some (1, 1, true)
  else
  if decide (s = ([104, 97, 115] : Str)) then
  some (1, 3, true)
  else
  if decide (s = ([108, 101, 110] : Str)) then
  some (1, 2, true)
  else
  if decide (s = ([110, 117, 109, 98, 101, 114] : Str)) then
  some (1, 2, true)
  else
  if decide (s = ([112, 97, 114, 116] : Str)) then
  some (2, 1, true)
  else
  if decide (s = ([116, 101, 120, 116] : Str)) then
  some (2, 1, true)
  else
  some (0, 0, false)
theorem Jd4 {s : Str} {K : Hp} {r : Int × Int × Bool}
    (hm : Jbw s = some r)  :
    Fn Tryz.prog 117 [str s] K [] (fun v K' H' => v = .tuple #[.int .i64 r.1, .int .i64 r.2.1, .bool r.2.2] ∧ H' = []) := by
 refine Fn.enter Tryz.func117 Tryz.call117 rfl fun F => ?_
 unfold Jbw at hm
 refine qai rfl ?_
 refine qam (cs rfl rfl hm ?_ ?_) <;> intro w6 hm
 refine qaf rfl (ct w6 ?_)
 exact eE hm
 refine qam (cs rfl rfl hm ?_ ?_) <;> intro w6 hm
 refine qaf rfl (ct w6 ?_)
 exact eE hm
 refine qam (cs rfl rfl hm ?_ ?_) <;> intro w6 hm
 exact eE hm
 refine qam (cs rfl rfl hm ?_ ?_) <;> intro aU hm
 exact eE hm
 refine qam (cs rfl rfl hm ?_ ?_) <;> intro aS hm
 refine qaf rfl (ct aS ?_)
 exact eE hm
 refine qam (cs rfl rfl hm ?_ ?_) <;> intro aS hm
 exact eE hm
 refine qam (cs rfl rfl hm ?_ ?_) <;> intro aT hm
 refine qaf rfl (ct aT ?_)
 exact eE hm
 refine qam (cs rfl rfl hm ?_ ?_) <;> intro aT hm
 exact eE hm
 exact eE hm

def Jas (n' : Jb) (kids : (List Int)) : Option (Int) :=
  (if decide ((kids.length : Int) = 2) then (ix kids 0).bind fun bf =>
  (ix kids 1).bind fun bd =>
  some (decide (bf = bd)) else some false).bind fun aS =>
  if decide (n'.Ab = 20) then
  some 2
  else
  if decide (n'.Ab = 21) then
  some 1
  else
  if decide (n'.Ab = 22) then
  some 3
  else
  if decide (n'.Ab = 17) then
  (if aS then (ix kids 0).bind fun bc =>
  some (decide (bc ≠ 3)) else some false).bind fun bb =>
  if bb then
  (ix kids 0).bind fun bj =>
  some bj
  else
  some 0
  else
  if decide (n'.Ab = 18) then
  (if aS then (ix kids 0).bind fun aV =>
  some (decide (aV = 2)) else some false).bind fun aU =>
  if aU then
  some 2
  else
  some 0
  else
  if decide (n'.Ab = 19) then
  (if aS then (ix kids 0).bind fun aV =>
  some (decide (aV = 2)) else some false).bind fun aU =>
  if aU then
  some 2
  else
  some 0
  else
  if decide (n'.Ab = 13) then
  (if aS then (ix kids 0).bind fun a6 =>
  some (decide (a6 = 3)) else some false).bind fun aX =>
  if aX then
  some 3
  else
  some 0
  else
  if decide (n'.Ab = 14) then
  (if aS then (ix kids 0).bind fun a6 =>
  some (decide (a6 = 3)) else some false).bind fun aX =>
  if aX then
  some 3
  else
  some 0
  else
  if decide (n'.Ab = 15) then
  (ix kids 0).bind fun bh =>
  if decide (bh = 3) then
  some 3
  else
  some 0
  else
  if decide (n'.Ab = 16) then
  if aS then
  (if (!(decide (n'.Ac = ([60] : Str)) || decide (n'.Ac = ([60, 61] : Str)))) then some true else (ix kids 0).bind fun bg =>
  some (decide (bg = 2))).bind fun a8 =>
  if a8 then
  (if (!((decide (n'.Ac = ([115, 116, 97, 114, 116, 115] : Str)) || decide (n'.Ac = ([101, 110, 100, 115] : Str))) || decide (n'.Ac = ([99, 111, 110, 116, 97, 105, 110, 115] : Str)))) then some true else (ix kids 0).bind fun aW =>
  some (decide (aW = 1))).bind fun aY =>
  if aY then
  some 3
  else
  some 0
  else
  some 0
  else
  some 0
  else
  if decide (n'.Ab = 24) then
  (Jbw n'.Ac).bind fun aT =>
  (if decide ((kids.length : Int) = 1) then (ix kids 0).bind fun aZ =>
  some (decide (aZ = aT.1)) else some false).bind fun ba =>
  if ba then
  some aT.2.1
  else
  some 0
  else
  some 0
theorem Jew {n' : Jb} {kids : (List Int)} {aa : Option Addr} {ab : Nat} {ag : Option Addr} {ah : Nat} {n1 : Nat} {K : Hp} {r : Int}
    (hm : Jas n' kids = some r) (hX : LiC Jb.R K aa ab 4 n'.Aa ∧ RdC eN K ag ah 1 kids ∧ n1 = kids.length) :
    Fn Tryz.prog 132 [.agg #[.int .i64 n'.Ab, str n'.Ac, .slice aa n'.Aa.length ab, .int .i64 n'.Ad], .slice ag n1 ah] K [] (fun v K' H' => v = .int .i64 r ∧ H' = []) := by
 obtain ⟨ae, af, cA⟩ := hX
 subst cA
 refine Fn.enter Tryz.func132 Tryz.call132 rfl fun F => ?_
 unfold Jas at hm
 refine qaq ?_
 intro b2
 obtain ⟨bH, bd, hm⟩ := bnd hm
 refine dR (σ := Bool) ([5] ++ rg 11 12) (fun br => [(5, .bool br)]) (fun br => br = bH) ?_ ?_
 replace bd := bsm bd
 refine qau ⟨⟨[], false⟩, _, [], []⟩ (by kernel_rfl) ⟨Hp.Le.refl _, (pf rfl), ci0⟩ ?_
 refine qcm rfl (qad ?_)
 obtain ⟨cQ, bp, bd⟩ := bnd bd
 refine cS bp (fun aX bp => ?_) fun aX bp => ?_
 refine ct aX ?_
 obtain ⟨cU, bZ, bL, bp⟩ := ixb bp
 refine qac rfl rfl (qcc af.rd bL) bZ (qas rfl bZ bL) (ct aX (qbj ((0 : Int).toNat) 0 _ _ af.rd rfl (mp bL) rfl rfl (ct aX (ct aX ?_))))
 obtain ⟨cI, bS, bP, bp⟩ := ixb bp
 refine qac rfl rfl (qcc af.rd bP) bS (qas rfl bS bP) (ct aX (qbj ((1 : Int).toNat) 0 _ _ af.rd rfl (mp bP) rfl rfl (ct aX (qad (ct aX ?_)))))
 exact eMq bd _ ⟨bq (si bp), trivial⟩
 refine cf aX (cf aX (cf aX (cf aX (cf aX (cf aX (cf aX ?_))))))
 exact eMq bd _ ⟨bq (si bp), trivial⟩
 rintro br rfl cz
 refine fa rfl (ro (ld r0 rfl rfl ?_))
 refine qai rfl ?_
 refine qad (cs rfl rfl hm ?_ ?_) <;> intro cP hm
 exact eE hm
 refine qad (cs rfl rfl hm ?_ ?_) <;> intro cC hm
 exact eE hm
 refine qad (cs rfl rfl hm ?_ ?_) <;> intro cM hm
 exact eE hm
 refine qad (cs rfl rfl hm ?_ ?_) <;> intro cK hm
 refine qah rfl ?_
 obtain ⟨cH, bt, hm⟩ := bnd hm
 refine cS bt (fun aZ bt => ?_) fun aZ bt => ?_
 refine ct aZ ?_
 obtain ⟨cE, bY, bN, bt⟩ := ixb bt
 refine RStep.ofN (qac rfl rfl (qcc af.rd bN) bY (qas rfl bY bN) (ct aZ (ro (qbd ((0 : Int).toNat) 0 _ _ af.rd rfl (mp bN) rfl rfl (ct aZ (qa2 (ct aZ (qaf rfl ?_))))))))
 refine qag ?_ ?_ <;> intro bT
 replace hm := ift ((si bt).symm.trans bT) hm
 obtain ⟨cR, bX, bO, hm⟩ := ixb hm
 refine RStep.ofN (qac rfl rfl (qcc af.rd bO) bX (qas rfl bX bO) (ro (qbd ((0 : Int).toNat) 0 _ _ af.rd rfl (mp bO) rfl rfl ?_)))
 exact eE hm
 replace hm := qa6 ((si bt).symm.trans bT) hm
 exact eE hm
 refine cf aZ (cf aZ (cf aZ (cf aZ (qaf rfl (cF ?_)))))
 replace hm := qa6 (si bt).symm hm
 exact eE hm
 refine qad (cs rfl rfl hm ?_ ?_) <;> intro bR hm
 refine qaf rfl (ct bR ?_)
 refine qah rfl ?_
 obtain ⟨cm, bj, hm⟩ := bnd hm
 refine cS bj (fun aT bj => ?_) fun aT bj => ?_
 refine ct aT ?_
 obtain ⟨cr, bF, bu, bj⟩ := ixb bj
 refine RStep.ofN (qac rfl rfl (qcc af.rd bu) bF (qas rfl bF bu) (ct aT (ro (qbd ((0 : Int).toNat) 0 _ _ af.rd rfl (mp bu) rfl rfl (ct aT (qad (ct aT (qaf rfl ?_))))))))
 refine qag ?_ ?_ <;> intro bA
 replace hm := ift ((si bj).symm.trans bA) hm
 exact eE hm
 replace hm := qa6 ((si bj).symm.trans bA) hm
 exact eE hm
 refine cf aT (cf aT (cf aT (cf aT (qaf rfl (cF ?_)))))
 replace hm := qa6 (si bj).symm hm
 exact eE hm
 refine qad (cs rfl rfl hm ?_ ?_) <;> intro bR hm
 refine qah rfl ?_
 obtain ⟨cm, bj, hm⟩ := bnd hm
 refine cS bj (fun aT bj => ?_) fun aT bj => ?_
 refine ct aT ?_
 obtain ⟨cr, bF, bu, bj⟩ := ixb bj
 refine RStep.ofN (qac rfl rfl (qcc af.rd bu) bF (qas rfl bF bu) (ct aT (ro (qbd ((0 : Int).toNat) 0 _ _ af.rd rfl (mp bu) rfl rfl (ct aT (qad (ct aT (qaf rfl ?_))))))))
 refine qag ?_ ?_ <;> intro bA
 replace hm := ift ((si bj).symm.trans bA) hm
 exact eE hm
 replace hm := qa6 ((si bj).symm.trans bA) hm
 exact eE hm
 refine cf aT (cf aT (cf aT (cf aT (qaf rfl (cF ?_)))))
 replace hm := qa6 (si bj).symm hm
 exact eE hm
 refine qad (cs rfl rfl hm ?_ ?_) <;> intro bW hm
 refine qaf rfl (ct bW ?_)
 refine qah rfl ?_
 obtain ⟨cu, bg, hm⟩ := bnd hm
 refine cS bg (fun aU bg => ?_) fun aU bg => ?_
 refine ct aU ?_
 obtain ⟨ca, bB, bz, bg⟩ := ixb bg
 refine RStep.ofN (qac rfl rfl (qcc af.rd bz) bB (qas rfl bB bz) (ct aU (ro (qbd ((0 : Int).toNat) 0 _ _ af.rd rfl (mp bz) rfl rfl (ct aU (qad (ct aU (qaf rfl ?_))))))))
 refine qag ?_ ?_ <;> intro bG
 replace hm := ift ((si bg).symm.trans bG) hm
 exact eE hm
 replace hm := qa6 ((si bg).symm.trans bG) hm
 exact eE hm
 refine cf aU (cf aU (cf aU (cf aU (qaf rfl (cF ?_)))))
 replace hm := qa6 (si bg).symm hm
 exact eE hm
 refine qad (cs rfl rfl hm ?_ ?_) <;> intro bW hm
 refine qah rfl ?_
 obtain ⟨cu, bg, hm⟩ := bnd hm
 refine cS bg (fun aU bg => ?_) fun aU bg => ?_
 refine ct aU ?_
 obtain ⟨ca, bB, bz, bg⟩ := ixb bg
 refine RStep.ofN (qac rfl rfl (qcc af.rd bz) bB (qas rfl bB bz) (ct aU (ro (qbd ((0 : Int).toNat) 0 _ _ af.rd rfl (mp bz) rfl rfl (ct aU (qad (ct aU (qaf rfl ?_))))))))
 refine qag ?_ ?_ <;> intro bG
 replace hm := ift ((si bg).symm.trans bG) hm
 exact eE hm
 replace hm := qa6 ((si bg).symm.trans bG) hm
 exact eE hm
 refine cf aU (cf aU (cf aU (cf aU (qaf rfl (cF ?_)))))
 replace hm := qa6 (si bg).symm hm
 exact eE hm
 refine qad (cs rfl rfl hm ?_ ?_) <;> intro cG hm
 obtain ⟨cO, bV, bM, hm⟩ := ixb hm
 refine RStep.ofN (qac rfl rfl (qcc af.rd bM) bV (qas rfl bV bM) (ro (qbd ((0 : Int).toNat) 0 _ _ af.rd rfl (mp bM) rfl rfl (qad ?_))))
 refine cs rfl rfl hm ?_ ?_ <;> intro cL hm
 exact eE hm
 exact eE hm
 refine qad (cs rfl rfl hm ?_ ?_) <;> intro cD hm
 refine jR (σ := Unit) ([6] ++ rg 71 8) (fun _ => [(6, .bool (decide (n'.Ac = ([60] : Str)) || decide (n'.Ac = ([60, 61] : Str))))]) (fun cn => True) ?_ ?_
 refine qah rfl ?_
 refine fa rfl (ro (ld r0 rfl rfl (qam ?_)))
 refine qag ?_ ?_ <;> intro bb
 refine ct bb (ct bb (ct bb ?_))
 exact eMt () ⟨bq (((qcj bb)).symm), trivial⟩
 refine fa rfl (cf bb (ro (ld r0 rfl rfl (cf bb (qam (cf bb ?_))))))
 exact eMt () ⟨bq (qhe (b := decide (n'.Ac = ([60, 61] : Str))) bb), trivial⟩
 rintro _ _ cB
 refine jR (σ := Unit) ([7] ++ rg 79 13) (fun _ => [(7, .bool ((decide (n'.Ac = ([115, 116, 97, 114, 116, 115] : Str)) || decide (n'.Ac = ([101, 110, 100, 115] : Str))) || decide (n'.Ac = ([99, 111, 110, 116, 97, 105, 110, 115] : Str))))]) (fun cj => True) ?_ ?_
 refine qah rfl ?_
 refine fa rfl (ro (ld r0 rfl rfl (qam ?_)))
 refine qag ?_ ?_ <;> intro a6
 refine ct a6 (ct a6 (ct a6 (cT (cT (cT (cT ?_))))))
 exact eMt () ⟨bq (((qcj (qcj a6))).symm), trivial⟩
 refine fa rfl (cf a6 (ro (ld r0 rfl rfl (cf a6 (qam (cf a6 ?_))))))
 refine qag ?_ ?_ <;> intro bc
 refine ct bc (ct bc (ct bc ?_))
 exact eMt () ⟨bq (((qcj (qf0 a6 bc))).symm), trivial⟩
 refine fa rfl (cf bc (ro (ld r0 rfl rfl (cf bc (qam (cf bc ?_))))))
 exact eMt () ⟨bq (qhe (b := decide (n'.Ac = ([99, 111, 110, 116, 97, 105, 110, 115] : Str))) (qee a6 bc)), trivial⟩
 rintro _ _ cd
 refine qah rfl ?_
 refine cS hm (fun aY hm => ?_) fun aY hm => ?_
 refine ct aY (qa1 (ct aY ?_))
 obtain ⟨ce, bh, hm⟩ := bnd hm
 refine cS bh (fun a8 bh => ?_) fun a8 bh => ?_
 refine ct a8 (ct a8 (ct a8 (ct aY (ct a8 (ct aY ?_)))))
 replace hm := ift (si bh).symm hm
 refine cT (cT (qa1 (cT ?_)))
 obtain ⟨bI, ba, hm⟩ := bnd hm
 refine cS ba (fun aS ba => ?_) fun aS ba => ?_
 refine ct aS (ct aS (ct aS (cT (ct aS (cT (qaf rfl (cT ?_)))))))
 replace hm := ift (si ba).symm hm
 exact eE hm
 refine cf aS ?_
 obtain ⟨bQ, bn, bm, ba⟩ := ixb ba
 refine RStep.ofN (qac rfl rfl (qcc af.rd bm) bn (qas rfl bn bm) (cf aS (ro (qbd ((0 : Int).toNat) 0 _ _ af.rd rfl (mp bm) rfl rfl (cf aS (qad (cT (cf aS (cT ?_)))))))))
 refine qaf rfl ?_
 refine qag ?_ ?_ <;> intro bo
 replace hm := ift ((si ba).symm.trans bo) hm
 exact eE hm
 replace hm := qa6 ((si ba).symm.trans bo) hm
 exact eE hm
 refine cf a8 ?_
 obtain ⟨cJ, bU, bK, bh⟩ := ixb bh
 refine RStep.ofN (qac rfl rfl (qcc af.rd bK) bU (qas rfl bU bK) (cf a8 (ro (qbd ((0 : Int).toNat) 0 _ _ af.rd rfl (mp bK) rfl rfl (cf a8 (qad (ct aY (cf a8 (ct aY ?_)))))))))
 refine qag ?_ ?_ <;> intro aV
 replace hm := ift ((si bh).symm.trans aV) hm
 refine ct aV (qa1 (ct aV ?_))
 obtain ⟨bI, ba, hm⟩ := bnd hm
 refine cS ba (fun aS ba => ?_) fun aS ba => ?_
 refine ct aS (ct aS (ct aS (ct aV (ct aS (ct aV (qaf rfl (cT ?_)))))))
 replace hm := ift (si ba).symm hm
 exact eE hm
 refine cf aS ?_
 obtain ⟨bQ, bn, bm, ba⟩ := ixb ba
 refine RStep.ofN (qac rfl rfl (qcc af.rd bm) bn (qas rfl bn bm) (cf aS (ro (qbd ((0 : Int).toNat) 0 _ _ af.rd rfl (mp bm) rfl rfl (cf aS (qad (ct aV (cf aS (ct aV ?_)))))))))
 refine qaf rfl ?_
 refine qag ?_ ?_ <;> intro bo
 replace hm := ift ((si ba).symm.trans bo) hm
 exact eE hm
 replace hm := qa6 ((si ba).symm.trans bo) hm
 exact eE hm
 replace hm := qa6 ((si bh).symm.trans aV) hm
 refine cf aV (cf aV (cf aV (cf aV (qaf rfl (cF ?_)))))
 exact eE hm
 refine cf aY (cf aY (cf aY (cf aY (cF (cF (cF (cF ?_)))))))
 refine cF (qaf rfl (cF ?_))
 exact eE hm
 refine qad (cs rfl rfl hm ?_ ?_) <;> intro cp hm
 refine fa rfl (ro (ld r0 rfl rfl ?_))
 refine cb hm fun co bJ hm => cg0 (Jd4 bJ :) ?_
 refine qah rfl ?_
 refine ro (qaj rfl (qad ?_))
 obtain ⟨cq, bf, hm⟩ := bnd hm
 refine cS bf (fun aW bf => ?_) fun aW bf => ?_
 refine ct aW ?_
 obtain ⟨cw, bD, bw, bf⟩ := ixb bf
 refine RStep.ofN (qac rfl rfl (qcc af.rd bw) bD (qas rfl bD bw) (ct aW (ro (qbd ((0 : Int).toNat) 0 _ _ af.rd rfl (mp bw) rfl rfl (ct aW (ct aW (qad (ct aW (qaf rfl ?_)))))))))
 refine qag ?_ ?_ <;> intro bC
 replace hm := ift ((si bf).symm.trans bC) hm
 exact eE hm
 replace hm := qa6 ((si bf).symm.trans bC) hm
 exact eE hm
 refine cf aW (cf aW (cf aW (cf aW (cf aW (qaf rfl (cF ?_))))))
 replace hm := qa6 (si bf).symm hm
 exact eE hm
 exact eE hm

def JbQ (rec_ : (Jb → (List JC) → Option (Int × JH))) (env : (List JC)) : List Jb → Nat → (List Int) → Option (Fl (Int × JH) ((List Int)))
  | [], _, ac => some (Fl.go ac)
  | e0 :: aT, i0, ac =>
    (rec_ e0 env).bind fun aS =>
    if decide (aS.2.Code ≠ 0) then
    some (Fl.ret (0, aS.2))
    else
    (chk (ac.length + [aS.1].length ≤ lim)).bind fun _ =>
    JbQ rec_ env aT (i0 + 1) (ac ++ [aS.1])
def JbJ : Nat → Jb → (List JC) → Option (Int × JH)
  | 0, _, _ => none
  | n + 1, n', env =>
    (chk (n'.Aa.length ≤ qax)).bind fun _ =>
    (JbQ (JbJ n) env n'.Aa 0 []).bind fun s0 => s0.el some fun t0 =>
    if decide (n'.Ab = 23) then
    (Jc0 n n'.Ac env).bind fun aT =>
    if decide (aT ≠ 0) then
    some (aT, (⟨0, 0⟩ : JH))
    else
    some (0, (⟨n'.Ad, 8⟩ : JH))
    else
    if decide (n'.Ab = 24) then
    (Jbw n'.Ac).bind fun aU =>
    if (!aU.2.2) then
    some (0, (⟨n'.Ad, 8⟩ : JH))
    else
    (Jas n' t0).bind fun aS =>
    if decide (aS = 0) then
    some (0, (⟨n'.Ad, 9⟩ : JH))
    else
    some (aS, (⟨0, 0⟩ : JH))
    else
    (Jas n' t0).bind fun aS =>
    if decide (aS = 0) then
    some (0, (⟨n'.Ad, 9⟩ : JH))
    else
    some (aS, (⟨0, 0⟩ : JH))
theorem Jga : ∀ {n : Nat} {n' : Jb} {env : (List JC)} {aa : Option Addr} {ab : Nat} {ag : Option Addr} {ah : Nat} {n1 : Nat} {K : Hp} {r : Int × JH}
    (hm : JbJ n n' env = some r) (hX : LiC Jb.R K aa ab 4 n'.Aa ∧ RdC JC.enc K ag ah 2 env ∧ n1 = env.length),
    Fn Tryz.prog 91 [.agg #[.int .i64 n'.Ab, str n'.Ac, .slice aa n'.Aa.length ab, .int .i64 n'.Ad], .slice ag n1 ah] K [] (fun v K' H' => v = .tuple #[.int .i64 r.1, .agg #[.int .i64 r.2.Ad, .int .i64 r.2.Code]] ∧ H' = []) := by
 intro n
 induction n with
 | zero =>
   intro n' env aa ab ag ah n1 K r hm hX
   rw [JbJ.eq_1] at hm; cases hm
 | succ n ih =>
   intro n' env aa ab ag ah n1 K r hm hX
   obtain ⟨ae, af, bC⟩ := hX
   subst bC
   refine Fn.enter Tryz.func91 Tryz.call91 rfl fun F => ?_
   rw [JbJ.eq_2] at hm
   refine qaq ?_
   intro b2
   refine qal rfl fun b5 => ?_
   refine fa rfl (ro (ld r1 rfl rfl (ro (qaj rfl ?_))))
   obtain ⟨bu, hm⟩ := qay hm
   obtain ⟨s0, aU, hm⟩ := bnd hm
   refine qkc eN 3 1 ?_
   refine lD (σ := ((List Int)) × Option Addr × Nat) ([4,6,8,9,10] ++ rg 19 19) [1, 2, 3] (fun i0 => [(19, .int .i64 (i0 : Int))]) (fun (t0, aS, aT) => [(6, .slice aS t0.length aT)]) (fun (t0, aS, aT) => [OwnL eN aS 3 1 aT t0]) (fun (t0, aS, aT) => (0 < t0.length → Has aS) ∧ True) (fun i0 (t0, aS, aT) => JbQ (JbJ n) env (n'.Aa.drop i0) i0 t0 = some s0) (fun (t0, aS, aT) => s0 = Fl.go t0) (fun i0 => n'.Aa.length - i0) 0 (_, _, _) aU (And.intro qe (And.intro ?_ ?_))
   clear aU
   rintro i0 ⟨ac, bh, bf⟩ ⟨bb, _⟩ aU j0
   conv at aU => whnf
   refine qaf rfl ?_
   refine qag ?_ ?_ <;> intro w0
   obtain ⟨e0, aY, bt⟩ := ltx w0
   rw [bt, JbQ.eq_2] at aU
   refine qai rfl ?_
   refine RStep.ofN (qac rfl rfl (qcf ae.rd aY) (nn _) (qbg aY) ?_)
   obtain ⟨bA, bw, a6, a8, ba⟩ := LiR.get ae.rd aY
   obtain ⟨bm, bd, rfl, bg⟩ := Jb.out ba
   refine ro (qap i0 _ a6 rfl a8 rfl ?_)
   refine qal rfl fun b8 => ?_
   refine qaa r0 rfl ⟨rfl, rfl, (nl rfl), ?_⟩
   refine ro (qae r0 rfl (nl rfl) ?_)
   refine cb aU fun bc bz aU => cgx (ih bz :) ?_
   refine qal rfl fun bF => ?_
   refine qaa r0 rfl ⟨rfl, rfl, (nl rfl), ?_⟩
   refine fa rfl (ro (ld r0 rfl rfl (qa2 ?_)))
   refine cs rfl rfl aU ?_ ?_ <;> intro bL aU
   refine qau ⟨⟨[], false⟩, _, [(_, _)], []⟩ (by kernel_rfl) ⟨Hp.Le.refl _, (pf rfl), ci0⟩ ?_
   refine qba m0 rfl (nl rfl) ?_
   refine qaa r3 rfl ⟨rfl, rfl, (nl rfl), ?_⟩
   refine qk (sc [1] rfl) ?_
   exact ro (qae r0 rfl (nl rfl) (eE (er aU hm)))
   refine bsO (len := 1) (enc := eN) (l := [bc.1]) (cl := [.int .i64 bc.1]) qlk rfl rfl (fun _ _ => rfl) rfl rfl rfl ?_ fun bJ => ?_
   · conv => whnf
     refine cT ?_
     first | done | rfl
   obtain ⟨bn, aU⟩ := qay aU
   refine apE rfl r3 qlk (qa4 rfl r0 rfl (fun _ => rfl) (fun _ => rfl)) bn ?_
   intro bG bK bO
   refine qar (qbu aY bu) ?_
   exact eR aU (_, _, _, _)
   rw [lty w0, JbQ.eq_1] at aU
   refine cT ?_
   exact eM aU (_, _, _)
   rintro ⟨t0, aS, aT⟩ ⟨bj, _⟩ rfl j0
   replace hm := elg hm
   refine fa rfl (ro (ld r2 rfl rfl (qad ?_)))
   refine cs rfl rfl hm ?_ ?_ <;> intro bN hm
   refine fa rfl (ro (ld r2 rfl rfl ?_))
   refine cb hm fun bP br hm => cgx (Jev br :) ?_
   refine qa2 (cs rfl rfl hm ?_ ?_) <;> intro bM hm
   refine qak rfl rfl ?_
   refine qaa r1 rfl ⟨rfl, rfl, (nl rfl), ?_⟩
   exact ro (qae r0 rfl (nl rfl) (eE hm))
   refine qau ⟨⟨[], false⟩, _, [(_, _)], []⟩ (by kernel_rfl) ⟨Hp.Le.refl _, (sc [2] rfl), ci0⟩ ?_
   refine fa rfl (qan m0 rfl rfl (qak rfl rfl (cT (cT ?_))))
   refine qaa r1 rfl ⟨rfl, rfl, (nl rfl), ?_⟩
   refine qk (sc [2] rfl) ?_
   exact ro (qae r0 rfl (nl rfl) (eE hm))
   refine fa rfl (ro (ld r2 rfl rfl (qad ?_)))
   refine cs rfl rfl hm ?_ ?_ <;> intro bH hm
   refine fa rfl (ro (ld r2 rfl rfl ?_))
   refine cb hm fun bD bo hm => cg0 (Jd4 bo :) ?_
   refine qa1 ?_
   refine cs rfl rfl hm ?_ ?_ <;> intro bI hm
   refine qau ⟨⟨[], false⟩, _, [(_, _)], []⟩ (by kernel_rfl) ⟨Hp.Le.refl _, (sc [2] rfl), ci0⟩ ?_
   refine fa rfl (qan m0 rfl rfl (qak rfl rfl (cT (cT ?_))))
   refine qaa r1 rfl ⟨rfl, rfl, (nl rfl), ?_⟩
   refine qk (sc [2] rfl) ?_
   exact ro (qae r0 rfl (nl rfl) (eE hm))
   refine ro (qae r2 rfl (nl rfl) ?_)
   refine cb hm fun bB aZ hm => ck0 (Fn.lend Tryz.call132 (fun aX aW aV => (Jew (n' := n') aZ ⟨(LiC.mono Jb.R_ok aW ae), aV, rfl⟩)) (by exact fun _ _ _ _ h => h)) ?_
   rintro _ _ _ ⟨_, rfl, rfl, rfl⟩
   refine qad (cs rfl rfl hm ?_ ?_) <;> intro bp hm
   refine qau ⟨⟨[], false⟩, _, [(_, _)], []⟩ (by kernel_rfl) ⟨Hp.Le.refl _, (sc [2] rfl), ci0⟩ ?_
   refine fa rfl (qan m0 rfl rfl (qak rfl rfl (cT (cT ?_))))
   refine qaa r1 rfl ⟨rfl, rfl, (nl rfl), ?_⟩
   refine qk (sc [2] rfl) ?_
   exact ro (qae r0 rfl (nl rfl) (eE hm))
   refine qak rfl rfl ?_
   refine qaa r1 rfl ⟨rfl, rfl, (nl rfl), ?_⟩
   exact ro (qae r0 rfl (nl rfl) (eE hm))
   refine ro (qae r2 rfl (nl rfl) ?_)
   refine cb hm fun bB aZ hm => ck0 (Fn.lend Tryz.call132 (fun aX aW aV => (Jew (n' := n') aZ ⟨(LiC.mono Jb.R_ok aW ae), aV, rfl⟩)) (by exact fun _ _ _ _ h => h)) ?_
   rintro _ _ _ ⟨_, rfl, rfl, rfl⟩
   refine qad (cs rfl rfl hm ?_ ?_) <;> intro bp hm
   refine qau ⟨⟨[], false⟩, _, [(_, _)], []⟩ (by kernel_rfl) ⟨Hp.Le.refl _, (sc [2] rfl), ci0⟩ ?_
   refine fa rfl (qan m0 rfl rfl (qak rfl rfl (cT (cT ?_))))
   refine qaa r1 rfl ⟨rfl, rfl, (nl rfl), ?_⟩
   refine qk (sc [2] rfl) ?_
   exact ro (qae r0 rfl (nl rfl) (eE hm))
   refine qak rfl rfl ?_
   refine qaa r1 rfl ⟨rfl, rfl, (nl rfl), ?_⟩
   exact ro (qae r0 rfl (nl rfl) (eE hm))

def JdG (kind : Int) : Option (Int) :=
  if decide (kind = 4) then
  some 1
  else
  if decide (kind = 5) then
  some 1
  else
  if decide (kind = 7) then
  some 1
  else
  if decide (kind = 8) then
  some 2
  else
  if decide (kind = 9) then
  some 2
  else
  if decide (kind = 2) then
  some 3
  else
  some 0
theorem JfT {kind : Int} {K : Hp} {r : Int}
    (hm : JdG kind = some r)  :
    Fn Tryz.prog 92 [.int .i64 kind] K [] (fun v K' H' => v = .int .i64 r ∧ H' = []) := by
 refine Fn.enter Tryz.func92 Tryz.call92 rfl fun F => ?_
 unfold JdG at hm
 refine qai rfl ?_
 refine qad (cs rfl rfl hm ?_ ?_) <;> intro w4 hm
 refine qaf rfl (ct w4 ?_)
 exact eE hm
 refine qad (cs rfl rfl hm ?_ ?_) <;> intro w4 hm
 refine qaf rfl (ct w4 ?_)
 exact eE hm
 refine qad (cs rfl rfl hm ?_ ?_) <;> intro w4 hm
 exact eE hm
 refine qad (cs rfl rfl hm ?_ ?_) <;> intro w8 hm
 refine qaf rfl (ct w8 ?_)
 exact eE hm
 refine qad (cs rfl rfl hm ?_ ?_) <;> intro w8 hm
 exact eE hm
 refine qad (cs rfl rfl hm ?_ ?_) <;> intro aS hm
 exact eE hm
 exact eE hm

def J7 (rec_ : ((List Jb) → (List JC) → Option (JH))) (ac : (List JC)) : List Jb → Nat → Option (Fl (JH) (Unit))
  | [], _ => some (Fl.go ())
  | e3 :: aT, i3 =>
    if decide (e3.Ab = 2) then
    (rec_ [e3] ac).bind fun aS =>
    if decide (aS.Code ≠ 0) then
    some (Fl.ret aS)
    else
    J7 rec_ ac aT (i3 + 1)
    else
    (rec_ e3.Aa ac).bind fun aS =>
    if decide (aS.Code ≠ 0) then
    some (Fl.ret aS)
    else
    J7 rec_ ac aT (i3 + 1)
def JY (n : Nat) (rec_ : ((List Jb) → (List JC) → Option (JH))) : List Jb → Nat → (List JC) → Option (Fl (JH) ((List JC)))
  | [], _, ac => some (Fl.go ac)
  | e0 :: aT, i0, ac =>
    if decide ((e0.Aa.length : Int) = 0) then
    JY n rec_ aT (i0 + 1) ac
    else
    (ix e0.Aa 0).bind fun aW =>
    (JbJ n aW ac).bind fun aS =>
    if decide (aS.2.Code ≠ 0) then
    some (Fl.ret aS.2)
    else
    (JdG e0.Ab).bind fun aU =>
    if (decide (aU ≠ 0) && decide (aU ≠ aS.1)) then
    some (Fl.ret (⟨e0.Ad, 9⟩ : JH))
    else
    if decide (e0.Ab = 3) then
    (Jc0 n e0.Ac ac).bind fun aV =>
    if decide (aV ≠ 0) then
    some (Fl.ret (⟨e0.Ad, 4⟩ : JH))
    else
    (chk (ac.length ≤ lim)).bind fun _ =>
    (chk (ac.length + [(⟨e0.Ac, aS.1⟩ : JC)].length ≤ lim)).bind fun _ =>
    JY n rec_ aT (i0 + 1) (ac ++ [(⟨e0.Ac, aS.1⟩ : JC)])
    else
    if decide (e0.Ab = 2) then
    (chk (0 ≤ (1 : Int) ∧ (1 : Int) ≤ (e0.Aa.length : Int) ∧ (e0.Aa.length : Int) ≤ (e0.Aa.length : Int))).bind fun _ =>
    (chk ((subL e0.Aa (1 : Int) (e0.Aa.length : Int)).length ≤ qax)).bind fun _ =>
    (J7 rec_ ac (subL e0.Aa (1 : Int) (e0.Aa.length : Int)) 0).bind fun s3 => s3.el (fun r => some (Fl.ret r)) fun t3 =>
    JY n rec_ aT (i0 + 1) ac
    else
    JY n rec_ aT (i0 + 1) ac
def Jah : Nat → (List Jb) → (List JC) → Option (JH)
  | 0, _, _ => none
  | n + 1, list, env =>
    (chk (list.length ≤ qax)).bind fun _ =>
    (JY n (Jah n) list 0 env).bind fun s0 => s0.el some fun t0 =>
    some (⟨0, 0⟩ : JH)
theorem JeR : ∀ {n : Nat} {list : (List Jb)} {env : (List JC)} {aa : Option Addr} {ab : Nat} {n0 : Nat} {ag : Option Addr} {ah : Nat} {n1 : Nat} {K : Hp} {r : JH}
    (hm : Jah n list env = some r) (hX : LiC Jb.R K aa ab 4 list ∧ n0 = list.length ∧ RdC JC.enc K ag ah 2 env ∧ n1 = env.length),
    Fn Tryz.prog 54 [.slice aa n0 ab, .slice ag n1 ah] K [] (fun v K' H' => v = .agg #[.int .i64 r.Ad, .int .i64 r.Code] ∧ H' = []) := by
 intro n
 induction n with
 | zero =>
   intro list env aa ab n0 ag ah n1 K r hm hX
   rw [Jah.eq_1] at hm; cases hm
 | succ n ih =>
   intro list env aa ab n0 ag ah n1 K r hm hX
   obtain ⟨ae, bX, af, cz⟩ := hX
   subst bX
   subst cz
   refine Fn.enter Tryz.func54 Tryz.call54 rfl fun F => ?_
   rw [Jah.eq_2] at hm
   refine qal rfl fun b4 => ?_
   refine ro (qaj rfl ?_)
   obtain ⟨bg, hm⟩ := qay hm
   obtain ⟨s0, aS, hm⟩ := bnd hm
   refine lC (σ := ((List JC)) × Option Addr × Nat) ([1,6,7,8,9,11,12,13] ++ rg 16 81) [0, 1] (fun i0 => [(16, .int .i64 (i0 : Int))]) (fun (t0, aV, aW) => [(1, .slice aV t0.length aW)]) (fun _ => []) (fun zz K1 => match zz with | (t0, aV, aW) => RdC JC.enc K1 aV aW 2 t0 ∧ True) (fun i0 (t0, aV, aW) => JY n (Jah n) (list.drop i0) i0 t0 = some s0) (fun (t0, aV, aW) => s0 = Fl.go t0) (fun i0 => list.length - i0) 0 (_, _, _) aS (And.intro qe (And.intro ?_ ?_))
   clear aS
   rintro i0 ⟨ac, bH, bF⟩ cG bP ⟨a6, _⟩ aS j0
   conv at aS => whnf
   refine qaf rfl ?_
   refine qag ?_ ?_ <;> intro w0
   obtain ⟨e0, ba, ca⟩ := ltx w0
   rw [ca, JY.eq_2] at aS
   refine qai rfl ?_
   refine RStep.ofN (qac rfl rfl (qcf (LiC.mono Jb.R_ok bP ae).rd ba) (nn _) (qbg ba) ?_)
   obtain ⟨co, cr, bw, bj, bh⟩ := LiR.get (LiC.mono Jb.R_ok bP ae).rd ba
   obtain ⟨bJ, bI, rfl, aZ⟩ := Jb.out bh
   refine ro (qap i0 _ bw rfl bj rfl ?_)
   refine qal rfl fun b6 => ?_
   refine qaa r0 rfl ⟨rfl, rfl, (nl rfl), ?_⟩
   refine fa rfl (ro (ld r0 rfl rfl (ro (qaj rfl (qad ?_)))))
   refine cs rfl rfl aS ?_ ?_ <;> intro cC aS
   refine cT (qar (qbu ba bg) ?_)
   exact eR aS (_, _, _, _)
   refine fa rfl (ro (ld r0 rfl rfl ?_))
   obtain ⟨cO, bM, bA, aS⟩ := ixb aS
   refine RStep.ofN (qac rfl rfl (qcf aZ.rd bA) bM (qas rfl bM bA) ?_)
   obtain ⟨cu, cm, bt, bm, bo⟩ := LiR.get aZ.rd bA
   obtain ⟨bN, bL, rfl, bQ⟩ := Jb.out bo
   refine ro (qap ((0 : Int).toNat) _ bt rfl bm rfl ?_)
   refine cb aS fun bu bW aS => cgx (Jga bW :) ?_
   refine qal rfl fun b8 => ?_
   refine qaa r0 rfl ⟨rfl, rfl, (nl rfl), ?_⟩
   refine fa rfl (ro (ld r0 rfl rfl (qa2 ?_)))
   refine cs rfl rfl aS ?_ ?_ <;> intro da aS
   refine ro (qae r0 rfl (nl rfl) ?_)
   refine qaa r2 rfl ⟨rfl, rfl, (nl rfl), ?_⟩
   exact ro (qae r0 rfl (nl rfl) (eE (er aS hm)))
   refine fa rfl (ro (ld r1 rfl rfl ?_))
   refine cb aS fun bp cn aS => cg0 (JfT cn :) ?_
   refine jR (σ := Unit) (rg 40 7) (fun _ => [(46, .bool (decide (bp ≠ 0) && decide (bp ≠ bu.1)))]) (fun bV => True) ?_ ?_
   refine qah rfl ?_
   refine qa2 ?_
   refine qag ?_ ?_ <;> intro aT
   refine ct aT (ct aT (qa2 (ct aT ?_)))
   exact eMt () ⟨bq (qbw (b := decide (bp ≠ bu.1)) aT), trivial⟩
   refine cf aT (cf aT (cf aT ?_))
   exact eMt () ⟨bq (((qa0 aT)).symm), trivial⟩
   rintro _ _ bZ
   refine cs rfl rfl aS ?_ ?_ <;> intro cZ aS
   refine fa rfl (ro (ld r1 rfl rfl (qak rfl rfl (cT (cT ?_)))))
   refine qaa r2 rfl ⟨rfl, rfl, (nl rfl), ?_⟩
   exact ro (qae r0 rfl (nl rfl) (eE (er aS hm)))
   refine fa rfl (ro (ld r1 rfl rfl ?_))
   refine qai rfl ?_
   refine qad (cs rfl rfl aS ?_ ?_) <;> intro c8 aS
   refine fa rfl (ro (ld r1 rfl rfl ?_))
   refine cb aS fun cE ce aS => cgx (Jev ce :) ?_
   refine qa2 (cs rfl rfl aS ?_ ?_) <;> intro cL aS
   refine fa rfl (ro (ld r1 rfl rfl (qak rfl rfl (cT (cT ?_)))))
   refine qaa r2 rfl ⟨rfl, rfl, (nl rfl), ?_⟩
   exact ro (qae r0 rfl (nl rfl) (eE (er aS hm)))
   refine qb9 ⟨⟨[], false⟩, _, [(_, _)], []⟩ 10 rfl (by kernel_rfl) ⟨Hp.Le.refl _, (sc [1] rfl), ci0⟩ ?_
   refine bsA (len := 0) (cl := []) qln rfl rfl ?_ fun cQ => ?_
   · conv => whnf
     first | done | rfl
   intro cD
   obtain ⟨cw, aS⟩ := qay aS
   refine ape (enc := JC.enc) r0 qln (qom rfl a6.rd rfl) cw ?_
   intro cP cM cW
   refine ⟨⟨lr, (sc [2] rfl), ci0⟩, ?_⟩
   refine ⟨_, .cons r5 .nil, ⟨lr, (sc [2] rfl), ci0⟩, ?_⟩
   refine fa rfl (qan m0 rfl rfl (qak rfl rfl (cT (cT ?_))))
   refine bsA (len := 1) (cl := [str e0.Ac, .int .i64 bu.1]) qln rfl rfl ?_ fun cR => ?_
   · conv => whnf
     refine cT ?_
     first | done | rfl
   intro cB
   obtain ⟨cj, aS⟩ := qay aS
   refine apE rfl r1 qln (qol rfl r0 rfl rfl (fun _ _ => rfl) rfl) cj ?_
   intro cV cU cH
   refine ⟨⟨lr, (sc [3] rfl), ci0⟩, ?_⟩
   refine ⟨_, .cons r6 .nil, ⟨lr, (sc [3] rfl), ci0⟩, ?_⟩
   refine qar (qbu ba bg) ?_
   refine fRo r0 fun bS bD bO => ?_
   exact eR aS (_, _, _, _)
   refine qad (cs rfl rfl aS ?_ ?_) <;> intro cK aS
   refine fa rfl (ro (ld r1 rfl rfl ?_))
   obtain ⟨bC, aS⟩ := qay aS
   have bb := aZ.subC bC
   refine RStep.ofN (qgt (l := e0.Aa) (lo := (some 1)) (hi := none) (lo' := (1 : Int)) (hi' := (e0.Aa.length : Int)) rfl rfl rfl rfl rfl aZ.le bC (ro (qaj rfl ?_)))
   obtain ⟨bG, aS⟩ := qay aS
   obtain ⟨s3, aU, aS⟩ := bnd aS
   refine lD (σ := (Unit)) ([11,12,13] ++ rg 77 19) [0, 1, 2, 3] (fun i3 => [(77, .int .i64 (i3 : Int))]) (fun _ => []) (fun _ => []) (fun _ => True) (fun i3 _ => J7 (Jah n) ac ((subL e0.Aa (1 : Int) (e0.Aa.length : Int)).drop i3) i3 = some s3) (fun t3 => s3 = Fl.go t3) (fun i3 => (subL e0.Aa (1 : Int) (e0.Aa.length : Int)).length - i3) 0 () aU (And.intro qe (And.intro ?_ ?_))
   clear aU
   rintro i3 _ _ aU j3
   conv at aU => whnf
   refine qaf rfl ?_
   refine qag ?_ ?_ <;> intro w3
   obtain ⟨e3, bc, bU⟩ := ltx w3
   rw [bU, J7.eq_2] at aU
   refine qai rfl ?_
   refine RStep.ofN (qac rfl rfl (qcf bb.rd bc) (nn _) (qbg bc) ?_)
   obtain ⟨cd, cq, bB, bz, bn⟩ := LiR.get bb.rd bc
   obtain ⟨aX, aY, rfl, a8⟩ := Jb.out bn
   refine ro (qap i3 _ bB rfl bz rfl ?_)
   refine qal rfl fun cY => ?_
   refine qaa r0 rfl ⟨rfl, rfl, (nl rfl), ?_⟩
   refine fa rfl (ro (ld r0 rfl rfl (fa rfl (ro (ld r0 rfl rfl (qad ?_))))))
   refine cs rfl rfl aU ?_ ?_ <;> intro cI aU
   refine ro (qae r0 rfl (nl rfl) ?_)
   refine qx7 (R := Jb.R) (len := 1) (l := [e3]) (css := [[.int .i64 e3.Ab, str e3.Ac, .slice aX e3.Aa.length aY, .int .i64 e3.Ad]]) (cl := [.int .i64 e3.Ab, str e3.Ac, .slice aX e3.Aa.length aY, .int .i64 e3.Ad]) Jb.R_ok qx0 rfl rfl (LR.snoc LR.nil (Jb.of (x := e3) ⟨aX, aY, rfl, a8⟩)) rfl rfl rfl ?_ fun cJ => ?_
   · conv => whnf
     refine cT ?_
     first | done | rfl
   refine cb aU fun cp br aU => ck0 (Fn.lendR Jb.R_ok (show LR Jb.R _ [[.int .i64 e3.Ab, str e3.Ac, .slice aX e3.Aa.length aY, .int .i64 e3.Ad]] [e3] from (LR.snoc LR.nil (Jb.of (x := e3) ⟨aX, aY, rfl, a8⟩))) Tryz.call54 (fun bR bd bf => (ih br ⟨bf, rfl, (a6.mono bd), rfl⟩)) (by exact fun _ _ _ _ h => h)) ?_
   rintro _ _ _ ⟨_, rfl, rfl, rfl⟩
   refine qal rfl fun bT => ?_
   refine qaa r0 rfl ⟨rfl, rfl, (nl rfl), ?_⟩
   refine fa rfl (ro (ld r0 rfl rfl (qa2 ?_)))
   refine cs rfl rfl aU ?_ ?_ <;> intro bY aU
   refine ro (qae r0 rfl (nl rfl) ?_)
   refine qaa r5 rfl ⟨rfl, rfl, (nl rfl), ?_⟩
   exact ro (qae r0 rfl (nl rfl) (eE (er (er aU aS :) hm)))
   refine qar (qbu bc bG) ?_
   exact eR aU (_, ())
   refine cb aU fun cp br aU => cgx (ih br :) ?_
   refine qal rfl fun bT => ?_
   refine qaa r0 rfl ⟨rfl, rfl, (nl rfl), ?_⟩
   refine fa rfl (ro (ld r0 rfl rfl (qa2 ?_)))
   refine cs rfl rfl aU ?_ ?_ <;> intro bY aU
   refine ro (qae r0 rfl (nl rfl) ?_)
   refine qaa r4 rfl ⟨rfl, rfl, (nl rfl), ?_⟩
   exact ro (qae r0 rfl (nl rfl) (eE (er (er aU aS :) hm)))
   refine qar (qbu bc bG) ?_
   exact eR aU (_, ())
   rw [lty w3, J7.eq_1] at aU
   refine cT ?_
   exact eM aU _
   rintro t3 _ rfl j3
   replace aS := elg aS
   refine qar (qbu ba bg) ?_
   exact eR aS (_, _, _, _)
   refine qar (qbu ba bg) ?_
   exact eR aS (_, _, _, _)
   rw [lty w0, JY.eq_1] at aS
   refine cT ?_
   exact eM aS (_, _, _)
   rintro ⟨t0, aV, aW⟩ cX cA ⟨bK, _⟩ rfl j0
   replace hm := elg hm
   refine qak rfl rfl ?_
   refine qaa r0 rfl ⟨rfl, rfl, (nl rfl), ?_⟩
   exact ro (qae r0 rfl (nl rfl) (eE hm))

def Jcy (n : Nat) (program : Jb) : Option (JH) :=
  (Jdi n program).bind fun x4 =>
  if (!x4) then
  some (⟨0, 2⟩ : JH)
  else
  (Jah n program.Aa []).bind fun x9 =>
  some x9
theorem JfU {n : Nat} {program : Jb} {aa : Option Addr} {ab : Nat} {K : Hp} {r : JH}
    (hm : Jcy n program = some r) (ae : LiC Jb.R K aa ab 4 program.Aa) :
    Fn Tryz.prog 24 [.agg #[.int .i64 program.Ab, str program.Ac, .slice aa program.Aa.length ab, .int .i64 program.Ad]] K [] (fun v K' H' => v = .agg #[.int .i64 r.Ad, .int .i64 r.Code] ∧ H' = []) := by
 refine Fn.enter Tryz.func24 Tryz.call24 rfl fun F => ?_
 unfold Jcy at hm
 refine qaq ?_
 intro b1
 refine qal rfl fun b2 => ?_
 refine ro (qae r1 rfl (nl rfl) ?_)
 refine cb hm fun x4 q4 hm => cgx (JfS q4 :) ?_
 refine qa1 ?_
 refine cs rfl rfl hm ?_ ?_ <;> intro w5 hm
 refine qak rfl rfl (cT (cT ?_))
 refine qaa r0 rfl ⟨rfl, rfl, (nl rfl), ?_⟩
 exact ro (qae r0 rfl (nl rfl) (eE hm))
 refine fa rfl (ro (ld r1 rfl rfl ?_))
 refine cb hm fun x9 q9 hm => cgx (JeR q9 :) ?_
 refine qaa r0 rfl ⟨rfl, rfl, (nl rfl), ?_⟩
 exact ro (qae r0 rfl (nl rfl) (eE hm))

def Jdb (e : Err) : Option (Int) :=
  if e.isNone then
  some 0
  else
  if (!e.isSome) then
  some (-1)
  else
  some (e.getD 0)
theorem JfB {e : Err} {K : Hp} {r : Int}
    (hm : Jdb e = some r)  :
    Fn Tryz.prog 17 [qde 87 e] K [] (fun v K' H' => v = .int .i64 r ∧ H' = []) := by
 refine Fn.enter Tryz.func17 Tryz.call17 rfl fun F => ?_
 unfold Jdb at hm
 refine qgn rfl ?_
 refine cs rfl rfl hm ?_ ?_ <;> intro w6 hm
 exact eE hm
 refine qy5 rfl rfl rfl ?_
 refine qa1 ?_
 refine cs rfl rfl hm ?_ ?_ <;> intro aS hm
 exact eE hm
 exact eE hm

def Jcz (b : (List Jc)) : List Je → Nat → Option (Fl (Bool) (Unit))
  | [], _ => some (Fl.go ())
  | e0 :: aU, i0 =>
    (ix b (i0 : Int)).bind fun aT =>
    (if decide (e0.Name ≠ aT.Name) then some true else (ix b (i0 : Int)).bind fun aV =>
    some (decide (e0.Value ≠ aV.Value))).bind fun aS =>
    if aS then
    some (Fl.ret false)
    else
    Jcz b aU (i0 + 1)
def Jex (a : (List Je)) (b : (List Jc)) : Option (Bool) :=
  if decide ((a.length : Int) ≠ (b.length : Int)) then
  some false
  else
  (chk (a.length ≤ qax)).bind fun _ =>
  (Jcz b a 0).bind fun s0 => s0.el some fun t0 =>
  some true
theorem Jgm {a : (List Je)} {b : (List Jc)} {aa : Option Addr} {ab : Nat} {n0 : Nat} {ag : Option Addr} {ah : Nat} {n1 : Nat} {K : Hp} {r : Bool}
    (hm : Jex a b = some r) (hX : RdC Je.enc K aa ab 2 a ∧ n0 = a.length ∧ RdC Jc.enc K ag ah 2 b ∧ n1 = b.length) :
    Fn Tryz.prog 27 [.slice aa n0 ab, .slice ag n1 ah] K [] (fun v K' H' => v = .bool r ∧ H' = []) := by
 obtain ⟨ae, a8, af, bc⟩ := hX
 subst a8
 subst bc
 refine Fn.enter Tryz.func27 Tryz.call27 rfl fun F => ?_
 unfold Jex at hm
 refine ro (qaj rfl (ro (qaj rfl (qa2 ?_))))
 refine cs rfl rfl hm ?_ ?_ <;> intro bg hm
 exact eE hm
 refine ro (qaj rfl ?_)
 obtain ⟨ba, hm⟩ := qay hm
 obtain ⟨s0, aT, hm⟩ := bnd hm
 refine lD (σ := (Unit)) ([4,5] ++ rg 13 28) [0] (fun i0 => [(13, .int .i64 (i0 : Int))]) (fun _ => []) (fun _ => []) (fun _ => True) (fun i0 _ => Jcz b (a.drop i0) i0 = some s0) (fun t0 => s0 = Fl.go t0) (fun i0 => a.length - i0) 0 () aT (And.intro qe (And.intro ?_ ?_))
 clear aT
 rintro i0 _ _ aT j0
 conv at aT => whnf
 refine qaf rfl ?_
 refine qag ?_ ?_ <;> intro w0
 obtain ⟨e0, aU, bb⟩ := ltx w0
 rw [bb, Jcz.eq_2] at aT
 refine qai rfl ?_
 refine qau ⟨⟨[], false⟩, _, [], []⟩ (by kernel_rfl) ⟨Hp.Le.refl _, (pf rfl), ci0⟩ ?_
 refine qac rfl rfl (qcc ae.rd aU) (nn _) (qbg aU) (qaw rfl (qcc ae.rd aU) (qbj i0 0 _ _ ae.rd rfl (mp aU) rfl rfl ?_))
 obtain ⟨bd, aZ, aW, aT⟩ := ixb aT
 refine qac rfl rfl (qcc af.rd aW) aZ (qas rfl aZ aW) (qaw rfl (qcc af.rd aW) (qbj (((i0 : Int)).toNat) 0 _ _ af.rd rfl (mp aW) rfl rfl (qb4 ?_)))
 obtain ⟨bf, aV, aT⟩ := bnd aT
 refine cS aV (fun aS aV => ?_) fun aS aV => ?_
 refine ct aS (ct aS (ct aS (ct aS (ct aS (ct aS (ct aS (ct aS ?_)))))))
 refine ct aS (ct aS (ct aS (qaf rfl (cT ?_))))
 replace aT := ift (si aV).symm aT
 exact eE (er aT hm)
 refine cf aS (cf aS (qac rfl rfl (qcc ae.rd aU) (nn _) (qbg aU) (cf aS (qaw rfl (qcc ae.rd aU) (cf aS (qbj i0 1 _ _ ae.rd rfl (mp aU) rfl rfl (cf aS ?_)))))))
 refine cf aS (cf aS ?_)
 obtain ⟨bh, a6, aX, aV⟩ := ixb aV
 refine qac rfl rfl (qcc af.rd aX) a6 (qas rfl a6 aX) (cf aS (qaw rfl (qcc af.rd aX) (cf aS (qbj (((i0 : Int)).toNat) 1 _ _ af.rd rfl (mp aX) rfl rfl (cf aS (qb4 (cf aS ?_)))))))
 refine qaf rfl ?_
 refine qag ?_ ?_ <;> intro aY
 replace aT := ift ((si aV).symm.trans aY) aT
 exact eE (er aT hm)
 replace aT := qa6 ((si aV).symm.trans aY) aT
 refine qar (qbu aU ba) ?_
 exact eR aT (_, ())
 rw [lty w0, Jcz.eq_1] at aT
 refine cT ?_
 exact eM aT _
 rintro t0 _ rfl j0
 replace hm := elg hm
 exact eE hm

def Jch (b : (List Str)) : List Str → Nat → Option (Fl (Bool) (Unit))
  | [], _ => some (Fl.go ())
  | e0 :: aS, i0 =>
    (ix b (i0 : Int)).bind fun aT =>
    if decide (e0 ≠ aT) then
    some (Fl.ret false)
    else
    Jch b aS (i0 + 1)
def Jdx (a : (List Str)) (b : (List Str)) : Option (Bool) :=
  if decide ((a.length : Int) ≠ (b.length : Int)) then
  some false
  else
  (chk (a.length ≤ qax)).bind fun _ =>
  (Jch b a 0).bind fun s0 => s0.el some fun t0 =>
  some true
theorem JeW {a : (List Str)} {b : (List Str)} {aa : Option Addr} {ab : Nat} {n0 : Nat} {ag : Option Addr} {ah : Nat} {n1 : Nat} {K : Hp} {r : Bool}
    (hm : Jdx a b = some r) (hX : RdC eS K aa ab 1 a ∧ n0 = a.length ∧ RdC eS K ag ah 1 b ∧ n1 = b.length) :
    Fn Tryz.prog 38 [.slice aa n0 ab, .slice ag n1 ah] K [] (fun v K' H' => v = .bool r ∧ H' = []) := by
 obtain ⟨ae, aW, af, aZ⟩ := hX
 subst aW
 subst aZ
 refine Fn.enter Tryz.func38 Tryz.call38 rfl fun F => ?_
 unfold Jdx at hm
 refine ro (qaj rfl (ro (qaj rfl (qa2 ?_))))
 refine cs rfl rfl hm ?_ ?_ <;> intro ba hm
 exact eE hm
 refine ro (qaj rfl ?_)
 obtain ⟨aX, hm⟩ := qay hm
 obtain ⟨s0, aS, hm⟩ := bnd hm
 refine lD (σ := (Unit)) ([4,5] ++ rg 13 13) [0] (fun i0 => [(13, .int .i64 (i0 : Int))]) (fun _ => []) (fun _ => []) (fun _ => True) (fun i0 _ => Jch b (a.drop i0) i0 = some s0) (fun t0 => s0 = Fl.go t0) (fun i0 => a.length - i0) 0 () aS (And.intro qe (And.intro ?_ ?_))
 clear aS
 rintro i0 _ _ aS j0
 conv at aS => whnf
 refine qaf rfl ?_
 refine qag ?_ ?_ <;> intro w0
 obtain ⟨e0, aT, aY⟩ := ltx w0
 rw [aY, Jch.eq_2] at aS
 refine qai rfl ?_
 refine qau ⟨⟨[], false⟩, _, [], []⟩ (by kernel_rfl) ⟨Hp.Le.refl _, (pf rfl), ci0⟩ ?_
 refine qac rfl rfl (qcc ae.rd aT) (nn _) (qbg aT) (qbj i0 0 _ _ ae.rd rfl (mp aT) rfl rfl ?_)
 obtain ⟨a6, aV, aU, aS⟩ := ixb aS
 refine qac rfl rfl (qcc af.rd aU) aV (qas rfl aV aU) (qbj (((i0 : Int)).toNat) 0 _ _ af.rd rfl (mp aU) rfl rfl (qb4 ?_))
 refine cs rfl rfl aS ?_ ?_ <;> intro a8 aS
 exact eE (er aS hm)
 refine qar (qbu aT aX) ?_
 exact eR aS (_, ())
 rw [lty w0, Jch.eq_1] at aS
 refine cT ?_
 exact eM aS _
 rintro t0 _ rfl j0
 replace hm := elg hm
 exact eE hm

def Jb6 (r' : Jh) (w' : Jg) : Option (Bool) :=
  (if (decide (r'.Ae = w'.Ae) && decide (r'.Af = w'.Af)) then (Jex r'.Ag w'.Ag).bind fun aW =>
  some aW else some false).bind fun aS =>
  (if aS then (Jdx r'.Vary w'.Vary).bind fun aT =>
  some aT else some false).bind fun aU =>
  (if aU then (Jdx r'.Ah w'.Ah).bind fun aV =>
  some aV else some false).bind fun aX =>
  some (((((aX && decide (r'.TTL = w'.TTL)) && decide (r'.Ai = w'.Ai)) && decide (r'.Aj = w'.Aj)) && (r'.Ak == w'.Ak)) && (r'.Al == w'.Al))
theorem JfC {r' : Jh} {w' : Jg} {aa : Option Addr} {ab : Nat} {aj : Option Addr} {am : Nat} {ak : Option Addr} {an : Nat} {ag : Option Addr} {ah : Nat} {aK : Option Addr} {aL : Nat} {aM : Option Addr} {aN : Nat} {K : Hp} {r : Bool}
    (hm : Jb6 r' w' = some r) (hX : RdC Je.enc K aa ab 2 r'.Ag ∧ RdC eS K aj am 1 r'.Vary ∧ RdC eS K ak an 1 r'.Ah ∧ RdC Jc.enc K ag ah 2 w'.Ag ∧ RdC eS K aK aL 1 w'.Vary ∧ RdC eS K aM aN 1 w'.Ah) :
    Fn Tryz.prog 18 [.agg #[str r'.Ae, str r'.Af, .slice aa r'.Ag.length ab, .slice aj r'.Vary.length am, .slice ak r'.Ah.length an, .int .i64 r'.TTL, .int .i64 r'.Ai, .int .i64 r'.Aj, .bool r'.Ak, .bool r'.Al], .agg #[str w'.Ae, str w'.Af, .slice ag w'.Ag.length ah, .slice aK w'.Vary.length aL, .slice aM w'.Ah.length aN, .int .i64 w'.TTL, .int .i64 w'.Ai, .int .i64 w'.Aj, .bool w'.Ak, .bool w'.Al]] K [] (fun v K' H' => v = .bool r ∧ H' = []) := by
 obtain ⟨ae, bh, bg, af, bf, bd⟩ := hX
 refine Fn.enter Tryz.func18 Tryz.call18 rfl fun F => ?_
 unfold Jb6 at hm
 refine qaq ?_
 intro b2
 refine qaq ?_
 intro b3
 refine qah rfl ?_
 refine fa rfl (ro (ld r1 rfl rfl (fa rfl (ro (ld r0 rfl rfl (qam ?_))))))
 refine qag ?_ ?_ <;> intro aW
 refine fa rfl (ct aW (ro (ld r1 rfl rfl (ct aW (fa rfl (ct aW (ro (ld r0 rfl rfl (ct aW ?_)))))))))
 refine qam (ct aW ?_)
 obtain ⟨bm, bb, hm⟩ := bnd hm
 refine qag ?_ ?_ <;> intro aY
 replace bb := ift (qby aW aY) bb
 refine fa rfl (ct aY (ro (ld r1 rfl rfl (ct aY (fa rfl (ct aY (ro (ld r0 rfl rfl (ct aY ?_)))))))))
 refine cb bb fun br bn bb => cgx (Jgm bn :) ?_
 refine ct aY ?_
 obtain ⟨bj, ba, hm⟩ := bnd hm
 refine qag ?_ ?_ <;> intro aZ
 replace ba := ift ((si bb).symm.trans aZ) ba
 refine fa rfl (ct aZ (ro (ld r1 rfl rfl (ct aZ (fa rfl (ct aZ (ro (ld r0 rfl rfl (ct aZ ?_)))))))))
 refine cb ba fun bt bp ba => cgx (JeW bp :) ?_
 refine ct aZ ?_
 obtain ⟨bc, a8, hm⟩ := bnd hm
 refine qag ?_ ?_ <;> intro aX
 replace a8 := ift ((si ba).symm.trans aX) a8
 refine fa rfl (ct aX (ro (ld r1 rfl rfl (ct aX (fa rfl (ct aX (ro (ld r0 rfl rfl (ct aX ?_)))))))))
 refine cb a8 fun bu bo a8 => cgx (JeW bo :) ?_
 refine ct aX ?_
 refine qag ?_ ?_ <;> intro aS
 refine fa rfl (ct aS (ro (ld r1 rfl rfl (ct aS (fa rfl (ct aS (ro (ld r0 rfl rfl (ct aS ?_)))))))))
 refine qad (ct aS ?_)
 refine qag ?_ ?_ <;> intro aT
 refine fa rfl (ct aT (ro (ld r1 rfl rfl (ct aT (fa rfl (ct aT (ro (ld r0 rfl rfl (ct aT ?_)))))))))
 refine qad (ct aT ?_)
 refine qag ?_ ?_ <;> intro aU
 refine fa rfl (ct aU (ro (ld r1 rfl rfl (ct aU (fa rfl (ct aU (ro (ld r0 rfl rfl (ct aU ?_)))))))))
 refine qad (ct aU ?_)
 refine qag ?_ ?_ <;> intro aV
 refine fa rfl (ct aV (ro (ld r1 rfl rfl (ct aV (fa rfl (ct aV (ro (ld r0 rfl rfl (ct aV ?_)))))))))
 refine qif rfl (ct aV ?_)
 refine qag ?_ ?_ <;> intro a6
 refine fa rfl (ct a6 (ro (ld r1 rfl rfl (ct a6 (fa rfl (ct a6 (ro (ld r0 rfl rfl (ct a6 ?_)))))))))
 refine qif rfl (ct a6 ?_)
 exact bE (qbw (b := (r'.Al == w'.Al)) (qby (qby (qby (qby ((si a8).symm.trans aS) aT) aU) aV) a6)) (eE hm)
 refine cf a6 (cf a6 (cf a6 (cf a6 (cf a6 ?_))))
 exact bE (((qa0 (qb8 (qby (qby (qby ((si a8).symm.trans aS) aT) aU) aV) a6))).symm) (eE hm)
 refine cf aV (cf aV (cf aV (cf aV (cf aV (cF (cF (cF ?_)))))))
 refine cF (cF (cF ?_))
 exact bE (((qa0 (qa0 (qb8 (qby (qby ((si a8).symm.trans aS) aT) aU) aV)))).symm) (eE hm)
 refine cf aU (cf aU (cf aU (cf aU (cf aU (cF (cF (cF ?_)))))))
 refine cF (cF (cF (cF (cF (cF (cF (cF ?_)))))))
 refine cF ?_
 exact bE (((qa0 (qa0 (qa0 (qb8 (qby ((si a8).symm.trans aS) aT) aU))))).symm) (eE hm)
 refine cf aT (cf aT (cf aT (cf aT (cf aT (cF (cF (cF ?_)))))))
 refine cF (cF (cF (cF (cF (cF (cF (cF ?_)))))))
 refine cF (cF (cF (cF (cF (cF (cF ?_))))))
 exact bE (((qa0 (qa0 (qa0 (qa0 (qb8 ((si a8).symm.trans aS) aT)))))).symm) (eE hm)
 refine cf aS (cf aS (cf aS (cf aS (cf aS (cF (cF (cF ?_)))))))
 refine cF (cF (cF (cF (cF (cF (cF (cF ?_)))))))
 refine cF (cF (cF (cF (cF (cF (cF (cF ?_)))))))
 refine cF (cF (cF (cF (cF ?_))))
 exact bE (((qa0 (qa0 (qa0 (qa0 (qa0 ((si a8).symm.trans aS))))))).symm) (eE hm)
 replace a8 := qa6 ((si ba).symm.trans aX) a8
 refine cf aX (cf aX (cf aX (cf aX (cf aX (cF (cF (cF ?_)))))))
 refine cF (cF (cF (cF (cF (cF (cF (cF ?_)))))))
 refine cF (cF (cF (cF (cF (cF (cF (cF ?_)))))))
 refine cF (cF (cF (cF (cF (cF (cF (cF ?_)))))))
 refine cF (cF (cF ?_))
 exact bE (((qa0 (qa0 (qa0 (qa0 (qa0 (si a8).symm)))))).symm) (eE hm)
 replace ba := qa6 ((si bb).symm.trans aZ) ba
 refine cf aZ (cf aZ (cf aZ (cf aZ (cf aZ ?_))))
 obtain ⟨bc, a8, hm⟩ := bnd hm
 replace a8 := qa6 (si ba).symm a8
 refine cF (cF (cF (cF (cF (cF (cF (cF ?_)))))))
 refine cF (cF (cF (cF (cF (cF (cF (cF ?_)))))))
 refine cF (cF (cF (cF (cF (cF (cF (cF ?_)))))))
 refine cF (cF (cF (cF (cF (cF (cF (cF ?_)))))))
 refine cF (cF (cF (cF ?_)))
 exact bE (((qa0 (qa0 (qa0 (qa0 (qa0 (si a8).symm)))))).symm) (eE hm)
 replace bb := qa6 (qb8 aW aY) bb
 refine cf aY (cf aY (cf aY (cf aY (cf aY ?_))))
 obtain ⟨bj, ba, hm⟩ := bnd hm
 replace ba := qa6 (si bb).symm ba
 refine cF (cF (cF (cF (cF (cF ?_)))))
 obtain ⟨bc, a8, hm⟩ := bnd hm
 replace a8 := qa6 (si ba).symm a8
 refine cF (cF (cF (cF (cF (cF (cF (cF ?_)))))))
 refine cF (cF (cF (cF (cF (cF (cF (cF ?_)))))))
 refine cF (cF (cF (cF (cF (cF (cF (cF ?_)))))))
 refine cF (cF (cF (cF (cF (cF (cF (cF ?_)))))))
 refine cF (cF (cF (cF ?_)))
 exact bE (((qa0 (qa0 (qa0 (qa0 (qa0 (si a8).symm)))))).symm) (eE hm)
 refine cf aW (cf aW (cf aW (cf aW (cf aW ?_))))
 obtain ⟨bm, bb, hm⟩ := bnd hm
 replace bb := qa6 (qa0 aW) bb
 refine cF (cF (cF (cF (cF (cF ?_)))))
 obtain ⟨bj, ba, hm⟩ := bnd hm
 replace ba := qa6 (si bb).symm ba
 refine cF (cF (cF (cF (cF (cF ?_)))))
 obtain ⟨bc, a8, hm⟩ := bnd hm
 replace a8 := qa6 (si ba).symm a8
 refine cF (cF (cF (cF (cF (cF (cF (cF ?_)))))))
 refine cF (cF (cF (cF (cF (cF (cF (cF ?_)))))))
 refine cF (cF (cF (cF (cF (cF (cF (cF ?_)))))))
 refine cF (cF (cF (cF (cF (cF (cF (cF ?_)))))))
 refine cF (cF (cF (cF ?_)))
 exact bE (((qa0 (qa0 (qa0 (qa0 (qa0 (si a8).symm)))))).symm) (eE hm)

def JdH (Ar : Ju) : Option (Jg) :=
  some (⟨Ar.Ae, Ar.Af, [], [], [], (-1), 0, 0, false, false⟩ : Jg)
theorem JfV {Ar : Ju} {aa : Option Addr} {ab : Nat} {K : Hp} {r : Jg}
    (hm : JdH Ar = some r) (ae : RdC Jc.enc K aa ab 2 Ar.Ao) :
    Fn Tryz.prog 36 [.agg #[str Ar.Am, str Ar.An, str Ar.Ae, str Ar.Af, .slice aa Ar.Ao.length ab]] K [] (fun v K' H' => ∃ ar_0 : Option Addr, ∃ cr_0 : Nat, ∃ ar_1 : Option Addr, ∃ cr_1 : Nat, ∃ ar_2 : Option Addr, ∃ cr_2 : Nat, v = .agg #[str r.Ae, str r.Af, .slice ar_0 r.Ag.length cr_0, .slice ar_1 r.Vary.length cr_1, .slice ar_2 r.Ah.length cr_2, .int .i64 r.TTL, .int .i64 r.Ai, .int .i64 r.Aj, .bool r.Ak, .bool r.Al] ∧ (0 < r.Ag.length → Has ar_0) ∧ (0 < r.Vary.length → Has ar_1) ∧ (0 < r.Ah.length → Has ar_2) ∧ H' = [OwnL Jc.enc ar_0 90 2 cr_0 r.Ag, OwnL eS ar_1 9 1 cr_1 r.Vary, OwnL eS ar_2 9 1 cr_2 r.Ah]) := by
 refine Fn.enter Tryz.func36 Tryz.call36 rfl fun F => ?_
 unfold JdH at hm
 refine qaq ?_
 intro b1
 refine qal rfl fun b2 => ?_
 refine fa rfl (ro (ld r1 rfl rfl (fa rfl (ro (ld r1 rfl rfl (qak rfl rfl (cT (cT (cT ?_)))))))))
 refine qaa r0 rfl ⟨rfl, rfl, (nl rfl), ?_⟩
 refine ro (qae r0 rfl (nl rfl) ?_)
 refine qhp Jc.enc 90 2 ?_
 refine qhp eS 9 1 ?_
 refine qhp eS 9 1 ?_
 exact eE hm

def JbD (s : Str) : Nat → Int → Int → Option (Fl (Int) (Int × Int))
  | 0, _, _ => none
  | aW + 1, ac, aS =>
    if decide (aS < (s.length : Int)) then
    (((ix s aS).bind fun aY =>
    (if decide ((aY.toNat : Int) < 48) then some true else (ix s aS).bind fun aX =>
    some (decide ((aX.toNat : Int) > 57))).bind fun aV =>
    some (aV || decide (aS = 15))) : Option (Bool)).bind fun aT =>
    if aT then
    some (Fl.ret 0)
    else
    (chk (InI (10 * ac))).bind fun _ =>
    (ix s aS).bind fun aU =>
    (chk (InI ((10 * ac) + ((aU - (48 : UInt8)).toNat : Int)))).bind fun _ =>
    (chk (InI (aS + 1))).bind fun _ =>
    JbD s aW ((10 * ac) + ((aU - (48 : UInt8)).toNat : Int)) (aS + 1)
    else
    some (Fl.go (ac, aS))
def Jc1 (n : Nat) (s : Str) : Option (Int) :=
  (JbD s n 0 0).bind fun s0 => s0.el some fun t0 =>
  some t0.1
theorem Jey {n : Nat} {s : Str} {K : Hp} {r : Int}
    (hm : Jc1 n s = some r)  :
    Fn Tryz.prog 49 [str s] K [] (fun v K' H' => v = .int .i64 r ∧ H' = []) := by
 refine Fn.enter Tryz.func49 Tryz.call49 rfl fun F => ?_
 unfold Jc1 at hm
 obtain ⟨s0, aT, hm⟩ := bnd hm
 refine lD (σ := (Int × Int)) (rg 2 31) [0] (fun _ => []) (fun t0 => [(3, .int .i64 t0.1), (4, .int .i64 t0.2)]) (fun _ => []) (fun _ => True) (fun i0 t0 => JbD s i0 t0.1 t0.2 = some s0) (fun t0 => s0 = Fl.go t0) (fun i0 => i0) n (_, _) aT (And.intro qe (And.intro ?_ ?_))
 clear aT
 rintro i0 ⟨ac, aY⟩ _ aT j0
 dsimp only at aT ⊢
 cases i0 with
 | zero => rw [JbD.eq_1] at aT; cases aT
 | succ i0 =>
  rw [JbD.eq_2] at aT
  refine ro (qat rfl ?_)
  refine cs rfl rfl aT ?_ ?_ <;> intro w8 aT
  refine qai rfl ?_
  obtain ⟨aZ, aU, aT⟩ := bnd aT
  refine jR (σ := Bool) (rg 11 14) (fun aW => [(24, .bool aW)]) (fun aW => aW = aZ) ?_ ?_
  refine qah rfl ?_
  obtain ⟨bm, bb, bg, aU⟩ := ixb aU
  refine qaz rfl bb bg ?_
  obtain ⟨bn, aX, aU⟩ := bnd aU
  refine cS aX (fun aS aX => ?_) fun aS aX => ?_
  refine ct aS (ct aS (ct aS (ct aS (cT (cT (cT ?_))))))
  exact eMq aU _ ⟨bq (((qcj (si aX).symm)).symm), trivial⟩
  refine cf aS (cf aS ?_)
  obtain ⟨bh, bf, bc, aX⟩ := ixb aX
  refine qaz rfl bf bc (cf aS (cf aS ?_))
  refine qag ?_ ?_ <;> intro aV
  refine ct aV (ct aV ?_)
  exact eMq aU _ ⟨bq (((qcj ((si aX).symm.trans aV))).symm), trivial⟩
  refine cf aV (qad (cf aV ?_))
  exact eMq aU _ ⟨bq (qhe (b := decide (aY = 15)) ((si aX).symm.trans aV)), trivial⟩
  rintro aW rfl ba
  refine cs rfl rfl aT ?_ ?_ <;> intro bj aT
  exact eE (er aT hm)
  refine ci aT fun aT => ?_
  obtain ⟨a6, a8, bd, aT⟩ := ixb aT
  refine qaz rfl a8 bd (qok (x := a6) (y := (48 : UInt8)) rfl rfl (qlt rfl rfl (qyx (a6 - (48 : UInt8))) ?_))
  refine ci aT fun aT => ?_
  refine ci aT fun aT => ?_
  exact eR aT (_, (_, _))
  refine cT ?_
  exact eM aT _
 rintro t0 _ rfl j0
 replace hm := elg hm
 exact eE hm

def JfD (n' : Int) (low : Int) (high : Int) : Option (Int) :=
  some (max low (min n' high))
theorem Jgn {n' : Int} {low : Int} {high : Int} {K : Hp} {r : Int}
    (hm : JfD n' low high = some r)  :
    Fn Tryz.prog 80 [.int .i64 n', .int .i64 low, .int .i64 high] K [] (fun v K' H' => v = .int .i64 r ∧ H' = []) := by
 refine Fn.enter Tryz.func80 Tryz.call80 rfl fun F => ?_
 unfold JfD at hm
 refine ro (qoe (ro (qcl ?_)))
 exact eE hm

def Jcm (n' : Int) : Option (Jl) :=
  (JfD n' (-1099511627776) 1099511627776).bind fun x4 =>
  some (⟨2, x4, ([] : Str), false⟩ : Jl)
theorem Jcc {n' : Int} {K : Hp} {r : Jl}
    (hm : Jcm n' = some r)  :
    Fn Tryz.prog 40 [.int .i64 n'] K [] (fun v K' H' => v = .agg #[.int .i64 r.As, .int .i64 r.N, str r.S, .bool r.Is] ∧ H' = []) := by
 refine Fn.enter Tryz.func40 Tryz.call40 rfl fun F => ?_
 unfold Jcm at hm
 refine qal rfl fun b2 => ?_
 refine cb hm fun x4 q4 hm => cg0 (Jgn q4 :) ?_
 refine qak rfl rfl (cT (cT ?_))
 refine qaa r0 rfl ⟨rfl, rfl, (nl rfl), ?_⟩
 exact ro (qae r0 rfl (nl rfl) (eE hm))

def JaW (s : Str) : Option (Jl) :=
  some (⟨1, 0, s, false⟩ : Jl)
theorem JaJ {s : Str} {K : Hp} {r : Jl}
    (hm : JaW s = some r)  :
    Fn Tryz.prog 39 [str s] K [] (fun v K' H' => v = .agg #[.int .i64 r.As, .int .i64 r.N, str r.S, .bool r.Is] ∧ H' = []) := by
 refine Fn.enter Tryz.func39 Tryz.call39 rfl fun F => ?_
 unfold JaW at hm
 refine qal rfl fun b2 => ?_
 refine qak rfl rfl (cT (cT ?_))
 refine qaa r0 rfl ⟨rfl, rfl, (nl rfl), ?_⟩
 exact ro (qae r0 rfl (nl rfl) (eE hm))

def JcA (v' : Jl) : Option (Jl × Int) :=
  if decide ((v'.S.length : Int) > 2048) then
  some ((⟨0, 0, ([] : Str), false⟩ : Jl), 5)
  else
  some (v', 0)
theorem Jdo {v' : Jl} {K : Hp} {r : Jl × Int}
    (hm : JcA v' = some r)  :
    Fn Tryz.prog 133 [.agg #[.int .i64 v'.As, .int .i64 v'.N, str v'.S, .bool v'.Is]] K [] (fun v K' H' => v = .tuple #[.agg #[.int .i64 r.1.As, .int .i64 r.1.N, str r.1.S, .bool r.1.Is], .int .i64 r.2] ∧ H' = []) := by
 refine Fn.enter Tryz.func133 Tryz.call133 rfl fun F => ?_
 unfold JcA at hm
 refine qaq ?_
 intro b1
 refine qal rfl fun b2 => ?_
 refine fa rfl (ro (ld r1 rfl rfl (ro (qat rfl ?_))))
 refine cs rfl rfl hm ?_ ?_ <;> intro w7 hm
 refine qak rfl rfl ?_
 refine qaa r0 rfl ⟨rfl, rfl, (nl rfl), ?_⟩
 exact ro (qae r0 rfl (nl rfl) (eE hm))
 refine ro (qae r1 rfl (nl rfl) ?_)
 refine qaa r0 rfl ⟨rfl, rfl, (nl rfl), ?_⟩
 exact ro (qae r0 rfl (nl rfl) (eE hm))

def Ja3 (At : Bool) : Option (Jl) :=
  some (⟨3, 0, ([] : Str), At⟩ : Jl)
theorem Jaw {At : Bool} {K : Hp} {r : Jl}
    (hm : Ja3 At = some r)  :
    Fn Tryz.prog 42 [.bool At] K [] (fun v K' H' => v = .agg #[.int .i64 r.As, .int .i64 r.N, str r.S, .bool r.Is] ∧ H' = []) := by
 refine Fn.enter Tryz.func42 Tryz.call42 rfl fun F => ?_
 unfold Ja3 at hm
 refine qal rfl fun b2 => ?_
 refine qak rfl rfl (cT (cT ?_))
 refine qaa r0 rfl ⟨rfl, rfl, (nl rfl), ?_⟩
 exact ro (qae r0 rfl (nl rfl) (eE hm))

def JcW (name : Str) (Ar : Ju) : Option (Jl) :=
  if decide (name = ([109, 101, 116, 104, 111, 100] : Str)) then
  (JaW Ar.Am).bind fun aT =>
  some aT
  else
  if decide (name = ([104, 111, 115, 116] : Str)) then
  (JaW Ar.An).bind fun aU =>
  some aU
  else
  if decide (name = ([112, 97, 116, 104] : Str)) then
  (JaW Ar.Ae).bind fun aS =>
  some aS
  else
  (JaW Ar.Af).bind fun aV =>
  some aV
theorem JfW {name : Str} {Ar : Ju} {ag : Option Addr} {ah : Nat} {K : Hp} {r : Jl}
    (hm : JcW name Ar = some r) (af : RdC Jc.enc K ag ah 2 Ar.Ao) :
    Fn Tryz.prog 78 [str name, .agg #[str Ar.Am, str Ar.An, str Ar.Ae, str Ar.Af, .slice ag Ar.Ao.length ah]] K [] (fun v K' H' => v = .agg #[.int .i64 r.As, .int .i64 r.N, str r.S, .bool r.Is] ∧ H' = []) := by
 refine Fn.enter Tryz.func78 Tryz.call78 rfl fun F => ?_
 unfold JcW at hm
 refine qaq ?_
 intro b3
 refine qal rfl fun b4 => ?_
 refine qai rfl ?_
 refine qam (cs rfl rfl hm ?_ ?_) <;> intro w6 hm
 refine fa rfl (ro (ld r1 rfl rfl ?_))
 refine cb hm fun aW aV hm => cg0 (JaJ aV :) ?_
 refine qaa r0 rfl ⟨rfl, rfl, (nl rfl), ?_⟩
 exact ro (qae r0 rfl (nl rfl) (eE hm))
 refine qam (cs rfl rfl hm ?_ ?_) <;> intro a6 hm
 refine fa rfl (ro (ld r1 rfl rfl ?_))
 refine cb hm fun a8 aT hm => cg0 (JaJ aT :) ?_
 refine qaa r0 rfl ⟨rfl, rfl, (nl rfl), ?_⟩
 exact ro (qae r0 rfl (nl rfl) (eE hm))
 refine qam (cs rfl rfl hm ?_ ?_) <;> intro aZ hm
 refine fa rfl (ro (ld r1 rfl rfl ?_))
 refine cb hm fun aX aS hm => cg0 (JaJ aS :) ?_
 refine qaa r0 rfl ⟨rfl, rfl, (nl rfl), ?_⟩
 exact ro (qae r0 rfl (nl rfl) (eE hm))
 refine fa rfl (ro (ld r1 rfl rfl ?_))
 refine cb hm fun aY aU hm => cg0 (JaJ aU :) ?_
 refine qaa r0 rfl ⟨rfl, rfl, (nl rfl), ?_⟩
 exact ro (qae r0 rfl (nl rfl) (eE hm))

def JbR (byZ : UInt8) (s : Str) : List UInt8 → Nat → (List Str) → Int → Option ((List Str) × Int)
  | [], _, ac, aS => some (ac, aS)
  | e0 :: aT, i0, ac, aS =>
    if decide ((e0.toNat : Int) = (byZ.toNat : Int)) then
    (chk (0 ≤ aS ∧ aS ≤ (i0 : Int) ∧ (i0 : Int) ≤ (s.length : Int))).bind fun _ =>
    (chk (ac.length + [(subL s aS (i0 : Int))].length ≤ lim)).bind fun _ =>
    JbR byZ s aT (i0 + 1) (ac ++ [(subL s aS (i0 : Int))]) ((i0 : Int) + 1)
    else
    JbR byZ s aT (i0 + 1) ac aS
def Jd5 (s : Str) (byZ : UInt8) : Option ((List Str)) :=
  (chk (s.length ≤ qax)).bind fun _ =>
  (JbR byZ s s 0 [] 0).bind fun t0 =>
  (chk (0 ≤ t0.2 ∧ t0.2 ≤ (s.length : Int) ∧ (s.length : Int) ≤ (s.length : Int))).bind fun _ =>
  (chk (t0.1.length + [(subL s t0.2 (s.length : Int))].length ≤ lim)).bind fun _ =>
  some (t0.1 ++ [(subL s t0.2 (s.length : Int))])
theorem Jfd {s : Str} {byZ : UInt8} {K : Hp} {r : (List Str)}
    (hm : Jd5 s byZ = some r)  :
    Fn Tryz.prog 81 [str s, .int .u8 (byZ.toNat : Int)] K [] (fun v K' H' => ∃ ar_0 : Option Addr, ∃ cr_0 : Nat, v = .slice ar_0 r.length cr_0 ∧ (0 < r.length → Has ar_0) ∧ H' = [OwnL eS ar_0 9 1 cr_0 r]) := by
 refine Fn.enter Tryz.func81 Tryz.call81 rfl fun F => ?_
 unfold Jd5 at hm
 refine ro (qat rfl ?_)
 obtain ⟨aX, hm⟩ := qay hm
 obtain ⟨s0, aU, hm⟩ := bnd hm
 refine qkc eS 9 1 ?_
 refine lD (σ := ((List Str) × Int) × Option Addr × Nat) ([5,6,7] ++ rg 10 18) [1] (fun i0 => [(10, .int .i64 (i0 : Int))]) (fun (t0, aS, aT) => [(5, .slice aS t0.1.length aT), (6, .int .i64 t0.2)]) (fun (t0, aS, aT) => [OwnL eS aS 9 1 aT t0.1]) (fun (t0, aS, aT) => (0 < t0.1.length → Has aS) ∧ True) (fun i0 (t0, aS, aT) => JbR byZ s (s.drop i0) i0 t0.1 t0.2 = some s0) (fun (t0, aS, aT) => t0 = s0) (fun i0 => s.length - i0) 0 ((_, _), _, _) aU (And.intro qe (And.intro ?_ ?_))
 clear aU
 rintro i0 ⟨⟨ac, aV⟩, a8, a6⟩ ⟨aY, _⟩ aU j0
 dsimp only at aU ⊢
 refine qaf rfl ?_
 refine qag ?_ ?_ <;> intro w0
 obtain ⟨e0, aW, bf⟩ := ltx w0
 rw [bf, JbR.eq_2] at aU
 refine qai rfl ?_
 refine qaz rfl (nn _) aW (qad ?_)
 refine CStep.ownLe r0 fun bu => ?_
 refine cs rfl rfl aU ?_ ?_ <;> intro bj aU
 obtain ⟨ba, aU⟩ := qay aU
 refine RStep.ofN (qbn (lo := (some aV)) (hi := (some (i0 : Int))) rfl ba ?_)
 refine bsO (len := 1) (enc := eS) (l := [(subL s aV (i0 : Int))]) (cl := [str (subL s aV (i0 : Int))]) qdf rfl rfl (fun _ _ => rfl) rfl rfl rfl ?_ fun bg => ?_
 · conv => whnf
   refine cT ?_
   first | done | rfl
 obtain ⟨bc, aU⟩ := qay aU
 refine apE rfl r1 qdf (qa4 rfl r0 rfl (fun _ => rfl) (fun _ => rfl)) bc ?_
 intro bm bp bh
 refine qar (qbu aW aX) (qar (qbu aW aX) ?_)
 exact eR aU (_, (_, _), _, _)
 refine qar (qbu aW aX) ?_
 exact eR aU (_, (_, _), _, _)
 rw [lty w0, JbR.eq_1] at aU
 refine cT ?_
 exact eM aU (_, _, _)
 rintro ⟨t0, aS, aT⟩ ⟨aZ, _⟩ rfl j0
 obtain ⟨bd, hm⟩ := qay hm
 refine RStep.ofN (qbn (lo := (some t0.2)) (hi := none) rfl bd ?_)
 refine bsO (len := 1) (enc := eS) (l := [(subL s t0.2 (s.length : Int))]) (cl := [str (subL s t0.2 (s.length : Int))]) qdf rfl rfl (fun _ _ => rfl) rfl rfl rfl ?_ fun bt => ?_
 · conv => whnf
   refine cT ?_
   first | done | rfl
 obtain ⟨bb, hm⟩ := qay hm
 refine apE rfl r1 qdf (qa4 rfl r0 rfl (fun _ => rfl) (fun _ => rfl)) bb ?_
 intro bo bn br
 exact eE hm

def JcO (path : Str) : Option ((List Str)) :=
  (Jd5 path (47 : UInt8)).bind fun x5 =>
  (chk (0 ≤ (1 : Int) ∧ (1 : Int) ≤ (x5.length : Int) ∧ (x5.length : Int) ≤ (x5.length : Int))).bind fun _ =>
  some (subL x5 (1 : Int) (x5.length : Int))
theorem Jfa {path : Str} {K : Hp} {r : (List Str)}
    (hm : JcO path = some r)  :
    Fn Tryz.prog 44 [str path] K [] (fun v K' H' => ∃ ar_0 : Option Addr, ∃ cr_0 : Nat, v = .slice ar_0 r.length cr_0 ∧ RdC eS K' ar_0 cr_0 1 r ∧ H' = []) := by
 refine Fn.enter Tryz.func44 Tryz.call44 rfl fun F => ?_
 unfold JcO at hm
 refine cb hm fun x5 q5 hm => ck0 (Jfd q5 :) ?_
 rintro _ _ _ ⟨aV, aU, rfl, aT, rfl⟩
 obtain ⟨h7, hm⟩ := qay hm
 refine qur (l := x5) (lo := (some 1)) (hi := none) rfl r0 (by simp) rfl rfl h7 ?_
 refine fE r0 fun aY aX aS => ?_
 have aW := aS.subC h7
 exact eE hm

def JaU : Nat → Int → Option (Str)
  | 0, _ => none
  | n + 1, n' =>
    if decide (n' < 0) then
    (chk (InI (-n'))).bind fun _ =>
    ((JaU n) (-n')).bind fun x8 =>
    (chk (([45] : Str).length + x8.length ≤ lim)).bind fun _ =>
    some (([45] : Str) ++ x8)
    else
    (chk (InI (48 + (Int.tmod n' 10)))).bind fun _ =>
    if decide (n' < 10) then
    some ([(qoj (48 + (Int.tmod n' 10)))] : Str)
    else
    (chk ((10 : Int) ≠ 0 ∧ InI (Int.tdiv n' 10))).bind fun _ =>
    ((JaU n) (Int.tdiv n' 10)).bind fun aS =>
    (chk (aS.length + ([(qoj (48 + (Int.tmod n' 10)))] : Str).length ≤ lim)).bind fun _ =>
    some (aS ++ ([(qoj (48 + (Int.tmod n' 10)))] : Str))
theorem Jfs : ∀ {n : Nat} {n' : Int} {K : Hp} {r : Str}
    (hm : JaU n n' = some r) ,
    Fn Tryz.prog 45 [.int .i64 n'] K [] (fun v K' H' => v = str r ∧ H' = []) := by
 intro n
 induction n with
 | zero =>
   intro n' K r hm
   rw [JaU.eq_1] at hm; cases hm
 | succ n ih =>
   intro n' K r hm
   refine Fn.enter Tryz.func45 Tryz.call45 rfl fun F => ?_
   rw [JaU.eq_2] at hm
   refine cs rfl rfl hm ?_ ?_ <;> intro w5 hm
   obtain ⟨h7, hm⟩ := qay hm
   refine qgh h7 ?_
   refine cb hm fun x8 q8 hm => cg0 (ih q8 :) ?_
   obtain ⟨h9, hm⟩ := qay hm
   refine qbk h9 ?_
   exact eE hm
   refine qrb (by decide) ?_
   refine ci hm fun hm => ?_
   refine qug rfl rfl ?_
   refine bsO (len := 1) (enc := eU) (l := ([(qoj (48 + (Int.tmod n' 10)))] : Str)) (cl := [.int .u8 ((qoj (48 + (Int.tmod n' 10))).toNat : Int)]) qbz rfl rfl (fun _ _ => rfl) rfl rfl rfl ?_ fun aV => ?_
   · conv => whnf
     refine cT ?_
     first | done | rfl
   refine ro (qdc rfl r0 rfl rfl rfl ?_)
   refine cs rfl rfl hm ?_ ?_ <;> intro aW hm
   exact eE hm
   obtain ⟨aS, hm⟩ := qay hm
   refine qja aS.1 aS.2 ?_
   refine cb hm fun aX aT hm => cg0 (ih aT :) ?_
   obtain ⟨aU, hm⟩ := qay hm
   refine qbk aU ?_
   exact eE hm

def Jbb : List UInt8 → Nat → Str → Option (Str)
  | [], _, ac => some ac
  | e0 :: aS, i0, ac =>
    if (decide ((e0.toNat : Int) ≥ 65) && decide ((e0.toNat : Int) ≤ 90)) then
    (chk (ac.length + ([(e0 + (32 : UInt8))] : Str).length ≤ lim)).bind fun _ =>
    Jbb aS (i0 + 1) (ac ++ ([(e0 + (32 : UInt8))] : Str))
    else
    (chk (ac.length + ([e0] : Str).length ≤ lim)).bind fun _ =>
    Jbb aS (i0 + 1) (ac ++ ([e0] : Str))
def Jci (s : Str) : Option (Str) :=
  (chk (s.length ≤ qax)).bind fun _ =>
  (Jbb s 0 ([] : Str)).bind fun t0 =>
  some t0
theorem JcP {s : Str} {K : Hp} {r : Str}
    (hm : Jci s = some r)  :
    Fn Tryz.prog 48 [str s] K [] (fun v K' H' => v = str r ∧ H' = []) := by
 refine Fn.enter Tryz.func48 Tryz.call48 rfl fun F => ?_
 unfold Jci at hm
 refine ro (qat rfl ?_)
 obtain ⟨aW, hm⟩ := qay hm
 obtain ⟨s0, aT, hm⟩ := bnd hm
 refine lD (σ := (Str)) ([3,4,5] ++ rg 8 20) [0] (fun i0 => [(8, .int .i64 (i0 : Int))]) (fun t0 => [(3, str t0)]) (fun _ => []) (fun _ => True) (fun i0 t0 => Jbb (s.drop i0) i0 t0 = some s0) (fun t0 => t0 = s0) (fun i0 => s.length - i0) 0 _ aT (And.intro qe (And.intro ?_ ?_))
 clear aT
 rintro i0 ac _ aT j0
 conv at aT => whnf
 refine qaf rfl ?_
 refine qag ?_ ?_ <;> intro w0
 obtain ⟨e0, aV, aZ⟩ := ltx w0
 rw [aZ, Jbb.eq_2] at aT
 refine qai rfl ?_
 refine qaz rfl (nn _) aV ?_
 refine qah rfl ?_
 refine qag ?_ ?_ <;> intro aS
 refine ct aS (ct aS (qaf rfl ?_))
 refine qag ?_ ?_ <;> intro aY
 replace aT := ift (qby aS aY) aT
 refine qkn (x := e0) (y := (32 : UInt8)) rfl rfl ?_
 refine bsO (len := 1) (enc := eU) (l := ([(e0 + (32 : UInt8))] : Str)) (cl := [.int .u8 ((e0 + (32 : UInt8)).toNat : Int)]) qbz rfl rfl (fun _ _ => rfl) rfl rfl rfl ?_ fun aX => ?_
 · conv => whnf
   refine cT ?_
   first | done | rfl
 refine ro (qdc rfl r0 rfl rfl rfl ?_)
 obtain ⟨aU, aT⟩ := qay aT
 refine qbk aU ?_
 refine qar (qbu aV aW) ?_
 exact eR aT (_, _)
 replace aT := qa6 (qb8 aS aY) aT
 refine bsO (len := 1) (enc := eU) (l := ([e0] : Str)) (cl := [.int .u8 (e0.toNat : Int)]) qbz rfl rfl (fun _ _ => rfl) rfl rfl rfl ?_ fun aX => ?_
 · conv => whnf
   refine cT ?_
   first | done | rfl
 refine ro (qdc rfl r0 rfl rfl rfl ?_)
 obtain ⟨aU, aT⟩ := qay aT
 refine qbk aU ?_
 refine qar (qbu aV aW) ?_
 exact eR aT (_, _)
 refine cf aS (cf aS (qaf rfl (cF ?_)))
 replace aT := qa6 (qa0 aS) aT
 refine bsO (len := 1) (enc := eU) (l := ([e0] : Str)) (cl := [.int .u8 (e0.toNat : Int)]) qbz rfl rfl (fun _ _ => rfl) rfl rfl rfl ?_ fun aX => ?_
 · conv => whnf
   refine cT ?_
   first | done | rfl
 refine ro (qdc rfl r0 rfl rfl rfl ?_)
 obtain ⟨aU, aT⟩ := qay aT
 refine qbk aU ?_
 refine qar (qbu aV aW) ?_
 exact eR aT (_, _)
 rw [lty w0, Jbb.eq_1] at aT
 refine cT ?_
 exact eM aT _
 rintro t0 _ rfl j0
 exact eE hm

def JdQ (f : Jc) (name : Str) : Option (Bool) :=
  (Jci f.Name).bind fun x7 =>
  (Jci name).bind fun x9 =>
  some (decide (x7 = x9))
theorem JeS {f : Jc} {name : Str} {K : Hp} {r : Bool}
    (hm : JdQ f name = some r)  :
    Fn Tryz.prog 123 [.agg #[str f.Name, str f.Value], str name] K [] (fun v K' H' => v = .bool r ∧ H' = []) := by
 refine Fn.enter Tryz.func123 Tryz.call123 rfl fun F => ?_
 unfold JdQ at hm
 refine qaq ?_
 intro b2
 refine fa rfl (ro (ld r0 rfl rfl ?_))
 refine cb hm fun x7 q7 hm => cg0 (JcP q7 :) ?_
 refine cb hm fun x9 q9 hm => cg0 (JcP q9 :) ?_
 refine qam ?_
 exact eE hm
