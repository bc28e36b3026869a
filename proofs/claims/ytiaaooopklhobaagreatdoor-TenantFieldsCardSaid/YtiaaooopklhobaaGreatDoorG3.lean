/- Functions of the program: mirrors, and that a call returns what the mirror says. Printed by gen.py. -/
import Derived.Test.YtiaaooopklhobaaGreatDoorG2
set_option linter.unusedVariables false
set_option linter.unusedSimpArgs false
open Go Go.SL Go.Proofs
noncomputable section
set_option maxRecDepth 1000000
set_option maxHeartbeats 8000000
def JcL (n : Nat) (n' : Ja) : Option (Int) :=
  if decide (n'.Ab = 13) then
  if (!decide (n'.Ac = ([] : Str))) then
  some (-2)
  else
  some 2
  else
  if decide (n'.Ab = 14) then
  if (!decide (n'.Ac = ([] : Str))) then
  some (-2)
  else
  some 2
  else
  if decide (n'.Ab = 17) then
  if (!decide (n'.Ac = ([] : Str))) then
  some (-2)
  else
  some 2
  else
  if decide (n'.Ab = 18) then
  if (!decide (n'.Ac = ([] : Str))) then
  some (-2)
  else
  some 2
  else
  if decide (n'.Ab = 19) then
  if (!decide (n'.Ac = ([] : Str))) then
  some (-2)
  else
  some 2
  else
  if decide (n'.Ab = 15) then
  if (!decide (n'.Ac = ([] : Str))) then
  some (-2)
  else
  some 1
  else
  if decide (n'.Ab = 16) then
  (JbA 4 n'.Ac).bind fun aY =>
  (if aY then some true else (JbA 1 n'.Ac).bind fun a6 =>
  some a6).bind fun aX =>
  if (!aX) then
  some (-2)
  else
  some 2
  else
  if decide (n'.Ab = 20) then
  (Jdd n'.Ac).bind fun aZ =>
  if (!aZ) then
  some (-2)
  else
  some 0
  else
  if decide (n'.Ab = 21) then
  (Jbj n'.Ac).bind fun aU =>
  if (!aU) then
  some (-2)
  else
  some 0
  else
  if decide (n'.Ab = 22) then
  if (!(decide (n'.Ac = ([116, 114, 117, 101] : Str)) || decide (n'.Ac = ([102, 97, 108, 115, 101] : Str)))) then
  some (-2)
  else
  some 0
  else
  if decide (n'.Ab = 23) then
  (Jch n n'.Ac).bind fun aV =>
  if (!aV) then
  some (-2)
  else
  some 0
  else
  if decide (n'.Ab = 24) then
  (Jch n n'.Ac).bind fun aW =>
  if (!aW) then
  some (-2)
  else
  some (-1)
  else
  some (-2)
theorem JdZ {n : Nat} {n' : Ja} {aa : Option Addr} {ab : Nat} {K : Hp} {r : Int}
    (hm : JcL n n' = some r) (hX : LiC Ja.R K aa ab 4 n'.Aa ∧ GG K) :
    Fn Tryz.prog 242 [.agg #[.int .i64 n'.Ab, str n'.Ac, .slice aa n'.Aa.length ab, .int .i64 n'.Ad]] K [] (fun v K' H' => v = .int .i64 r ∧ H' = []) := by
 obtain ⟨ae, hG⟩ := hX
 refine Fn.enter Tryz.func242 Tryz.call242 rfl fun F => ?_
 unfold JcL at hm
 refine qar ?_
 intro b1
 refine fa rfl (ro (ld r0 rfl rfl (qaq (fa rfl (ro (ld r0 rfl rfl ?_))))))
 refine qal rfl ?_
 refine qag (cs rfl rfl hm ?_ ?_) <;> intro aY hm
 refine qac rfl (ct aY (qau ?_))
 refine cs rfl rfl hm ?_ ?_ <;> intro aW hm
 exact eE hm
 exact eE hm
 refine qag (cs rfl rfl hm ?_ ?_) <;> intro aY hm
 refine qac rfl (ct aY (qau ?_))
 refine cs rfl rfl hm ?_ ?_ <;> intro aW hm
 exact eE hm
 exact eE hm
 refine qag (cs rfl rfl hm ?_ ?_) <;> intro aY hm
 refine qac rfl (ct aY (qau ?_))
 refine cs rfl rfl hm ?_ ?_ <;> intro aW hm
 exact eE hm
 exact eE hm
 refine qag (cs rfl rfl hm ?_ ?_) <;> intro aY hm
 refine qac rfl (ct aY (qau ?_))
 refine cs rfl rfl hm ?_ ?_ <;> intro aW hm
 exact eE hm
 exact eE hm
 refine qag (cs rfl rfl hm ?_ ?_) <;> intro aY hm
 refine qau ?_
 refine cs rfl rfl hm ?_ ?_ <;> intro aW hm
 exact eE hm
 exact eE hm
 refine qag (cs rfl rfl hm ?_ ?_) <;> intro bd hm
 refine qau ?_
 refine cs rfl rfl hm ?_ ?_ <;> intro aW hm
 exact eE hm
 exact eE hm
 refine qag (cs rfl rfl hm ?_ ?_) <;> intro bu hm
 refine qaj rfl ?_
 refine fa rfl (ro (ld r0 rfl rfl ?_))
 refine cb hm fun bf ba hm => cg0 (Jce ba :) ?_
 obtain ⟨bl, aX, hm⟩ := bnd hm
 refine cS aX (fun aV aX => ?_) fun aV aX => ?_
 refine ct aV (ct aV (ct aV (qau (qac rfl (cF ?_)))))
 replace hm := qa9 (qc0 (si aX).symm) hm
 exact eE hm
 refine fa rfl (cf aV (ro (ld r0 rfl rfl (cf aV ?_))))
 refine cb aX fun bt a6 aX => cg0 (Jce a6 :) ?_
 refine cf aV (qau (qac rfl ?_))
 refine qae ?_ ?_ <;> intro aW
 replace hm := ift (qdw ((si aX).symm.trans (qik aW))) hm
 exact eE hm
 replace hm := qa9 (qc0 ((si aX).symm.trans (qgn aW))) hm
 exact eE hm
 refine qag (cs rfl rfl hm ?_ ?_) <;> intro bv hm
 refine fa rfl (ro (ld r0 rfl rfl ?_))
 refine cb hm fun bh a8 hm => cg0 (Jd9 a8 :) ?_
 refine qau ?_
 refine cs rfl rfl hm ?_ ?_ <;> intro aW hm
 exact eE hm
 exact eE hm
 refine qag (cs rfl rfl hm ?_ ?_) <;> intro bn hm
 refine fa rfl (ro (ld r0 rfl rfl ?_))
 refine cb hm fun bj bc hm => cg0 (Jb5 bc :) ?_
 refine qau ?_
 refine cs rfl rfl hm ?_ ?_ <;> intro aW hm
 exact eE hm
 exact eE hm
 refine qag (cs rfl rfl hm ?_ ?_) <;> intro bo hm
 refine qaj rfl ?_
 refine fa rfl (ro (ld r0 rfl rfl (qaq ?_)))
 refine qae ?_ ?_ <;> intro aU
 refine ct aU (ct aU (ct aU (qau (qac rfl (cF ?_)))))
 replace hm := qa9 (qc0 (qcn aU)) hm
 exact eE hm
 refine fa rfl (cf aU (ro (ld r0 rfl rfl (cf aU (qaq (cf aU (qau (qac rfl ?_))))))))
 refine qae ?_ ?_ <;> intro aW
 replace hm := ift (qdw (qew aU (qik aW))) hm
 exact eE hm
 replace hm := qa9 (qc0 (qg1 aU (qgn aW))) hm
 exact eE hm
 refine qag (cs rfl rfl hm ?_ ?_) <;> intro bg hm
 refine fa rfl (ro (ld r0 rfl rfl ?_))
 refine cb hm fun bp bb hm => cgx (JcK bb :) ?_
 refine qau ?_
 refine cs rfl rfl hm ?_ ?_ <;> intro aW hm
 exact eE hm
 exact eE hm
 refine qag (cs rfl rfl hm ?_ ?_) <;> intro bm hm
 refine fa rfl (ro (ld r0 rfl rfl ?_))
 refine cb hm fun br aZ hm => cgx (JcK aZ :) ?_
 refine qau ?_
 refine cs rfl rfl hm ?_ ?_ <;> intro aW hm
 exact eE hm
 exact eE hm
 exact eE hm

def J2 (rec_ : (Ja → Option (Bool))) : List Ja → Nat → Option (Fl (Bool) (Unit))
  | [], _ => some (Fl.go ())
  | e0 :: aV, i0 =>
    (rec_ e0).bind fun aU =>
    if (!aU) then
    some (Fl.ret false)
    else
    J2 rec_ aV (i0 + 1)
def JO : Nat → Ja → Option (Bool)
  | 0, _ => none
  | n + 1, n' =>
    (JcL n n').bind fun x7 =>
    if decide (x7 = (-2)) then
    some false
    else
    if (decide (x7 ≥ 0) && decide ((n'.Aa.length : Int) ≠ x7)) then
    some false
    else
    (chk (n'.Aa.length ≤ qa3)).bind fun _ =>
    (J2 (JO n) n'.Aa 0).bind fun s0 => s0.el some fun t0 =>
    some true
theorem J3 : ∀ {n : Nat} {n' : Ja} {aa : Option Addr} {ab : Nat} {K : Hp} {r : Bool}
    (hm : JO n n' = some r) (hX : LiC Ja.R K aa ab 4 n'.Aa ∧ GG K),
    Fn Tryz.prog 223 [.agg #[.int .i64 n'.Ab, str n'.Ac, .slice aa n'.Aa.length ab, .int .i64 n'.Ad]] K [] (fun v K' H' => v = .bool r ∧ H' = []) := by
 intro n
 induction n with
 | zero =>
   intro n' aa ab K r hm hX
   rw [JO.eq_1] at hm; cases hm
 | succ n ih =>
   intro n' aa ab K r hm hX
   obtain ⟨ae, hG⟩ := hX
   refine Fn.enter Tryz.func223 Tryz.call223 rfl fun F => ?_
   rw [JO.eq_2] at hm
   refine qar ?_
   intro b1
   refine ro (qab r0 rfl (nl rfl) ?_)
   refine cb hm fun x7 q7 hm => cgx (JdZ q7 :) ?_
   refine qaj rfl ?_
   refine qag ?_
   refine cS hm (fun aV hm => ?_) fun aV hm => ?_
   refine ct aV (ct aV (ct aV (ct aV (qac rfl (cT ?_)))))
   exact eE hm
   refine cf aV (cf aV ?_)
   refine qae ?_ ?_ <;> intro aU
   refine fa rfl (ct aU (ro (ld r0 rfl rfl (ct aU (ro (qak rfl (ct aU (ct aU (qa8 ?_)))))))))
   refine cf aV (ct aU (cf aV (qac rfl ?_)))
   refine qae ?_ ?_ <;> intro bj
   replace hm := ift (qcy aU bj) hm
   exact eE hm
   replace hm := qa9 (qcz aU bj) hm
   refine fa rfl (ro (ld r0 rfl rfl (ro (qak rfl ?_))))
   obtain ⟨bd, hm⟩ := qaw hm
   obtain ⟨s0, aW, hm⟩ := bnd hm
   refine lD (σ := (Unit)) ([2,5] ++ rg 24 8) [0, 1] (fun i0 => [(24, .int .i64 (i0 : Int))]) (fun _ => []) (fun _ => []) (fun _ => True) (fun i0 _ => J2 (JO n) (n'.Aa.drop i0) i0 = some s0) (fun t0 => s0 = Fl.go t0) (fun i0 => n'.Aa.length - i0) 0 () aW (And.intro qe (And.intro ?_ ?_))
   clear aW
   rintro i0 _ _ aW j0
   conv at aW => whnf
   refine qac rfl ?_
   refine qae ?_ ?_ <;> intro w0
   obtain ⟨e0, aX, bh⟩ := ltx w0
   rw [bh, J2.eq_2] at aW
   refine qal rfl ?_
   refine RStep.ofN (qad rfl rfl (qc6 ae.rd aX) (nn _) (qbl aX) ?_)
   obtain ⟨bf, bc, aY, a6, aZ⟩ := LiR.get ae.rd aX
   obtain ⟨ba, bb, rfl, a8⟩ := Ja.out aZ
   refine ro (qan i0 _ aY rfl a6 rfl ?_)
   refine qaf rfl fun b5 => ?_
   refine qaa r0 rfl ⟨rfl, rfl, (nl rfl), ?_⟩
   refine ro (qab r0 rfl (nl rfl) ?_)
   refine cb aW fun bm bg aW => cgx (ih bg :) ?_
   refine qau ?_
   refine cs rfl rfl aW ?_ ?_ <;> intro bl aW
   exact eE (er aW hm)
   refine qam (qbn aX bd) ?_
   exact eR aW (_, ())
   rw [lty w0, J2.eq_1] at aW
   refine cT ?_
   exact eM aW _
   rintro t0 _ rfl j0
   replace hm := elg hm
   exact eE hm
   refine cf aU (cf aU (cf aU (cf aU (cf aV (cf aU (cf aV (qac rfl ?_)))))))
   refine cF ?_
   replace hm := qa9 (qbc aU) hm
   refine fa rfl (ro (ld r0 rfl rfl (ro (qak rfl ?_))))
   obtain ⟨bd, hm⟩ := qaw hm
   obtain ⟨s0, aW, hm⟩ := bnd hm
   refine lD (σ := (Unit)) ([2,5] ++ rg 24 8) [0, 1] (fun i0 => [(24, .int .i64 (i0 : Int))]) (fun _ => []) (fun _ => []) (fun _ => True) (fun i0 _ => J2 (JO n) (n'.Aa.drop i0) i0 = some s0) (fun t0 => s0 = Fl.go t0) (fun i0 => n'.Aa.length - i0) 0 () aW (And.intro qe (And.intro ?_ ?_))
   clear aW
   rintro i0 _ _ aW j0
   conv at aW => whnf
   refine qac rfl ?_
   refine qae ?_ ?_ <;> intro w0
   obtain ⟨e0, aX, bh⟩ := ltx w0
   rw [bh, J2.eq_2] at aW
   refine qal rfl ?_
   refine RStep.ofN (qad rfl rfl (qc6 ae.rd aX) (nn _) (qbl aX) ?_)
   obtain ⟨bf, bc, aY, a6, aZ⟩ := LiR.get ae.rd aX
   obtain ⟨ba, bb, rfl, a8⟩ := Ja.out aZ
   refine ro (qan i0 _ aY rfl a6 rfl ?_)
   refine qaf rfl fun b5 => ?_
   refine qaa r0 rfl ⟨rfl, rfl, (nl rfl), ?_⟩
   refine ro (qab r0 rfl (nl rfl) ?_)
   refine cb aW fun bm bg aW => cgx (ih bg :) ?_
   refine qau ?_
   refine cs rfl rfl aW ?_ ?_ <;> intro bl aW
   exact eE (er aW hm)
   refine qam (qbn aX bd) ?_
   exact eR aW (_, ())
   rw [lty w0, J2.eq_1] at aW
   refine cT ?_
   exact eM aW _
   rintro t0 _ rfl j0
   replace hm := elg hm
   exact eE hm

def Jba (aD : (Ja → Option (Bool))) : List Ja → Nat → Option (Fl (Bool) (Unit))
  | [], _ => some (Fl.go ())
  | e0 :: aU, i0 =>
    (aD e0).bind fun aV =>
    if (!aV) then
    some (Fl.ret false)
    else
    Jba aD aU (i0 + 1)
def Jcl (aD : (Ja → Option (Bool))) (n : Nat) (n' : Ja) : Option (Bool) :=
  if (decide (n'.Ab ≠ 12) || decide (n'.Ac ≠ ([] : Str))) then
  some false
  else
  (chk (n'.Aa.length ≤ qa3)).bind fun _ =>
  (Jba aD n'.Aa 0).bind fun s0 => s0.el some fun t0 =>
  some true
theorem Jde {aD : (Ja → Option (Bool))} (ihrec2_0 : ∀ {n' : Ja} {aa : Option Addr} {ab : Nat} {K : Hp} {r : Bool} (hm : aD n' = some r) (hX : LiC Ja.R K aa ab 4 n'.Aa ∧ GG K), Fn Tryz.prog 190 [.agg #[.int .i64 n'.Ab, str n'.Ac, .slice aa n'.Aa.length ab, .int .i64 n'.Ad]] K [] (fun v K' H' => v = .bool r ∧ H' = [])) {n : Nat} {n' : Ja} {aa : Option Addr} {ab : Nat} {K : Hp} {r : Bool}
    (hm : Jcl aD n n' = some r) (hX : LiC Ja.R K aa ab 4 n'.Aa ∧ GG K) :
    Fn Tryz.prog 224 [.agg #[.int .i64 n'.Ab, str n'.Ac, .slice aa n'.Aa.length ab, .int .i64 n'.Ad]] K [] (fun v K' H' => v = .bool r ∧ H' = []) := by
 obtain ⟨ae, hG⟩ := hX
 refine Fn.enter Tryz.func224 Tryz.call224 rfl fun F => ?_
 unfold Jcl at hm
 refine qar ?_
 intro b1
 refine jR (σ := Unit) (rg 5 8) (fun _ => [(12, .bool (decide (n'.Ab ≠ 12) || decide (n'.Ac ≠ ([] : Str))))]) (fun bf => True) ?_ ?_
 refine qaj rfl ?_
 refine fa rfl (ro (ld r0 rfl rfl (qa8 ?_)))
 refine qae ?_ ?_ <;> intro aU
 refine ct aU (ct aU (ct aU ?_))
 exact eMt () ⟨bq (((qcn aU)).symm), trivial⟩
 refine fa rfl (cf aU (ro (ld r0 rfl rfl (cf aU (qbk (cf aU ?_))))))
 exact eMt () ⟨bq (qg2 (b := decide (n'.Ac ≠ ([] : Str))) aU), trivial⟩
 rintro _ _ bj
 refine cs rfl rfl hm ?_ ?_ <;> intro bn hm
 exact eE hm
 refine fa rfl (ro (ld r0 rfl rfl (ro (qak rfl ?_))))
 obtain ⟨bb, hm⟩ := qaw hm
 obtain ⟨s0, aV, hm⟩ := bnd hm
 refine lD (σ := (Unit)) ([2,4] ++ rg 16 8) [0, 1] (fun i0 => [(16, .int .i64 (i0 : Int))]) (fun _ => []) (fun _ => []) (fun _ => True) (fun i0 _ => Jba aD (n'.Aa.drop i0) i0 = some s0) (fun t0 => s0 = Fl.go t0) (fun i0 => n'.Aa.length - i0) 0 () aV (And.intro qe (And.intro ?_ ?_))
 clear aV
 rintro i0 _ _ aV j0
 conv at aV => whnf
 refine qac rfl ?_
 refine qae ?_ ?_ <;> intro w0
 obtain ⟨e0, aW, bh⟩ := ltx w0
 rw [bh, Jba.eq_2] at aV
 refine qal rfl ?_
 refine RStep.ofN (qad rfl rfl (qc6 ae.rd aW) (nn _) (qbl aW) ?_)
 obtain ⟨bc, bd, aZ, aY, aX⟩ := LiR.get ae.rd aW
 obtain ⟨a6, ba, rfl, a8⟩ := Ja.out aX
 refine ro (qan i0 _ aZ rfl aY rfl ?_)
 refine qaf rfl fun b4 => ?_
 refine qaa r0 rfl ⟨rfl, rfl, (nl rfl), ?_⟩
 refine ro (qab r0 rfl (nl rfl) ?_)
 refine cb aV fun bl bg aV => cgx (ihrec2_0 bg :) ?_
 refine qau ?_
 refine cs rfl rfl aV ?_ ?_ <;> intro bm aV
 exact eE (er aV hm)
 refine qam (qbn aW bb) ?_
 exact eR aV (_, ())
 rw [lty w0, Jba.eq_1] at aV
 refine cT ?_
 exact eM aV _
 rintro t0 _ rfl j0
 replace hm := elg hm
 exact eE hm

def Jbb : Nat → Ja → Option (Bool)
  | 0, _ => none
  | n + 1, n' =>
    if decide (n'.Ab = 2) then
    (if ((decide (n'.Ac ≠ ([] : Str)) || decide ((n'.Aa.length : Int) < 2)) || decide ((n'.Aa.length : Int) > 3)) then some true else (ix n'.Aa 0).bind fun aZ =>
    (JO n aZ).bind fun bg =>
    some (!bg)).bind fun bb =>
    (if bb then some true else (ix n'.Aa 1).bind fun bn =>
    (Jcl (Jbb n) n bn).bind fun bm =>
    some (!bm)).bind fun a6 =>
    if a6 then
    some false
    else
    (if decide ((n'.Aa.length : Int) = 2) then some true else (ix n'.Aa 2).bind fun bh =>
    (Jcl (Jbb n) n bh).bind fun bf =>
    some bf).bind fun a8 =>
    if a8 then
    some true
    else
    (ix n'.Aa 2).bind fun bd =>
    (if decide (bd.Ab = 2) then (ix n'.Aa 2).bind fun bj =>
    ((Jbb n) bj).bind fun bc =>
    some bc else some false).bind fun ba =>
    some ba
    else
    if decide (n'.Ab = 6) then
    (Jbj n'.Ac).bind fun bl =>
    some (bl && decide ((n'.Aa.length : Int) = 0))
    else
    if decide (n'.Ab = 10) then
    some (decide (n'.Ac = ([] : Str)) && decide ((n'.Aa.length : Int) = 0))
    else
    if decide (n'.Ab = 11) then
    some (decide (n'.Ac = ([] : Str)) && decide ((n'.Aa.length : Int) = 0))
    else
    if decide (n'.Ab = 3) then
    (Jch n n'.Ac).bind fun aY =>
    if (!aY) then
    some false
    else
    (if decide ((n'.Aa.length : Int) = 1) then (ix n'.Aa 0).bind fun aU =>
    (JO n aU).bind fun aV =>
    some aV else some false).bind fun aW =>
    some aW
    else
    if decide (n'.Ab = 4) then
    if (decide (n'.Ac ≠ ([112, 97, 116, 104] : Str)) && decide (n'.Ac ≠ ([113, 117, 101, 114, 121] : Str))) then
    some false
    else
    (if decide ((n'.Aa.length : Int) = 1) then (ix n'.Aa 0).bind fun aU =>
    (JO n aU).bind fun aV =>
    some aV else some false).bind fun aW =>
    some aW
    else
    if decide (n'.Ab = 5) then
    (Jbj n'.Ac).bind fun aX =>
    if (!aX) then
    some false
    else
    (if decide ((n'.Aa.length : Int) = 1) then (ix n'.Aa 0).bind fun aU =>
    (JO n aU).bind fun aV =>
    some aV else some false).bind fun aW =>
    some aW
    else
    if decide (n'.Ab = 7) then
    if decide (n'.Ac ≠ ([] : Str)) then
    some false
    else
    (if decide ((n'.Aa.length : Int) = 1) then (ix n'.Aa 0).bind fun aU =>
    (JO n aU).bind fun aV =>
    some aV else some false).bind fun aW =>
    some aW
    else
    if decide (n'.Ab = 8) then
    if decide (n'.Ac ≠ ([] : Str)) then
    some false
    else
    (if decide ((n'.Aa.length : Int) = 1) then (ix n'.Aa 0).bind fun aU =>
    (JO n aU).bind fun aV =>
    some aV else some false).bind fun aW =>
    some aW
    else
    if decide (n'.Ab = 9) then
    if decide (n'.Ac ≠ ([] : Str)) then
    some false
    else
    (if decide ((n'.Aa.length : Int) = 1) then (ix n'.Aa 0).bind fun aU =>
    (JO n aU).bind fun aV =>
    some aV else some false).bind fun aW =>
    some aW
    else
    some false
theorem Jea : ∀ {n : Nat} {n' : Ja} {aa : Option Addr} {ab : Nat} {K : Hp} {r : Bool}
    (hm : Jbb n n' = some r) (hX : LiC Ja.R K aa ab 4 n'.Aa ∧ GG K),
    Fn Tryz.prog 190 [.agg #[.int .i64 n'.Ab, str n'.Ac, .slice aa n'.Aa.length ab, .int .i64 n'.Ad]] K [] (fun v K' H' => v = .bool r ∧ H' = []) := by
 intro n
 induction n with
 | zero =>
   intro n' aa ab K r hm hX
   rw [Jbb.eq_1] at hm; cases hm
 | succ n ih =>
   intro n' aa ab K r hm hX
   obtain ⟨ae, hG⟩ := hX
   refine Fn.enter Tryz.func190 Tryz.call190 rfl fun F => ?_
   rw [Jbb.eq_2] at hm
   refine qar ?_
   intro b1
   refine fa rfl (ro (ld r0 rfl rfl ?_))
   refine qal rfl ?_
   refine qag (cs rfl rfl hm ?_ ?_) <;> intro w6 hm
   refine fa rfl (ro (ld r0 rfl rfl (ro (qak rfl ?_))))
   refine qaj rfl ?_
   refine fa rfl (ro (ld r0 rfl rfl (qbk ?_)))
   refine qae ?_ ?_ <;> intro bo
   refine ct bo (ct bo (cT (cT (cT ?_))))
   obtain ⟨cB, bv, hm⟩ := bnd hm
   replace bv := ift (qcn (qcn bo)) bv
   refine cT (cT (cT (cT (cT (cT (cT ?_))))))
   obtain ⟨bZ, br, hm⟩ := bnd hm
   replace br := ift (si bv).symm br
   refine cT (cT (cT (cT (cT (cT (cT (qac rfl ?_)))))))
   refine cT ?_
   replace hm := ift (si br).symm hm
   exact eE hm
   refine cf bo (cf bo ?_)
   refine qae ?_ ?_ <;> intro bp
   refine ct bp (ct bp ?_)
   obtain ⟨cB, bv, hm⟩ := bnd hm
   replace bv := ift (qcn (qg1 bo bp)) bv
   refine cT (cT (cT (cT (cT (cT (cT ?_))))))
   obtain ⟨bZ, br, hm⟩ := bnd hm
   replace br := ift (si bv).symm br
   refine cT (cT (cT (cT (cT (cT (cT (qac rfl ?_)))))))
   refine cT ?_
   replace hm := ift (si br).symm hm
   exact eE hm
   refine cf bp (cf bp ?_)
   obtain ⟨cB, bv, hm⟩ := bnd hm
   refine qae ?_ ?_ <;> intro aZ
   replace bv := ift (qg1 (qew bo bp) aZ) bv
   refine ct aZ (ct aZ (ct aZ (ct aZ (ct aZ (ct aZ ?_)))))
   obtain ⟨bZ, br, hm⟩ := bnd hm
   replace br := ift (si bv).symm br
   refine cT (cT (cT (cT (cT (cT (cT (qac rfl ?_)))))))
   refine cT ?_
   replace hm := ift (si br).symm hm
   exact eE hm
   replace bv := qa9 (qew (qew bo bp) aZ) bv
   refine fa rfl (cf aZ (ro (ld r0 rfl rfl (cf aZ ?_))))
   obtain ⟨dA, cO, bI, bv⟩ := ixb bv
   refine RStep.ofN (qad rfl rfl (qc6 ae.rd bI) cO (qax rfl cO bI) (cf aZ ?_))
   obtain ⟨c4, c6, bR, bT, bK⟩ := LiR.get ae.rd bI
   obtain ⟨cC, cz, rfl, cM⟩ := Ja.out bK
   refine ro (qan ((0 : Int).toNat) _ bR rfl bT rfl (cf aZ ?_))
   refine cb bv fun dq dg bv => cgx (J3 dg :) ?_
   refine cf aZ (qau (cf aZ ?_))
   obtain ⟨bZ, br, hm⟩ := bnd hm
   refine qae ?_ ?_ <;> intro a6
   replace br := ift ((si bv).symm.trans (qdw (qik a6))) br
   refine ct a6 (ct a6 (ct a6 (ct a6 (ct a6 (ct a6 (qac rfl (cT ?_)))))))
   replace hm := ift (si br).symm hm
   exact eE hm
   replace br := qa9 ((si bv).symm.trans (qc0 (qgn a6))) br
   refine fa rfl (cf a6 (ro (ld r0 rfl rfl (cf a6 ?_))))
   obtain ⟨dz, cI, ca, br⟩ := ixb br
   refine RStep.ofN (qad rfl rfl (qc6 ae.rd ca) cI (qax rfl cI ca) (cf a6 ?_))
   obtain ⟨cW, cR, bP, cj, ce⟩ := LiR.get ae.rd ca
   obtain ⟨cr, cG, rfl, cD⟩ := Ja.out ce
   refine ro (qan ((1 : Int).toNat) _ bP rfl cj rfl (cf a6 ?_))
   refine cb br fun dn cU br => cgx (Jde ih cU :) ?_
   refine cf a6 (qau (cf a6 (qac rfl ?_)))
   refine qae ?_ ?_ <;> intro cK
   replace hm := ift ((si br).symm.trans (qdw (qik cK))) hm
   exact eE hm
   replace hm := qa9 ((si br).symm.trans (qc0 (qgn cK))) hm
   refine qaj rfl ?_
   refine qag ?_
   obtain ⟨dw, bB, hm⟩ := bnd hm
   refine cS bB (fun bg bB => ?_) fun bg bB => ?_
   refine ct bg (ct bg (ct bg (ct bg (ct bg ?_))))
   replace hm := ift (si bB).symm hm
   refine cT (cT (cT (cT (cT (cT (cT (cT ?_)))))))
   refine cT ?_
   exact eE hm
   refine fa rfl (cf bg (ro (ld r0 rfl rfl (cf bg ?_))))
   obtain ⟨dC, cu, bW, bB⟩ := ixb bB
   refine RStep.ofN (qad rfl rfl (qc6 ae.rd bW) cu (qax rfl cu bW) (cf bg ?_))
   obtain ⟨cX, di, bV, bX, bO⟩ := LiR.get ae.rd bW
   obtain ⟨cE, cA, rfl, cy⟩ := Ja.out bO
   refine ro (qan ((2 : Int).toNat) _ bV rfl bX rfl (cf bg ?_))
   refine cb bB fun dx c9 bB => cgx (Jde ih c9 :) ?_
   refine cf bg ?_
   refine qae ?_ ?_ <;> intro aX
   replace hm := ift ((si bB).symm.trans aX) hm
   refine ct aX (ct aX (ct aX (ct aX (ct aX (ct aX (ct aX (ct aX ?_)))))))
   exact eE hm
   replace hm := qa9 ((si bB).symm.trans aX) hm
   refine fa rfl (cf aX (ro (ld r0 rfl rfl (cf aX ?_))))
   obtain ⟨dt, cP, bH, hm⟩ := ixb hm
   refine RStep.ofN (qad rfl rfl (qc6 ae.rd bH) cP (qax rfl cP bH) (cf aX (qba rfl (qc6 ae.rd bH) (cf aX ?_))))
   obtain ⟨dc, cZ, bY, bQ, bN⟩ := LiR.get ae.rd bH
   obtain ⟨cn, co, rfl, cH⟩ := Ja.out bN
   refine ro (qcx ((2 : Int).toNat) 0 _ _ bY rfl bQ rfl rfl (cf aX (qag (cf aX ?_))))
   obtain ⟨dp, bD, hm⟩ := bnd hm
   refine cS bD (fun bf bD => ?_) fun bf bD => ?_
   refine fa rfl (ct bf (ro (ld r0 rfl rfl (ct bf ?_))))
   obtain ⟨dk, cJ, bL, bD⟩ := ixb bD
   refine RStep.ofN (qad rfl rfl (qc6 ae.rd bL) cJ (qax rfl cJ bL) (ct bf ?_))
   obtain ⟨de, c5, bM, bJ, bS⟩ := LiR.get ae.rd bL
   obtain ⟨cw, cL, rfl, cm⟩ := Ja.out bS
   refine ro (qan ((2 : Int).toNat) _ bM rfl bJ rfl (ct bf ?_))
   refine cb bD fun dj cQ bD => cgx (ih cQ :) ?_
   refine cf aX (ct bf (cf aX ?_))
   exact bE (si bD) (eE hm)
   refine cf bf (cf bf (cf bf (cf bf (cf aX (cf bf (cf aX ?_))))))
   exact bE (si bD) (eE hm)
   refine qag (cs rfl rfl hm ?_ ?_) <;> intro dD hm
   refine qaj rfl ?_
   refine fa rfl (ro (ld r0 rfl rfl ?_))
   refine cb hm fun dy c8 hm => cg0 (Jb5 c8 :) ?_
   refine qae ?_ ?_ <;> intro bh
   refine fa rfl (ct bh (ro (ld r0 rfl rfl (ct bh (ro (qak rfl (ct bh (qag (ct bh ?_)))))))))
   exact bE (qc1 (b := decide ((n'.Aa.length : Int) = 0)) bh) (eE hm)
   refine cf bh (cf bh (cf bh (cf bh ?_)))
   exact bE (((qbc bh)).symm) (eE hm)
   refine qag (cs rfl rfl hm ?_ ?_) <;> intro cN hm
   refine qac rfl (ct cN ?_)
   refine qaj rfl ?_
   refine fa rfl (ro (ld r0 rfl rfl (qaq ?_)))
   refine qae ?_ ?_ <;> intro aW
   refine fa rfl (ct aW (ro (ld r0 rfl rfl (ct aW (ro (qak rfl (ct aW (qag (ct aW ?_)))))))))
   exact bE (qc1 (b := decide ((n'.Aa.length : Int) = 0)) aW) (eE hm)
   refine cf aW (cf aW (cf aW (cf aW ?_)))
   exact bE (((qbc aW)).symm) (eE hm)
   refine qag (cs rfl rfl hm ?_ ?_) <;> intro cN hm
   refine qaj rfl ?_
   refine fa rfl (ro (ld r0 rfl rfl (qaq ?_)))
   refine qae ?_ ?_ <;> intro aW
   refine fa rfl (ct aW (ro (ld r0 rfl rfl (ct aW (ro (qak rfl (ct aW (qag (ct aW ?_)))))))))
   exact bE (qc1 (b := decide ((n'.Aa.length : Int) = 0)) aW) (eE hm)
   refine cf aW (cf aW (cf aW (cf aW ?_)))
   exact bE (((qbc aW)).symm) (eE hm)
   refine qag (cs rfl rfl hm ?_ ?_) <;> intro dm hm
   refine fa rfl (ro (ld r0 rfl rfl ?_))
   refine cb hm fun du dh hm => cgx (JcK dh :) ?_
   refine qau ?_
   refine cs rfl rfl hm ?_ ?_ <;> intro dv hm
   exact eE hm
   refine qaj rfl ?_
   refine fa rfl (ro (ld r0 rfl rfl (ro (qak rfl (qag ?_)))))
   obtain ⟨bz, aV, hm⟩ := bnd hm
   refine cS aV (fun aU aV => ?_) fun aU aV => ?_
   refine fa rfl (ct aU (ro (ld r0 rfl rfl (ct aU ?_))))
   obtain ⟨bA, bc, aY, aV⟩ := ixb aV
   refine RStep.ofN (qad rfl rfl (qc6 ae.rd aY) bc (qax rfl bc aY) (ct aU ?_))
   obtain ⟨bu, bt, a8, ba, bb⟩ := LiR.get ae.rd aY
   obtain ⟨bn, bj, rfl, bl⟩ := Ja.out bb
   refine ro (qan ((0 : Int).toNat) _ a8 rfl ba rfl (ct aU ?_))
   refine cb aV fun bw bm aV => cgx (J3 bm :) ?_
   refine ct aU ?_
   exact bE (si aV) (eE hm)
   refine cf aU (cf aU (cf aU (cf aU (cf aU ?_))))
   exact bE (si aV) (eE hm)
   refine qag (cs rfl rfl hm ?_ ?_) <;> intro dB hm
   refine qaj rfl ?_
   refine fa rfl (ro (ld r0 rfl rfl (qbk ?_)))
   refine qae ?_ ?_ <;> intro bd
   refine fa rfl (ct bd (ro (ld r0 rfl rfl (ct bd (qbk (ct bd (qac rfl ?_)))))))
   refine qae ?_ ?_ <;> intro bF
   replace hm := ift (qcy bd bF) hm
   exact eE hm
   replace hm := qa9 (qcz bd bF) hm
   refine qaj rfl ?_
   refine fa rfl (ro (ld r0 rfl rfl (ro (qak rfl (qag ?_)))))
   obtain ⟨bz, aV, hm⟩ := bnd hm
   refine cS aV (fun aU aV => ?_) fun aU aV => ?_
   refine fa rfl (ct aU (ro (ld r0 rfl rfl (ct aU ?_))))
   obtain ⟨bA, bc, aY, aV⟩ := ixb aV
   refine RStep.ofN (qad rfl rfl (qc6 ae.rd aY) bc (qax rfl bc aY) (ct aU ?_))
   obtain ⟨bu, bt, a8, ba, bb⟩ := LiR.get ae.rd aY
   obtain ⟨bn, bj, rfl, bl⟩ := Ja.out bb
   refine ro (qan ((0 : Int).toNat) _ a8 rfl ba rfl (ct aU ?_))
   refine cb aV fun bw bm aV => cgx (J3 bm :) ?_
   refine ct aU ?_
   exact bE (si aV) (eE hm)
   refine cf aU (cf aU (cf aU (cf aU (cf aU ?_))))
   exact bE (si aV) (eE hm)
   refine cf bd (cf bd (cf bd (qac rfl (cF ?_))))
   replace hm := qa9 (qbc bd) hm
   refine qaj rfl ?_
   refine fa rfl (ro (ld r0 rfl rfl (ro (qak rfl (qag ?_)))))
   obtain ⟨bz, aV, hm⟩ := bnd hm
   refine cS aV (fun aU aV => ?_) fun aU aV => ?_
   refine fa rfl (ct aU (ro (ld r0 rfl rfl (ct aU ?_))))
   obtain ⟨bA, bc, aY, aV⟩ := ixb aV
   refine RStep.ofN (qad rfl rfl (qc6 ae.rd aY) bc (qax rfl bc aY) (ct aU ?_))
   obtain ⟨bu, bt, a8, ba, bb⟩ := LiR.get ae.rd aY
   obtain ⟨bn, bj, rfl, bl⟩ := Ja.out bb
   refine ro (qan ((0 : Int).toNat) _ a8 rfl ba rfl (ct aU ?_))
   refine cb aV fun bw bm aV => cgx (J3 bm :) ?_
   refine ct aU ?_
   exact bE (si aV) (eE hm)
   refine cf aU (cf aU (cf aU (cf aU (cf aU ?_))))
   exact bE (si aV) (eE hm)
   refine qag (cs rfl rfl hm ?_ ?_) <;> intro cY hm
   refine fa rfl (ro (ld r0 rfl rfl ?_))
   refine cb hm fun cV bU hm => cg0 (Jb5 bU :) ?_
   refine qau ?_
   refine cs rfl rfl hm ?_ ?_ <;> intro df hm
   exact eE hm
   refine qaj rfl ?_
   refine fa rfl (ro (ld r0 rfl rfl (ro (qak rfl (qag ?_)))))
   obtain ⟨bz, aV, hm⟩ := bnd hm
   refine cS aV (fun aU aV => ?_) fun aU aV => ?_
   refine fa rfl (ct aU (ro (ld r0 rfl rfl (ct aU ?_))))
   obtain ⟨bA, bc, aY, aV⟩ := ixb aV
   refine RStep.ofN (qad rfl rfl (qc6 ae.rd aY) bc (qax rfl bc aY) (ct aU ?_))
   obtain ⟨bu, bt, a8, ba, bb⟩ := LiR.get ae.rd aY
   obtain ⟨bn, bj, rfl, bl⟩ := Ja.out bb
   refine ro (qan ((0 : Int).toNat) _ a8 rfl ba rfl (ct aU ?_))
   refine cb aV fun bw bm aV => cgx (J3 bm :) ?_
   refine ct aU ?_
   exact bE (si aV) (eE hm)
   refine cf aU (cf aU (cf aU (cf aU (cf aU ?_))))
   exact bE (si aV) (eE hm)
   refine qag (cs rfl rfl hm ?_ ?_) <;> intro bC hm
   refine qac rfl (ct bC (fa rfl (ro (ld r0 rfl rfl (qbk ?_)))))
   refine cs rfl rfl hm ?_ ?_ <;> intro bG hm
   exact eE hm
   refine qaj rfl ?_
   refine fa rfl (ro (ld r0 rfl rfl (ro (qak rfl (qag ?_)))))
   obtain ⟨bz, aV, hm⟩ := bnd hm
   refine cS aV (fun aU aV => ?_) fun aU aV => ?_
   refine fa rfl (ct aU (ro (ld r0 rfl rfl (ct aU ?_))))
   obtain ⟨bA, bc, aY, aV⟩ := ixb aV
   refine RStep.ofN (qad rfl rfl (qc6 ae.rd aY) bc (qax rfl bc aY) (ct aU ?_))
   obtain ⟨bu, bt, a8, ba, bb⟩ := LiR.get ae.rd aY
   obtain ⟨bn, bj, rfl, bl⟩ := Ja.out bb
   refine ro (qan ((0 : Int).toNat) _ a8 rfl ba rfl (ct aU ?_))
   refine cb aV fun bw bm aV => cgx (J3 bm :) ?_
   refine ct aU ?_
   exact bE (si aV) (eE hm)
   refine cf aU (cf aU (cf aU (cf aU (cf aU ?_))))
   exact bE (si aV) (eE hm)
   refine qag (cs rfl rfl hm ?_ ?_) <;> intro bC hm
   refine qac rfl (ct bC (fa rfl (ro (ld r0 rfl rfl (qbk ?_)))))
   refine cs rfl rfl hm ?_ ?_ <;> intro bG hm
   exact eE hm
   refine qaj rfl ?_
   refine fa rfl (ro (ld r0 rfl rfl (ro (qak rfl (qag ?_)))))
   obtain ⟨bz, aV, hm⟩ := bnd hm
   refine cS aV (fun aU aV => ?_) fun aU aV => ?_
   refine fa rfl (ct aU (ro (ld r0 rfl rfl (ct aU ?_))))
   obtain ⟨bA, bc, aY, aV⟩ := ixb aV
   refine RStep.ofN (qad rfl rfl (qc6 ae.rd aY) bc (qax rfl bc aY) (ct aU ?_))
   obtain ⟨bu, bt, a8, ba, bb⟩ := LiR.get ae.rd aY
   obtain ⟨bn, bj, rfl, bl⟩ := Ja.out bb
   refine ro (qan ((0 : Int).toNat) _ a8 rfl ba rfl (ct aU ?_))
   refine cb aV fun bw bm aV => cgx (J3 bm :) ?_
   refine ct aU ?_
   exact bE (si aV) (eE hm)
   refine cf aU (cf aU (cf aU (cf aU (cf aU ?_))))
   exact bE (si aV) (eE hm)
   refine qag (cs rfl rfl hm ?_ ?_) <;> intro bC hm
   refine fa rfl (ro (ld r0 rfl rfl (qbk ?_)))
   refine cs rfl rfl hm ?_ ?_ <;> intro bG hm
   exact eE hm
   refine qaj rfl ?_
   refine fa rfl (ro (ld r0 rfl rfl (ro (qak rfl (qag ?_)))))
   obtain ⟨bz, aV, hm⟩ := bnd hm
   refine cS aV (fun aU aV => ?_) fun aU aV => ?_
   refine fa rfl (ct aU (ro (ld r0 rfl rfl (ct aU ?_))))
   obtain ⟨bA, bc, aY, aV⟩ := ixb aV
   refine RStep.ofN (qad rfl rfl (qc6 ae.rd aY) bc (qax rfl bc aY) (ct aU ?_))
   obtain ⟨bu, bt, a8, ba, bb⟩ := LiR.get ae.rd aY
   obtain ⟨bn, bj, rfl, bl⟩ := Ja.out bb
   refine ro (qan ((0 : Int).toNat) _ a8 rfl ba rfl (ct aU ?_))
   refine cb aV fun bw bm aV => cgx (J3 bm :) ?_
   refine ct aU ?_
   exact bE (si aV) (eE hm)
   refine cf aU (cf aU (cf aU (cf aU (cf aU ?_))))
   exact bE (si aV) (eE hm)
   exact eE hm

def JbE (n : Nat) : List Ja → Nat → Option (Fl (Bool) (Unit))
  | [], _ => some (Fl.go ())
  | e0 :: aU, i0 =>
    (Jbb n e0).bind fun aV =>
    if (!aV) then
    some (Fl.ret false)
    else
    JbE n aU (i0 + 1)
def Jdn (n : Nat) (n' : Ja) : Option (Bool) :=
  if (decide (n'.Ab ≠ 1) || decide (n'.Ac ≠ ([] : Str))) then
  some false
  else
  (JbV n n' 512 32).bind fun aU =>
  if (!aU.1) then
  some false
  else
  (chk (n'.Aa.length ≤ qa3)).bind fun _ =>
  (JbE n n'.Aa 0).bind fun s0 => s0.el some fun t0 =>
  some true
theorem Jef {n : Nat} {n' : Ja} {aa : Option Addr} {ab : Nat} {K : Hp} {r : Bool}
    (hm : Jdn n n' = some r) (hX : LiC Ja.R K aa ab 4 n'.Aa ∧ GG K) :
    Fn Tryz.prog 140 [.agg #[.int .i64 n'.Ab, str n'.Ac, .slice aa n'.Aa.length ab, .int .i64 n'.Ad]] K [] (fun v K' H' => v = .bool r ∧ H' = []) := by
 obtain ⟨ae, hG⟩ := hX
 refine Fn.enter Tryz.func140 Tryz.call140 rfl fun F => ?_
 unfold Jdn at hm
 refine qar ?_
 intro b1
 refine qaf rfl fun b3 => ?_
 refine qaa r0 rfl ⟨rfl, rfl, (nl rfl), ?_⟩
 refine qaj rfl ?_
 refine fa rfl (ro (ld r1 rfl rfl (qa8 ?_)))
 refine qae ?_ ?_ <;> intro aV
 refine ct aV (ct aV (ct aV ?_))
 replace hm := ift (qcn aV) hm
 refine cT (cT (cT (cT (qac rfl (cT ?_)))))
 exact eE hm
 refine fa rfl (cf aV (ro (ld r1 rfl rfl (cf aV (qbk (cf aV ?_))))))
 refine qae ?_ ?_ <;> intro aU
 replace hm := ift (qg1 aV aU) hm
 refine ct aU (ct aU (ct aU (qac rfl (cT ?_))))
 exact eE hm
 replace hm := qa9 (qew aV aU) hm
 refine ro (qab r1 rfl (nl rfl) (cf aU ?_))
 refine cb hm fun bm bj hm => cgx (Jee bj :) ?_
 refine cf aU (qau (cf aU ?_))
 refine cs rfl rfl hm ?_ ?_ <;> intro bn hm
 exact eE hm
 refine fa rfl (ro (ld r1 rfl rfl (ro (qak rfl ?_))))
 obtain ⟨bd, hm⟩ := qaw hm
 obtain ⟨s0, aW, hm⟩ := bnd hm
 refine lD (σ := (Unit)) ([2,5] ++ rg 22 8) [0, 1, 2] (fun i0 => [(22, .int .i64 (i0 : Int))]) (fun _ => []) (fun _ => []) (fun _ => True) (fun i0 _ => JbE n (n'.Aa.drop i0) i0 = some s0) (fun t0 => s0 = Fl.go t0) (fun i0 => n'.Aa.length - i0) 0 () aW (And.intro qe (And.intro ?_ ?_))
 clear aW
 rintro i0 _ _ aW j0
 conv at aW => whnf
 refine qac rfl ?_
 refine qae ?_ ?_ <;> intro w0
 obtain ⟨e0, aX, bh⟩ := ltx w0
 rw [bh, JbE.eq_2] at aW
 refine qal rfl ?_
 refine RStep.ofN (qad rfl rfl (qc6 ae.rd aX) (nn _) (qbl aX) ?_)
 obtain ⟨bc, bf, a6, aY, aZ⟩ := LiR.get ae.rd aX
 obtain ⟨a8, bb, rfl, ba⟩ := Ja.out aZ
 refine ro (qan i0 _ a6 rfl aY rfl ?_)
 refine qaf rfl fun b5 => ?_
 refine qaa r0 rfl ⟨rfl, rfl, (nl rfl), ?_⟩
 refine ro (qab r0 rfl (nl rfl) ?_)
 refine cb aW fun bl bg aW => cgx (Jea bg :) ?_
 refine qau ?_
 refine cs rfl rfl aW ?_ ?_ <;> intro bo aW
 exact eE (er aW hm)
 refine qam (qbn aX bd) ?_
 exact eR aW (_, ())
 rw [lty w0, JbE.eq_1] at aW
 refine cT ?_
 exact eM aW _
 rintro t0 _ rfl j0
 replace hm := elg hm
 exact eE hm

def Jcg (name : Str) : Option (Bool) :=
  some (((decide (name = ([109, 101, 116, 104, 111, 100] : Str)) || decide (name = ([104, 111, 115, 116] : Str))) || decide (name = ([112, 97, 116, 104] : Str))) || decide (name = ([113, 117, 101, 114, 121] : Str)))
theorem JdF {name : Str} {K : Hp} {r : Bool}
    (hm : Jcg name = some r)  :
    Fn Tryz.prog 243 [str name] K [] (fun v K' H' => v = .bool r ∧ H' = []) := by
 refine Fn.enter Tryz.func243 Tryz.call243 rfl fun F => ?_
 unfold Jcg at hm
 refine qaj rfl ?_
 refine qaq ?_
 refine qae ?_ ?_ <;> intro aV
 refine ct aV (ct aV (cT (cT (cT (cT (cT (cT ?_)))))))
 exact bE (((qcn (qcn (qcn aV)))).symm) (eE hm)
 refine cf aV (qaq (cf aV ?_))
 refine qae ?_ ?_ <;> intro aW
 refine ct aW (ct aW (cT (cT (cT ?_))))
 exact bE (((qcn (qcn (qg1 aV aW)))).symm) (eE hm)
 refine cf aW (qaq (cf aW ?_))
 refine qae ?_ ?_ <;> intro aU
 refine ct aU (ct aU ?_)
 exact bE (((qcn (qg1 (qew aV aW) aU))).symm) (eE hm)
 refine cf aU (qaq (cf aU ?_))
 exact bE (qg2 (b := decide (name = ([113, 117, 101, 114, 121] : Str))) (qew (qew aV aW) aU)) (eE hm)

def Jbk (env : (List Jk)) (name : Str) : Nat → Int → Option (Fl (Int) (Int))
  | 0, _ => none
  | aU + 1, ac =>
    if decide (ac ≥ 0) then
    (ix env ac).bind fun aW =>
    if decide (aW.Name = name) then
    (ix env ac).bind fun aV =>
    some (Fl.ret aV.Ar)
    else
    (chk (InI (ac - 1))).bind fun _ =>
    Jbk env name aU (ac - 1)
    else
    some (Fl.go ac)
def Jb6 (n : Nat) (name : Str) (env : (List Jk)) : Option (Int) :=
  (chk (InI ((env.length : Int) - 1))).bind fun _ =>
  (Jbk env name n ((env.length : Int) - 1)).bind fun s0 => s0.el some fun t0 =>
  (Jcg name).bind fun aU =>
  if aU then
  some 1
  else
  some 0
theorem JcA {n : Nat} {name : Str} {env : (List Jk)} {af : Option Addr} {ag : Nat} {n1 : Nat} {K : Hp} {r : Int}
    (hm : Jb6 n name env = some r) (hX : RdC Jk.enc K af ag 2 env ∧ n1 = env.length) :
    Fn Tryz.prog 227 [str name, .slice af n1 ag] K [] (fun v K' H' => v = .int .i64 r ∧ H' = []) := by
 obtain ⟨ah, a6⟩ := hX
 subst a6
 refine Fn.enter Tryz.func227 Tryz.call227 rfl fun F => ?_
 unfold Jb6 at hm
 refine ro (qak rfl ?_)
 refine ci hm fun hm => ?_
 obtain ⟨s0, aU, hm⟩ := bnd hm
 refine lD (σ := (Int)) ([4,5] ++ rg 9 16) [0] (fun _ => []) (fun t0 => [(5, .int .i64 t0)]) (fun _ => []) (fun _ => True) (fun i0 t0 => Jbk env name i0 t0 = some s0) (fun t0 => s0 = Fl.go t0) (fun i0 => i0) n _ aU (And.intro qe (And.intro ?_ ?_))
 clear aU
 rintro i0 ac _ aU j0
 conv at aU => whnf
 cases i0 with
 | zero => rw [Jbk.eq_1] at aU; cases aU
 | succ i0 =>
  rw [Jbk.eq_2] at aU
  refine cs rfl rfl aU ?_ ?_ <;> intro bf aU
  refine qal rfl ?_
  obtain ⟨ba, aX, aW, aU⟩ := ixb aU
  refine RStep.ofN (qad rfl rfl (qff ah.rd aW) aX (qax rfl aX aW) (qba rfl (qff ah.rd aW) (ro (qcx ((ac).toNat) 0 _ _ ah.rd rfl (mp aW) rfl rfl (qaq ?_)))))
  refine cs rfl rfl aU ?_ ?_ <;> intro bc aU
  obtain ⟨a8, aY, aV, aU⟩ := ixb aU
  refine RStep.ofN (qad rfl rfl (qff ah.rd aV) aY (qax rfl aY aV) (qba rfl (qff ah.rd aV) (ro (qcx ((ac).toNat) 1 _ _ ah.rd rfl (mp aV) rfl rfl ?_))))
  exact eE (er aU hm)
  refine ci aU fun aU => ?_
  exact eR aU (_, _)
  refine cT ?_
  exact eM aU _
 rintro t0 _ rfl j0
 replace hm := elg hm
 refine cb hm fun bb aZ hm => cg0 (JdF aZ :) ?_
 refine cs rfl rfl hm ?_ ?_ <;> intro bd hm
 exact eE hm
 exact eE hm

def JY (c : Jm) (n' : Ja) (err : Err) : Option (Jm) :=
  if c.err.isNone then
  some (⟨n'.Ad, err⟩ : Jm)
  else
  some c
theorem JX {c : Jm} {n' : Ja} {err : Err} {b0 : Nat} {af : Option Addr} {ag : Nat} {K : Hp} {r : Jm}
    (hm : JY c n' err = some r) (ah : LiC Ja.R K af ag 4 n'.Aa) :
    Fn Tryz.prog 193 [.pointer (some ⟨b0, 0, none⟩), .agg #[.int .i64 n'.Ab, str n'.Ac, .slice af n'.Aa.length ag, .int .i64 n'.Ad], qcp 48 err] K [Cells b0 204 [.int .i64 c.line, qcp 48 c.err]] (fun v K' H' => v = .tuple #[] ∧ H' = [Cells b0 204 [.int .i64 r.line, qcp 48 r.err]]) := by
 refine Fn.enter Tryz.func193 Tryz.call193 rfl fun F => ?_
 unfold JY at hm
 refine qar ?_
 intro b4
 refine qah (fa rfl (ro (ld r1 rfl rfl (qd1 rfl ?_))))
 refine cs rfl rfl hm ?_ ?_ <;> intro aU hm
 refine fa rfl (ro (ld r0 rfl rfl (qah (fa rfl ?_))))
 refine qaa r1 rfl ⟨rfl, rfl, (nl rfl), ?_⟩
 refine qah (fa rfl ?_)
 refine qmg r0 rfl rfl ?_
 exact eE hm
 exact eE hm

def JcM (name : Str) : Option (Int × Int) :=
  if decide (name = ([104, 101, 97, 100, 101, 114] : Str)) then
  some (1, 1)
  else
  if decide (name = ([97, 114, 103] : Str)) then
  some (1, 1)
  else
  if decide (name = ([108, 111, 119, 101, 114] : Str)) then
  some (1, 1)
  else
  if decide (name = ([104, 97, 115] : Str)) then
  some (1, 3)
  else
  if decide (name = ([108, 101, 110] : Str)) then
  some (1, 2)
  else
  if decide (name = ([110, 117, 109, 98, 101, 114] : Str)) then
  some (1, 2)
  else
  if decide (name = ([112, 97, 114, 116] : Str)) then
  some (2, 1)
  else
  if decide (name = ([116, 101, 120, 116] : Str)) then
  some (2, 1)
  else
  some (0, 0)
theorem Jd0 {name : Str} {K : Hp} {r : Int × Int}
    (hm : JcM name = some r)  :
    Fn Tryz.prog 244 [str name] K [] (fun v K' H' => v = .tuple #[.int .i64 r.1, .int .i64 r.2] ∧ H' = []) := by
 refine Fn.enter Tryz.func244 Tryz.call244 rfl fun F => ?_
 unfold JcM at hm
 refine qal rfl ?_
 refine qaq (cs rfl rfl hm ?_ ?_) <;> intro w5 hm
 refine qac rfl (ct w5 ?_)
 exact eE hm
 refine qaq (cs rfl rfl hm ?_ ?_) <;> intro w5 hm
 refine qac rfl (ct w5 ?_)
 exact eE hm
 refine qaq (cs rfl rfl hm ?_ ?_) <;> intro w5 hm
 exact eE hm
 refine qaq (cs rfl rfl hm ?_ ?_) <;> intro w9 hm
 exact eE hm
 refine qaq (cs rfl rfl hm ?_ ?_) <;> intro aV hm
 refine qac rfl (ct aV ?_)
 exact eE hm
 refine qaq (cs rfl rfl hm ?_ ?_) <;> intro aV hm
 exact eE hm
 refine qaq (cs rfl rfl hm ?_ ?_) <;> intro aU hm
 refine qac rfl (ct aU ?_)
 exact eE hm
 refine qaq (cs rfl rfl hm ?_ ?_) <;> intro aU hm
 exact eE hm
 exact eE hm

def Jbl (c : Jm) (n' : Ja) (args : (List Int)) : Option (Int × Jm) :=
  (JcM n'.Ac).bind fun al =>
  if decide (al.2 = 0) then
  (JY c n' (some 8)).bind fun aU =>
  some (al.2, aU)
  else
  (if decide ((args.length : Int) ≠ 1) then some true else (ix args 0).bind fun aW =>
  some (decide (aW ≠ al.1))).bind fun aV =>
  if aV then
  (JY c n' (some 9)).bind fun aX =>
  some (al.2, aX)
  else
  some (al.2, c)
theorem Jcs {c : Jm} {n' : Ja} {args : (List Int)} {b0 : Nat} {af : Option Addr} {ag : Nat} {ar : Option Addr} {au : Nat} {n2 : Nat} {K : Hp} {r : Int × Jm}
    (hm : Jbl c n' args = some r) (hX : LiC Ja.R K af ag 4 n'.Aa ∧ RdC eN K ar au 1 args ∧ n2 = args.length) :
    Fn Tryz.prog 228 [.pointer (some ⟨b0, 0, none⟩), .agg #[.int .i64 n'.Ab, str n'.Ac, .slice af n'.Aa.length ag, .int .i64 n'.Ad], .slice ar n2 au] K [Cells b0 204 [.int .i64 c.line, qcp 48 c.err]] (fun v K' H' => v = .int .i64 r.1 ∧ H' = [Cells b0 204 [.int .i64 r.2.line, qcp 48 r.2.err]]) := by
 obtain ⟨ah, aV, bc⟩ := hX
 subst bc
 refine Fn.enter Tryz.func228 Tryz.call228 rfl fun F => ?_
 unfold Jbl at hm
 refine qar ?_
 intro b4
 refine fa rfl (ro (ld r0 rfl rfl ?_))
 refine cb hm fun al a8 hm => cg0 (Jd0 a8 :) ?_
 refine qag (cs rfl rfl hm ?_ ?_) <;> intro bd hm
 refine ro (qab r0 rfl (nl rfl) ?_)
 refine qas rfl ?_
 refine cb hm fun bf bb hm => cgx (JX bb :) ?_
 exact eE hm
 refine qaj rfl ?_
 refine ro (qak rfl (qa8 ?_))
 obtain ⟨bh, aW, hm⟩ := bnd hm
 refine cS aW (fun aU aW => ?_) fun aU aW => ?_
 refine ct aU (ct aU (ct aU (ct aU (ct aU (qac rfl (cT ?_))))))
 replace hm := ift (si aW).symm hm
 refine ro (qab r0 rfl (nl rfl) ?_)
 refine qas rfl ?_
 refine cb hm fun ba aX hm => cgx (JX aX :) ?_
 exact eE hm
 refine cf aU ?_
 obtain ⟨bg, a6, aY, aW⟩ := ixb aW
 refine RStep.ofN (qad rfl rfl (qff aV.rd aY) a6 (qax rfl a6 aY) (cf aU (ro (qcx ((0 : Int).toNat) 0 _ _ aV.rd rfl (mp aY) rfl rfl (cf aU (cf aU (qa8 (cf aU (qac rfl ?_)))))))))
 refine qae ?_ ?_ <;> intro aZ
 replace hm := ift ((si aW).symm.trans aZ) hm
 refine ro (qab r0 rfl (nl rfl) ?_)
 refine qas rfl ?_
 refine cb hm fun ba aX hm => cgx (JX aX :) ?_
 exact eE hm
 replace hm := qa9 ((si aW).symm.trans aZ) hm
 exact eE hm

def JaH (t : Int) : List Int → Nat → Option (Fl (Bool) (Unit))
  | [], _ => some (Fl.go ())
  | e0 :: aU, i0 =>
    if decide (e0 ≠ t) then
    some (Fl.ret false)
    else
    JaH t aU (i0 + 1)
def JV (t : Int) (aK : (List Int)) : Option (Bool) :=
  (chk (aK.length ≤ qa3)).bind fun _ =>
  (JaH t aK 0).bind fun s0 => s0.el some fun t0 =>
  some true
theorem JT {t : Int} {aK : (List Int)} {b1 : Nat} {af : Option Addr} {ag : Nat} {K : Hp} {r : Bool}
    (hm : JV t aK = some r) (ah : RdC eN K af ag 1 aK) :
    Fn Tryz.prog 245 [.int .i64 t, .pointer (some ⟨b1, 0, none⟩)] K [Cells b1 284 [.slice af aK.length ag]] (fun v K' H' => v = .bool r ∧ H' = [Cells b1 284 [.slice af aK.length ag]]) := by
 refine Fn.enter Tryz.func245 Tryz.call245 rfl fun F => ?_
 unfold JV at hm
 refine ro (ld r0 rfl rfl (ro (qak rfl ?_)))
 obtain ⟨aW, hm⟩ := qaw hm
 obtain ⟨s0, aU, hm⟩ := bnd hm
 refine lD (σ := (Unit)) ([3,5] ++ rg 8 8) [0, 1] (fun i0 => [(8, .int .i64 (i0 : Int))]) (fun _ => []) (fun _ => []) (fun _ => True) (fun i0 _ => JaH t (aK.drop i0) i0 = some s0) (fun t0 => s0 = Fl.go t0) (fun i0 => aK.length - i0) 0 () aU (And.intro qe (And.intro ?_ ?_))
 clear aU
 rintro i0 _ _ aU j0
 conv at aU => whnf
 refine qac rfl ?_
 refine qae ?_ ?_ <;> intro w0
 obtain ⟨e0, aV, aX⟩ := ltx w0
 rw [aX, JaH.eq_2] at aU
 refine qal rfl ?_
 refine RStep.ofN (qad rfl rfl (qff ah.rd aV) (nn _) (qbl aV) (ro (qcx i0 0 _ _ ah.rd rfl (mp aV) rfl rfl (qa8 ?_))))
 refine cs rfl rfl aU ?_ ?_ <;> intro aY aU
 exact eE (er aU hm)
 refine qam (qbn aV aW) ?_
 exact eR aU (_, ())
 rw [lty w0, JaH.eq_1] at aU
 refine cT ?_
 exact eM aU _
 rintro t0 _ rfl j0
 replace hm := elg hm
 exact eE hm

def Jca (n' : Ja) (args : (List Int)) : Option (Int) :=
  if decide (n'.Ab = 17) then
  (JV 1 args).bind fun al =>
  if al then
  some 1
  else
  (JV 2 args).bind fun aZ =>
  if aZ then
  some 2
  else
  some 0
  else
  if decide (n'.Ab = 18) then
  (JV 2 args).bind fun aX =>
  if aX then
  some 2
  else
  some 0
  else
  if decide (n'.Ab = 19) then
  (JV 2 args).bind fun aX =>
  if aX then
  some 2
  else
  some 0
  else
  if decide (n'.Ab = 13) then
  (JV 3 args).bind fun aU =>
  if aU then
  some 3
  else
  some 0
  else
  if decide (n'.Ab = 14) then
  (JV 3 args).bind fun aU =>
  if aU then
  some 3
  else
  some 0
  else
  if decide (n'.Ab = 15) then
  (JV 3 args).bind fun aU =>
  if aU then
  some 3
  else
  some 0
  else
  if decide (n'.Ab = 16) then
  if decide (n'.Ac = ([61, 61] : Str)) then
  (ix args 0).bind fun aW =>
  (ix args 1).bind fun aV =>
  if decide (aW = aV) then
  some 3
  else
  some 0
  else
  if decide (n'.Ac = ([33, 61] : Str)) then
  (ix args 0).bind fun aW =>
  (ix args 1).bind fun aV =>
  if decide (aW = aV) then
  some 3
  else
  some 0
  else
  if decide (n'.Ac = ([60] : Str)) then
  (JV 2 args).bind fun aY =>
  if aY then
  some 3
  else
  some 0
  else
  if decide (n'.Ac = ([60, 61] : Str)) then
  (JV 2 args).bind fun aY =>
  if aY then
  some 3
  else
  some 0
  else
  (JV 1 args).bind fun a6 =>
  if a6 then
  some 3
  else
  some 0
  else
  some 0
theorem JcY {n' : Ja} {args : (List Int)} {aa : Option Addr} {ab : Nat} {af : Option Addr} {ag : Nat} {n1 : Nat} {K : Hp} {r : Int}
    (hm : Jca n' args = some r) (hX : LiC Ja.R K aa ab 4 n'.Aa ∧ RdC eN K af ag 1 args ∧ n1 = args.length) :
    Fn Tryz.prog 229 [.agg #[.int .i64 n'.Ab, str n'.Ac, .slice aa n'.Aa.length ab, .int .i64 n'.Ad], .slice af n1 ag] K [] (fun v K' H' => v = .int .i64 r ∧ H' = []) := by
 obtain ⟨ae, ah, bu⟩ := hX
 subst bu
 refine Fn.enter Tryz.func229 Tryz.call229 rfl fun F => ?_
 unfold Jca at hm
 refine qar ?_
 intro b2
 refine qar ?_
 intro b3
 refine mkFunc ?_
 refine fa rfl (ro (ld r1 rfl rfl ?_))
 refine qal rfl ?_
 refine qag (cs rfl rfl hm ?_ ?_) <;> intro w9 hm
 refine cb hm fun al bo hm => cgx (JT bo :) ?_
 refine cs rfl rfl hm ?_ ?_ <;> intro bC hm
 exact eE hm
 refine cb hm fun bB bn hm => cgx (JT bn :) ?_
 refine cs rfl rfl hm ?_ ?_ <;> intro bA hm
 exact eE hm
 exact eE hm
 refine qag (cs rfl rfl hm ?_ ?_) <;> intro bc hm
 refine qac rfl (ct bc ?_)
 refine cb hm fun bh a8 hm => cgx (JT a8 :) ?_
 refine cs rfl rfl hm ?_ ?_ <;> intro bt hm
 exact eE hm
 exact eE hm
 refine qag (cs rfl rfl hm ?_ ?_) <;> intro bc hm
 refine cb hm fun bh a8 hm => cgx (JT a8 :) ?_
 refine cs rfl rfl hm ?_ ?_ <;> intro bt hm
 exact eE hm
 exact eE hm
 refine qag (cs rfl rfl hm ?_ ?_) <;> intro aZ hm
 refine qac rfl (ct aZ ?_)
 refine cb hm fun bb aY hm => cgx (JT aY :) ?_
 refine cs rfl rfl hm ?_ ?_ <;> intro ba hm
 exact eE hm
 exact eE hm
 refine qag (cs rfl rfl hm ?_ ?_) <;> intro aZ hm
 refine qac rfl (ct aZ ?_)
 refine cb hm fun bb aY hm => cgx (JT aY :) ?_
 refine cs rfl rfl hm ?_ ?_ <;> intro ba hm
 exact eE hm
 exact eE hm
 refine qag (cs rfl rfl hm ?_ ?_) <;> intro aZ hm
 refine cb hm fun bb aY hm => cgx (JT aY :) ?_
 refine cs rfl rfl hm ?_ ?_ <;> intro ba hm
 exact eE hm
 exact eE hm
 refine qag (cs rfl rfl hm ?_ ?_) <;> intro bz hm
 refine fa rfl (ro (ld r1 rfl rfl ?_))
 refine qal rfl ?_
 refine qaq (cs rfl rfl hm ?_ ?_) <;> intro bd hm
 refine qac rfl (ct bd ?_)
 refine qa6 ⟨⟨[], false⟩, _, [(_, _)], []⟩ (by kernel_rfl) ⟨Hp.Le.refl _, (pf rfl), ci0⟩ ?_
 refine qao m0 rfl rfl ?_
 obtain ⟨br, aW, aU, hm⟩ := ixb hm
 refine qad rfl rfl (qff ah.rd aU) aW (qax rfl aW aU) (qdo ((0 : Int).toNat) 0 _ _ ah.rd rfl (mp aU) rfl rfl (qao m0 rfl rfl ?_))
 obtain ⟨bg, aX, aV, hm⟩ := ixb hm
 refine qad rfl rfl (qff ah.rd aV) aX (qax rfl aX aV) (qdo ((1 : Int).toNat) 0 _ _ ah.rd rfl (mp aV) rfl rfl (qag ?_))
 refine cs rfl rfl hm ?_ ?_ <;> intro bp hm
 exact eE hm
 exact eE hm
 refine qaq (cs rfl rfl hm ?_ ?_) <;> intro bd hm
 refine qa6 ⟨⟨[], false⟩, _, [(_, _)], []⟩ (by kernel_rfl) ⟨Hp.Le.refl _, (pf rfl), ci0⟩ ?_
 refine qao m0 rfl rfl ?_
 obtain ⟨br, aW, aU, hm⟩ := ixb hm
 refine qad rfl rfl (qff ah.rd aU) aW (qax rfl aW aU) (qdo ((0 : Int).toNat) 0 _ _ ah.rd rfl (mp aU) rfl rfl (qao m0 rfl rfl ?_))
 obtain ⟨bg, aX, aV, hm⟩ := ixb hm
 refine qad rfl rfl (qff ah.rd aV) aX (qax rfl aX aV) (qdo ((1 : Int).toNat) 0 _ _ ah.rd rfl (mp aV) rfl rfl (qag ?_))
 refine cs rfl rfl hm ?_ ?_ <;> intro bp hm
 exact eE hm
 exact eE hm
 refine qaq (cs rfl rfl hm ?_ ?_) <;> intro bf hm
 refine qac rfl (ct bf ?_)
 refine cb hm fun bj a6 hm => cgx (JT a6 :) ?_
 refine cs rfl rfl hm ?_ ?_ <;> intro bm hm
 exact eE hm
 exact eE hm
 refine qaq (cs rfl rfl hm ?_ ?_) <;> intro bf hm
 refine cb hm fun bj a6 hm => cgx (JT a6 :) ?_
 refine cs rfl rfl hm ?_ ?_ <;> intro bm hm
 exact eE hm
 exact eE hm
 refine cb hm fun bw bl hm => cgx (JT bl :) ?_
 refine cs rfl rfl hm ?_ ?_ <;> intro bv hm
 exact eE hm
 exact eE hm
 exact eE hm

def Jat (rec_ : (Jm → Ja → (List Jk) → Option (Int × Jm))) (env : (List Jk)) : List Ja → Nat → (List Int) → Int → Err → Option (Fl (Int × Jm) ((List Int) × Int × Err))
  | [], _, ac, aV, aU => some (Fl.go (ac, aV, aU))
  | e0 :: aX, i0, ac, aV, aU =>
    (rec_ (⟨aV, aU⟩ : Jm) e0 env).bind fun aW =>
    (chk (ac.length + [aW.1].length ≤ lim)).bind fun _ =>
    if aW.2.err.isSome then
    some (Fl.ret (0, aW.2))
    else
    Jat rec_ env aX (i0 + 1) (ac ++ [aW.1]) aW.2.line aW.2.err
def Jau : Nat → Jm → Ja → (List Jk) → Option (Int × Jm)
  | 0, _, _, _ => none
  | n + 1, c, n', env =>
    (chk (n'.Aa.length ≤ qa3)).bind fun _ =>
    (Jat (Jau n) env n'.Aa 0 [] c.line c.err).bind fun s0 => s0.el some fun t0 =>
    if decide (n'.Ab = 20) then
    some (2, (⟨t0.2.1, t0.2.2⟩ : Jm))
    else
    if decide (n'.Ab = 21) then
    some (1, (⟨t0.2.1, t0.2.2⟩ : Jm))
    else
    if decide (n'.Ab = 22) then
    some (3, (⟨t0.2.1, t0.2.2⟩ : Jm))
    else
    if decide (n'.Ab = 23) then
    (Jb6 n n'.Ac env).bind fun aU =>
    if decide (aU = 0) then
    (JY (⟨t0.2.1, t0.2.2⟩ : Jm) n' (some 8)).bind fun aY =>
    some (aU, aY)
    else
    some (aU, (⟨t0.2.1, t0.2.2⟩ : Jm))
    else
    if decide (n'.Ab = 24) then
    (Jbl (⟨t0.2.1, t0.2.2⟩ : Jm) n' t0.1).bind fun aW =>
    some (aW.1, aW.2)
    else
    (Jca n' t0.1).bind fun aV =>
    if decide (aV = 0) then
    (JY (⟨t0.2.1, t0.2.2⟩ : Jm) n' (some 9)).bind fun aX =>
    some (aV, aX)
    else
    some (aV, (⟨t0.2.1, t0.2.2⟩ : Jm))
theorem JdA : ∀ {n : Nat} {c : Jm} {n' : Ja} {env : (List Jk)} {b0 : Nat} {af : Option Addr} {ag : Nat} {ar : Option Addr} {au : Nat} {n2 : Nat} {K : Hp} {r : Int × Jm}
    (hm : Jau n c n' env = some r) (hX : LiC Ja.R K af ag 4 n'.Aa ∧ RdC Jk.enc K ar au 2 env ∧ n2 = env.length),
    Fn Tryz.prog 191 [.pointer (some ⟨b0, 0, none⟩), .agg #[.int .i64 n'.Ab, str n'.Ac, .slice af n'.Aa.length ag, .int .i64 n'.Ad], .slice ar n2 au] K [Cells b0 204 [.int .i64 c.line, qcp 48 c.err]] (fun v K' H' => v = .int .i64 r.1 ∧ H' = [Cells b0 204 [.int .i64 r.2.line, qcp 48 r.2.err]]) := by
 intro n
 induction n with
 | zero =>
   intro c n' env b0 af ag ar au n2 K r hm hX
   rw [Jau.eq_1] at hm; cases hm
 | succ n ih =>
   intro c n' env b0 af ag ar au n2 K r hm hX
   obtain ⟨ah, br, bD⟩ := hX
   subst bD
   refine Fn.enter Tryz.func191 Tryz.call191 rfl fun F => ?_
   rw [Jau.eq_2] at hm
   refine qar ?_
   intro b4
   refine fa rfl (ro (ld r0 rfl rfl (ro (qak rfl ?_))))
   obtain ⟨bC, hm⟩ := qaw hm
   obtain ⟨s0, aW, hm⟩ := bnd hm
   refine qhg eN 3 1 ?_
   refine lD (σ := ((List Int) × Int × Err) × Option Addr × Nat) ([6,7,9] ++ rg 15 17) [1, 3] (fun i0 => [(15, .int .i64 (i0 : Int))]) (fun (t0, aU, aV) => [(7, .slice aU t0.1.length aV)]) (fun (t0, aU, aV) => [qat eN aU 3 1 aV t0.1, Cells b0 204 [.int .i64 t0.2.1, qcp 48 t0.2.2]]) (fun (t0, aU, aV) => (0 < t0.1.length → Has aU) ∧ True) (fun i0 (t0, aU, aV) => Jat (Jau n) env (n'.Aa.drop i0) i0 t0.1 t0.2.1 t0.2.2 = some s0) (fun (t0, aU, aV) => s0 = Fl.go t0) (fun i0 => n'.Aa.length - i0) 0 ((_, _, _), _, _) aW (And.intro qe (And.intro ?_ ?_))
   clear aW
   rintro i0 ⟨⟨ac, bt, bH⟩, bh, bg⟩ ⟨bd, _⟩ aW j0
   dsimp only at aW ⊢
   refine qac rfl ?_
   refine qae ?_ ?_ <;> intro w0
   obtain ⟨e0, a8, bA⟩ := ltx w0
   rw [bA, Jat.eq_2] at aW
   refine qal rfl ?_
   refine RStep.ofN (qad rfl rfl (qc6 ah.rd a8) (nn _) (qbl a8) ?_)
   obtain ⟨bw, bF, ba, bb, bc⟩ := LiR.get ah.rd a8
   obtain ⟨bj, bo, rfl, bm⟩ := Ja.out bc
   refine ro (qan i0 _ ba rfl bb rfl ?_)
   refine qaf rfl fun b9 => ?_
   refine qaa r0 rfl ⟨rfl, rfl, (nl rfl), ?_⟩
   refine ro (qab r0 rfl (nl rfl) ?_)
   refine cb aW fun bl bz aW => cgx (ih bz :) ?_
   refine bsO (len := 1) (enc := eN) (l := [bl.1]) (cl := [.int .i64 bl.1]) qki rfl rfl (fun _ _ => rfl) rfl rfl rfl ?_ fun bL => ?_
   · conv => whnf
     refine cT ?_
     first | done | rfl
   obtain ⟨bB, aW⟩ := qaw aW
   refine apE rfl r3 qki (qay rfl r0 rfl (fun _ => rfl) (fun _ => rfl)) bB ?_
   intro bS bN bM
   refine qah (fa rfl (ro (ld r2 rfl rfl (qa5 rfl ?_))))
   refine cs rfl rfl aW ?_ ?_ <;> intro bP aW
   exact eE (er aW hm)
   refine qam (qbn a8 bC) ?_
   exact eR aW (_, (_, _, _), _, _)
   rw [lty w0, Jat.eq_1] at aW
   refine cT ?_
   exact eM aW (_, _, _)
   rintro ⟨t0, aU, aV⟩ ⟨bn, _⟩ rfl j0
   replace hm := elg hm
   refine fa rfl (ro (ld r2 rfl rfl ?_))
   refine qal rfl ?_
   refine qag (cs rfl rfl hm ?_ ?_) <;> intro bQ hm
   exact eE hm
   refine qag (cs rfl rfl hm ?_ ?_) <;> intro bY hm
   exact eE hm
   refine qag (cs rfl rfl hm ?_ ?_) <;> intro bV hm
   exact eE hm
   refine qag (cs rfl rfl hm ?_ ?_) <;> intro bW hm
   refine fa rfl (ro (ld r2 rfl rfl ?_))
   refine cb hm fun bT bG hm => cgx (JcA bG :) ?_
   refine qag (cs rfl rfl hm ?_ ?_) <;> intro ca hm
   refine ro (qab r2 rfl (nl rfl) ?_)
   refine qas rfl ?_
   refine cb hm fun bO bI hm => cgx (JX bI :) ?_
   exact eE hm
   exact eE hm
   refine qag (cs rfl rfl hm ?_ ?_) <;> intro bU hm
   refine ro (qab r2 rfl (nl rfl) ?_)
   refine cb hm fun bK bv hm => ck0 (Fn.lend Tryz.call228 (fun bf a6 aZ => (Jcs (c := (⟨t0.2.1, t0.2.2⟩ : Jm)) (n' := n') bv ⟨(LiC.mono Ja.R_ok a6 ah), aZ, rfl⟩)) (by exact fun _ _ _ _ h => h)) ?_
   rintro _ _ _ ⟨_, rfl, rfl, rfl⟩
   exact eE hm
   refine ro (qab r2 rfl (nl rfl) ?_)
   refine cb hm fun bX bJ hm => ck0 (Fn.lend Tryz.call229 (fun bp aX aY => (JcY (n' := n') bJ ⟨(LiC.mono Ja.R_ok aX ah), aY, rfl⟩)) (by exact fun _ _ _ _ h => h)) ?_
   rintro _ _ _ ⟨_, rfl, rfl, rfl⟩
   refine qag (cs rfl rfl hm ?_ ?_) <;> intro bR hm
   refine ro (qab r2 rfl (nl rfl) ?_)
   refine qas rfl ?_
   refine cb hm fun bZ bu hm => cgx (JX bu :) ?_
   exact eE hm
   exact eE hm

def Jdo (n' : Ja) : Option (Int) :=
  if decide (n'.Ab = 2) then
  some 3
  else
  if decide (n'.Ab = 4) then
  some 1
  else
  if decide (n'.Ab = 5) then
  some 1
  else
  if decide (n'.Ab = 7) then
  some 1
  else
  if decide (n'.Ab = 8) then
  some 2
  else
  if decide (n'.Ab = 9) then
  some 2
  else
  some 0
theorem Jeg {n' : Ja} {aa : Option Addr} {ab : Nat} {K : Hp} {r : Int}
    (hm : Jdo n' = some r) (ae : LiC Ja.R K aa ab 4 n'.Aa) :
    Fn Tryz.prog 192 [.agg #[.int .i64 n'.Ab, str n'.Ac, .slice aa n'.Aa.length ab, .int .i64 n'.Ad]] K [] (fun v K' H' => v = .int .i64 r ∧ H' = []) := by
 refine Fn.enter Tryz.func192 Tryz.call192 rfl fun F => ?_
 unfold Jdo at hm
 refine qar ?_
 intro b1
 refine fa rfl (ro (ld r0 rfl rfl ?_))
 refine qal rfl ?_
 refine qag (cs rfl rfl hm ?_ ?_) <;> intro w5 hm
 exact eE hm
 refine qag (cs rfl rfl hm ?_ ?_) <;> intro w7 hm
 refine qac rfl (ct w7 ?_)
 exact eE hm
 refine qag (cs rfl rfl hm ?_ ?_) <;> intro w7 hm
 refine qac rfl (ct w7 ?_)
 exact eE hm
 refine qag (cs rfl rfl hm ?_ ?_) <;> intro w7 hm
 exact eE hm
 refine qag (cs rfl rfl hm ?_ ?_) <;> intro aU hm
 refine qac rfl (ct aU ?_)
 exact eE hm
 refine qag (cs rfl rfl hm ?_ ?_) <;> intro aU hm
 exact eE hm
 exact eE hm

def Jcb (n : Nat) (name : Str) (env : (List Jk)) : Option (Bool) :=
  (Jb6 n name env).bind fun x7 =>
  some (decide (x7 ≠ 0))
theorem JcZ {n : Nat} {name : Str} {env : (List Jk)} {af : Option Addr} {ag : Nat} {n1 : Nat} {K : Hp} {r : Bool}
    (hm : Jcb n name env = some r) (hX : RdC Jk.enc K af ag 2 env ∧ n1 = env.length) :
    Fn Tryz.prog 194 [str name, .slice af n1 ag] K [] (fun v K' H' => v = .bool r ∧ H' = []) := by
 obtain ⟨ah, aU⟩ := hX
 subst aU
 refine Fn.enter Tryz.func194 Tryz.call194 rfl fun F => ?_
 unfold Jcb at hm
 refine cb hm fun x7 q7 hm => cgx (JcA q7 :) ?_
 refine qa8 ?_
 exact eE hm

def JaM (env : (List Jk)) (name : Str) (t : Int) : Option ((List Jk)) :=
  (chk (InI ((env.length : Int) + 1))).bind fun _ =>
  (chk ((0 : Int) ≤ ((env.length : Int) + 1) ∧ ((env.length : Int) + 1) ≤ (lim : Int))).bind fun _ =>
  (chk (([] : List Jk).length + env.length ≤ lim)).bind fun _ =>
  (chk ((([] : List Jk) ++ env).length + [(⟨name, t⟩ : Jk)].length ≤ lim)).bind fun _ =>
  some ((([] : List Jk) ++ env) ++ [(⟨name, t⟩ : Jk)])
theorem Ja0 {env : (List Jk)} {name : Str} {t : Int} {aa : Option Addr} {ab : Nat} {n0 : Nat} {K : Hp} {r : (List Jk)}
    (hm : JaM env name t = some r) (hX : RdC Jk.enc K aa ab 2 env ∧ n0 = env.length) :
    Fn Tryz.prog 195 [.slice aa n0 ab, str name, .int .i64 t] K [] (fun v K' H' => ∃ ar_0 : Option Addr, ∃ cr_0 : Nat, v = .slice ar_0 r.length cr_0 ∧ (0 < r.length → Has ar_0) ∧ H' = [qat Jk.enc ar_0 288 2 cr_0 r]) := by
 obtain ⟨ae, aX⟩ := hX
 subst aX
 refine Fn.enter Tryz.func195 Tryz.call195 rfl fun F => ?_
 unfold JaM at hm
 refine ro (qak rfl ?_)
 refine ci hm fun hm => ?_
 obtain ⟨aW, hm⟩ := qaw hm
 refine qp1 (enc := Jk.enc) qkj rfl aW fun a8 => ?_
 obtain ⟨aV, hm⟩ := qaw hm
 refine apE rfl r0 qkj (qqr rfl ae.rd rfl) aV ?_
 intro aY bd bc
 refine qai rfl rfl (cT (cT ?_))
 refine bsO (len := 1) (enc := Jk.enc) (l := [(⟨name, t⟩ : Jk)]) (cl := [str name, .int .i64 t]) qkj rfl rfl (fun _ _ => rfl) rfl rfl rfl ?_ fun aZ => ?_
 · conv => whnf
   refine cT ?_
   first | done | rfl
 obtain ⟨aU, hm⟩ := qaw hm
 refine apE rfl r1 qkj (qay rfl r0 rfl (fun _ => rfl) (fun _ => rfl)) aU ?_
 intro a6 ba bb
 exact eE hm

def Jb7 (n' : Ja) : Option ((List Ja)) :=
  if decide (n'.Ab = 12) then
  some n'.Aa
  else
  some [n']
theorem Jb0 {n' : Ja} {aa : Option Addr} {ab : Nat} {K : Hp} {r : (List Ja)}
    (hm : Jb7 n' = some r) (ae : LiC Ja.R K aa ab 4 n'.Aa) :
    Fn Tryz.prog 196 [.agg #[.int .i64 n'.Ab, str n'.Ac, .slice aa n'.Aa.length ab, .int .i64 n'.Ad]] K [] (fun v K' H' => ∃ ar_0 : Option Addr, ∃ cr_0 : Nat, v = .slice ar_0 r.length cr_0 ∧ LiC Ja.R K' ar_0 cr_0 4 r ∧ H' = []) := by
 refine Fn.enter Tryz.func196 Tryz.call196 rfl fun F => ?_
 unfold Jb7 at hm
 refine qar ?_
 intro b1
 refine fa rfl (ro (ld r0 rfl rfl (qag ?_)))
 refine cs rfl rfl hm ?_ ?_ <;> intro w5 hm
 refine fa rfl (ro (ld r0 rfl rfl ?_))
 exact eE hm
 refine ro (qab r0 rfl (nl rfl) ?_)
 refine qjs (R := Ja.R) (len := 1) (l := [n']) (css := [[.int .i64 n'.Ab, str n'.Ac, .slice aa n'.Aa.length ab, .int .i64 n'.Ad]]) (cl := [.int .i64 n'.Ab, str n'.Ac, .slice aa n'.Aa.length ab, .int .i64 n'.Ad]) Ja.R_ok qbx rfl rfl (LR.snoc LR.nil (Ja.of (x := n') ⟨aa, ab, rfl, ae⟩)) rfl rfl rfl ?_ fun b9 => ?_
 · conv => whnf
   refine cT ?_
   first | done | rfl
 refine qs1 Ja.R_ok r0 (show LR Ja.R _ [[.int .i64 n'.Ab, str n'.Ac, .slice aa n'.Aa.length ab, .int .i64 n'.Ad]] [n'] from (LR.snoc LR.nil (Ja.of (x := n') ⟨aa, ab, rfl, ae⟩))) fun aV aU aW => ?_
 exact eE hm

def JQ (rec_ : (Jm → (List Ja) → (List Jk) → Option (Jm))) (ac : (List Jk)) : List Ja → Nat → Int → Err → Option (Int × Err)
  | [], _, aU, aV => some (aU, aV)
  | e3 :: aY, i3, aU, aV =>
    (Jb7 e3).bind fun aX =>
    (rec_ (⟨aU, aV⟩ : Jm) aX ac).bind fun aW =>
    JQ rec_ ac aY (i3 + 1) aW.line aW.err
def JC (n : Nat) (rec_ : (Jm → (List Ja) → (List Jk) → Option (Jm))) : List Ja → Nat → (List Jk) → Int → Err → Option (Fl (Jm) ((List Jk) × Int × Err))
  | [], _, ac, aZ, aX => some (Fl.go (ac, aZ, aX))
  | e0 :: aY, i0, ac, aZ, aX =>
    if decide ((e0.Aa.length : Int) = 0) then
    JC n rec_ aY (i0 + 1) ac aZ aX
    else
    (ix e0.Aa 0).bind fun bb =>
    (Jau n (⟨aZ, aX⟩ : Jm) bb ac).bind fun aU =>
    (Jdo e0).bind fun ba =>
    if ((aU.2.err.isNone && decide (ba ≠ 0)) && decide (aU.1 ≠ ba)) then
    (JY aU.2 e0 (some 9)).bind fun aV =>
    if aV.err.isSome then
    some (Fl.ret aV)
    else
    if decide (e0.Ab = 3) then
    (Jcb n e0.Ac ac).bind fun a8 =>
    if a8 then
    (JY aV e0 (some 4)).bind fun aW =>
    (JaM ac e0.Ac aU.1).bind fun a6 =>
    if aW.err.isSome then
    some (Fl.ret aW)
    else
    JC n rec_ aY (i0 + 1) a6 aW.line aW.err
    else
    (JaM ac e0.Ac aU.1).bind fun a6 =>
    if aV.err.isSome then
    some (Fl.ret aV)
    else
    JC n rec_ aY (i0 + 1) a6 aV.line aV.err
    else
    if decide (e0.Ab = 2) then
    (chk (0 ≤ (1 : Int) ∧ (1 : Int) ≤ (e0.Aa.length : Int) ∧ (e0.Aa.length : Int) ≤ (e0.Aa.length : Int))).bind fun _ =>
    (chk ((subL e0.Aa (1 : Int) (e0.Aa.length : Int)).length ≤ qa3)).bind fun _ =>
    (JQ rec_ ac (subL e0.Aa (1 : Int) (e0.Aa.length : Int)) 0 aV.line aV.err).bind fun t3 =>
    if t3.2.isSome then
    some (Fl.ret (⟨t3.1, t3.2⟩ : Jm))
    else
    JC n rec_ aY (i0 + 1) ac t3.1 t3.2
    else
    if aV.err.isSome then
    some (Fl.ret aV)
    else
    JC n rec_ aY (i0 + 1) ac aV.line aV.err
    else
    if aU.2.err.isSome then
    some (Fl.ret aU.2)
    else
    if decide (e0.Ab = 3) then
    (Jcb n e0.Ac ac).bind fun a8 =>
    if a8 then
    (JY aU.2 e0 (some 4)).bind fun aW =>
    (JaM ac e0.Ac aU.1).bind fun a6 =>
    if aW.err.isSome then
    some (Fl.ret aW)
    else
    JC n rec_ aY (i0 + 1) a6 aW.line aW.err
    else
    (JaM ac e0.Ac aU.1).bind fun a6 =>
    if aU.2.err.isSome then
    some (Fl.ret aU.2)
    else
    JC n rec_ aY (i0 + 1) a6 aU.2.line aU.2.err
    else
    if decide (e0.Ab = 2) then
    (chk (0 ≤ (1 : Int) ∧ (1 : Int) ≤ (e0.Aa.length : Int) ∧ (e0.Aa.length : Int) ≤ (e0.Aa.length : Int))).bind fun _ =>
    (chk ((subL e0.Aa (1 : Int) (e0.Aa.length : Int)).length ≤ qa3)).bind fun _ =>
    (JQ rec_ ac (subL e0.Aa (1 : Int) (e0.Aa.length : Int)) 0 aU.2.line aU.2.err).bind fun t3 =>
    if t3.2.isSome then
    some (Fl.ret (⟨t3.1, t3.2⟩ : Jm))
    else
    JC n rec_ aY (i0 + 1) ac t3.1 t3.2
    else
    if aU.2.err.isSome then
    some (Fl.ret aU.2)
    else
    JC n rec_ aY (i0 + 1) ac aU.2.line aU.2.err
def J4 : Nat → Jm → (List Ja) → (List Jk) → Option (Jm)
  | 0, _, _, _ => none
  | n + 1, c, list, env =>
    (chk (list.length ≤ qa3)).bind fun _ =>
    (JC n (J4 n) list 0 env c.line c.err).bind fun s0 => s0.el some fun t0 =>
    some (⟨t0.2.1, t0.2.2⟩ : Jm)
theorem Jdp : ∀ {n : Nat} {c : Jm} {list : (List Ja)} {env : (List Jk)} {b0 : Nat} {af : Option Addr} {ag : Nat} {n1 : Nat} {ar : Option Addr} {au : Nat} {n2 : Nat} {K : Hp} {r : Jm}
    (hm : J4 n c list env = some r) (hX : LiC Ja.R K af ag 4 list ∧ n1 = list.length ∧ RdC Jk.enc K ar au 2 env ∧ n2 = env.length),
    Fn Tryz.prog 141 [.pointer (some ⟨b0, 0, none⟩), .slice af n1 ag, .slice ar n2 au] K [Cells b0 204 [.int .i64 c.line, qcp 48 c.err]] (fun v K' H' => v = .tuple #[] ∧ H' = [Cells b0 204 [.int .i64 r.line, qcp 48 r.err]]) := by
 intro n
 induction n with
 | zero =>
   intro c list env b0 af ag n1 ar au n2 K r hm hX
   rw [J4.eq_1] at hm; cases hm
 | succ n ih =>
   intro c list env b0 af ag n1 ar au n2 K r hm hX
   obtain ⟨ah, cZ, cn, cN⟩ := hX
   subst cZ
   subst cN
   refine Fn.enter Tryz.func141 Tryz.call141 rfl fun F => ?_
   rw [J4.eq_2] at hm
   refine ro (qak rfl ?_)
   obtain ⟨bl, hm⟩ := qaw hm
   obtain ⟨s0, aU, hm⟩ := bnd hm
   refine lC (σ := ((List Jk) × Int × Err) × Option Addr × Nat) ([2,7,8,9,11] ++ rg 14 79) [1] (fun i0 => [(14, .int .i64 (i0 : Int))]) (fun (t0, aY, aZ) => [(2, .slice aY t0.1.length aZ)]) (fun (t0, aY, aZ) => [Cells b0 204 [.int .i64 t0.2.1, qcp 48 t0.2.2]]) (fun zz K1 => match zz with | (t0, aY, aZ) => RdC Jk.enc K1 aY aZ 2 t0.1 ∧ True) (fun i0 (t0, aY, aZ) => JC n (J4 n) (list.drop i0) i0 t0.1 t0.2.1 t0.2.2 = some s0) (fun (t0, aY, aZ) => s0 = Fl.go t0) (fun i0 => list.length - i0) 0 ((_, _, _), _, _) aU (And.intro qe (And.intro ?_ ?_))
   clear aU
   rintro i0 ⟨⟨ac, cz, cV⟩, ce, bY⟩ c5 cu ⟨bX, _⟩ aU j0
   dsimp only at aU ⊢
   refine qac rfl ?_
   refine qae ?_ ?_ <;> intro w0
   obtain ⟨e0, a8, cG⟩ := ltx w0
   rw [cG, JC.eq_2] at aU
   refine qal rfl ?_
   refine RStep.ofN (qad rfl rfl (qc6 (LiC.mono Ja.R_ok cu ah).rd a8) (nn _) (qbl a8) ?_)
   obtain ⟨cW, cU, bK, bI, bD⟩ := LiR.get (LiC.mono Ja.R_ok cu ah).rd a8
   obtain ⟨ca, cr, rfl, a6⟩ := Ja.out bD
   refine ro (qan i0 _ bK rfl bI rfl ?_)
   refine qaf rfl fun b7 => ?_
   refine qaa r0 rfl ⟨rfl, rfl, (nl rfl), ?_⟩
   refine fa rfl (ro (ld r0 rfl rfl (ro (qak rfl (qag ?_)))))
   refine cs rfl rfl aU ?_ ?_ <;> intro c6 aU
   refine cT (qam (qbn a8 bl) ?_)
   exact eR aU (_, (_, _, _), _, _)
   refine fa rfl (ro (ld r0 rfl rfl ?_))
   obtain ⟨c9, cw, bC, aU⟩ := ixb aU
   refine RStep.ofN (qad rfl rfl (qc6 a6.rd bC) cw (qax rfl cw bC) ?_)
   obtain ⟨cH, cJ, bO, bS, bG⟩ := LiR.get a6.rd bC
   obtain ⟨cj, bZ, rfl, co⟩ := Ja.out bG
   refine ro (qan ((0 : Int).toNat) _ bO rfl bS rfl ?_)
   refine cb aU fun bJ cE aU => cgx (JdA cE :) ?_
   refine ro (qab r1 rfl (nl rfl) ?_)
   refine cb aU fun bT cC aU => cgx (Jeg cC :) ?_
   refine jR (σ := Unit) (rg 31 14) (fun _ => [(44, .bool ((bJ.2.err.isNone && decide (bT ≠ 0)) && decide (bJ.1 ≠ bT)))]) (fun cX => True) ?_ ?_
   refine qaj rfl ?_
   refine qah (fa rfl (ro (ld r0 rfl rfl (qd1 rfl ?_))))
   refine qae ?_ ?_ <;> intro aX
   refine ct aX (qa8 (ct aX ?_))
   refine qae ?_ ?_ <;> intro aV
   refine ct aV (ct aV (qa8 (ct aV ?_)))
   exact eMt () ⟨bq (qc1 (b := decide (bJ.1 ≠ bT)) (qcy aX aV)), trivial⟩
   refine cf aV (cf aV (cf aV ?_))
   exact eMt () ⟨bq (((qbc (qcz aX aV))).symm), trivial⟩
   refine cf aX (cf aX (cF (cF (cF (cF ?_)))))
   exact eMt () ⟨bq (((qbc (qbc aX))).symm), trivial⟩
   rintro _ _ cD
   refine cs rfl rfl aU ?_ ?_ <;> intro dc aU
   refine ro (qab r1 rfl (nl rfl) ?_)
   refine qas rfl ?_
   refine cb aU fun de cR aU => cgx (JX cR :) ?_
   refine qah (fa rfl (ro (ld r0 rfl rfl (qa5 rfl ?_))))
   refine cs rfl rfl aU ?_ ?_ <;> intro cK aU
   exact eE (er aU hm)
   refine fa rfl (ro (ld r1 rfl rfl ?_))
   refine qal rfl ?_
   refine qag (cs rfl rfl aU ?_ ?_) <;> intro cy aU
   refine fa rfl (ro (ld r1 rfl rfl ?_))
   refine cb aU fun cP bW aU => cgx (JcZ bW :) ?_
   refine cs rfl rfl aU ?_ ?_ <;> intro cM aU
   refine ro (qab r1 rfl (nl rfl) ?_)
   refine qas rfl ?_
   refine cb aU fun cQ bQ aU => cgx (JX bQ :) ?_
   refine fa rfl (ro (ld r1 rfl rfl ?_))
   refine cb aU fun bF bn aU => ckx (Ja0 bn :) ?_
   rintro _ _ _ ⟨bd, bb, rfl, bg, rfl⟩
   refine qah (fa rfl (ro (ld r1 rfl rfl (qa5 rfl ?_))))
   refine cs rfl rfl aU ?_ ?_ <;> intro bo aU
   exact eE (er aU hm)
   refine qam (qbn a8 bl) ?_
   refine fRo r0 fun bh ba bf => ?_
   exact eR aU (_, (_, _, _), _, _)
   refine fa rfl (ro (ld r1 rfl rfl ?_))
   refine cb aU fun bF bn aU => ckx (Ja0 bn :) ?_
   rintro _ _ _ ⟨bd, bb, rfl, bg, rfl⟩
   refine qah (fa rfl (ro (ld r1 rfl rfl (qa5 rfl ?_))))
   refine cs rfl rfl aU ?_ ?_ <;> intro bo aU
   exact eE (er aU hm)
   refine qam (qbn a8 bl) ?_
   refine fRo r0 fun bh ba bf => ?_
   exact eR aU (_, (_, _, _), _, _)
   refine qag (cs rfl rfl aU ?_ ?_) <;> intro cB aU
   refine fa rfl (ro (ld r1 rfl rfl ?_))
   obtain ⟨bt, aU⟩ := qaw aU
   have bc := a6.subC bt
   refine RStep.ofN (qot (l := e0.Aa) (lo := (some 1)) (hi := none) (lo' := (1 : Int)) (hi' := (e0.Aa.length : Int)) rfl rfl rfl rfl rfl a6.le bt (ro (qak rfl ?_)))
   obtain ⟨bM, aU⟩ := qaw aU
   obtain ⟨s3, aW, aU⟩ := bnd aU
   refine lD (σ := (Int × Err)) ([11] ++ rg 77 10) [1, 2] (fun i3 => [(77, .int .i64 (i3 : Int))]) (fun _ => []) (fun t3 => [Cells b0 204 [.int .i64 t3.1, qcp 48 t3.2]]) (fun _ => True) (fun i3 t3 => JQ (J4 n) ac ((subL e0.Aa (1 : Int) (e0.Aa.length : Int)).drop i3) i3 t3.1 t3.2 = some s3) (fun t3 => t3 = s3) (fun i3 => (subL e0.Aa (1 : Int) (e0.Aa.length : Int)).length - i3) 0 (_, _) aW (And.intro qe (And.intro ?_ ?_))
   clear aW
   rintro i3 ⟨bV, bL⟩ _ aW j3
   dsimp only at aW ⊢
   refine qac rfl ?_
   refine qae ?_ ?_ <;> intro w3
   obtain ⟨e3, bj, bH⟩ := ltx w3
   rw [bH, JQ.eq_2] at aW
   refine qal rfl ?_
   refine RStep.ofN (qad rfl rfl (qc6 bc.rd bj) (nn _) (qbl bj) ?_)
   obtain ⟨bP, bU, br, bp, bm⟩ := LiR.get bc.rd bj
   obtain ⟨bA, bz, rfl, bB⟩ := Ja.out bm
   refine ro (qan i3 _ br rfl bp rfl ?_)
   refine qaf rfl fun cI => ?_
   refine qaa r0 rfl ⟨rfl, rfl, (nl rfl), ?_⟩
   refine ro (qab r0 rfl (nl rfl) ?_)
   refine cb aW fun cO bR aW => cfx (Jb0 bR :) ?_
   rintro _ cY _ cL ⟨bw, bv, rfl, bu, rfl⟩
   refine cb aW fun cA bN aW => cgx (ih bN :) ?_
   refine qam (qbn bj bM) ?_
   exact eR aW (_, (_, _))
   rw [lty w3, JQ.eq_1] at aW
   refine cT ?_
   exact eM aW _
   rintro t3 _ rfl j3
   refine qah (fa rfl (ro (ld r0 rfl rfl (qa5 rfl ?_))))
   refine cs rfl rfl aU ?_ ?_ <;> intro bo aU
   exact eE (er aU hm)
   refine qam (qbn a8 bl) ?_
   exact eR aU (_, (_, _, _), _, _)
   refine qah (fa rfl (ro (ld r0 rfl rfl (qa5 rfl ?_))))
   refine cs rfl rfl aU ?_ ?_ <;> intro bo aU
   exact eE (er aU hm)
   refine qam (qbn a8 bl) ?_
   exact eR aU (_, (_, _, _), _, _)
   refine qah (fa rfl (ro (ld r0 rfl rfl (qa5 rfl ?_))))
   refine cs rfl rfl aU ?_ ?_ <;> intro cK aU
   exact eE (er aU hm)
   refine fa rfl (ro (ld r1 rfl rfl ?_))
   refine qal rfl ?_
   refine qag (cs rfl rfl aU ?_ ?_) <;> intro cy aU
   refine fa rfl (ro (ld r1 rfl rfl ?_))
   refine cb aU fun cP bW aU => cgx (JcZ bW :) ?_
   refine cs rfl rfl aU ?_ ?_ <;> intro cM aU
   refine ro (qab r1 rfl (nl rfl) ?_)
   refine qas rfl ?_
   refine cb aU fun cQ bQ aU => cgx (JX bQ :) ?_
   refine fa rfl (ro (ld r1 rfl rfl ?_))
   refine cb aU fun bF bn aU => ckx (Ja0 bn :) ?_
   rintro _ _ _ ⟨bd, bb, rfl, bg, rfl⟩
   refine qah (fa rfl (ro (ld r1 rfl rfl (qa5 rfl ?_))))
   refine cs rfl rfl aU ?_ ?_ <;> intro bo aU
   exact eE (er aU hm)
   refine qam (qbn a8 bl) ?_
   refine fRo r0 fun bh ba bf => ?_
   exact eR aU (_, (_, _, _), _, _)
   refine fa rfl (ro (ld r1 rfl rfl ?_))
   refine cb aU fun bF bn aU => ckx (Ja0 bn :) ?_
   rintro _ _ _ ⟨bd, bb, rfl, bg, rfl⟩
   refine qah (fa rfl (ro (ld r1 rfl rfl (qa5 rfl ?_))))
   refine cs rfl rfl aU ?_ ?_ <;> intro bo aU
   exact eE (er aU hm)
   refine qam (qbn a8 bl) ?_
   refine fRo r0 fun bh ba bf => ?_
   exact eR aU (_, (_, _, _), _, _)
   refine qag (cs rfl rfl aU ?_ ?_) <;> intro cB aU
   refine fa rfl (ro (ld r1 rfl rfl ?_))
   obtain ⟨bt, aU⟩ := qaw aU
   have bc := a6.subC bt
   refine RStep.ofN (qot (l := e0.Aa) (lo := (some 1)) (hi := none) (lo' := (1 : Int)) (hi' := (e0.Aa.length : Int)) rfl rfl rfl rfl rfl a6.le bt (ro (qak rfl ?_)))
   obtain ⟨bM, aU⟩ := qaw aU
   obtain ⟨s3, aW, aU⟩ := bnd aU
   refine lD (σ := (Int × Err)) ([11] ++ rg 77 10) [1, 2] (fun i3 => [(77, .int .i64 (i3 : Int))]) (fun _ => []) (fun t3 => [Cells b0 204 [.int .i64 t3.1, qcp 48 t3.2]]) (fun _ => True) (fun i3 t3 => JQ (J4 n) ac ((subL e0.Aa (1 : Int) (e0.Aa.length : Int)).drop i3) i3 t3.1 t3.2 = some s3) (fun t3 => t3 = s3) (fun i3 => (subL e0.Aa (1 : Int) (e0.Aa.length : Int)).length - i3) 0 (_, _) aW (And.intro qe (And.intro ?_ ?_))
   clear aW
   rintro i3 ⟨bV, bL⟩ _ aW j3
   dsimp only at aW ⊢
   refine qac rfl ?_
   refine qae ?_ ?_ <;> intro w3
   obtain ⟨e3, bj, bH⟩ := ltx w3
   rw [bH, JQ.eq_2] at aW
   refine qal rfl ?_
   refine RStep.ofN (qad rfl rfl (qc6 bc.rd bj) (nn _) (qbl bj) ?_)
   obtain ⟨bP, bU, br, bp, bm⟩ := LiR.get bc.rd bj
   obtain ⟨bA, bz, rfl, bB⟩ := Ja.out bm
   refine ro (qan i3 _ br rfl bp rfl ?_)
   refine qaf rfl fun cI => ?_
   refine qaa r0 rfl ⟨rfl, rfl, (nl rfl), ?_⟩
   refine ro (qab r0 rfl (nl rfl) ?_)
   refine cb aW fun cO bR aW => cfx (Jb0 bR :) ?_
   rintro _ cY _ cL ⟨bw, bv, rfl, bu, rfl⟩
   refine cb aW fun cA bN aW => cgx (ih bN :) ?_
   refine qam (qbn bj bM) ?_
   exact eR aW (_, (_, _))
   rw [lty w3, JQ.eq_1] at aW
   refine cT ?_
   exact eM aW _
   rintro t3 _ rfl j3
   refine qah (fa rfl (ro (ld r0 rfl rfl (qa5 rfl ?_))))
   refine cs rfl rfl aU ?_ ?_ <;> intro bo aU
   exact eE (er aU hm)
   refine qam (qbn a8 bl) ?_
   exact eR aU (_, (_, _, _), _, _)
   refine qah (fa rfl (ro (ld r0 rfl rfl (qa5 rfl ?_))))
   refine cs rfl rfl aU ?_ ?_ <;> intro bo aU
   exact eE (er aU hm)
   refine qam (qbn a8 bl) ?_
   exact eR aU (_, (_, _, _), _, _)
   rw [lty w0, JC.eq_1] at aU
   refine cT ?_
   exact eM aU (_, _, _)
   rintro ⟨t0, aY, aZ⟩ c8 c4 ⟨cm, _⟩ rfl j0
   replace hm := elg hm
   exact eE hm

def Jci (n : Nat) (program : Ja) : Option (Int × Err) :=
  (Jdn n program).bind fun x6 =>
  if (!x6) then
  some (0, (some 2))
  else
  (J4 n (⟨0, none⟩ : Jm) program.Aa []).bind fun aU =>
  some (aU.line, aU.err)
theorem JcN {n : Nat} {program : Ja} {aa : Option Addr} {ab : Nat} {K : Hp} {r : Int × Err}
    (hm : Jci n program = some r) (hX : LiC Ja.R K aa ab 4 program.Aa ∧ GG K) :
    Fn Tryz.prog 89 [.agg #[.int .i64 program.Ab, str program.Ac, .slice aa program.Aa.length ab, .int .i64 program.Ad]] K [] (fun v K' H' => v = .tuple #[.int .i64 r.1, qcp 48 r.2] ∧ H' = []) := by
 obtain ⟨ae, hG⟩ := hX
 refine Fn.enter Tryz.func89 Tryz.call89 rfl fun F => ?_
 unfold Jci at hm
 refine qar ?_
 intro b1
 refine ro (qab r0 rfl (nl rfl) ?_)
 refine cb hm fun x6 q6 hm => cgx (Jef q6 :) ?_
 refine qau ?_
 refine cs rfl rfl hm ?_ ?_ <;> intro w7 hm
 refine qas rfl ?_
 exact eE hm
 refine qai rfl rfl ?_
 refine qar ?_
 intro aW
 refine fa rfl (ro (ld r1 rfl rfl ?_))
 refine cb hm fun aV aU hm => cgx (Jdp aU :) ?_
 refine qa6 ⟨⟨[], false⟩, _, [(_, _)], []⟩ (by kernel_rfl) ⟨Hp.Le.refl _, (pf rfl), ci0⟩ ?_
 refine qah (fa rfl (qao m0 rfl rfl (qah (fa rfl (qao m0 rfl rfl ?_)))))
 exact eE hm

def Jj (c : Jd) (op : Int) (n' : Int) (s : Str) : Option (Int × Jd) :=
  (chk (c.code.length + [(⟨op, n', s⟩ : Jf)].length ≤ lim)).bind fun _ =>
  (chk (InI ((((c.code ++ [(⟨op, n', s⟩ : Jf)]).length) : Int) - 1))).bind fun _ =>
  some (((((c.code ++ [(⟨op, n', s⟩ : Jf)]).length) : Int) - 1), (⟨(c.code ++ [(⟨op, n', s⟩ : Jf)]), c.names, c.Ap⟩ : Jd))
theorem Jg {c : Jd} {op : Int} {n' : Int} {s : Str} {b0 : Nat} {aa : Option Addr} {ab : Nat} {ai : Option Addr} {ak : Nat} {K : Hp} {r : Int × Jd}
    (hm : Jj c op n' s = some r) (hX : (0 < c.code.length → Has aa) ∧ (0 < c.names.length → Has ai)) :
    Fn Tryz.prog 143 [.pointer (some ⟨b0, 0, none⟩), .int .i64 op, .int .i64 n', str s] K [Cells b0 209 [.slice aa c.code.length ab, .slice ai c.names.length ak, .int .i64 c.Ap], qat Jf.enc aa 135 3 ab c.code, qat Jr.enc ai 290 2 ak c.names] (fun v K' H' => ∃ ar_0 : Option Addr, ∃ cr_0 : Nat, ∃ ar_1 : Option Addr, ∃ cr_1 : Nat, v = .int .i64 r.1 ∧ (0 < r.2.code.length → Has ar_0) ∧ (0 < r.2.names.length → Has ar_1) ∧ H' = [Cells b0 209 [.slice ar_0 r.2.code.length cr_0, .slice ar_1 r.2.names.length cr_1, .int .i64 r.2.Ap], qat Jf.enc ar_0 135 3 cr_0 r.2.code, qat Jr.enc ar_1 290 2 cr_1 r.2.names]) := by
 obtain ⟨ae, aU⟩ := hX
 refine Fn.enter Tryz.func143 Tryz.call143 rfl fun F => ?_
 unfold Jj at hm
 refine qah (fa rfl (ro (ld r0 rfl rfl (qai rfl rfl (cT (cT (cT ?_)))))))
 refine bsO (len := 1) (enc := Jf.enc) (l := [(⟨op, n', s⟩ : Jf)]) (cl := [.int .i64 op, .int .i64 n', str s]) qqn rfl rfl (fun _ _ => rfl) rfl rfl rfl ?_ fun aW => ?_
 · conv => whnf
   refine cT ?_
   first | done | rfl
 obtain ⟨aV, hm⟩ := qaw hm
 refine apE rfl r2 qqn (qay rfl r0 rfl (fun _ => rfl) (fun _ => rfl)) aV ?_
 intro aX aY aZ
 refine qah (fa rfl ?_)
 refine qaa r2 rfl ⟨rfl, rfl, (nl rfl), ?_⟩
 refine qah (fa rfl (ro (ld r0 rfl rfl (ro (qak rfl ?_)))))
 refine ci hm fun hm => ?_
 exact eE hm

def JaB (c : Jd) (yes : Bool) : Option (Jd) :=
  if yes then
  (Jj c 1 0 ([] : Str)).bind fun x7 =>
  (Jj x7.2 1 0 ([] : Str)).bind fun aU =>
  (Jj aU.2 7 0 ([61, 61] : Str)).bind fun al =>
  some al.2
  else
  (Jj c 1 0 ([] : Str)).bind fun x7 =>
  (Jj x7.2 1 1 ([] : Str)).bind fun aU =>
  (Jj aU.2 7 0 ([61, 61] : Str)).bind fun al =>
  some al.2
theorem Jbe {c : Jd} {yes : Bool} {b0 : Nat} {aa : Option Addr} {ab : Nat} {ai : Option Addr} {ak : Nat} {K : Hp} {r : Jd}
    (hm : JaB c yes = some r) (hX : (0 < c.code.length → Has aa) ∧ (0 < c.names.length → Has ai)) :
    Fn Tryz.prog 248 [.pointer (some ⟨b0, 0, none⟩), .bool yes] K [Cells b0 209 [.slice aa c.code.length ab, .slice ai c.names.length ak, .int .i64 c.Ap], qat Jf.enc aa 135 3 ab c.code, qat Jr.enc ai 290 2 ak c.names] (fun v K' H' => ∃ ar_0 : Option Addr, ∃ cr_0 : Nat, ∃ ar_1 : Option Addr, ∃ cr_1 : Nat, v = .tuple #[] ∧ (0 < r.code.length → Has ar_0) ∧ (0 < r.names.length → Has ar_1) ∧ H' = [Cells b0 209 [.slice ar_0 r.code.length cr_0, .slice ar_1 r.names.length cr_1, .int .i64 r.Ap], qat Jf.enc ar_0 135 3 cr_0 r.code, qat Jr.enc ar_1 290 2 cr_1 r.names]) := by
 obtain ⟨ae, bp⟩ := hX
 refine Fn.enter Tryz.func248 Tryz.call248 rfl fun F => ?_
 unfold JaB at hm
 refine cs rfl rfl hm ?_ ?_ <;> intro w5 hm
 refine cb hm fun x7 q7 hm => ckx (Jg q7 :) ?_
 rintro _ _ _ ⟨bm, bn, bl, bg, rfl, bj, bo, rfl⟩
 refine cb hm fun br bf hm => ckx (Jg bf :) ?_
 rintro _ _ _ ⟨bd, aX, bb, aZ, rfl, a8, ba, rfl⟩
 refine cb hm fun al bh hm => ckx (Jg bh :) ?_
 rintro _ _ _ ⟨aY, aW, aU, a6, rfl, aV, bc, rfl⟩
 exact eE hm
 refine cb hm fun x7 q7 hm => ckx (Jg q7 :) ?_
 rintro _ _ _ ⟨bm, bn, bl, bg, rfl, bj, bo, rfl⟩
 refine cb hm fun br bf hm => ckx (Jg bf :) ?_
 rintro _ _ _ ⟨bd, aX, bb, aZ, rfl, a8, ba, rfl⟩
 refine cb hm fun al bh hm => ckx (Jg bh :) ?_
 rintro _ _ _ ⟨aY, aW, aU, a6, rfl, aV, bc, rfl⟩
 exact eE hm

def Jar (c : Jd) (s : Str) : Nat → Int → Option (Fl (Jd) (Int))
  | 0, _ => none
  | aV + 1, ac =>
    if decide (ac ≥ 0) then
    (ix c.names ac).bind fun aU =>
    if decide (aU.name = s) then
    (ix c.names ac).bind fun aX =>
    (Jj c 3 aX.slot ([] : Str)).bind fun aW =>
    some (Fl.ret aW.2)
    else
    (chk (InI (ac - 1))).bind fun _ =>
    Jar c s aV (ac - 1)
    else
    some (Fl.go ac)
def JbZ (n : Nat) (c : Jd) (s : Str) : Option (Jd) :=
  (chk (InI ((c.names.length : Int) - 1))).bind fun _ =>
  (Jar c s n ((c.names.length : Int) - 1)).bind fun s0 => s0.el some fun t0 =>
  (Jj c 5 0 s).bind fun aU =>
  some aU.2
theorem Jdq {n : Nat} {c : Jd} {s : Str} {b0 : Nat} {aa : Option Addr} {ab : Nat} {ai : Option Addr} {ak : Nat} {K : Hp} {r : Jd}
    (hm : JbZ n c s = some r) (hX : (0 < c.code.length → Has aa) ∧ (0 < c.names.length → Has ai)) :
    Fn Tryz.prog 249 [.pointer (some ⟨b0, 0, none⟩), str s] K [Cells b0 209 [.slice aa c.code.length ab, .slice ai c.names.length ak, .int .i64 c.Ap], qat Jf.enc aa 135 3 ab c.code, qat Jr.enc ai 290 2 ak c.names] (fun v K' H' => ∃ ar_0 : Option Addr, ∃ cr_0 : Nat, ∃ ar_1 : Option Addr, ∃ cr_1 : Nat, v = .tuple #[] ∧ (0 < r.code.length → Has ar_0) ∧ (0 < r.names.length → Has ar_1) ∧ H' = [Cells b0 209 [.slice ar_0 r.code.length cr_0, .slice ar_1 r.names.length cr_1, .int .i64 r.Ap], qat Jf.enc ar_0 135 3 cr_0 r.code, qat Jr.enc ar_1 290 2 cr_1 r.names]) := by
 obtain ⟨ae, aV⟩ := hX
 refine Fn.enter Tryz.func249 Tryz.call249 rfl fun F => ?_
 unfold JbZ at hm
 refine qah (fa rfl (ro (ld r0 rfl rfl (ro (qak rfl ?_)))))
 refine ci hm fun hm => ?_
 obtain ⟨s0, aU, hm⟩ := bnd hm
 refine lD (σ := (Int)) ([4] ++ rg 11 24) [0, 1, 2, 3] (fun _ => []) (fun t0 => [(4, .int .i64 t0)]) (fun _ => []) (fun _ => True) (fun i0 t0 => Jar c s i0 t0 = some s0) (fun t0 => s0 = Fl.go t0) (fun i0 => i0) n _ aU (And.intro qe (And.intro ?_ ?_))
 clear aU
 rintro i0 ac _ aU j0
 conv at aU => whnf
 cases i0 with
 | zero => rw [Jar.eq_1] at aU; cases aU
 | succ i0 =>
  rw [Jar.eq_2] at aU
  refine cs rfl rfl aU ?_ ?_ <;> intro bw aU
  refine qal rfl ?_
  refine qah (fa rfl (ro (ld r0 rfl rfl ?_)))
  obtain ⟨bu, bg, aX, aU⟩ := ixb aU
  refine RStep.ofN (qad rfl rfl (qco aV aX) bg (qax rfl bg aX) (qba rfl (qco aV aX) (ro (qbv (i := (ac).toNat) (o := 0) r2 rfl aX rfl rfl (qaq ?_)))))
  refine cs rfl rfl aU ?_ ?_ <;> intro br aU
  refine qah (fa rfl (ro (ld r0 rfl rfl ?_)))
  obtain ⟨bp, bd, aW, aU⟩ := ixb aU
  refine RStep.ofN (qad rfl rfl (qco aV aW) bd (qax rfl bd aW) (qba rfl (qco aV aW) (ro (qbv (i := (ac).toNat) (o := 1) r2 rfl aW rfl rfl ?_))))
  refine cb aU fun bt bn aU => ckx (Jg bn :) ?_
  rintro _ _ _ ⟨a6, aZ, bf, ba, rfl, bm, bh, rfl⟩
  exact eE (er aU hm)
  refine ci aU fun aU => ?_
  exact eR aU (_, _)
  refine cT ?_
  exact eM aU _
 rintro t0 _ rfl j0
 replace hm := elg hm
 refine cb hm fun bv bo hm => ckx (Jg bo :) ?_
 rintro _ _ _ ⟨bc, bb, bl, aY, rfl, a8, bj, rfl⟩
 exact eE hm

def JU (c : Jd) (jump : Int) : Option (Jd) :=
  (ix c.code jump).bind fun aU =>
  some (⟨(c.code.set ((jump).toNat) (⟨aU.Op, (c.code.length : Int), aU.S⟩ : Jf)), c.names, c.Ap⟩ : Jd)
theorem JW {c : Jd} {jump : Int} {b0 : Nat} {aa : Option Addr} {ab : Nat} {ai : Option Addr} {ak : Nat} {K : Hp} {r : Jd}
    (hm : JU c jump = some r) (hX : (0 < c.code.length → Has aa) ∧ (0 < c.names.length → Has ai)) :
    Fn Tryz.prog 246 [.pointer (some ⟨b0, 0, none⟩), .int .i64 jump] K [Cells b0 209 [.slice aa c.code.length ab, .slice ai c.names.length ak, .int .i64 c.Ap], qat Jf.enc aa 135 3 ab c.code, qat Jr.enc ai 290 2 ak c.names] (fun v K' H' => ∃ ar_0 : Option Addr, ∃ cr_0 : Nat, ∃ ar_1 : Option Addr, ∃ cr_1 : Nat, v = .tuple #[] ∧ (0 < r.code.length → Has ar_0) ∧ (0 < r.names.length → Has ar_1) ∧ H' = [Cells b0 209 [.slice ar_0 r.code.length cr_0, .slice ar_1 r.names.length cr_1, .int .i64 r.Ap], qat Jf.enc ar_0 135 3 cr_0 r.code, qat Jr.enc ar_1 290 2 cr_1 r.names]) := by
 obtain ⟨ae, aV⟩ := hX
 refine Fn.enter Tryz.func246 Tryz.call246 rfl fun F => ?_
 unfold JU at hm
 refine qa6 ⟨⟨[], false⟩, _, [(_, _)], []⟩ (by kernel_rfl) ⟨Hp.Le.refl _, (pf rfl), ci0⟩ ?_
 refine qah (fa rfl (qao m0 rfl rfl (qah (fa rfl (qao m0 rfl rfl (qce rfl ?_))))))
 obtain ⟨aU, aX, aW, hm⟩ := ixb hm
 refine qad rfl rfl (qco ae aW) aX (qax rfl aX aW) (qba rfl (qco ae aW) ?_)
 refine qex (o := 1) (y := (⟨aU.Op, (c.code.length : Int), aU.S⟩ : Jf)) aU r1 rfl aW rfl (by (conv => whnf); exact ⟨rfl, rfl, (nl rfl), rfl, rfl, rfl⟩) ?_
 refine qk (sc [1] rfl) ?_
 obtain rfl := si hm
 refine qq4 r1 (congrArg (fun q_ : Nat => ([.slice aa q_ ab, .slice ai c.names.length ak, .int .i64 c.Ap] : List Value)) (show c.code.length = (c.code.set ((jump).toNat) (⟨aU.Op, (c.code.length : Int), aU.S⟩ : Jf)).length from ((rfl).trans List.length_set.symm))) ?_
 exact en lr ⟨aa, ab, ai, ak, rfl, (by first | simpa using ae | exact fun _ => ⟨_, _, rfl⟩), aV, rfl⟩ (pf rfl)

def Jaq (aH : (Jd → Ja → Option (Jd))) (n : Nat) (c : Jd) (n' : Ja) (operator : Str) : Option (Jd) :=
  (ix n'.Aa 0).bind fun x9 =>
  (aH c x9).bind fun aV =>
  (ix n'.Aa 1).bind fun aW =>
  (aH aV aW).bind fun aX =>
  (Jj aX 7 0 operator).bind fun aU =>
  some aU.2
theorem JaP {aH : (Jd → Ja → Option (Jd))} (ihrec3_0 : ∀ {c : Jd} {n' : Ja} {b0 : Nat} {aa : Option Addr} {ab : Nat} {ai : Option Addr} {ak : Nat} {af : Option Addr} {ag : Nat} {K : Hp} {r : Jd} (hm : aH c n' = some r) (hX : (0 < c.code.length → Has aa) ∧ (0 < c.names.length → Has ai) ∧ LiC Ja.R K af ag 4 n'.Aa), Fn Tryz.prog 231 [.pointer (some ⟨b0, 0, none⟩), .agg #[.int .i64 n'.Ab, str n'.Ac, .slice af n'.Aa.length ag, .int .i64 n'.Ad]] K [Cells b0 209 [.slice aa c.code.length ab, .slice ai c.names.length ak, .int .i64 c.Ap], qat Jf.enc aa 135 3 ab c.code, qat Jr.enc ai 290 2 ak c.names] (fun v K' H' => ∃ ar_0 : Option Addr, ∃ cr_0 : Nat, ∃ ar_1 : Option Addr, ∃ cr_1 : Nat, v = .tuple #[] ∧ (0 < r.code.length → Has ar_0) ∧ (0 < r.names.length → Has ar_1) ∧ H' = [Cells b0 209 [.slice ar_0 r.code.length cr_0, .slice ar_1 r.names.length cr_1, .int .i64 r.Ap], qat Jf.enc ar_0 135 3 cr_0 r.code, qat Jr.enc ar_1 290 2 cr_1 r.names])) {n : Nat} {c : Jd} {n' : Ja} {operator : Str} {b0 : Nat} {aa : Option Addr} {ab : Nat} {ai : Option Addr} {ak : Nat} {af : Option Addr} {ag : Nat} {K : Hp} {r : Jd}
    (hm : Jaq aH n c n' operator = some r) (hX : (0 < c.code.length → Has aa) ∧ (0 < c.names.length → Has ai) ∧ LiC Ja.R K af ag 4 n'.Aa) :
    Fn Tryz.prog 250 [.pointer (some ⟨b0, 0, none⟩), .agg #[.int .i64 n'.Ab, str n'.Ac, .slice af n'.Aa.length ag, .int .i64 n'.Ad], str operator] K [Cells b0 209 [.slice aa c.code.length ab, .slice ai c.names.length ak, .int .i64 c.Ap], qat Jf.enc aa 135 3 ab c.code, qat Jr.enc ai 290 2 ak c.names] (fun v K' H' => ∃ ar_0 : Option Addr, ∃ cr_0 : Nat, ∃ ar_1 : Option Addr, ∃ cr_1 : Nat, v = .tuple #[] ∧ (0 < r.code.length → Has ar_0) ∧ (0 < r.names.length → Has ar_1) ∧ H' = [Cells b0 209 [.slice ar_0 r.code.length cr_0, .slice ar_1 r.names.length cr_1, .int .i64 r.Ap], qat Jf.enc ar_0 135 3 cr_0 r.code, qat Jr.enc ar_1 290 2 cr_1 r.names]) := by
 obtain ⟨ae, bC, ah⟩ := hX
 refine Fn.enter Tryz.func250 Tryz.call250 rfl fun F => ?_
 unfold Jaq at hm
 refine qar ?_
 intro b4
 refine fa rfl (ro (ld r0 rfl rfl ?_))
 obtain ⟨x9, l9, k9, hm⟩ := ixb hm
 refine RStep.ofN (qad rfl rfl (qc6 ah.rd k9) l9 (qax rfl l9 k9) ?_)
 obtain ⟨bJ, bN, aW, aY, a6⟩ := LiR.get ah.rd k9
 obtain ⟨bF, bd, rfl, bt⟩ := Ja.out a6
 refine ro (qan ((0 : Int).toNat) _ aW rfl aY rfl ?_)
 refine cb hm fun bO bM hm => ckx (ihrec3_0 bM :) ?_
 rintro _ _ _ ⟨ba, bh, bp, bo, rfl, bv, bB, rfl⟩
 refine fa rfl (ro (ld r3 rfl rfl ?_))
 obtain ⟨bP, a8, aV, hm⟩ := ixb hm
 refine RStep.ofN (qad rfl rfl (qc6 ah.rd aV) a8 (qax rfl a8 aV) ?_)
 obtain ⟨bI, bK, aZ, aX, aU⟩ := LiR.get ah.rd aV
 obtain ⟨bj, bl, rfl, bD⟩ := Ja.out aU
 refine ro (qan ((1 : Int).toNat) _ aZ rfl aX rfl ?_)
 refine cb hm fun bR bL hm => ckx (ihrec3_0 bL :) ?_
 rintro _ _ _ ⟨bu, bA, bb, bm, rfl, bw, bf, rfl⟩
 refine cb hm fun bQ bH hm => ckx (Jg bH :) ?_
 rintro _ _ _ ⟨bc, br, bG, bn, rfl, bz, bg, rfl⟩
 exact eE hm
