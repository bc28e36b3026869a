/- Functions of the program: mirrors, and that a call returns what the mirror says. Printed by gen.py. -/
import Derived.Test.YtiaaooopklhobaaGreatDoorG1
set_option linter.unusedVariables false
set_option linter.unusedSimpArgs false
open Go Go.SL Go.Proofs
noncomputable section
set_option maxRecDepth 1000000
set_option maxHeartbeats 8000000
def Jbl (p : Jb) : Option (Str × Jb) :=
  (JI p).bind fun x4 =>
  if decide (x4.Ab ≠ 3) then
  (JZ p).bind fun x8 =>
  some (([] : Str), x8)
  else
  (Jq p).bind fun aS =>
  some (aS.1.Ac, aS.2)
theorem Jcp {p : Jb} {b0 : Nat} {aa : Option Addr} {ab : Nat} {K : Hp} {r : Str × Jb}
    (hm : Jbl p = some r) (ae : (0 < p.list.length → Has aa)) :
    Fn Tryz.prog 210 [.pointer (some ⟨b0, 0, none⟩)] K [Cells b0 163 [.slice aa p.list.length ab, .int .i64 p.atZ, .int .i64 p.line], qas Je.enc aa 166 4 ab p.list] (fun v K' H' => ∃ ar_0 : Option Addr, ∃ cr_0 : Nat, v = str r.1 ∧ (0 < r.2.list.length → Has ar_0) ∧ H' = [Cells b0 163 [.slice ar_0 r.2.list.length cr_0, .int .i64 r.2.atZ, .int .i64 r.2.line], qas Je.enc ar_0 166 4 cr_0 r.2.list]) := by
 refine Fn.enter Tryz.func210 Tryz.call210 rfl fun F => ?_
 unfold Jbl at hm
 refine cb hm fun x4 q4 hm => cgx (JH q4 :) ?_
 refine Jdj rfl rfl rfl rfl ?_
 refine qa8 (cs rfl rfl hm ?_ ?_) <;> intro w6 hm
 refine cb hm fun x8 q8 hm => ckx (J4 q8 :) ?_
 rintro _ _ _ ⟨aW, aX, rfl, aV, rfl⟩
 exact eE hm
 refine cb hm fun aZ aY hm => ckx (Jm aY :) ?_
 rintro _ _ _ ⟨aU, aT, rfl, aS, rfl⟩
 refine Jdj rfl rfl rfl rfl ?_
 exact eE hm

def JaM (aq : (Jb → Option ((List Ja) × Jb))) (n : Nat) (p : Jb) : Option (Ja × Jb) :=
  (JI p).bind fun x5 =>
  (JF p ([123] : Str)).bind fun x9 =>
  (Jt x9).bind fun aU =>
  if aU then
  (aq x9).bind fun aS =>
  (JF aS.2 ([125] : Str)).bind fun aT =>
  some ((⟨12, ([] : Str), aS.1, x5.Ad⟩ : Ja), aT)
  else
  some ((⟨12, ([] : Str), [], x5.Ad⟩ : Ja), x9)
theorem Jbo {aq : (Jb → Option ((List Ja) × Jb))} (ihrec1_0 : ∀ {p : Jb} {b0 : Nat} {aa : Option Addr} {ab : Nat} {K : Hp} {r : (List Ja) × Jb} (hm : aq p = some r) (hX : (0 < p.list.length → Has aa) ∧ GG K), Fn Tryz.prog 97 [.pointer (some ⟨b0, 0, none⟩)] K [Cells b0 163 [.slice aa p.list.length ab, .int .i64 p.atZ, .int .i64 p.line], qas Je.enc aa 166 4 ab p.list] (fun v K' H' => ∃ ar_0 : Option Addr, ∃ cr_0 : Nat, ∃ sr_0 : List (List Value), ∃ ar_1 : Option Addr, ∃ cr_1 : Nat, v = .slice ar_0 r.1.length cr_0 ∧ (0 < r.1.length → Has ar_0) ∧ LR Ja.R K' sr_0 r.1 ∧ (0 < r.2.list.length → Has ar_1) ∧ H' = [OwnA ar_0 117 4 cr_0 sr_0, Cells b0 163 [.slice ar_1 r.2.list.length cr_1, .int .i64 r.2.atZ, .int .i64 r.2.line], qas Je.enc ar_1 166 4 cr_1 r.2.list])) {n : Nat} {p : Jb} {b0 : Nat} {aa : Option Addr} {ab : Nat} {K : Hp} {r : Ja × Jb}
    (hm : JaM aq n p = some r) (hX : (0 < p.list.length → Has aa) ∧ GG K) :
    Fn Tryz.prog 237 [.pointer (some ⟨b0, 0, none⟩)] K [Cells b0 163 [.slice aa p.list.length ab, .int .i64 p.atZ, .int .i64 p.line], qas Je.enc aa 166 4 ab p.list] (fun v K' H' => ∃ ar_0 : Option Addr, ∃ cr_0 : Nat, ∃ sr_0 : List (List Value), ∃ ar_1 : Option Addr, ∃ cr_1 : Nat, v = .agg #[.int .i64 r.1.Ab, str r.1.Ac, .slice ar_0 r.1.Aa.length cr_0, .int .i64 r.1.Ad] ∧ (0 < r.1.Aa.length → Has ar_0) ∧ LR Ja.R K' sr_0 r.1.Aa ∧ (0 < r.2.list.length → Has ar_1) ∧ H' = [OwnA ar_0 117 4 cr_0 sr_0, Cells b0 163 [.slice ar_1 r.2.list.length cr_1, .int .i64 r.2.atZ, .int .i64 r.2.line], qas Je.enc ar_1 166 4 cr_1 r.2.list]) := by
 obtain ⟨ae, hG⟩ := hX
 refine Fn.enter Tryz.func237 Tryz.call237 rfl fun F => ?_
 unfold JaM at hm
 refine qai rfl fun b2 => ?_
 refine cb hm fun x5 q5 hm => cgx (JH q5 :) ?_
 refine Jdj rfl rfl rfl rfl ?_
 refine qag rfl rfl (cT (cT ?_))
 refine qai rfl fun b3 => ?_
 refine qaa r0 rfl ⟨rfl, rfl, (nl rfl), ?_⟩
 refine cb hm fun x9 q9 hm => ckx (JD q9 :) ?_
 rintro _ _ _ ⟨bd, bb, rfl, bg, rfl⟩
 refine cb hm fun bl bc hm => cgx (Js bc :) ?_
 refine cs rfl rfl hm ?_ ?_ <;> intro bm hm
 refine cb hm fun bn bf hm => cfx (ihrec1_0 bf :) ?_
 rintro _ bj _ bo ⟨ba, a6, aS, aV, aU, rfl, aW, aZ, aT, rfl⟩
 refine fa rfl ?_
 refine qaa r3 rfl ⟨rfl, rfl, (nl rfl), ?_⟩
 refine cb hm fun bp bh hm => ckx (JD bh :) ?_
 rintro _ _ _ ⟨aX, aY, rfl, a8, rfl⟩
 refine ro (qab r2 rfl (nl rfl) ?_)
 refine qaa r4 rfl ⟨rfl, rfl, (nl rfl), ?_⟩
 exact ro (qab r0 rfl (nl rfl) (eE hm))
 refine ro (qab r2 rfl (nl rfl) ?_)
 refine qaa r3 rfl ⟨rfl, rfl, (nl rfl), ?_⟩
 refine ro (qab r0 rfl (nl rfl) ?_)
 refine qcj (fun _ : Ja => []) 117 4 ?_
 exact eE hm

def Jak (aq : (Jb → Option ((List Ja) × Jb))) : Nat → Jb → Int → Option (Ja × Jb)
  | 0, _, _ => none
  | n + 1, p, line =>
    (J0 n p).bind fun al =>
    (chk ([al.1].length ≤ lim)).bind fun _ =>
    (Jt al.2).bind fun a8 =>
    if a8 then
    (JaM aq n al.2).bind fun aS =>
    (chk ([al.1].length + [aS.1].length ≤ lim)).bind fun _ =>
    (Jt aS.2).bind fun aX =>
    (if (!aX) then some true else (Jy aS.2 1 ([101, 108, 115, 101] : Str)).bind fun a6 =>
    some (!a6)).bind fun aY =>
    if aY then
    some ((⟨2, ([] : Str), ([al.1] ++ [aS.1]), line⟩ : Ja), aS.2)
    else
    (Jq aS.2).bind fun aU =>
    (Jy aU.2 1 ([105, 102] : Str)).bind fun aZ =>
    if aZ then
    (Jq aU.2).bind fun aW =>
    ((Jak aq n) aW.2 aW.1.Ad).bind fun aT =>
    (chk (([al.1] ++ [aS.1]).length + [aT.1].length ≤ lim)).bind fun _ =>
    some ((⟨2, ([] : Str), (([al.1] ++ [aS.1]) ++ [aT.1]), line⟩ : Ja), aT.2)
    else
    (JaM aq n aU.2).bind fun aV =>
    (chk (([al.1] ++ [aS.1]).length + [aV.1].length ≤ lim)).bind fun _ =>
    some ((⟨2, ([] : Str), (([al.1] ++ [aS.1]) ++ [aV.1]), line⟩ : Ja), aV.2)
    else
    (Jt al.2).bind fun aX =>
    (if (!aX) then some true else (Jy al.2 1 ([101, 108, 115, 101] : Str)).bind fun a6 =>
    some (!a6)).bind fun aY =>
    if aY then
    some ((⟨2, ([] : Str), [al.1], line⟩ : Ja), al.2)
    else
    (Jq al.2).bind fun aU =>
    (Jy aU.2 1 ([105, 102] : Str)).bind fun aZ =>
    if aZ then
    (Jq aU.2).bind fun aW =>
    ((Jak aq n) aW.2 aW.1.Ad).bind fun aT =>
    (chk ([al.1].length + [aT.1].length ≤ lim)).bind fun _ =>
    some ((⟨2, ([] : Str), ([al.1] ++ [aT.1]), line⟩ : Ja), aT.2)
    else
    (JaM aq n aU.2).bind fun aV =>
    (chk ([al.1].length + [aV.1].length ≤ lim)).bind fun _ =>
    some ((⟨2, ([] : Str), ([al.1] ++ [aV.1]), line⟩ : Ja), aV.2)
theorem Jc6 {aq : (Jb → Option ((List Ja) × Jb))} (ihrec1_0 : ∀ {p : Jb} {b0 : Nat} {aa : Option Addr} {ab : Nat} {K : Hp} {r : (List Ja) × Jb} (hm : aq p = some r) (hX : (0 < p.list.length → Has aa) ∧ GG K), Fn Tryz.prog 97 [.pointer (some ⟨b0, 0, none⟩)] K [Cells b0 163 [.slice aa p.list.length ab, .int .i64 p.atZ, .int .i64 p.line], qas Je.enc aa 166 4 ab p.list] (fun v K' H' => ∃ ar_0 : Option Addr, ∃ cr_0 : Nat, ∃ sr_0 : List (List Value), ∃ ar_1 : Option Addr, ∃ cr_1 : Nat, v = .slice ar_0 r.1.length cr_0 ∧ (0 < r.1.length → Has ar_0) ∧ LR Ja.R K' sr_0 r.1 ∧ (0 < r.2.list.length → Has ar_1) ∧ H' = [OwnA ar_0 117 4 cr_0 sr_0, Cells b0 163 [.slice ar_1 r.2.list.length cr_1, .int .i64 r.2.atZ, .int .i64 r.2.line], qas Je.enc ar_1 166 4 cr_1 r.2.list])) : ∀ {n : Nat} {p : Jb} {line : Int} {b0 : Nat} {aa : Option Addr} {ab : Nat} {K : Hp} {r : Ja × Jb}
    (hm : Jak aq n p line = some r) (hX : (0 < p.list.length → Has aa) ∧ GG K),
    Fn Tryz.prog 207 [.pointer (some ⟨b0, 0, none⟩), .int .i64 line] K [Cells b0 163 [.slice aa p.list.length ab, .int .i64 p.atZ, .int .i64 p.line], qas Je.enc aa 166 4 ab p.list] (fun v K' H' => ∃ ar_0 : Option Addr, ∃ cr_0 : Nat, ∃ sr_0 : List (List Value), ∃ ar_1 : Option Addr, ∃ cr_1 : Nat, v = .agg #[.int .i64 r.1.Ab, str r.1.Ac, .slice ar_0 r.1.Aa.length cr_0, .int .i64 r.1.Ad] ∧ (0 < r.1.Aa.length → Has ar_0) ∧ LR Ja.R K' sr_0 r.1.Aa ∧ (0 < r.2.list.length → Has ar_1) ∧ H' = [OwnA ar_0 117 4 cr_0 sr_0, Cells b0 163 [.slice ar_1 r.2.list.length cr_1, .int .i64 r.2.atZ, .int .i64 r.2.line], qas Je.enc ar_1 166 4 cr_1 r.2.list]) := by
 intro n
 induction n with
 | zero =>
   intro p line b0 aa ab K r hm hX
   rw [Jak.eq_1] at hm; cases hm
 | succ n ih =>
   intro p line b0 aa ab K r hm hX
   obtain ⟨ae, hG⟩ := hX
   refine Fn.enter Tryz.func207 Tryz.call207 rfl fun F => ?_
   rw [Jak.eq_2] at hm
   refine qai rfl fun b4 => ?_
   refine qag rfl rfl (cT (cT ?_))
   refine qai rfl fun b5 => ?_
   refine qaa r0 rfl ⟨rfl, rfl, (nl rfl), ?_⟩
   refine qa1 ⟨⟨[], false⟩, _, [(_, _)], []⟩ 5 rfl (by kernel_rfl) ⟨Hp.Le.refl _, (pf rfl), ci0⟩ ?_
   refine fa rfl (qao m0 rfl rfl ?_)
   refine cb hm fun al cK hm => cfx (Jbw cK :) ?_
   rintro _ de _ cV ⟨bd, bb, cz, cm, cr, rfl, cn, bM, cC, rfl⟩
   refine qk (sc [3] rfl) ?_
   refine qks Ja.R_ok r0 bM fun bS bo bf => ?_
   refine qje (R := Ja.R) (len := 1) (l := [al.1]) (css := [[.int .i64 al.1.Ab, str al.1.Ac, .slice bd al.1.Aa.length bb, .int .i64 al.1.Ad]]) (cl := [.int .i64 al.1.Ab, str al.1.Ac, .slice bd al.1.Aa.length bb, .int .i64 al.1.Ad]) Ja.R_ok qbx rfl rfl (LR.snoc LR.nil (Ja.of (x := al.1) ⟨bd, bb, rfl, bf⟩)) rfl rfl rfl ?_ fun df => ?_
   · conv => whnf
     refine cT ?_
     first | done | rfl
   refine ⟨⟨(cV.trans bo), (sc [3] rfl), ci0⟩, ?_⟩
   obtain ⟨cD, hm⟩ := qaw hm
   refine qqk (R := Ja.R) qbx (qc8 rfl r0 rfl Ja.R_ok (show LR Ja.R _ [[.int .i64 al.1.Ab, str al.1.Ac, .slice bd al.1.Aa.length bb, .int .i64 al.1.Ad]] [al.1] from (LR.snoc LR.nil (Ja.of (x := al.1) ⟨bd, bb, rfl, bf⟩)))) (show LR Ja.R _ [[.int .i64 al.1.Ab, str al.1.Ac, .slice bd al.1.Aa.length bb, .int .i64 al.1.Ad]] [al.1] from (LR.snoc LR.nil (Ja.of (x := al.1) ⟨bd, bb, rfl, bf⟩))) cD ?_
   intro dh dg dq r_14 dm
   refine ⟨⟨Hp.emp_le _, (pf rfl), ci0⟩, ?_⟩
   refine fa rfl ?_
   refine qaa r4 rfl ⟨rfl, rfl, (nl rfl), ?_⟩
   refine ⟨⟨Hp.emp_le _, (pf rfl), ci0⟩, ?_⟩
   refine cb hm fun dj cZ hm => cgx (Js cZ :) ?_
   refine cs rfl rfl hm ?_ ?_ <;> intro dp hm
   refine qa1 ⟨⟨[], false⟩, _, [(_, _)], []⟩ 5 rfl (by kernel_rfl) ⟨Hp.Le.refl _, (sc [2] rfl), ci0⟩ ?_
   refine fa rfl (qao m0 rfl rfl ?_)
   refine cb hm fun bj cL hm => cfx (Jbo ihrec1_0 cL :) ?_
   rintro _ dk _ cB ⟨bc, bh, cA, cu, cy, rfl, cw, bz, co, rfl⟩
   refine qk (sc [3] rfl) ?_
   refine qks Ja.R_ok r0 bz fun bG bl bg => ?_
   refine qje (R := Ja.R) (len := 1) (l := [bj.1]) (css := [[.int .i64 bj.1.Ab, str bj.1.Ac, .slice bc bj.1.Aa.length bh, .int .i64 bj.1.Ad]]) (cl := [.int .i64 bj.1.Ab, str bj.1.Ac, .slice bc bj.1.Aa.length bh, .int .i64 bj.1.Ad]) Ja.R_ok qbx rfl rfl (LR.snoc LR.nil (Ja.of (x := bj.1) ⟨bc, bh, rfl, bg⟩)) rfl rfl rfl ?_ fun dc => ?_
   · conv => whnf
     refine cT ?_
     first | done | rfl
   refine ⟨⟨(cB.trans bl), (sc [3] rfl), ci0⟩, ?_⟩
   obtain ⟨cO, hm⟩ := qaw hm
   refine qoj r4 (LR.mono Ja.R_ok (cB.trans bl) r_14) rfl qbx (qc8 rfl r0 rfl Ja.R_ok (show LR Ja.R _ [[.int .i64 bj.1.Ab, str bj.1.Ac, .slice bc bj.1.Aa.length bh, .int .i64 bj.1.Ad]] [bj.1] from (LR.snoc LR.nil (Ja.of (x := bj.1) ⟨bc, bh, rfl, bg⟩)))) (show LR Ja.R _ [[.int .i64 bj.1.Ab, str bj.1.Ac, .slice bc bj.1.Aa.length bh, .int .i64 bj.1.Ad]] [bj.1] from (LR.snoc LR.nil (Ja.of (x := bj.1) ⟨bc, bh, rfl, bg⟩))) cO ?_
   intro dn dt du r_23 di
   refine ⟨⟨Hp.emp_le _, (pf rfl), ci0⟩, ?_⟩
   refine fa rfl ?_
   refine qaa r4 rfl ⟨rfl, rfl, (nl rfl), ?_⟩
   refine ⟨⟨Hp.emp_le _, (pf rfl), ci0⟩, ?_⟩
   refine qaj rfl ?_
   refine cb hm fun cI ce hm => cgx (Js ce :) ?_
   refine qau ?_
   obtain ⟨cY, bm, hm⟩ := bnd hm
   refine cS bm (fun aW bm => ?_) fun aW bm => ?_
   refine ct aW (ct aW (ct aW (qac rfl (cT ?_))))
   replace hm := ift (si bm).symm hm
   refine ro (qab r2 rfl (nl rfl) ?_)
   refine qaa r6 rfl ⟨rfl, rfl, (nl rfl), ?_⟩
   exact ro (qab r0 rfl (nl rfl) (eE hm))
   refine cf aW ?_
   refine cb bm fun cW bV bm => cgx (Jv bV :) ?_
   refine cf aW (qau (cf aW (qac rfl ?_)))
   refine qae ?_ ?_ <;> intro bQ
   replace hm := ift ((si bm).symm.trans (qef (qjb bQ))) hm
   refine ro (qab r2 rfl (nl rfl) ?_)
   refine qaa r6 rfl ⟨rfl, rfl, (nl rfl), ?_⟩
   exact ro (qab r0 rfl (nl rfl) (eE hm))
   replace hm := qba ((si bm).symm.trans (qc5 (qhc bQ))) hm
   refine cb hm fun cJ bU hm => ckx (Jm bU :) ?_
   rintro _ _ _ ⟨bP, bI, rfl, bB, rfl⟩
   refine cb hm fun c4 cj hm => cgx (Jv cj :) ?_
   refine cs rfl rfl hm ?_ ?_ <;> intro cX hm
   refine cb hm fun cR bY hm => ckx (Jm bY :) ?_
   rintro _ _ _ ⟨bT, bA, rfl, bL, rfl⟩
   refine qai rfl fun b6 => ?_
   refine qaa r0 rfl ⟨rfl, rfl, (nl rfl), ?_⟩
   refine qa1 ⟨⟨[], false⟩, _, [(_, _), (_, _)], []⟩ 7 rfl (by kernel_rfl) ⟨Hp.Le.refl _, (sc [3,0] rfl), ci0⟩ ?_
   refine fa rfl (qao m0 rfl rfl (fa rfl (qao m1 rfl rfl ?_)))
   refine cb hm fun a6 bZ hm => cfx (ih bZ :) ?_
   rintro _ cU _ bO ⟨aS, aU, bR, bJ, bv, rfl, bK, bn, bF, rfl⟩
   refine qk (sc [4,3] rfl) ?_
   refine qks Ja.R_ok r0 bn fun bt ba aT => ?_
   refine qje (R := Ja.R) (len := 1) (l := [a6.1]) (css := [[.int .i64 a6.1.Ab, str a6.1.Ac, .slice aS a6.1.Aa.length aU, .int .i64 a6.1.Ad]]) (cl := [.int .i64 a6.1.Ab, str a6.1.Ac, .slice aS a6.1.Aa.length aU, .int .i64 a6.1.Ad]) Ja.R_ok qbx rfl rfl (LR.snoc LR.nil (Ja.of (x := a6.1) ⟨aS, aU, rfl, aT⟩)) rfl rfl rfl ?_ fun c5 => ?_
   · conv => whnf
     refine cT ?_
     first | done | rfl
   refine ⟨⟨(bO.trans ba), (sc [4,3] rfl), ci0⟩, ?_⟩
   obtain ⟨bW, hm⟩ := qaw hm
   refine qoj r5 (LR.mono Ja.R_ok (bO.trans ba) r_23) rfl qbx (qc8 rfl r0 rfl Ja.R_ok (show LR Ja.R _ [[.int .i64 a6.1.Ab, str a6.1.Ac, .slice aS a6.1.Aa.length aU, .int .i64 a6.1.Ad]] [a6.1] from (LR.snoc LR.nil (Ja.of (x := a6.1) ⟨aS, aU, rfl, aT⟩)))) (show LR Ja.R _ [[.int .i64 a6.1.Ab, str a6.1.Ac, .slice aS a6.1.Aa.length aU, .int .i64 a6.1.Ad]] [a6.1] from (LR.snoc LR.nil (Ja.of (x := a6.1) ⟨aS, aU, rfl, aT⟩))) bW ?_
   intro cN cG c6 r_47 cH
   refine ⟨⟨Hp.emp_le _, (pf rfl), ci0⟩, ?_⟩
   refine fa rfl ?_
   refine qaa r5 rfl ⟨rfl, rfl, (nl rfl), ?_⟩
   refine ⟨⟨Hp.emp_le _, (pf rfl), ci0⟩, ?_⟩
   refine ro (qab r0 rfl (nl rfl) ?_)
   refine qaa r8 rfl ⟨rfl, rfl, (nl rfl), ?_⟩
   exact ro (qab r0 rfl (nl rfl) (eE hm))
   refine qa1 ⟨⟨[], false⟩, _, [(_, _)], []⟩ 5 rfl (by kernel_rfl) ⟨Hp.Le.refl _, (sc [2] rfl), ci0⟩ ?_
   refine fa rfl (qao m0 rfl rfl ?_)
   refine cb hm fun aZ bX hm => cfx (Jbo ihrec1_0 bX :) ?_
   rintro _ cM _ bu ⟨aV, aX, bC, bH, bN, rfl, bw, bp, bD, rfl⟩
   refine qk (sc [3] rfl) ?_
   refine qks Ja.R_ok r0 bp fun br a8 aY => ?_
   refine qje (R := Ja.R) (len := 1) (l := [aZ.1]) (css := [[.int .i64 aZ.1.Ab, str aZ.1.Ac, .slice aV aZ.1.Aa.length aX, .int .i64 aZ.1.Ad]]) (cl := [.int .i64 aZ.1.Ab, str aZ.1.Ac, .slice aV aZ.1.Aa.length aX, .int .i64 aZ.1.Ad]) Ja.R_ok qbx rfl rfl (LR.snoc LR.nil (Ja.of (x := aZ.1) ⟨aV, aX, rfl, aY⟩)) rfl rfl rfl ?_ fun c9 => ?_
   · conv => whnf
     refine cT ?_
     first | done | rfl
   refine ⟨⟨(bu.trans a8), (sc [3] rfl), ci0⟩, ?_⟩
   obtain ⟨ca, hm⟩ := qaw hm
   refine qoj r4 (LR.mono Ja.R_ok (bu.trans a8) r_23) rfl qbx (qc8 rfl r0 rfl Ja.R_ok (show LR Ja.R _ [[.int .i64 aZ.1.Ab, str aZ.1.Ac, .slice aV aZ.1.Aa.length aX, .int .i64 aZ.1.Ad]] [aZ.1] from (LR.snoc LR.nil (Ja.of (x := aZ.1) ⟨aV, aX, rfl, aY⟩)))) (show LR Ja.R _ [[.int .i64 aZ.1.Ab, str aZ.1.Ac, .slice aV aZ.1.Aa.length aX, .int .i64 aZ.1.Ad]] [aZ.1] from (LR.snoc LR.nil (Ja.of (x := aZ.1) ⟨aV, aX, rfl, aY⟩))) ca ?_
   intro cQ cP c8 r_55 cE
   refine ⟨⟨Hp.emp_le _, (pf rfl), ci0⟩, ?_⟩
   refine fa rfl ?_
   refine qaa r4 rfl ⟨rfl, rfl, (nl rfl), ?_⟩
   refine ⟨⟨Hp.emp_le _, (pf rfl), ci0⟩, ?_⟩
   refine ro (qab r0 rfl (nl rfl) ?_)
   refine qaa r7 rfl ⟨rfl, rfl, (nl rfl), ?_⟩
   exact ro (qab r0 rfl (nl rfl) (eE hm))
   refine qaj rfl ?_
   refine cb hm fun cI ce hm => cgx (Js ce :) ?_
   refine qau ?_
   obtain ⟨cY, bm, hm⟩ := bnd hm
   refine cS bm (fun aW bm => ?_) fun aW bm => ?_
   refine ct aW (ct aW (ct aW (qac rfl (cT ?_))))
   replace hm := ift (si bm).symm hm
   refine ro (qab r2 rfl (nl rfl) ?_)
   refine qaa r5 rfl ⟨rfl, rfl, (nl rfl), ?_⟩
   exact ro (qab r0 rfl (nl rfl) (eE hm))
   refine cf aW ?_
   refine cb bm fun cW bV bm => cgx (Jv bV :) ?_
   refine cf aW (qau (cf aW (qac rfl ?_)))
   refine qae ?_ ?_ <;> intro bQ
   replace hm := ift ((si bm).symm.trans (qef (qjb bQ))) hm
   refine ro (qab r2 rfl (nl rfl) ?_)
   refine qaa r5 rfl ⟨rfl, rfl, (nl rfl), ?_⟩
   exact ro (qab r0 rfl (nl rfl) (eE hm))
   replace hm := qba ((si bm).symm.trans (qc5 (qhc bQ))) hm
   refine cb hm fun cJ bU hm => ckx (Jm bU :) ?_
   rintro _ _ _ ⟨bP, bI, rfl, bB, rfl⟩
   refine cb hm fun c4 cj hm => cgx (Jv cj :) ?_
   refine cs rfl rfl hm ?_ ?_ <;> intro cX hm
   refine cb hm fun cR bY hm => ckx (Jm bY :) ?_
   rintro _ _ _ ⟨bT, bA, rfl, bL, rfl⟩
   refine qai rfl fun b6 => ?_
   refine qaa r0 rfl ⟨rfl, rfl, (nl rfl), ?_⟩
   refine qa1 ⟨⟨[], false⟩, _, [(_, _), (_, _)], []⟩ 7 rfl (by kernel_rfl) ⟨Hp.Le.refl _, (sc [3,0] rfl), ci0⟩ ?_
   refine fa rfl (qao m0 rfl rfl (fa rfl (qao m1 rfl rfl ?_)))
   refine cb hm fun a6 bZ hm => cfx (ih bZ :) ?_
   rintro _ cU _ bO ⟨aS, aU, bR, bJ, bv, rfl, bK, bn, bF, rfl⟩
   refine qk (sc [4,3] rfl) ?_
   refine qks Ja.R_ok r0 bn fun bt ba aT => ?_
   refine qje (R := Ja.R) (len := 1) (l := [a6.1]) (css := [[.int .i64 a6.1.Ab, str a6.1.Ac, .slice aS a6.1.Aa.length aU, .int .i64 a6.1.Ad]]) (cl := [.int .i64 a6.1.Ab, str a6.1.Ac, .slice aS a6.1.Aa.length aU, .int .i64 a6.1.Ad]) Ja.R_ok qbx rfl rfl (LR.snoc LR.nil (Ja.of (x := a6.1) ⟨aS, aU, rfl, aT⟩)) rfl rfl rfl ?_ fun c5 => ?_
   · conv => whnf
     refine cT ?_
     first | done | rfl
   refine ⟨⟨(bO.trans ba), (sc [4,3] rfl), ci0⟩, ?_⟩
   obtain ⟨bW, hm⟩ := qaw hm
   refine qoj r5 (LR.mono Ja.R_ok (bO.trans ba) r_14) rfl qbx (qc8 rfl r0 rfl Ja.R_ok (show LR Ja.R _ [[.int .i64 a6.1.Ab, str a6.1.Ac, .slice aS a6.1.Aa.length aU, .int .i64 a6.1.Ad]] [a6.1] from (LR.snoc LR.nil (Ja.of (x := a6.1) ⟨aS, aU, rfl, aT⟩)))) (show LR Ja.R _ [[.int .i64 a6.1.Ab, str a6.1.Ac, .slice aS a6.1.Aa.length aU, .int .i64 a6.1.Ad]] [a6.1] from (LR.snoc LR.nil (Ja.of (x := a6.1) ⟨aS, aU, rfl, aT⟩))) bW ?_
   intro cN cG c6 r_47 cH
   refine ⟨⟨Hp.emp_le _, (pf rfl), ci0⟩, ?_⟩
   refine fa rfl ?_
   refine qaa r5 rfl ⟨rfl, rfl, (nl rfl), ?_⟩
   refine ⟨⟨Hp.emp_le _, (pf rfl), ci0⟩, ?_⟩
   refine ro (qab r0 rfl (nl rfl) ?_)
   refine qaa r7 rfl ⟨rfl, rfl, (nl rfl), ?_⟩
   exact ro (qab r0 rfl (nl rfl) (eE hm))
   refine qa1 ⟨⟨[], false⟩, _, [(_, _)], []⟩ 5 rfl (by kernel_rfl) ⟨Hp.Le.refl _, (sc [2] rfl), ci0⟩ ?_
   refine fa rfl (qao m0 rfl rfl ?_)
   refine cb hm fun aZ bX hm => cfx (Jbo ihrec1_0 bX :) ?_
   rintro _ cM _ bu ⟨aV, aX, bC, bH, bN, rfl, bw, bp, bD, rfl⟩
   refine qk (sc [3] rfl) ?_
   refine qks Ja.R_ok r0 bp fun br a8 aY => ?_
   refine qje (R := Ja.R) (len := 1) (l := [aZ.1]) (css := [[.int .i64 aZ.1.Ab, str aZ.1.Ac, .slice aV aZ.1.Aa.length aX, .int .i64 aZ.1.Ad]]) (cl := [.int .i64 aZ.1.Ab, str aZ.1.Ac, .slice aV aZ.1.Aa.length aX, .int .i64 aZ.1.Ad]) Ja.R_ok qbx rfl rfl (LR.snoc LR.nil (Ja.of (x := aZ.1) ⟨aV, aX, rfl, aY⟩)) rfl rfl rfl ?_ fun c9 => ?_
   · conv => whnf
     refine cT ?_
     first | done | rfl
   refine ⟨⟨(bu.trans a8), (sc [3] rfl), ci0⟩, ?_⟩
   obtain ⟨ca, hm⟩ := qaw hm
   refine qoj r4 (LR.mono Ja.R_ok (bu.trans a8) r_14) rfl qbx (qc8 rfl r0 rfl Ja.R_ok (show LR Ja.R _ [[.int .i64 aZ.1.Ab, str aZ.1.Ac, .slice aV aZ.1.Aa.length aX, .int .i64 aZ.1.Ad]] [aZ.1] from (LR.snoc LR.nil (Ja.of (x := aZ.1) ⟨aV, aX, rfl, aY⟩)))) (show LR Ja.R _ [[.int .i64 aZ.1.Ab, str aZ.1.Ac, .slice aV aZ.1.Aa.length aX, .int .i64 aZ.1.Ad]] [aZ.1] from (LR.snoc LR.nil (Ja.of (x := aZ.1) ⟨aV, aX, rfl, aY⟩))) ca ?_
   intro cQ cP c8 r_55 cE
   refine ⟨⟨Hp.emp_le _, (pf rfl), ci0⟩, ?_⟩
   refine fa rfl ?_
   refine qaa r4 rfl ⟨rfl, rfl, (nl rfl), ?_⟩
   refine ⟨⟨Hp.emp_le _, (pf rfl), ci0⟩, ?_⟩
   refine ro (qab r0 rfl (nl rfl) ?_)
   refine qaa r6 rfl ⟨rfl, rfl, (nl rfl), ?_⟩
   exact ro (qab r0 rfl (nl rfl) (eE hm))

def Jbg (aq : (Jb → Option ((List Ja) × Jb))) (n : Nat) (p : Jb) : Option (Ja × Jb) :=
  (JI p).bind fun x7 =>
  if decide (x7.Ab ≠ 1) then
  (JZ p).bind fun bj =>
  some ((⟨0, ([] : Str), [], x7.Ad⟩ : Ja), bj)
  else
  if decide (x7.Ac = ([105, 102] : Str)) then
  (Jq p).bind fun bt =>
  (Jak aq n bt.2 x7.Ad).bind fun bc =>
  some (bc.1, bc.2)
  else
  if decide (x7.Ac = ([108, 101, 116] : Str)) then
  (Jq p).bind fun aZ =>
  (JI aZ.2).bind fun a8 =>
  (if decide (a8.Ab ≠ 1) then some true else (JbS a8.Ac).bind fun bg =>
  some bg).bind fun ba =>
  if ba then
  (JZ aZ.2).bind fun bm =>
  some ((⟨3, ([] : Str), [], x7.Ad⟩ : Ja), bm)
  else
  (Jq aZ.2).bind fun bp =>
  (Jw n bp.2 ([61] : Str)).bind fun bb =>
  some ((⟨3, a8.Ac, bb.1, x7.Ad⟩ : Ja), bb.2)
  else
  if decide (x7.Ac = ([112, 97, 116, 104] : Str)) then
  (Jq p).bind fun a6 =>
  (Jw n a6.2 ([61] : Str)).bind fun aW =>
  some ((⟨4, x7.Ac, aW.1, x7.Ad⟩ : Ja), aW.2)
  else
  if decide (x7.Ac = ([113, 117, 101, 114, 121] : Str)) then
  (Jq p).bind fun a6 =>
  (Jw n a6.2 ([61] : Str)).bind fun aW =>
  some ((⟨4, x7.Ac, aW.1, x7.Ad⟩ : Ja), aW.2)
  else
  if decide (x7.Ac = ([104, 101, 97, 100, 101, 114] : Str)) then
  (Jq p).bind fun bn =>
  (Jbl bn.2).bind fun aY =>
  (Jt aY.2).bind fun bh =>
  if bh then
  (Jw n aY.2 ([61] : Str)).bind fun bd =>
  some ((⟨5, aY.1, bd.1, x7.Ad⟩ : Ja), bd.2)
  else
  some ((⟨5, aY.1, [], x7.Ad⟩ : Ja), aY.2)
  else
  if decide (x7.Ac = ([118, 97, 114, 121] : Str)) then
  (Jq p).bind fun br =>
  (Jbl br.2).bind fun aX =>
  (Jt aX.2).bind fun bf =>
  if bf then
  (JF aX.2 ([59] : Str)).bind fun bl =>
  some ((⟨6, aX.1, [], x7.Ad⟩ : Ja), bl)
  else
  some ((⟨6, aX.1, [], x7.Ad⟩ : Ja), aX.2)
  else
  if decide (x7.Ac = ([116, 97, 103] : Str)) then
  (Jq p).bind fun aU =>
  if decide (x7.Ac = ([116, 116, 108] : Str)) then
  if decide (x7.Ac = ([100, 101, 110, 121] : Str)) then
  (Jw n aU.2 ([] : Str)).bind fun aS =>
  some ((⟨9, ([] : Str), aS.1, x7.Ad⟩ : Ja), aS.2)
  else
  (Jw n aU.2 ([] : Str)).bind fun aS =>
  some ((⟨8, ([] : Str), aS.1, x7.Ad⟩ : Ja), aS.2)
  else
  if decide (x7.Ac = ([100, 101, 110, 121] : Str)) then
  (Jw n aU.2 ([] : Str)).bind fun aS =>
  some ((⟨9, ([] : Str), aS.1, x7.Ad⟩ : Ja), aS.2)
  else
  (Jw n aU.2 ([] : Str)).bind fun aS =>
  some ((⟨7, ([] : Str), aS.1, x7.Ad⟩ : Ja), aS.2)
  else
  if decide (x7.Ac = ([116, 116, 108] : Str)) then
  (Jq p).bind fun aU =>
  if decide (x7.Ac = ([116, 116, 108] : Str)) then
  if decide (x7.Ac = ([100, 101, 110, 121] : Str)) then
  (Jw n aU.2 ([] : Str)).bind fun aS =>
  some ((⟨9, ([] : Str), aS.1, x7.Ad⟩ : Ja), aS.2)
  else
  (Jw n aU.2 ([] : Str)).bind fun aS =>
  some ((⟨8, ([] : Str), aS.1, x7.Ad⟩ : Ja), aS.2)
  else
  if decide (x7.Ac = ([100, 101, 110, 121] : Str)) then
  (Jw n aU.2 ([] : Str)).bind fun aS =>
  some ((⟨9, ([] : Str), aS.1, x7.Ad⟩ : Ja), aS.2)
  else
  (Jw n aU.2 ([] : Str)).bind fun aS =>
  some ((⟨7, ([] : Str), aS.1, x7.Ad⟩ : Ja), aS.2)
  else
  if decide (x7.Ac = ([100, 101, 110, 121] : Str)) then
  (Jq p).bind fun aU =>
  if decide (x7.Ac = ([116, 116, 108] : Str)) then
  if decide (x7.Ac = ([100, 101, 110, 121] : Str)) then
  (Jw n aU.2 ([] : Str)).bind fun aS =>
  some ((⟨9, ([] : Str), aS.1, x7.Ad⟩ : Ja), aS.2)
  else
  (Jw n aU.2 ([] : Str)).bind fun aS =>
  some ((⟨8, ([] : Str), aS.1, x7.Ad⟩ : Ja), aS.2)
  else
  if decide (x7.Ac = ([100, 101, 110, 121] : Str)) then
  (Jw n aU.2 ([] : Str)).bind fun aS =>
  some ((⟨9, ([] : Str), aS.1, x7.Ad⟩ : Ja), aS.2)
  else
  (Jw n aU.2 ([] : Str)).bind fun aS =>
  some ((⟨7, ([] : Str), aS.1, x7.Ad⟩ : Ja), aS.2)
  else
  if decide (x7.Ac = ([112, 97, 115, 115] : Str)) then
  (Jq p).bind fun aV =>
  if decide (x7.Ac = ([116, 111, 107, 101, 110] : Str)) then
  (JF aV.2 ([59] : Str)).bind fun aT =>
  some ((⟨11, ([] : Str), [], x7.Ad⟩ : Ja), aT)
  else
  (JF aV.2 ([59] : Str)).bind fun aT =>
  some ((⟨10, ([] : Str), [], x7.Ad⟩ : Ja), aT)
  else
  if decide (x7.Ac = ([116, 111, 107, 101, 110] : Str)) then
  (Jq p).bind fun aV =>
  if decide (x7.Ac = ([116, 111, 107, 101, 110] : Str)) then
  (JF aV.2 ([59] : Str)).bind fun aT =>
  some ((⟨11, ([] : Str), [], x7.Ad⟩ : Ja), aT)
  else
  (JF aV.2 ([59] : Str)).bind fun aT =>
  some ((⟨10, ([] : Str), [], x7.Ad⟩ : Ja), aT)
  else
  (JZ p).bind fun bo =>
  some ((⟨0, ([] : Str), [], x7.Ad⟩ : Ja), bo)
theorem JcW {aq : (Jb → Option ((List Ja) × Jb))} (ihrec1_0 : ∀ {p : Jb} {b0 : Nat} {aa : Option Addr} {ab : Nat} {K : Hp} {r : (List Ja) × Jb} (hm : aq p = some r) (hX : (0 < p.list.length → Has aa) ∧ GG K), Fn Tryz.prog 97 [.pointer (some ⟨b0, 0, none⟩)] K [Cells b0 163 [.slice aa p.list.length ab, .int .i64 p.atZ, .int .i64 p.line], qas Je.enc aa 166 4 ab p.list] (fun v K' H' => ∃ ar_0 : Option Addr, ∃ cr_0 : Nat, ∃ sr_0 : List (List Value), ∃ ar_1 : Option Addr, ∃ cr_1 : Nat, v = .slice ar_0 r.1.length cr_0 ∧ (0 < r.1.length → Has ar_0) ∧ LR Ja.R K' sr_0 r.1 ∧ (0 < r.2.list.length → Has ar_1) ∧ H' = [OwnA ar_0 117 4 cr_0 sr_0, Cells b0 163 [.slice ar_1 r.2.list.length cr_1, .int .i64 r.2.atZ, .int .i64 r.2.line], qas Je.enc ar_1 166 4 cr_1 r.2.list])) {n : Nat} {p : Jb} {b0 : Nat} {aa : Option Addr} {ab : Nat} {K : Hp} {r : Ja × Jb}
    (hm : Jbg aq n p = some r) (hX : (0 < p.list.length → Has aa) ∧ GG K) :
    Fn Tryz.prog 150 [.pointer (some ⟨b0, 0, none⟩)] K [Cells b0 163 [.slice aa p.list.length ab, .int .i64 p.atZ, .int .i64 p.line], qas Je.enc aa 166 4 ab p.list] (fun v K' H' => ∃ ar_0 : Option Addr, ∃ cr_0 : Nat, ∃ sr_0 : List (List Value), ∃ ar_1 : Option Addr, ∃ cr_1 : Nat, v = .agg #[.int .i64 r.1.Ab, str r.1.Ac, .slice ar_0 r.1.Aa.length cr_0, .int .i64 r.1.Ad] ∧ (0 < r.1.Aa.length → Has ar_0) ∧ LR Ja.R K' sr_0 r.1.Aa ∧ (0 < r.2.list.length → Has ar_1) ∧ H' = [OwnA ar_0 117 4 cr_0 sr_0, Cells b0 163 [.slice ar_1 r.2.list.length cr_1, .int .i64 r.2.atZ, .int .i64 r.2.line], qas Je.enc ar_1 166 4 cr_1 r.2.list]) := by
 obtain ⟨ae, hG⟩ := hX
 refine Fn.enter Tryz.func150 Tryz.call150 rfl fun F => ?_
 unfold Jbg at hm
 refine qai rfl fun b2 => ?_
 refine cb hm fun x7 q7 hm => cgx (JH q7 :) ?_
 refine qai rfl fun b3 => ?_
 refine qaa r0 rfl ⟨rfl, rfl, (nl rfl), ?_⟩
 refine fa rfl (ro (ld r0 rfl rfl (qag rfl rfl (cT ?_))))
 refine qai rfl fun b4 => ?_
 refine qaa r0 rfl ⟨rfl, rfl, (nl rfl), ?_⟩
 refine fa rfl (ro (ld r1 rfl rfl (qa8 ?_)))
 refine cs rfl rfl hm ?_ ?_ <;> intro eA hm
 refine cb hm fun ek dL hm => ckx (J4 dL :) ?_
 rintro _ _ _ ⟨c6, de, rfl, cI, rfl⟩
 refine ro (qab r2 rfl (nl rfl) ?_)
 refine qaa r4 rfl ⟨rfl, rfl, (nl rfl), ?_⟩
 refine ro (qab r0 rfl (nl rfl) ?_)
 refine qcj (fun _ : Ja => []) 117 4 ?_
 exact eE hm
 refine fa rfl (ro (ld r1 rfl rfl ?_))
 refine qal rfl ?_
 refine qap (cs rfl rfl hm ?_ ?_) <;> intro ew hm
 refine cb hm fun d4 dy hm => ckx (Jm dy :) ?_
 rintro _ _ _ ⟨bW, ca, rfl, dc, rfl⟩
 refine fa rfl (ro (ld r3 rfl rfl ?_))
 refine cb hm fun dX dB hm => cfx (Jc6 ihrec1_0 dB :) ?_
 rintro _ eK _ d5 ⟨cJ, dk, cP, bV, cZ, rfl, cN, c4, bY, rfl⟩
 refine qaa r5 rfl ⟨rfl, rfl, (nl rfl), ?_⟩
 exact ro (qab r0 rfl (nl rfl) (eE hm))
 refine qap (cs rfl rfl hm ?_ ?_) <;> intro d7 hm
 refine cb hm fun eH dE hm => ckx (Jm dE :) ?_
 rintro _ _ _ ⟨cm, cA, rfl, dt, rfl⟩
 refine fa rfl ?_
 refine qaa r2 rfl ⟨rfl, rfl, (nl rfl), ?_⟩
 refine cb hm fun ep dz hm => cgx (JH dz :) ?_
 refine qai rfl fun b5 => ?_
 refine qaa r0 rfl ⟨rfl, rfl, (nl rfl), ?_⟩
 obtain ⟨bQ, bd, hm⟩ := bnd hm
 refine jR (σ := Bool) (rg 36 8) (fun bm => [(43, .bool bm)]) (fun bm => bm = bQ) ?_ ?_
 replace bd := bsm bd
 refine qaj rfl ?_
 refine fa rfl (ro (ld r0 rfl rfl (qa8 ?_)))
 obtain ⟨eg, bw, bd⟩ := bnd bd
 refine cS bw (fun a8 bw => ?_) fun a8 bw => ?_
 refine ct a8 (ct a8 (ct a8 ?_))
 exact eMq bd _ ⟨bq (si bw), trivial⟩
 refine fa rfl (cf a8 (ro (ld r0 rfl rfl (cf a8 ?_))))
 refine cb bw fun dT dC bw => cgx (Jcm dC :) ?_
 refine cf a8 ?_
 exact eMq bd _ ⟨bq (si bw), trivial⟩
 rintro bm rfl dO
 refine cs rfl rfl hm ?_ ?_ <;> intro dU hm
 refine cb hm fun eF dG hm => ckx (J4 dG :) ?_
 rintro _ _ _ ⟨cX, dm, rfl, dj, rfl⟩
 refine ro (qab r3 rfl (nl rfl) ?_)
 refine qaa r5 rfl ⟨rfl, rfl, (nl rfl), ?_⟩
 refine ro (qab r0 rfl (nl rfl) ?_)
 refine qcj (fun _ : Ja => []) 117 4 ?_
 exact eE hm
 refine cb hm fun eJ dH hm => ckx (Jm dH :) ?_
 rintro _ _ _ ⟨cB, cY, rfl, bX, rfl⟩
 refine fa rfl (ro (ld r2 rfl rfl (fa rfl ?_)))
 refine qaa r3 rfl ⟨rfl, rfl, (nl rfl), ?_⟩
 refine cb hm fun eu dD hm => cfx (Ju dD :) ?_
 rintro _ dZ _ ei ⟨cz, cL, c8, df, cw, rfl, cQ, c5, c9, rfl⟩
 refine fa rfl ?_
 refine qaa r3 rfl ⟨rfl, rfl, (nl rfl), ?_⟩
 refine ro (qab r0 rfl (nl rfl) ?_)
 refine qaa r6 rfl ⟨rfl, rfl, (nl rfl), ?_⟩
 exact ro (qab r0 rfl (nl rfl) (eE hm))
 refine qap (cs rfl rfl hm ?_ ?_) <;> intro cr hm
 refine qac rfl (ct cr ?_)
 refine cb hm fun dK bR hm => ckx (Jm bR :) ?_
 rintro _ _ _ ⟨bD, bK, rfl, bI, rfl⟩
 refine qa4 ⟨⟨[], false⟩, _, [(_, _)], []⟩ (by kernel_rfl) ⟨Hp.Le.refl _, (sc [3] rfl), ci0⟩ ?_
 refine fa rfl (qao m0 rfl rfl (fa rfl ?_))
 refine qaa r2 rfl ⟨rfl, rfl, (nl rfl), ?_⟩
 refine qk (sc [3] rfl) ?_
 refine fa rfl ?_
 refine qaa r0 rfl ⟨rfl, rfl, (nl rfl), ?_⟩
 refine qk (sc [3] rfl) ?_
 refine cb hm fun dS bS hm => cfx (Ju bS :) ?_
 rintro _ dR _ dJ ⟨bA, bJ, bM, bN, bO, rfl, bL, bF, bB, rfl⟩
 refine fa rfl ?_
 refine qaa r3 rfl ⟨rfl, rfl, (nl rfl), ?_⟩
 refine ro (qab r0 rfl (nl rfl) ?_)
 refine qaa r5 rfl ⟨rfl, rfl, (nl rfl), ?_⟩
 exact ro (qab r0 rfl (nl rfl) (eE hm))
 refine qap (cs rfl rfl hm ?_ ?_) <;> intro cr hm
 refine cb hm fun dK bR hm => ckx (Jm bR :) ?_
 rintro _ _ _ ⟨bD, bK, rfl, bI, rfl⟩
 refine qa4 ⟨⟨[], false⟩, _, [(_, _)], []⟩ (by kernel_rfl) ⟨Hp.Le.refl _, (sc [3] rfl), ci0⟩ ?_
 refine fa rfl (qao m0 rfl rfl (fa rfl ?_))
 refine qaa r2 rfl ⟨rfl, rfl, (nl rfl), ?_⟩
 refine qk (sc [3] rfl) ?_
 refine fa rfl ?_
 refine qaa r0 rfl ⟨rfl, rfl, (nl rfl), ?_⟩
 refine qk (sc [3] rfl) ?_
 refine cb hm fun dS bS hm => cfx (Ju bS :) ?_
 rintro _ dR _ dJ ⟨bA, bJ, bM, bN, bO, rfl, bL, bF, bB, rfl⟩
 refine fa rfl ?_
 refine qaa r3 rfl ⟨rfl, rfl, (nl rfl), ?_⟩
 refine ro (qab r0 rfl (nl rfl) ?_)
 refine qaa r5 rfl ⟨rfl, rfl, (nl rfl), ?_⟩
 exact ro (qab r0 rfl (nl rfl) (eE hm))
 refine qap (cs rfl rfl hm ?_ ?_) <;> intro eh hm
 refine cb hm fun dV dF hm => ckx (Jm dF :) ?_
 rintro _ _ _ ⟨cn, cU, rfl, du, rfl⟩
 refine fa rfl ?_
 refine qaa r2 rfl ⟨rfl, rfl, (nl rfl), ?_⟩
 refine cb hm fun ee dN hm => ckx (Jcp dN :) ?_
 rintro _ _ _ ⟨cC, bZ, rfl, cj, rfl⟩
 refine fa rfl ?_
 refine qaa r2 rfl ⟨rfl, rfl, (nl rfl), ?_⟩
 refine cb hm fun eG dP hm => cgx (Js dP :) ?_
 refine cs rfl rfl hm ?_ ?_ <;> intro eC hm
 refine cb hm fun dY dx hm => cfx (Ju dx :) ?_
 rintro _ ej _ d3 ⟨cV, dv, cu, cR, cD, rfl, cO, dg, cy, rfl⟩
 refine fa rfl ?_
 refine qaa r3 rfl ⟨rfl, rfl, (nl rfl), ?_⟩
 refine ro (qab r0 rfl (nl rfl) ?_)
 refine qaa r5 rfl ⟨rfl, rfl, (nl rfl), ?_⟩
 exact ro (qab r0 rfl (nl rfl) (eE hm))
 refine ro (qab r2 rfl (nl rfl) ?_)
 refine qaa r4 rfl ⟨rfl, rfl, (nl rfl), ?_⟩
 refine ro (qab r0 rfl (nl rfl) ?_)
 refine qcj (fun _ : Ja => []) 117 4 ?_
 exact eE hm
 refine qap (cs rfl rfl hm ?_ ?_) <;> intro ef hm
 refine cb hm fun d9 dQ hm => ckx (Jm dQ :) ?_
 rintro _ _ _ ⟨dq, cE, rfl, ce, rfl⟩
 refine fa rfl ?_
 refine qaa r2 rfl ⟨rfl, rfl, (nl rfl), ?_⟩
 refine cb hm fun d6 dA hm => ckx (Jcp dA :) ?_
 rintro _ _ _ ⟨cM, dh, rfl, dp, rfl⟩
 refine fa rfl ?_
 refine qaa r2 rfl ⟨rfl, rfl, (nl rfl), ?_⟩
 refine cb hm fun eD dI hm => cgx (Js dI :) ?_
 refine cs rfl rfl hm ?_ ?_ <;> intro dW hm
 refine cb hm fun ey dM hm => ckx (JD dM :) ?_
 rintro _ _ _ ⟨dn, cH, rfl, cW, rfl⟩
 refine ro (qab r2 rfl (nl rfl) ?_)
 refine qaa r4 rfl ⟨rfl, rfl, (nl rfl), ?_⟩
 refine ro (qab r0 rfl (nl rfl) ?_)
 refine qcj (fun _ : Ja => []) 117 4 ?_
 exact eE hm
 refine ro (qab r2 rfl (nl rfl) ?_)
 refine qaa r4 rfl ⟨rfl, rfl, (nl rfl), ?_⟩
 refine ro (qab r0 rfl (nl rfl) ?_)
 refine qcj (fun _ : Ja => []) 117 4 ?_
 exact eE hm
 refine qap (cs rfl rfl hm ?_ ?_) <;> intro bP hm
 refine qac rfl (ct bP ?_)
 refine cb hm fun co bG hm => ckx (Jm bG :) ?_
 rintro _ _ _ ⟨bo, bp, rfl, bn, rfl⟩
 refine fa rfl ?_
 refine qaa r2 rfl ⟨rfl, rfl, (nl rfl), ?_⟩
 refine fa rfl (ro (ld r3 rfl rfl (qap ?_)))
 refine cs rfl rfl hm ?_ ?_ <;> intro bC hm
 refine fa rfl ?_
 refine qaa r0 rfl ⟨rfl, rfl, (nl rfl), ?_⟩
 refine fa rfl (ro (ld r3 rfl rfl (qap ?_)))
 refine cs rfl rfl hm ?_ ?_ <;> intro bl hm
 refine fa rfl ?_
 refine qaa r0 rfl ⟨rfl, rfl, (nl rfl), ?_⟩
 refine cb hm fun bc aV hm => cfx (Ju aV :) ?_
 rintro _ ba _ bb ⟨aT, aW, a6, aU, aX, rfl, aZ, aS, aY, rfl⟩
 refine fa rfl ?_
 refine qaa r3 rfl ⟨rfl, rfl, (nl rfl), ?_⟩
 refine ro (qab r0 rfl (nl rfl) ?_)
 refine qaa r5 rfl ⟨rfl, rfl, (nl rfl), ?_⟩
 exact ro (qab r0 rfl (nl rfl) (eE hm))
 refine cb hm fun bc aV hm => cfx (Ju aV :) ?_
 rintro _ ba _ bb ⟨aT, aW, a6, aU, aX, rfl, aZ, aS, aY, rfl⟩
 refine fa rfl ?_
 refine qaa r3 rfl ⟨rfl, rfl, (nl rfl), ?_⟩
 refine ro (qab r0 rfl (nl rfl) ?_)
 refine qaa r5 rfl ⟨rfl, rfl, (nl rfl), ?_⟩
 exact ro (qab r0 rfl (nl rfl) (eE hm))
 refine fa rfl (ro (ld r3 rfl rfl (qap ?_)))
 refine cs rfl rfl hm ?_ ?_ <;> intro bl hm
 refine fa rfl ?_
 refine qaa r0 rfl ⟨rfl, rfl, (nl rfl), ?_⟩
 refine cb hm fun bc aV hm => cfx (Ju aV :) ?_
 rintro _ ba _ bb ⟨aT, aW, a6, aU, aX, rfl, aZ, aS, aY, rfl⟩
 refine fa rfl ?_
 refine qaa r3 rfl ⟨rfl, rfl, (nl rfl), ?_⟩
 refine ro (qab r0 rfl (nl rfl) ?_)
 refine qaa r5 rfl ⟨rfl, rfl, (nl rfl), ?_⟩
 exact ro (qab r0 rfl (nl rfl) (eE hm))
 refine cb hm fun bc aV hm => cfx (Ju aV :) ?_
 rintro _ ba _ bb ⟨aT, aW, a6, aU, aX, rfl, aZ, aS, aY, rfl⟩
 refine fa rfl ?_
 refine qaa r3 rfl ⟨rfl, rfl, (nl rfl), ?_⟩
 refine ro (qab r0 rfl (nl rfl) ?_)
 refine qaa r5 rfl ⟨rfl, rfl, (nl rfl), ?_⟩
 exact ro (qab r0 rfl (nl rfl) (eE hm))
 refine qap (cs rfl rfl hm ?_ ?_) <;> intro bP hm
 refine qac rfl (ct bP ?_)
 refine cb hm fun co bG hm => ckx (Jm bG :) ?_
 rintro _ _ _ ⟨bo, bp, rfl, bn, rfl⟩
 refine fa rfl ?_
 refine qaa r2 rfl ⟨rfl, rfl, (nl rfl), ?_⟩
 refine fa rfl (ro (ld r3 rfl rfl (qap ?_)))
 refine cs rfl rfl hm ?_ ?_ <;> intro bC hm
 refine fa rfl ?_
 refine qaa r0 rfl ⟨rfl, rfl, (nl rfl), ?_⟩
 refine fa rfl (ro (ld r3 rfl rfl (qap ?_)))
 refine cs rfl rfl hm ?_ ?_ <;> intro bl hm
 refine fa rfl ?_
 refine qaa r0 rfl ⟨rfl, rfl, (nl rfl), ?_⟩
 refine cb hm fun bc aV hm => cfx (Ju aV :) ?_
 rintro _ ba _ bb ⟨aT, aW, a6, aU, aX, rfl, aZ, aS, aY, rfl⟩
 refine fa rfl ?_
 refine qaa r3 rfl ⟨rfl, rfl, (nl rfl), ?_⟩
 refine ro (qab r0 rfl (nl rfl) ?_)
 refine qaa r5 rfl ⟨rfl, rfl, (nl rfl), ?_⟩
 exact ro (qab r0 rfl (nl rfl) (eE hm))
 refine cb hm fun bc aV hm => cfx (Ju aV :) ?_
 rintro _ ba _ bb ⟨aT, aW, a6, aU, aX, rfl, aZ, aS, aY, rfl⟩
 refine fa rfl ?_
 refine qaa r3 rfl ⟨rfl, rfl, (nl rfl), ?_⟩
 refine ro (qab r0 rfl (nl rfl) ?_)
 refine qaa r5 rfl ⟨rfl, rfl, (nl rfl), ?_⟩
 exact ro (qab r0 rfl (nl rfl) (eE hm))
 refine fa rfl (ro (ld r3 rfl rfl (qap ?_)))
 refine cs rfl rfl hm ?_ ?_ <;> intro bl hm
 refine fa rfl ?_
 refine qaa r0 rfl ⟨rfl, rfl, (nl rfl), ?_⟩
 refine cb hm fun bc aV hm => cfx (Ju aV :) ?_
 rintro _ ba _ bb ⟨aT, aW, a6, aU, aX, rfl, aZ, aS, aY, rfl⟩
 refine fa rfl ?_
 refine qaa r3 rfl ⟨rfl, rfl, (nl rfl), ?_⟩
 refine ro (qab r0 rfl (nl rfl) ?_)
 refine qaa r5 rfl ⟨rfl, rfl, (nl rfl), ?_⟩
 exact ro (qab r0 rfl (nl rfl) (eE hm))
 refine cb hm fun bc aV hm => cfx (Ju aV :) ?_
 rintro _ ba _ bb ⟨aT, aW, a6, aU, aX, rfl, aZ, aS, aY, rfl⟩
 refine fa rfl ?_
 refine qaa r3 rfl ⟨rfl, rfl, (nl rfl), ?_⟩
 refine ro (qab r0 rfl (nl rfl) ?_)
 refine qaa r5 rfl ⟨rfl, rfl, (nl rfl), ?_⟩
 exact ro (qab r0 rfl (nl rfl) (eE hm))
 refine qap (cs rfl rfl hm ?_ ?_) <;> intro bP hm
 refine cb hm fun co bG hm => ckx (Jm bG :) ?_
 rintro _ _ _ ⟨bo, bp, rfl, bn, rfl⟩
 refine fa rfl ?_
 refine qaa r2 rfl ⟨rfl, rfl, (nl rfl), ?_⟩
 refine fa rfl (ro (ld r3 rfl rfl (qap ?_)))
 refine cs rfl rfl hm ?_ ?_ <;> intro bC hm
 refine fa rfl ?_
 refine qaa r0 rfl ⟨rfl, rfl, (nl rfl), ?_⟩
 refine fa rfl (ro (ld r3 rfl rfl (qap ?_)))
 refine cs rfl rfl hm ?_ ?_ <;> intro bl hm
 refine fa rfl ?_
 refine qaa r0 rfl ⟨rfl, rfl, (nl rfl), ?_⟩
 refine cb hm fun bc aV hm => cfx (Ju aV :) ?_
 rintro _ ba _ bb ⟨aT, aW, a6, aU, aX, rfl, aZ, aS, aY, rfl⟩
 refine fa rfl ?_
 refine qaa r3 rfl ⟨rfl, rfl, (nl rfl), ?_⟩
 refine ro (qab r0 rfl (nl rfl) ?_)
 refine qaa r5 rfl ⟨rfl, rfl, (nl rfl), ?_⟩
 exact ro (qab r0 rfl (nl rfl) (eE hm))
 refine cb hm fun bc aV hm => cfx (Ju aV :) ?_
 rintro _ ba _ bb ⟨aT, aW, a6, aU, aX, rfl, aZ, aS, aY, rfl⟩
 refine fa rfl ?_
 refine qaa r3 rfl ⟨rfl, rfl, (nl rfl), ?_⟩
 refine ro (qab r0 rfl (nl rfl) ?_)
 refine qaa r5 rfl ⟨rfl, rfl, (nl rfl), ?_⟩
 exact ro (qab r0 rfl (nl rfl) (eE hm))
 refine fa rfl (ro (ld r3 rfl rfl (qap ?_)))
 refine cs rfl rfl hm ?_ ?_ <;> intro bl hm
 refine fa rfl ?_
 refine qaa r0 rfl ⟨rfl, rfl, (nl rfl), ?_⟩
 refine cb hm fun bc aV hm => cfx (Ju aV :) ?_
 rintro _ ba _ bb ⟨aT, aW, a6, aU, aX, rfl, aZ, aS, aY, rfl⟩
 refine fa rfl ?_
 refine qaa r3 rfl ⟨rfl, rfl, (nl rfl), ?_⟩
 refine ro (qab r0 rfl (nl rfl) ?_)
 refine qaa r5 rfl ⟨rfl, rfl, (nl rfl), ?_⟩
 exact ro (qab r0 rfl (nl rfl) (eE hm))
 refine cb hm fun bc aV hm => cfx (Ju aV :) ?_
 rintro _ ba _ bb ⟨aT, aW, a6, aU, aX, rfl, aZ, aS, aY, rfl⟩
 refine fa rfl ?_
 refine qaa r3 rfl ⟨rfl, rfl, (nl rfl), ?_⟩
 refine ro (qab r0 rfl (nl rfl) ?_)
 refine qaa r5 rfl ⟨rfl, rfl, (nl rfl), ?_⟩
 exact ro (qab r0 rfl (nl rfl) (eE hm))
 refine qap (cs rfl rfl hm ?_ ?_) <;> intro bH hm
 refine qac rfl (ct bH ?_)
 refine cb hm fun bU bu hm => ckx (Jm bu :) ?_
 rintro _ _ _ ⟨bt, br, rfl, bv, rfl⟩
 refine fa rfl ?_
 refine qaa r2 rfl ⟨rfl, rfl, (nl rfl), ?_⟩
 refine fa rfl (ro (ld r3 rfl rfl (qap ?_)))
 refine cs rfl rfl hm ?_ ?_ <;> intro bT hm
 refine fa rfl ?_
 refine qaa r0 rfl ⟨rfl, rfl, (nl rfl), ?_⟩
 refine cb hm fun bz bf hm => ckx (JD bf :) ?_
 rintro _ _ _ ⟨bj, bh, rfl, bg, rfl⟩
 refine ro (qab r2 rfl (nl rfl) ?_)
 refine qaa r4 rfl ⟨rfl, rfl, (nl rfl), ?_⟩
 refine ro (qab r0 rfl (nl rfl) ?_)
 refine qcj (fun _ : Ja => []) 117 4 ?_
 exact eE hm
 refine cb hm fun bz bf hm => ckx (JD bf :) ?_
 rintro _ _ _ ⟨bj, bh, rfl, bg, rfl⟩
 refine ro (qab r2 rfl (nl rfl) ?_)
 refine qaa r4 rfl ⟨rfl, rfl, (nl rfl), ?_⟩
 refine ro (qab r0 rfl (nl rfl) ?_)
 refine qcj (fun _ : Ja => []) 117 4 ?_
 exact eE hm
 refine qap (cs rfl rfl hm ?_ ?_) <;> intro bH hm
 refine cb hm fun bU bu hm => ckx (Jm bu :) ?_
 rintro _ _ _ ⟨bt, br, rfl, bv, rfl⟩
 refine fa rfl ?_
 refine qaa r2 rfl ⟨rfl, rfl, (nl rfl), ?_⟩
 refine fa rfl (ro (ld r3 rfl rfl (qap ?_)))
 refine cs rfl rfl hm ?_ ?_ <;> intro bT hm
 refine fa rfl ?_
 refine qaa r0 rfl ⟨rfl, rfl, (nl rfl), ?_⟩
 refine cb hm fun bz bf hm => ckx (JD bf :) ?_
 rintro _ _ _ ⟨bj, bh, rfl, bg, rfl⟩
 refine ro (qab r2 rfl (nl rfl) ?_)
 refine qaa r4 rfl ⟨rfl, rfl, (nl rfl), ?_⟩
 refine ro (qab r0 rfl (nl rfl) ?_)
 refine qcj (fun _ : Ja => []) 117 4 ?_
 exact eE hm
 refine cb hm fun bz bf hm => ckx (JD bf :) ?_
 rintro _ _ _ ⟨bj, bh, rfl, bg, rfl⟩
 refine ro (qab r2 rfl (nl rfl) ?_)
 refine qaa r4 rfl ⟨rfl, rfl, (nl rfl), ?_⟩
 refine ro (qab r0 rfl (nl rfl) ?_)
 refine qcj (fun _ : Ja => []) 117 4 ?_
 exact eE hm
 refine cb hm fun d8 dw hm => ckx (J4 dw :) ?_
 rintro _ _ _ ⟨di, cG, rfl, cK, rfl⟩
 refine ro (qab r2 rfl (nl rfl) ?_)
 refine qaa r4 rfl ⟨rfl, rfl, (nl rfl), ?_⟩
 refine ro (qab r0 rfl (nl rfl) ?_)
 refine qcj (fun _ : Ja => []) 117 4 ?_
 exact eE hm

def J7 (rec_ : (Jb → Option ((List Ja) × Jb))) (n : Nat) : Nat → (List Ja) → Jb → Option ((List Ja) × Jb)
  | 0, _, _ => none
  | aU + 1, ac, aS =>
    (Jt aS).bind fun x5 =>
    (if x5 then (JI aS).bind fun x8 =>
    some (decide (x8.Ab ≠ 5)) else some false).bind fun aW =>
    (if aW then (Jy aS 4 ([125] : Str)).bind fun aX =>
    some (!aX) else some false).bind fun aV =>
    if aV then
    (Jbg rec_ n aS).bind fun aT =>
    (chk (ac.length + [aT.1].length ≤ lim)).bind fun _ =>
    J7 rec_ n aU (ac ++ [aT.1]) aT.2
    else
    some (ac, aS)
def J2 : Nat → Jb → Option ((List Ja) × Jb)
  | 0, _ => none
  | n + 1, p =>
    (J7 (J2 n) n n [] p).bind fun t0 =>
    some (t0.1, t0.2)
theorem JcM : ∀ {n : Nat} {p : Jb} {b0 : Nat} {aa : Option Addr} {ab : Nat} {K : Hp} {r : (List Ja) × Jb}
    (hm : J2 n p = some r) (hX : (0 < p.list.length → Has aa) ∧ GG K),
    Fn Tryz.prog 97 [.pointer (some ⟨b0, 0, none⟩)] K [Cells b0 163 [.slice aa p.list.length ab, .int .i64 p.atZ, .int .i64 p.line], qas Je.enc aa 166 4 ab p.list] (fun v K' H' => ∃ ar_0 : Option Addr, ∃ cr_0 : Nat, ∃ sr_0 : List (List Value), ∃ ar_1 : Option Addr, ∃ cr_1 : Nat, v = .slice ar_0 r.1.length cr_0 ∧ (0 < r.1.length → Has ar_0) ∧ LR Ja.R K' sr_0 r.1 ∧ (0 < r.2.list.length → Has ar_1) ∧ H' = [OwnA ar_0 117 4 cr_0 sr_0, Cells b0 163 [.slice ar_1 r.2.list.length cr_1, .int .i64 r.2.atZ, .int .i64 r.2.line], qas Je.enc ar_1 166 4 cr_1 r.2.list]) := by
 intro n
 induction n with
 | zero =>
   intro p b0 aa ab K r hm hX
   rw [J2.eq_1] at hm; cases hm
 | succ n ih =>
   intro p b0 aa ab K r hm hX
   obtain ⟨ae, hG⟩ := hX
   refine Fn.enter Tryz.func97 Tryz.call97 rfl fun F => ?_
   rw [J2.eq_2] at hm
   obtain ⟨s0, aU, hm⟩ := bnd hm
   refine qhd (fun _ : Ja => []) 117 4 ?_
   refine lC (σ := ((List Ja) × Jb) × Option Addr × Nat × List (List Value) × Option Addr × Nat) (rg 3 19) [3] (fun _ => []) (fun (t0, aV, a8, aX, aS, aT) => [(3, .slice aV t0.1.length a8)]) (fun (t0, aV, a8, aX, aS, aT) => [OwnA aV 117 4 a8 aX, Cells b0 163 [.slice aS t0.2.list.length aT, .int .i64 t0.2.atZ, .int .i64 t0.2.line], qas Je.enc aS 166 4 aT t0.2.list]) (fun zz K1 => match zz with | (t0, aV, a8, aX, aS, aT) => LR Ja.R K1 aX t0.1 ∧ (0 < t0.1.length → Has aV) ∧ (0 < t0.2.list.length → Has aS)) (fun i0 (t0, aV, a8, aX, aS, aT) => J7 (J2 n) n i0 t0.1 t0.2 = some s0) (fun (t0, aV, a8, aX, aS, aT) => t0 = s0) (fun i0 => i0) n ((_, _), _, _, _, _, _) aU (And.intro qe (And.intro ?_ ?_))
   clear aU
   rintro i0 ⟨⟨ac, bG⟩, bw, bt, bF, bn, bo⟩ bN bV ⟨bj, bp, bl⟩ aU j0
   dsimp only at aU ⊢
   cases i0 with
   | zero => rw [J7.eq_1] at aU; cases aU
   | succ i0 =>
    rw [J7.eq_2] at aU
    refine qaj rfl ?_
    refine cb aU fun x5 q5 aU => cgx (Js q5 :) ?_
    obtain ⟨bP, bf, aU⟩ := bnd aU
    refine cS bf (fun bb bf => ?_) fun bb bf => ?_
    refine ct bb ?_
    refine cb bf fun x8 q8 bf => cgx (JH q8 :) ?_
    refine ct bb ?_
    refine Jdj rfl rfl rfl rfl ?_
    refine ct bb (qa8 (ct bb ?_))
    obtain ⟨bL, bc, aU⟩ := bnd aU
    refine qae ?_ ?_ <;> intro aW
    replace bc := ift ((si bf).symm.trans aW) bc
    refine ct aW ?_
    refine cb bc fun bW bI bc => cgx (Jv bI :) ?_
    refine ct aW (qau (ct aW (qac rfl ?_)))
    refine qae ?_ ?_ <;> intro bz
    replace aU := ift ((si bc).symm.trans (qef (qjb bz))) aU
    refine qal rfl ?_
    refine cb aU fun ba bK aU => cfx (JcW ih bK :) ?_
    rintro _ bR _ bH ⟨a6, aZ, br, bu, bD, rfl, bB, bh, bv, rfl⟩
    refine qks Ja.R_ok r0 bh fun bg bd aY => ?_
    refine qje (R := Ja.R) (len := 1) (l := [ba.1]) (css := [[.int .i64 ba.1.Ab, str ba.1.Ac, .slice a6 ba.1.Aa.length aZ, .int .i64 ba.1.Ad]]) (cl := [.int .i64 ba.1.Ab, str ba.1.Ac, .slice a6 ba.1.Aa.length aZ, .int .i64 ba.1.Ad]) Ja.R_ok qbx rfl rfl (LR.snoc LR.nil (Ja.of (x := ba.1) ⟨a6, aZ, rfl, aY⟩)) rfl rfl rfl ?_ fun bO => ?_
    · conv => whnf
      refine cT ?_
      first | done | rfl
    obtain ⟨bJ, aU⟩ := qaw aU
    refine qoj r3 (LR.mono Ja.R_ok (bH.trans bd) bj) rfl qbx (qc8 rfl r0 rfl Ja.R_ok (show LR Ja.R _ [[.int .i64 ba.1.Ab, str ba.1.Ac, .slice a6 ba.1.Aa.length aZ, .int .i64 ba.1.Ad]] [ba.1] from (LR.snoc LR.nil (Ja.of (x := ba.1) ⟨a6, aZ, rfl, aY⟩)))) (show LR Ja.R _ [[.int .i64 ba.1.Ab, str ba.1.Ac, .slice a6 ba.1.Aa.length aZ, .int .i64 ba.1.Ad]] [ba.1] from (LR.snoc LR.nil (Ja.of (x := ba.1) ⟨a6, aZ, rfl, aY⟩))) bJ ?_
    intro bS bT bU r_21 bX
    exact eR aU (_, (_, _), _, _, _, _, _)
    replace aU := qba ((si bc).symm.trans (qc5 (qhc bz))) aU
    refine cT ?_
    exact eM aU (_, _, _, _, _, _)
    replace bc := qba ((si bf).symm.trans aW) bc
    refine cf aW (cf aW (cf aW (qac rfl (cF ?_))))
    replace aU := qba (si bc).symm aU
    refine cT ?_
    exact eM aU (_, _, _, _, _, _)
    refine cf bb (cf bb (cf bb (cf bb ?_)))
    obtain ⟨bL, bc, aU⟩ := bnd aU
    replace bc := qba (si bf).symm bc
    refine cF (cF (cF (cF (qac rfl (cF ?_)))))
    replace aU := qba (si bc).symm aU
    refine cT ?_
    exact eM aU (_, _, _, _, _, _)
   rintro ⟨t0, aV, a8, aX, aS, aT⟩ bQ bM ⟨bC, bA, bm⟩ rfl j0
   exact eE hm

def JbD (rec_ : (Ja → Option (Int))) : List Ja → Nat → Int → Option (Int)
  | [], _, ac => some ac
  | e0 :: aT, i0, ac =>
    (rec_ e0).bind fun aS =>
    (chk (InI (ac + aS))).bind fun _ =>
    JbD rec_ aT (i0 + 1) (ac + aS)
def Jbx : Nat → Ja → Option (Int)
  | 0, _ => none
  | n + 1, n' =>
    (chk (n'.Aa.length ≤ qbh)).bind fun _ =>
    (JbD (Jbx n) n'.Aa 0 1).bind fun t0 =>
    some t0
theorem JcN : ∀ {n : Nat} {n' : Ja} {aa : Option Addr} {ab : Nat} {K : Hp} {r : Int}
    (hm : Jbx n n' = some r) (ae : LiC Ja.R K aa ab 4 n'.Aa),
    Fn Tryz.prog 101 [.agg #[.int .i64 n'.Ab, str n'.Ac, .slice aa n'.Aa.length ab, .int .i64 n'.Ad]] K [] (fun v K' H' => v = .int .i64 r ∧ H' = []) := by
 intro n
 induction n with
 | zero =>
   intro n' aa ab K r hm ae
   rw [Jbx.eq_1] at hm; cases hm
 | succ n ih =>
   intro n' aa ab K r hm ae
   refine Fn.enter Tryz.func101 Tryz.call101 rfl fun F => ?_
   rw [Jbx.eq_2] at hm
   refine qaq ?_
   intro b1
   refine fa rfl (ro (ld r0 rfl rfl (ro (qak rfl ?_))))
   obtain ⟨bb, hm⟩ := qaw hm
   obtain ⟨s0, aS, hm⟩ := bnd hm
   refine lD (σ := (Int)) ([3,5] ++ rg 9 9) [0, 1] (fun i0 => [(9, .int .i64 (i0 : Int))]) (fun t0 => [(3, .int .i64 t0)]) (fun _ => []) (fun _ => True) (fun i0 t0 => JbD (Jbx n) (n'.Aa.drop i0) i0 t0 = some s0) (fun t0 => t0 = s0) (fun i0 => n'.Aa.length - i0) 0 _ aS (And.intro qe (And.intro ?_ ?_))
   clear aS
   rintro i0 ac _ aS j0
   conv at aS => whnf
   refine qac rfl ?_
   refine qae ?_ ?_ <;> intro w0
   obtain ⟨e0, aT, bd⟩ := ltx w0
   rw [bd, JbD.eq_2] at aS
   refine qal rfl ?_
   refine RStep.ofN (qad rfl rfl (qc2 ae.rd aT) (nn _) (qbo aT) ?_)
   obtain ⟨a6, ba, aU, aV, aW⟩ := LiR.get ae.rd aT
   obtain ⟨aZ, aY, rfl, aX⟩ := Ja.out aW
   refine ro (qan i0 _ aU rfl aV rfl ?_)
   refine qai rfl fun b5 => ?_
   refine qaa r0 rfl ⟨rfl, rfl, (nl rfl), ?_⟩
   refine ro (qab r0 rfl (nl rfl) ?_)
   refine cb aS fun bf a8 aS => cgx (ih a8 :) ?_
   obtain ⟨bc, aS⟩ := qaw aS
   refine qam bc (qam (qbu aT bb) ?_)
   exact eR aS (_, _)
   rw [lty w0, JbD.eq_1] at aS
   refine cT ?_
   exact eM aS _
   rintro t0 _ rfl j0
   exact eE hm

def Jbp (rec_ : (Ja → Option (Int))) : List Ja → Nat → Int → Option (Int)
  | [], _, ac => some ac
  | e0 :: aS, i0, ac =>
    (rec_ e0).bind fun aT =>
    Jbp rec_ aS (i0 + 1) (max ac aT)
def Jbh : Nat → Ja → Option (Int)
  | 0, _ => none
  | n + 1, n' =>
    (chk (n'.Aa.length ≤ qbh)).bind fun _ =>
    (Jbp (Jbh n) n'.Aa 0 0).bind fun t0 =>
    (chk (InI (t0 + 1))).bind fun _ =>
    some (t0 + 1)
theorem JcA : ∀ {n : Nat} {n' : Ja} {aa : Option Addr} {ab : Nat} {K : Hp} {r : Int}
    (hm : Jbh n n' = some r) (ae : LiC Ja.R K aa ab 4 n'.Aa),
    Fn Tryz.prog 102 [.agg #[.int .i64 n'.Ab, str n'.Ac, .slice aa n'.Aa.length ab, .int .i64 n'.Ad]] K [] (fun v K' H' => v = .int .i64 r ∧ H' = []) := by
 intro n
 induction n with
 | zero =>
   intro n' aa ab K r hm ae
   rw [Jbh.eq_1] at hm; cases hm
 | succ n ih =>
   intro n' aa ab K r hm ae
   refine Fn.enter Tryz.func102 Tryz.call102 rfl fun F => ?_
   rw [Jbh.eq_2] at hm
   refine qaq ?_
   intro b1
   refine fa rfl (ro (ld r0 rfl rfl (ro (qak rfl ?_))))
   obtain ⟨bb, hm⟩ := qaw hm
   obtain ⟨s0, aS, hm⟩ := bnd hm
   refine lD (σ := (Int)) ([3,5] ++ rg 9 9) [0, 1] (fun i0 => [(9, .int .i64 (i0 : Int))]) (fun t0 => [(3, .int .i64 t0)]) (fun _ => []) (fun _ => True) (fun i0 t0 => Jbp (Jbh n) (n'.Aa.drop i0) i0 t0 = some s0) (fun t0 => t0 = s0) (fun i0 => n'.Aa.length - i0) 0 _ aS (And.intro qe (And.intro ?_ ?_))
   clear aS
   rintro i0 ac _ aS j0
   conv at aS => whnf
   refine qac rfl ?_
   refine qae ?_ ?_ <;> intro w0
   obtain ⟨e0, aT, bc⟩ := ltx w0
   rw [bc, Jbp.eq_2] at aS
   refine qal rfl ?_
   refine RStep.ofN (qad rfl rfl (qc2 ae.rd aT) (nn _) (qbo aT) ?_)
   obtain ⟨a6, ba, aU, aV, aW⟩ := LiR.get ae.rd aT
   obtain ⟨aZ, aY, rfl, aX⟩ := Ja.out aW
   refine ro (qan i0 _ aU rfl aV rfl ?_)
   refine qai rfl fun b5 => ?_
   refine qaa r0 rfl ⟨rfl, rfl, (nl rfl), ?_⟩
   refine ro (qab r0 rfl (nl rfl) ?_)
   refine cb aS fun bd a8 aS => cgx (ih a8 :) ?_
   refine ro (qci (qam (qbu aT bb) ?_))
   exact eR aS (_, _)
   rw [lty w0, Jbp.eq_1] at aS
   refine cT ?_
   exact eM aS _
   rintro t0 _ rfl j0
   refine ci hm fun hm => ?_
   exact eE hm

def Jc7 (n : Nat) (text : Str) : Option (Ja × Int × Err) :=
  (JcU n text).bind fun aU =>
  if aU.2.isSome then
  some ((⟨0, ([] : Str), [], 0⟩ : Ja), 0, aU.2)
  else
  (J2 n (⟨aU.1, 0, 0⟩ : Jb)).bind fun aS =>
  (Jt aS.2).bind fun aZ =>
  (if aZ then (JI aS.2).bind fun a8 =>
  some (decide (a8.Ab ≠ 5)) else some false).bind fun a6 =>
  if a6 then
  (JZ aS.2).bind fun aY =>
  (Jt aY).bind fun aX =>
  if (!aX) then
  some ((⟨0, ([] : Str), [], 0⟩ : Ja), aY.line, (some 2))
  else
  (Jbx n (⟨1, ([] : Str), aS.1, 1⟩ : Ja)).bind fun aT =>
  (if decide (aT > 512) then some true else (Jbh n (⟨1, ([] : Str), aS.1, 1⟩ : Ja)).bind fun aV =>
  some (decide (aV > 32))).bind fun aW =>
  if aW then
  some ((⟨0, ([] : Str), [], 0⟩ : Ja), 0, (some 5))
  else
  some ((⟨1, ([] : Str), aS.1, 1⟩ : Ja), 0, none)
  else
  (Jt aS.2).bind fun aX =>
  if (!aX) then
  some ((⟨0, ([] : Str), [], 0⟩ : Ja), aS.2.line, (some 2))
  else
  (Jbx n (⟨1, ([] : Str), aS.1, 1⟩ : Ja)).bind fun aT =>
  (if decide (aT > 512) then some true else (Jbh n (⟨1, ([] : Str), aS.1, 1⟩ : Ja)).bind fun aV =>
  some (decide (aV > 32))).bind fun aW =>
  if aW then
  some ((⟨0, ([] : Str), [], 0⟩ : Ja), 0, (some 5))
  else
  some ((⟨1, ([] : Str), aS.1, 1⟩ : Ja), 0, none)
theorem Jd2 {n : Nat} {text : Str} {K : Hp} {r : Ja × Int × Err}
    (hm : Jc7 n text = some r) (hG : GG K) :
    Fn Tryz.prog 62 [str text] K [] (fun v K' H' => ∃ ar_0 : Option Addr, ∃ cr_0 : Nat, v = .tuple #[.agg #[.int .i64 r.1.Ab, str r.1.Ac, .slice ar_0 r.1.Aa.length cr_0, .int .i64 r.1.Ad], .int .i64 r.2.1, qcs 48 r.2.2] ∧ LiC Ja.R K' ar_0 cr_0 4 r.1.Aa ∧ H' = []) := by
 refine Fn.enter Tryz.func62 Tryz.call62 rfl fun F => ?_
 unfold Jc7 at hm
 refine qai rfl fun b2 => ?_
 refine cb hm fun bI bD hm => ck0 (Jdu bD :) ?_
 rintro _ _ _ ⟨bc, bh, rfl, bt, rfl⟩
 refine qa6 rfl ?_
 refine cs rfl rfl hm ?_ ?_ <;> intro bQ hm
 refine qag rfl rfl ?_
 refine qaa r1 rfl ⟨rfl, rfl, (nl rfl), ?_⟩
 exact ro (qab r0 rfl (nl rfl) (eE hm))
 refine qag rfl rfl (cT ?_)
 refine qaq ?_
 intro bN
 refine cb hm fun bP bC hm => cfx (JcM bC :) ?_
 rintro _ bR _ bK ⟨bu, bl, bf, bA, bp, rfl, bv, aY, bB, rfl⟩
 refine qag rfl rfl (cT (cT (cT ?_)))
 refine qai rfl fun b8 => ?_
 refine qaa r0 rfl ⟨rfl, rfl, (nl rfl), ?_⟩
 refine qaj rfl ?_
 refine cb hm fun bO bF hm => cgx (Js bF :) ?_
 obtain ⟨bJ, aZ, hm⟩ := bnd hm
 refine cS aZ (fun aT aZ => ?_) fun aT aZ => ?_
 refine ct aT ?_
 refine cb aZ fun bL bG aZ => cgx (JH bG :) ?_
 refine ct aT ?_
 refine Jdj rfl rfl rfl rfl ?_
 refine ct aT (qa8 (ct aT (qac rfl ?_)))
 refine qae ?_ ?_ <;> intro bd
 replace hm := ift ((si aZ).symm.trans bd) hm
 refine cb hm fun bM bH hm => ckx (J4 bH :) ?_
 rintro _ _ _ ⟨bg, bo, rfl, bj, rfl⟩
 refine cb hm fun bm a8 hm => cgx (Js a8 :) ?_
 refine qau ?_
 refine cs rfl rfl hm ?_ ?_ <;> intro bn hm
 refine qa4 ⟨⟨[], false⟩, _, [(_, _)], []⟩ (by kernel_rfl) ⟨Hp.Le.refl _, (pf rfl), ci0⟩ ?_
 refine qag rfl rfl (qah (fa rfl (qao m0 rfl rfl ?_)))
 refine qar rfl ?_
 refine qaa r4 rfl ⟨rfl, rfl, (nl rfl), ?_⟩
 refine qk (sc [1] rfl) ?_
 exact ro (qab r0 rfl (nl rfl) (eE hm))
 refine qaj rfl ?_
 refine ro (qab r2 rfl (nl rfl) ?_)
 refine qjd Tryz.call101 Ja.R_ok r3 aY fun aV aW aX => ?_
 refine cb hm fun bw ba hm => cgx (JcN ba :) ?_
 obtain ⟨br, aU, hm⟩ := bnd hm
 refine cS aU (fun aS aU => ?_) fun aS aU => ?_
 refine ct aS (ct aS (ct aS (qac rfl (cT ?_))))
 replace hm := ift (si aU).symm hm
 refine qag rfl rfl ?_
 refine qar rfl ?_
 refine qaa r3 rfl ⟨rfl, rfl, (nl rfl), ?_⟩
 exact ro (qab r0 rfl (nl rfl) (eE hm))
 refine ro (qab r2 rfl (nl rfl) (cf aS ?_))
 refine cb aU fun bz bb aU => cgx (JcA bb :) ?_
 refine cf aS (cf aS (qac rfl ?_))
 refine qae ?_ ?_ <;> intro a6
 replace hm := ift ((si aU).symm.trans a6) hm
 refine qag rfl rfl ?_
 refine qar rfl ?_
 refine qaa r3 rfl ⟨rfl, rfl, (nl rfl), ?_⟩
 exact ro (qab r0 rfl (nl rfl) (eE hm))
 replace hm := qba ((si aU).symm.trans a6) hm
 refine ro (qab r2 rfl (nl rfl) ?_)
 refine qaa r3 rfl ⟨rfl, rfl, (nl rfl), ?_⟩
 exact ro (qab r0 rfl (nl rfl) (eE hm))
 replace hm := qba ((si aZ).symm.trans bd) hm
 refine cb hm fun bm a8 hm => cgx (Js a8 :) ?_
 refine qau ?_
 refine cs rfl rfl hm ?_ ?_ <;> intro bn hm
 refine qa4 ⟨⟨[], false⟩, _, [(_, _)], []⟩ (by kernel_rfl) ⟨Hp.Le.refl _, (pf rfl), ci0⟩ ?_
 refine qag rfl rfl (qah (fa rfl (qao m0 rfl rfl ?_)))
 refine qar rfl ?_
 refine qaa r4 rfl ⟨rfl, rfl, (nl rfl), ?_⟩
 refine qk (sc [1] rfl) ?_
 exact ro (qab r0 rfl (nl rfl) (eE hm))
 refine qaj rfl ?_
 refine ro (qab r2 rfl (nl rfl) ?_)
 refine qjd Tryz.call101 Ja.R_ok r3 aY fun aV aW aX => ?_
 refine cb hm fun bw ba hm => cgx (JcN ba :) ?_
 obtain ⟨br, aU, hm⟩ := bnd hm
 refine cS aU (fun aS aU => ?_) fun aS aU => ?_
 refine ct aS (ct aS (ct aS (qac rfl (cT ?_))))
 replace hm := ift (si aU).symm hm
 refine qag rfl rfl ?_
 refine qar rfl ?_
 refine qaa r3 rfl ⟨rfl, rfl, (nl rfl), ?_⟩
 exact ro (qab r0 rfl (nl rfl) (eE hm))
 refine ro (qab r2 rfl (nl rfl) (cf aS ?_))
 refine cb aU fun bz bb aU => cgx (JcA bb :) ?_
 refine cf aS (cf aS (qac rfl ?_))
 refine qae ?_ ?_ <;> intro a6
 replace hm := ift ((si aU).symm.trans a6) hm
 refine qag rfl rfl ?_
 refine qar rfl ?_
 refine qaa r3 rfl ⟨rfl, rfl, (nl rfl), ?_⟩
 exact ro (qab r0 rfl (nl rfl) (eE hm))
 replace hm := qba ((si aU).symm.trans a6) hm
 refine ro (qab r2 rfl (nl rfl) ?_)
 refine qaa r3 rfl ⟨rfl, rfl, (nl rfl), ?_⟩
 exact ro (qab r0 rfl (nl rfl) (eE hm))
 refine cf aT (cf aT (cf aT (cf aT (qac rfl (cF ?_)))))
 replace hm := qba (si aZ).symm hm
 refine cb hm fun bm a8 hm => cgx (Js a8 :) ?_
 refine qau ?_
 refine cs rfl rfl hm ?_ ?_ <;> intro bn hm
 refine qa4 ⟨⟨[], false⟩, _, [(_, _)], []⟩ (by kernel_rfl) ⟨Hp.Le.refl _, (pf rfl), ci0⟩ ?_
 refine qag rfl rfl (qah (fa rfl (qao m0 rfl rfl ?_)))
 refine qar rfl ?_
 refine qaa r4 rfl ⟨rfl, rfl, (nl rfl), ?_⟩
 refine qk (sc [1] rfl) ?_
 exact ro (qab r0 rfl (nl rfl) (eE hm))
 refine qaj rfl ?_
 refine ro (qab r2 rfl (nl rfl) ?_)
 refine qjd Tryz.call101 Ja.R_ok r3 aY fun aV aW aX => ?_
 refine cb hm fun bw ba hm => cgx (JcN ba :) ?_
 obtain ⟨br, aU, hm⟩ := bnd hm
 refine cS aU (fun aS aU => ?_) fun aS aU => ?_
 refine ct aS (ct aS (ct aS (qac rfl (cT ?_))))
 replace hm := ift (si aU).symm hm
 refine qag rfl rfl ?_
 refine qar rfl ?_
 refine qaa r3 rfl ⟨rfl, rfl, (nl rfl), ?_⟩
 exact ro (qab r0 rfl (nl rfl) (eE hm))
 refine ro (qab r2 rfl (nl rfl) (cf aS ?_))
 refine cb aU fun bz bb aU => cgx (JcA bb :) ?_
 refine cf aS (cf aS (qac rfl ?_))
 refine qae ?_ ?_ <;> intro a6
 replace hm := ift ((si aU).symm.trans a6) hm
 refine qag rfl rfl ?_
 refine qar rfl ?_
 refine qaa r3 rfl ⟨rfl, rfl, (nl rfl), ?_⟩
 exact ro (qab r0 rfl (nl rfl) (eE hm))
 replace hm := qba ((si aU).symm.trans a6) hm
 refine ro (qab r2 rfl (nl rfl) ?_)
 refine qaa r3 rfl ⟨rfl, rfl, (nl rfl), ?_⟩
 exact ro (qab r0 rfl (nl rfl) (eE hm))

def Jbq (depth : Int) (rec_ : (Ja → Int → Int → Option (Bool × Int))) : List Ja → Nat → Int → Option (Fl (Bool × Int) (Int))
  | [], _, ac => some (Fl.go ac)
  | e0 :: aT, i0, ac =>
    (chk (InI (depth - 1))).bind fun _ =>
    (rec_ e0 ac (depth - 1)).bind fun aS =>
    if (!aS.1) then
    some (Fl.ret (false, aS.2))
    else
    Jbq depth rec_ aT (i0 + 1) aS.2
def JbH : Nat → Ja → Int → Int → Option (Bool × Int)
  | 0, _, _, _ => none
  | n + 1, n', nodes, depth =>
    (chk (InI (nodes - 1))).bind fun _ =>
    if (decide ((nodes - 1) < 0) || decide (depth < 1)) then
    some (false, (nodes - 1))
    else
    (chk (n'.Aa.length ≤ qbh)).bind fun _ =>
    (Jbq depth (JbH n) n'.Aa 0 (nodes - 1)).bind fun s0 => s0.el some fun t0 =>
    some (true, t0)
theorem Jd3 : ∀ {n : Nat} {n' : Ja} {nodes : Int} {depth : Int} {aa : Option Addr} {ab : Nat} {b1 : Nat} {K : Hp} {r : Bool × Int}
    (hm : JbH n n' nodes depth = some r) (ae : LiC Ja.R K aa ab 4 n'.Aa),
    Fn Tryz.prog 189 [.agg #[.int .i64 n'.Ab, str n'.Ac, .slice aa n'.Aa.length ab, .int .i64 n'.Ad], .pointer (some ⟨b1, 0, none⟩), .int .i64 depth] K [Cells b1 3 [.int .i64 nodes]] (fun v K' H' => v = .bool r.1 ∧ H' = [Cells b1 3 [.int .i64 r.2]]) := by
 intro n
 induction n with
 | zero =>
   intro n' nodes depth aa ab b1 K r hm ae
   rw [JbH.eq_1] at hm; cases hm
 | succ n ih =>
   intro n' nodes depth aa ab b1 K r hm ae
   refine Fn.enter Tryz.func189 Tryz.call189 rfl fun F => ?_
   rw [JbH.eq_2] at hm
   refine qaq ?_
   intro b3
   refine qah (ro (ld r1 rfl rfl ?_))
   obtain ⟨bb, hm⟩ := qaw hm
   refine qam bb (qah ?_)
   refine qaa r1 rfl ⟨rfl, rfl, (nl rfl), ?_⟩
   refine jR (σ := Unit) (rg 14 8) (fun _ => [(21, .bool (decide ((nodes - 1) < 0) || decide (depth < 1)))]) (fun bc => True) ?_ ?_
   refine qaj rfl ?_
   refine qah (ro (ld r0 rfl rfl ?_))
   refine qae ?_ ?_ <;> intro aS
   refine ct aS (ct aS ?_)
   exact eMt () ⟨bq (((qbq aS)).symm), trivial⟩
   refine cf aS (cf aS ?_)
   exact eMt () ⟨bq (qgx (b := decide (depth < 1)) aS), trivial⟩
   rintro _ _ bg
   refine cs rfl rfl hm ?_ ?_ <;> intro bl hm
   exact eE hm
   refine fa rfl (ro (ld r1 rfl rfl (ro (qak rfl ?_))))
   obtain ⟨ba, hm⟩ := qaw hm
   obtain ⟨s0, aT, hm⟩ := bnd hm
   refine lD (σ := (Int)) ([6,8] ++ rg 25 11) [1, 2] (fun i0 => [(25, .int .i64 (i0 : Int))]) (fun _ => []) (fun t0 => [Cells b1 3 [.int .i64 t0]]) (fun _ => True) (fun i0 t0 => Jbq depth (JbH n) (n'.Aa.drop i0) i0 t0 = some s0) (fun t0 => s0 = Fl.go t0) (fun i0 => n'.Aa.length - i0) 0 _ aT (And.intro qe (And.intro ?_ ?_))
   clear aT
   rintro i0 ac _ aT j0
   conv at aT => whnf
   refine qac rfl ?_
   refine qae ?_ ?_ <;> intro w0
   obtain ⟨e0, aU, bf⟩ := ltx w0
   rw [bf, Jbq.eq_2] at aT
   refine qal rfl ?_
   refine RStep.ofN (qad rfl rfl (qc2 ae.rd aU) (nn _) (qbo aU) ?_)
   obtain ⟨bd, a8, aV, aW, aX⟩ := LiR.get ae.rd aU
   obtain ⟨aZ, aY, rfl, a6⟩ := Ja.out aX
   refine ro (qan i0 _ aV rfl aW rfl ?_)
   refine qai rfl fun b8 => ?_
   refine qaa r0 rfl ⟨rfl, rfl, (nl rfl), ?_⟩
   refine ro (qab r0 rfl (nl rfl) ?_)
   refine ci aT fun aT => ?_
   refine cb aT fun bj bh aT => cgx (ih bh :) ?_
   refine qau ?_
   refine cs rfl rfl aT ?_ ?_ <;> intro bm aT
   exact eE (er aT hm)
   refine qam (qbu aU ba) ?_
   exact eR aT (_, _)
   rw [lty w0, Jbq.eq_1] at aT
   refine cT ?_
   exact eM aT _
   rintro t0 _ rfl j0
   replace hm := elg hm
   exact eE hm

def Ja8 : List UInt8 → Nat → Option (Fl (Bool) (Unit))
  | [], _ => some (Fl.go ())
  | e0 :: aT, i0 =>
    (if decide ((e0.toNat : Int) < 48) then some true else some (decide ((e0.toNat : Int) > 57))).bind fun aS =>
    if aS then
    some (Fl.ret false)
    else
    Ja8 aT (i0 + 1)
def JcY (s : Str) : Option (Bool) :=
  (chk (s.length ≤ qbh)).bind fun _ =>
  (Ja8 s 0).bind fun s0 => s0.el some fun t0 =>
  some (decide ((s.length : Int) ≥ 1) && decide ((s.length : Int) ≤ 9))
theorem JdW {s : Str} {K : Hp} {r : Bool}
    (hm : JcY s = some r)  :
    Fn Tryz.prog 258 [str s] K [] (fun v K' H' => v = .bool r ∧ H' = []) := by
 refine Fn.enter Tryz.func258 Tryz.call258 rfl fun F => ?_
 unfold JcY at hm
 refine ro (qa3 rfl ?_)
 obtain ⟨aY, hm⟩ := qaw hm
 obtain ⟨s0, aU, hm⟩ := bnd hm
 refine lD (σ := (Unit)) ([2,3] ++ rg 6 14) [0] (fun i0 => [(6, .int .i64 (i0 : Int))]) (fun _ => []) (fun _ => []) (fun _ => True) (fun i0 _ => Ja8 (s.drop i0) i0 = some s0) (fun t0 => s0 = Fl.go t0) (fun i0 => s.length - i0) 0 () aU (And.intro qe (And.intro ?_ ?_))
 clear aU
 rintro i0 _ _ aU j0
 conv at aU => whnf
 refine qac rfl ?_
 refine qae ?_ ?_ <;> intro w0
 obtain ⟨e0, aW, aZ⟩ := ltx w0
 rw [aZ, Ja8.eq_2] at aU
 refine qal rfl ?_
 refine qaj rfl ?_
 refine qaz rfl (nn _) aW ?_
 obtain ⟨a6, aV, aU⟩ := bnd aU
 refine cS aV (fun aS aV => ?_) fun aS aV => ?_
 refine ct aS (ct aS (ct aS (ct aS (qac rfl (cT ?_)))))
 replace aU := ift (si aV).symm aU
 exact eE (er aU hm)
 refine cf aS (cf aS (qaz rfl (nn _) aW (cf aS (cf aS (qac rfl ?_)))))
 refine qae ?_ ?_ <;> intro aX
 replace aU := ift ((si aV).symm.trans aX) aU
 exact eE (er aU hm)
 replace aU := qba ((si aV).symm.trans aX) aU
 refine qam (qbu aW aY) ?_
 exact eR aU (_, ())
 rw [lty w0, Ja8.eq_1] at aU
 refine cT ?_
 exact eM aU _
 rintro t0 _ rfl j0
 replace hm := elg hm
 refine qaj rfl ?_
 refine ro (qa3 rfl ?_)
 refine qae ?_ ?_ <;> intro aT
 refine ct aT (ro (qa3 rfl (ct aT (ct aT ?_))))
 exact bE (qcw (b := decide ((s.length : Int) ≤ 9)) aT) (eE hm)
 refine cf aT (cf aT (cf aT ?_))
 exact bE (((qav aT)).symm) (eE hm)

def Ja4 : List UInt8 → Nat → Str → Option (Fl (Str × Err) (Str))
  | [], _, ac => some (Fl.go ac)
  | e0 :: aT, i0, ac =>
    (if decide ((e0.toNat : Int) < 32) then some true else some (decide ((e0.toNat : Int) > 126))).bind fun aS =>
    if aS then
    some (Fl.ret (([] : Str), (some 2)))
    else
    (if decide ((e0.toNat : Int) = 34) then some true else some (decide ((e0.toNat : Int) = 92))).bind fun aU =>
    if aU then
    (chk (ac.length + ([(92 : UInt8)] : Str).length ≤ lim)).bind fun _ =>
    (chk ((ac ++ ([(92 : UInt8)] : Str)).length + ([e0] : Str).length ≤ lim)).bind fun _ =>
    Ja4 aT (i0 + 1) ((ac ++ ([(92 : UInt8)] : Str)) ++ ([e0] : Str))
    else
    (chk (ac.length + ([e0] : Str).length ≤ lim)).bind fun _ =>
    Ja4 aT (i0 + 1) (ac ++ ([e0] : Str))
def JcX (s : Str) : Option (Str × Err) :=
  (chk (s.length ≤ qbh)).bind fun _ =>
  (Ja4 s 0 ([(34 : UInt8)] : Str)).bind fun s0 => s0.el some fun t0 =>
  (chk (t0.length + ([(34 : UInt8)] : Str).length ≤ lim)).bind fun _ =>
  some ((t0 ++ ([(34 : UInt8)] : Str)), none)
theorem Jdv {s : Str} {K : Hp} {r : Str × Err}
    (hm : JcX s = some r)  :
    Fn Tryz.prog 238 [str s] K [] (fun v K' H' => v = .tuple #[str r.1, qcs 48 r.2] ∧ H' = []) := by
 refine Fn.enter Tryz.func238 Tryz.call238 rfl fun F => ?_
 unfold JcX at hm
 refine bsO (len := 1) (enc := eU) (l := ([(34 : UInt8)] : Str)) (cl := [.int .u8 34]) qcl rfl rfl (fun _ _ => rfl) rfl rfl rfl ?_ fun b6 => ?_
 · conv => whnf
   refine cT ?_
   first | done | rfl
 refine ro (qa3 rfl ?_)
 obtain ⟨bd, hm⟩ := qaw hm
 obtain ⟨s0, aS, hm⟩ := bnd hm
 refine lD (σ := (Str) × Option Addr × Nat) ([2,3,4,5] ++ rg 9 34) [1] (fun i0 => [(9, .int .i64 (i0 : Int))]) (fun (t0, aV, aW) => [(4, .slice aV t0.length aW)]) (fun (t0, aV, aW) => [qas eU aV 5 1 aW t0]) (fun (t0, aV, aW) => (0 < t0.length → Has aV) ∧ True) (fun i0 (t0, aV, aW) => Ja4 (s.drop i0) i0 t0 = some s0) (fun (t0, aV, aW) => s0 = Fl.go t0) (fun i0 => s.length - i0) 0 (_, _, _) aS (And.intro qe (And.intro ?_ ?_))
 clear aS
 rintro i0 ⟨ac, bp, bj⟩ ⟨bf, _⟩ aS j0
 conv at aS => whnf
 refine qac rfl ?_
 refine qae ?_ ?_ <;> intro w0
 obtain ⟨e0, aY, bz⟩ := ltx w0
 rw [bz, Ja4.eq_2] at aS
 refine qal rfl ?_
 obtain ⟨bc, aX, aS⟩ := bnd aS
 refine jR (σ := Bool) (rg 12 10) (fun aZ => [(21, .bool aZ)]) (fun aZ => aZ = bc) ?_ ?_
 replace aX := bsm aX
 refine qaj rfl ?_
 refine qaz rfl (nn _) aY ?_
 obtain ⟨bF, ba, aX⟩ := bnd aX
 refine cS ba (fun aU ba => ?_) fun aU ba => ?_
 refine ct aU (ct aU (ct aU (ct aU ?_)))
 exact eMq aX _ ⟨bq (si ba), trivial⟩
 refine cf aU (cf aU (qaz rfl (nn _) aY (cf aU (cf aU ?_))))
 exact eMq aX _ ⟨bq (si ba), trivial⟩
 rintro aZ rfl bA
 refine cs rfl rfl aS ?_ ?_ <;> intro bC aS
 refine qar rfl ?_
 exact eE (er aS hm)
 refine qaj rfl ?_
 refine qaz rfl (nn _) aY (qaf ?_)
 obtain ⟨bG, a6, aS⟩ := bnd aS
 refine cS a6 (fun aT a6 => ?_) fun aT a6 => ?_
 refine ct aT (ct aT (ct aT (ct aT (qac rfl (cT ?_)))))
 replace aS := ift (si a6).symm aS
 refine bsO (len := 1) (enc := eU) (l := ([(92 : UInt8)] : Str)) (cl := [.int .u8 92]) qcl rfl rfl (fun _ _ => rfl) rfl rfl rfl ?_ fun bw => ?_
 · conv => whnf
   refine cT ?_
   first | done | rfl
 obtain ⟨bb, aS⟩ := qaw aS
 refine apE rfl r1 qcl (qay rfl r0 rfl (fun _ => rfl) (fun _ => rfl)) bb ?_
 intro bv bt bu
 refine qaz rfl (nn _) aY ?_
 refine bsO (len := 1) (enc := eU) (l := ([e0] : Str)) (cl := [.int .u8 (e0.toNat : Int)]) qcl rfl rfl (fun _ _ => rfl) rfl rfl rfl ?_ fun bn => ?_
 · conv => whnf
   refine cT ?_
   first | done | rfl
 obtain ⟨a8, aS⟩ := qaw aS
 refine apE rfl r1 qcl (qay rfl r0 rfl (fun _ => rfl) (fun _ => rfl)) a8 ?_
 intro bh bl bo
 refine qam (qbu aY bd) ?_
 exact eR aS (_, _, _, _)
 refine cf aT (cf aT (qaz rfl (nn _) aY (cf aT (qaf (cf aT (qac rfl ?_))))))
 refine qae ?_ ?_ <;> intro bm
 replace aS := ift ((si a6).symm.trans bm) aS
 refine bsO (len := 1) (enc := eU) (l := ([(92 : UInt8)] : Str)) (cl := [.int .u8 92]) qcl rfl rfl (fun _ _ => rfl) rfl rfl rfl ?_ fun bw => ?_
 · conv => whnf
   refine cT ?_
   first | done | rfl
 obtain ⟨bb, aS⟩ := qaw aS
 refine apE rfl r1 qcl (qay rfl r0 rfl (fun _ => rfl) (fun _ => rfl)) bb ?_
 intro bv bt bu
 refine qaz rfl (nn _) aY ?_
 refine bsO (len := 1) (enc := eU) (l := ([e0] : Str)) (cl := [.int .u8 (e0.toNat : Int)]) qcl rfl rfl (fun _ _ => rfl) rfl rfl rfl ?_ fun bn => ?_
 · conv => whnf
   refine cT ?_
   first | done | rfl
 obtain ⟨a8, aS⟩ := qaw aS
 refine apE rfl r1 qcl (qay rfl r0 rfl (fun _ => rfl) (fun _ => rfl)) a8 ?_
 intro bh bl bo
 refine qam (qbu aY bd) ?_
 exact eR aS (_, _, _, _)
 replace aS := qba ((si a6).symm.trans bm) aS
 refine qaz rfl (nn _) aY ?_
 refine bsO (len := 1) (enc := eU) (l := ([e0] : Str)) (cl := [.int .u8 (e0.toNat : Int)]) qcl rfl rfl (fun _ _ => rfl) rfl rfl rfl ?_ fun bn => ?_
 · conv => whnf
   refine cT ?_
   first | done | rfl
 obtain ⟨a8, aS⟩ := qaw aS
 refine apE rfl r1 qcl (qay rfl r0 rfl (fun _ => rfl) (fun _ => rfl)) a8 ?_
 intro bh bl bo
 refine qam (qbu aY bd) ?_
 exact eR aS (_, _, _, _)
 rw [lty w0, Ja4.eq_1] at aS
 refine cT ?_
 exact eM aS (_, _, _)
 rintro ⟨t0, aV, aW⟩ ⟨bg, _⟩ rfl j0
 replace hm := elg hm
 refine bsO (len := 1) (enc := eU) (l := ([(34 : UInt8)] : Str)) (cl := [.int .u8 34]) qcl rfl rfl (fun _ _ => rfl) rfl rfl rfl ?_ fun bD => ?_
 · conv => whnf
   refine cT ?_
   first | done | rfl
 obtain ⟨br, hm⟩ := qaw hm
 refine apE rfl r1 qcl (qay rfl r0 rfl (fun _ => rfl) (fun _ => rfl)) br ?_
 intro bB bI bH
 refine ro (qeg rfl r0 rfl rfl rfl ?_)
 exact eE hm

def Ja9 (s : Str) : Option (Bool) :=
  (JcX s).bind fun x7 =>
  some x7.2.isNone
theorem JbT {s : Str} {K : Hp} {r : Bool}
    (hm : Ja9 s = some r)  :
    Fn Tryz.prog 225 [str s] K [] (fun v K' H' => v = .bool r ∧ H' = []) := by
 refine Fn.enter Tryz.func225 Tryz.call225 rfl fun F => ?_
 unfold Ja9 at hm
 refine cb hm fun x7 q7 hm => cg0 (Jdv q7 :) ?_
 refine qdq rfl ?_
 exact eE hm

def Jb6 (n : Nat) (s : Str) : Option (Bool) :=
  (JcU n s).bind fun x7 =>
  (if (x7.2.isNone && decide ((x7.1.length : Int) = 2)) then (ix x7.1 0).bind fun aV =>
  some (decide (aV.Ab = 1)) else some false).bind fun aS =>
  (if aS then (ix x7.1 0).bind fun aU =>
  some (decide (aU.Ac = s)) else some false).bind fun aX =>
  (if aX then (JbS s).bind fun aW =>
  some (!aW) else some false).bind fun aT =>
  some aT
theorem JcB {n : Nat} {s : Str} {K : Hp} {r : Bool}
    (hm : Jb6 n s = some r) (hG : GG K) :
    Fn Tryz.prog 226 [str s] K [] (fun v K' H' => v = .bool r ∧ H' = []) := by
 refine Fn.enter Tryz.func226 Tryz.call226 rfl fun F => ?_
 unfold Jb6 at hm
 refine cb hm fun x7 q7 hm => ck0 (Jdu q7 :) ?_
 rintro _ _ _ ⟨bg, bh, rfl, aZ, rfl⟩
 refine qaj rfl ?_
 refine qdq rfl ?_
 refine qae ?_ ?_ <;> intro aU
 refine ct aU (ro (qak rfl (ct aU (qaf (ct aU ?_)))))
 obtain ⟨bf, aY, hm⟩ := bnd hm
 refine qae ?_ ?_ <;> intro aT
 replace aY := ift (qa5 aU aT) aY
 refine ct aT ?_
 obtain ⟨bl, bc, a6, aY⟩ := ixb aY
 refine RStep.ofN (qad rfl rfl (qcu aZ a6) bc (qax rfl bc a6) (ct aT (qbb rfl (qcu aZ a6) (ct aT (ro (qbz (i := (0 : Int).toNat) (o := 0) r0 rfl a6 rfl rfl (ct aT (qaf (ct aT ?_)))))))))
 obtain ⟨bb, aX, hm⟩ := bnd hm
 refine qae ?_ ?_ <;> intro aS
 replace aX := ift ((si aY).symm.trans aS) aX
 refine ct aS ?_
 obtain ⟨bn, bd, a8, aX⟩ := ixb aX
 refine RStep.ofN (qad rfl rfl (qcu aZ a8) bd (qax rfl bd a8) (ct aS (qbb rfl (qcu aZ a8) (ct aS (ro (qbz (i := (0 : Int).toNat) (o := 1) r0 rfl a8 rfl rfl (ct aS (ct aS (qap ?_)))))))))
 refine ct aS ?_
 obtain ⟨ba, aW, hm⟩ := bnd hm
 refine qae ?_ ?_ <;> intro aV
 replace aW := ift ((si aX).symm.trans aV) aW
 refine ct aV ?_
 refine cb aW fun bm bj aW => cgx (Jcm bj :) ?_
 refine ct aV (qau (ct aV ?_))
 exact bE (si aW) (eE hm)
 replace aW := qba ((si aX).symm.trans aV) aW
 refine cf aV (cf aV (cf aV ?_))
 exact bE (si aW) (eE hm)
 replace aX := qba ((si aY).symm.trans aS) aX
 refine cf aS (cf aS (cf aS (cf aS (cf aS (cf aS ?_)))))
 obtain ⟨ba, aW, hm⟩ := bnd hm
 replace aW := qba (si aX).symm aW
 refine cF (cF (cF (cF ?_)))
 exact bE (si aW) (eE hm)
 replace aY := qba (qbs aU aT) aY
 refine cf aT (cf aT (cf aT (cf aT (cf aT ?_))))
 obtain ⟨bb, aX, hm⟩ := bnd hm
 replace aX := qba (si aY).symm aX
 refine cF (cF (cF (cF (cF (cF (cF ?_))))))
 obtain ⟨ba, aW, hm⟩ := bnd hm
 replace aW := qba (si aX).symm aW
 refine cF (cF (cF (cF ?_)))
 exact bE (si aW) (eE hm)
 refine cf aU (cf aU (cf aU ?_))
 obtain ⟨bf, aY, hm⟩ := bnd hm
 replace aY := qba (qav aU) aY
 refine cF (cF (cF (cF (cF (cF ?_)))))
 obtain ⟨bb, aX, hm⟩ := bnd hm
 replace aX := qba (si aY).symm aX
 refine cF (cF (cF (cF (cF (cF (cF ?_))))))
 obtain ⟨ba, aW, hm⟩ := bnd hm
 replace aW := qba (si aX).symm aW
 refine cF (cF (cF (cF ?_)))
 exact bE (si aW) (eE hm)

def JcC (n : Nat) (n' : Ja) : Option (Int) :=
  if decide (n'.Ab = 13) then
  if (!decide (n'.Ac = ([] : Str))) then
  some (-2)
  else
  some 2
  else
  if decide (n'.Ab = 14) then
  if (!decide (n'.Ac = ([] : Str))) then
  some (-2)
  else
  some 2
  else
  if decide (n'.Ab = 17) then
  if (!decide (n'.Ac = ([] : Str))) then
  some (-2)
  else
  some 2
  else
  if decide (n'.Ab = 18) then
  if (!decide (n'.Ac = ([] : Str))) then
  some (-2)
  else
  some 2
  else
  if decide (n'.Ab = 19) then
  if (!decide (n'.Ac = ([] : Str))) then
  some (-2)
  else
  some 2
  else
  if decide (n'.Ab = 15) then
  if (!decide (n'.Ac = ([] : Str))) then
  some (-2)
  else
  some 1
  else
  if decide (n'.Ab = 16) then
  (Jbn 4 n'.Ac).bind fun aW =>
  (if aW then some true else (Jbn 1 n'.Ac).bind fun aY =>
  some aY).bind fun aV =>
  if (!aV) then
  some (-2)
  else
  some 2
  else
  if decide (n'.Ab = 20) then
  (JcY n'.Ac).bind fun aX =>
  if (!aX) then
  some (-2)
  else
  some 0
  else
  if decide (n'.Ab = 21) then
  (Ja9 n'.Ac).bind fun aS =>
  if (!aS) then
  some (-2)
  else
  some 0
  else
  if decide (n'.Ab = 22) then
  if (!(decide (n'.Ac = ([116, 114, 117, 101] : Str)) || decide (n'.Ac = ([102, 97, 108, 115, 101] : Str)))) then
  some (-2)
  else
  some 0
  else
  if decide (n'.Ab = 23) then
  (Jb6 n n'.Ac).bind fun aT =>
  if (!aT) then
  some (-2)
  else
  some 0
  else
  if decide (n'.Ab = 24) then
  (Jb6 n n'.Ac).bind fun aU =>
  if (!aU) then
  some (-2)
  else
  some (-1)
  else
  some (-2)
theorem JdL {n : Nat} {n' : Ja} {aa : Option Addr} {ab : Nat} {K : Hp} {r : Int}
    (hm : JcC n n' = some r) (hX : LiC Ja.R K aa ab 4 n'.Aa ∧ GG K) :
    Fn Tryz.prog 242 [.agg #[.int .i64 n'.Ab, str n'.Ac, .slice aa n'.Aa.length ab, .int .i64 n'.Ad]] K [] (fun v K' H' => v = .int .i64 r ∧ H' = []) := by
 obtain ⟨ae, hG⟩ := hX
 refine Fn.enter Tryz.func242 Tryz.call242 rfl fun F => ?_
 unfold JcC at hm
 refine qaq ?_
 intro b1
 refine fa rfl (ro (ld r0 rfl rfl (qap (fa rfl (ro (ld r0 rfl rfl ?_))))))
 refine qal rfl ?_
 refine qaf (cs rfl rfl hm ?_ ?_) <;> intro aW hm
 refine qac rfl (ct aW (qau ?_))
 refine cs rfl rfl hm ?_ ?_ <;> intro aU hm
 exact eE hm
 exact eE hm
 refine qaf (cs rfl rfl hm ?_ ?_) <;> intro aW hm
 refine qac rfl (ct aW (qau ?_))
 refine cs rfl rfl hm ?_ ?_ <;> intro aU hm
 exact eE hm
 exact eE hm
 refine qaf (cs rfl rfl hm ?_ ?_) <;> intro aW hm
 refine qac rfl (ct aW (qau ?_))
 refine cs rfl rfl hm ?_ ?_ <;> intro aU hm
 exact eE hm
 exact eE hm
 refine qaf (cs rfl rfl hm ?_ ?_) <;> intro aW hm
 refine qac rfl (ct aW (qau ?_))
 refine cs rfl rfl hm ?_ ?_ <;> intro aU hm
 exact eE hm
 exact eE hm
 refine qaf (cs rfl rfl hm ?_ ?_) <;> intro aW hm
 refine qau ?_
 refine cs rfl rfl hm ?_ ?_ <;> intro aU hm
 exact eE hm
 exact eE hm
 refine qaf (cs rfl rfl hm ?_ ?_) <;> intro bb hm
 refine qau ?_
 refine cs rfl rfl hm ?_ ?_ <;> intro aU hm
 exact eE hm
 exact eE hm
 refine qaf (cs rfl rfl hm ?_ ?_) <;> intro br hm
 refine qaj rfl ?_
 refine fa rfl (ro (ld r0 rfl rfl ?_))
 refine cb hm fun bc a6 hm => cg0 (Jb3 a6 :) ?_
 obtain ⟨bh, aV, hm⟩ := bnd hm
 refine cS aV (fun aT aV => ?_) fun aT aV => ?_
 refine ct aT (ct aT (ct aT (qau (qac rfl (cF ?_)))))
 replace hm := qba (qc5 (si aV).symm) hm
 exact eE hm
 refine fa rfl (cf aT (ro (ld r0 rfl rfl (cf aT ?_))))
 refine cb aV fun bp aY aV => cg0 (Jb3 aY :) ?_
 refine cf aT (qau (qac rfl ?_))
 refine qae ?_ ?_ <;> intro aU
 replace hm := ift (qef ((si aV).symm.trans (qjb aU))) hm
 exact eE hm
 replace hm := qba (qc5 ((si aV).symm.trans (qhc aU))) hm
 exact eE hm
 refine qaf (cs rfl rfl hm ?_ ?_) <;> intro bt hm
 refine fa rfl (ro (ld r0 rfl rfl ?_))
 refine cb hm fun bf aZ hm => cg0 (JdW aZ :) ?_
 refine qau ?_
 refine cs rfl rfl hm ?_ ?_ <;> intro aU hm
 exact eE hm
 exact eE hm
 refine qaf (cs rfl rfl hm ?_ ?_) <;> intro bl hm
 refine fa rfl (ro (ld r0 rfl rfl ?_))
 refine cb hm fun bg ba hm => cg0 (JbT ba :) ?_
 refine qau ?_
 refine cs rfl rfl hm ?_ ?_ <;> intro aU hm
 exact eE hm
 exact eE hm
 refine qaf (cs rfl rfl hm ?_ ?_) <;> intro bm hm
 refine qaj rfl ?_
 refine fa rfl (ro (ld r0 rfl rfl (qap ?_)))
 refine qae ?_ ?_ <;> intro aS
 refine ct aS (ct aS (ct aS (qau (qac rfl (cF ?_)))))
 replace hm := qba (qc5 (qbq aS)) hm
 exact eE hm
 refine fa rfl (cf aS (ro (ld r0 rfl rfl (cf aS (qap (cf aS (qau (qac rfl ?_))))))))
 refine qae ?_ ?_ <;> intro aU
 replace hm := ift (qef (qc0 aS (qjb aU))) hm
 exact eE hm
 replace hm := qba (qc5 (qfr aS (qhc aU))) hm
 exact eE hm
 refine qaf (cs rfl rfl hm ?_ ?_) <;> intro bd hm
 refine fa rfl (ro (ld r0 rfl rfl ?_))
 refine cb hm fun bn a8 hm => cgx (JcB a8 :) ?_
 refine qau ?_
 refine cs rfl rfl hm ?_ ?_ <;> intro aU hm
 exact eE hm
 exact eE hm
 refine qaf (cs rfl rfl hm ?_ ?_) <;> intro bj hm
 refine fa rfl (ro (ld r0 rfl rfl ?_))
 refine cb hm fun bo aX hm => cgx (JcB aX :) ?_
 refine qau ?_
 refine cs rfl rfl hm ?_ ?_ <;> intro aU hm
 exact eE hm
 exact eE hm
 exact eE hm

def JW (rec_ : (Ja → Option (Bool))) : List Ja → Nat → Option (Fl (Bool) (Unit))
  | [], _ => some (Fl.go ())
  | e0 :: aT, i0 =>
    (rec_ e0).bind fun aS =>
    if (!aS) then
    some (Fl.ret false)
    else
    JW rec_ aT (i0 + 1)
def JL : Nat → Ja → Option (Bool)
  | 0, _ => none
  | n + 1, n' =>
    (JcC n n').bind fun x7 =>
    if decide (x7 = (-2)) then
    some false
    else
    if (decide (x7 ≥ 0) && decide ((n'.Aa.length : Int) ≠ x7)) then
    some false
    else
    (chk (n'.Aa.length ≤ qbh)).bind fun _ =>
    (JW (JL n) n'.Aa 0).bind fun s0 => s0.el some fun t0 =>
    some true
theorem JX : ∀ {n : Nat} {n' : Ja} {aa : Option Addr} {ab : Nat} {K : Hp} {r : Bool}
    (hm : JL n n' = some r) (hX : LiC Ja.R K aa ab 4 n'.Aa ∧ GG K),
    Fn Tryz.prog 223 [.agg #[.int .i64 n'.Ab, str n'.Ac, .slice aa n'.Aa.length ab, .int .i64 n'.Ad]] K [] (fun v K' H' => v = .bool r ∧ H' = []) := by
 intro n
 induction n with
 | zero =>
   intro n' aa ab K r hm hX
   rw [JL.eq_1] at hm; cases hm
 | succ n ih =>
   intro n' aa ab K r hm hX
   obtain ⟨ae, hG⟩ := hX
   refine Fn.enter Tryz.func223 Tryz.call223 rfl fun F => ?_
   rw [JL.eq_2] at hm
   refine qaq ?_
   intro b1
   refine ro (qab r0 rfl (nl rfl) ?_)
   refine cb hm fun x7 q7 hm => cgx (JdL q7 :) ?_
   refine qaj rfl ?_
   refine qaf ?_
   refine cS hm (fun aT hm => ?_) fun aT hm => ?_
   refine ct aT (ct aT (ct aT (ct aT (qac rfl (cT ?_)))))
   exact eE hm
   refine cf aT (cf aT ?_)
   refine qae ?_ ?_ <;> intro aS
   refine fa rfl (ct aS (ro (ld r0 rfl rfl (ct aS (ro (qak rfl (ct aS (ct aS (qa8 ?_)))))))))
   refine cf aT (ct aS (cf aT (qac rfl ?_)))
   refine qae ?_ ?_ <;> intro bg
   replace hm := ift (qa5 aS bg) hm
   exact eE hm
   replace hm := qba (qbs aS bg) hm
   refine fa rfl (ro (ld r0 rfl rfl (ro (qak rfl ?_))))
   obtain ⟨bb, hm⟩ := qaw hm
   obtain ⟨s0, aU, hm⟩ := bnd hm
   refine lD (σ := (Unit)) ([2,5] ++ rg 24 8) [0, 1] (fun i0 => [(24, .int .i64 (i0 : Int))]) (fun _ => []) (fun _ => []) (fun _ => True) (fun i0 _ => JW (JL n) (n'.Aa.drop i0) i0 = some s0) (fun t0 => s0 = Fl.go t0) (fun i0 => n'.Aa.length - i0) 0 () aU (And.intro qe (And.intro ?_ ?_))
   clear aU
   rintro i0 _ _ aU j0
   conv at aU => whnf
   refine qac rfl ?_
   refine qae ?_ ?_ <;> intro w0
   obtain ⟨e0, aV, bf⟩ := ltx w0
   rw [bf, JW.eq_2] at aU
   refine qal rfl ?_
   refine RStep.ofN (qad rfl rfl (qc2 ae.rd aV) (nn _) (qbo aV) ?_)
   obtain ⟨bc, ba, aW, aY, aX⟩ := LiR.get ae.rd aV
   obtain ⟨a6, a8, rfl, aZ⟩ := Ja.out aX
   refine ro (qan i0 _ aW rfl aY rfl ?_)
   refine qai rfl fun b5 => ?_
   refine qaa r0 rfl ⟨rfl, rfl, (nl rfl), ?_⟩
   refine ro (qab r0 rfl (nl rfl) ?_)
   refine cb aU fun bj bd aU => cgx (ih bd :) ?_
   refine qau ?_
   refine cs rfl rfl aU ?_ ?_ <;> intro bh aU
   exact eE (er aU hm)
   refine qam (qbu aV bb) ?_
   exact eR aU (_, ())
   rw [lty w0, JW.eq_1] at aU
   refine cT ?_
   exact eM aU _
   rintro t0 _ rfl j0
   replace hm := elg hm
   exact eE hm
   refine cf aS (cf aS (cf aS (cf aS (cf aT (cf aS (cf aT (qac rfl ?_)))))))
   refine cF ?_
   replace hm := qba (qav aS) hm
   refine fa rfl (ro (ld r0 rfl rfl (ro (qak rfl ?_))))
   obtain ⟨bb, hm⟩ := qaw hm
   obtain ⟨s0, aU, hm⟩ := bnd hm
   refine lD (σ := (Unit)) ([2,5] ++ rg 24 8) [0, 1] (fun i0 => [(24, .int .i64 (i0 : Int))]) (fun _ => []) (fun _ => []) (fun _ => True) (fun i0 _ => JW (JL n) (n'.Aa.drop i0) i0 = some s0) (fun t0 => s0 = Fl.go t0) (fun i0 => n'.Aa.length - i0) 0 () aU (And.intro qe (And.intro ?_ ?_))
   clear aU
   rintro i0 _ _ aU j0
   conv at aU => whnf
   refine qac rfl ?_
   refine qae ?_ ?_ <;> intro w0
   obtain ⟨e0, aV, bf⟩ := ltx w0
   rw [bf, JW.eq_2] at aU
   refine qal rfl ?_
   refine RStep.ofN (qad rfl rfl (qc2 ae.rd aV) (nn _) (qbo aV) ?_)
   obtain ⟨bc, ba, aW, aY, aX⟩ := LiR.get ae.rd aV
   obtain ⟨a6, a8, rfl, aZ⟩ := Ja.out aX
   refine ro (qan i0 _ aW rfl aY rfl ?_)
   refine qai rfl fun b5 => ?_
   refine qaa r0 rfl ⟨rfl, rfl, (nl rfl), ?_⟩
   refine ro (qab r0 rfl (nl rfl) ?_)
   refine cb aU fun bj bd aU => cgx (ih bd :) ?_
   refine qau ?_
   refine cs rfl rfl aU ?_ ?_ <;> intro bh aU
   exact eE (er aU hm)
   refine qam (qbu aV bb) ?_
   exact eR aU (_, ())
   rw [lty w0, JW.eq_1] at aU
   refine cT ?_
   exact eM aU _
   rintro t0 _ rfl j0
   replace hm := elg hm
   exact eE hm

def JaY (aB : (Ja → Option (Bool))) : List Ja → Nat → Option (Fl (Bool) (Unit))
  | [], _ => some (Fl.go ())
  | e0 :: aS, i0 =>
    (aB e0).bind fun aT =>
    if (!aT) then
    some (Fl.ret false)
    else
    JaY aB aS (i0 + 1)
def Jcb (aB : (Ja → Option (Bool))) (n : Nat) (n' : Ja) : Option (Bool) :=
  if (decide (n'.Ab ≠ 12) || decide (n'.Ac ≠ ([] : Str))) then
  some false
  else
  (chk (n'.Aa.length ≤ qbh)).bind fun _ =>
  (JaY aB n'.Aa 0).bind fun s0 => s0.el some fun t0 =>
  some true
theorem JcZ {aB : (Ja → Option (Bool))} (ihrec2_0 : ∀ {n' : Ja} {aa : Option Addr} {ab : Nat} {K : Hp} {r : Bool} (hm : aB n' = some r) (hX : LiC Ja.R K aa ab 4 n'.Aa ∧ GG K), Fn Tryz.prog 190 [.agg #[.int .i64 n'.Ab, str n'.Ac, .slice aa n'.Aa.length ab, .int .i64 n'.Ad]] K [] (fun v K' H' => v = .bool r ∧ H' = [])) {n : Nat} {n' : Ja} {aa : Option Addr} {ab : Nat} {K : Hp} {r : Bool}
    (hm : Jcb aB n n' = some r) (hX : LiC Ja.R K aa ab 4 n'.Aa ∧ GG K) :
    Fn Tryz.prog 224 [.agg #[.int .i64 n'.Ab, str n'.Ac, .slice aa n'.Aa.length ab, .int .i64 n'.Ad]] K [] (fun v K' H' => v = .bool r ∧ H' = []) := by
 obtain ⟨ae, hG⟩ := hX
 refine Fn.enter Tryz.func224 Tryz.call224 rfl fun F => ?_
 unfold Jcb at hm
 refine qaq ?_
 intro b1
 refine jR (σ := Unit) (rg 5 8) (fun _ => [(12, .bool (decide (n'.Ab ≠ 12) || decide (n'.Ac ≠ ([] : Str))))]) (fun bc => True) ?_ ?_
 refine qaj rfl ?_
 refine fa rfl (ro (ld r0 rfl rfl (qa8 ?_)))
 refine qae ?_ ?_ <;> intro aS
 refine ct aS (ct aS (ct aS ?_))
 exact eMt () ⟨bq (((qbq aS)).symm), trivial⟩
 refine fa rfl (cf aS (ro (ld r0 rfl rfl (cf aS (qbn (cf aS ?_))))))
 exact eMt () ⟨bq (qgx (b := decide (n'.Ac ≠ ([] : Str))) aS), trivial⟩
 rintro _ _ bg
 refine cs rfl rfl hm ?_ ?_ <;> intro bl hm
 exact eE hm
 refine fa rfl (ro (ld r0 rfl rfl (ro (qak rfl ?_))))
 obtain ⟨a8, hm⟩ := qaw hm
 obtain ⟨s0, aT, hm⟩ := bnd hm
 refine lD (σ := (Unit)) ([2,4] ++ rg 16 8) [0, 1] (fun i0 => [(16, .int .i64 (i0 : Int))]) (fun _ => []) (fun _ => []) (fun _ => True) (fun i0 _ => JaY aB (n'.Aa.drop i0) i0 = some s0) (fun t0 => s0 = Fl.go t0) (fun i0 => n'.Aa.length - i0) 0 () aT (And.intro qe (And.intro ?_ ?_))
 clear aT
 rintro i0 _ _ aT j0
 conv at aT => whnf
 refine qac rfl ?_
 refine qae ?_ ?_ <;> intro w0
 obtain ⟨e0, aU, bf⟩ := ltx w0
 rw [bf, JaY.eq_2] at aT
 refine qal rfl ?_
 refine RStep.ofN (qad rfl rfl (qc2 ae.rd aU) (nn _) (qbo aU) ?_)
 obtain ⟨ba, bb, aX, aW, aV⟩ := LiR.get ae.rd aU
 obtain ⟨aY, a6, rfl, aZ⟩ := Ja.out aV
 refine ro (qan i0 _ aX rfl aW rfl ?_)
 refine qai rfl fun b4 => ?_
 refine qaa r0 rfl ⟨rfl, rfl, (nl rfl), ?_⟩
 refine ro (qab r0 rfl (nl rfl) ?_)
 refine cb aT fun bh bd aT => cgx (ihrec2_0 bd :) ?_
 refine qau ?_
 refine cs rfl rfl aT ?_ ?_ <;> intro bj aT
 exact eE (er aT hm)
 refine qam (qbu aU a8) ?_
 exact eR aT (_, ())
 rw [lty w0, JaY.eq_1] at aT
 refine cT ?_
 exact eM aT _
 rintro t0 _ rfl j0
 replace hm := elg hm
 exact eE hm
