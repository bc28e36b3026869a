/- Functions of the program: mirrors, and that a call returns what the mirror says. Printed by gen.py. -/
import Derived.Test.YtiaaooopklhobaaGreatDoorG1
set_option linter.unusedVariables false
set_option linter.unusedSimpArgs false
open Go Go.SL Go.Proofs
noncomputable section
set_option maxRecDepth 1000000
set_option maxHeartbeats 8000000
def Jbj (p : Jb) : Option (Str × Jb) :=
  (JH p).bind fun x4 =>
  if decide (x4.Ab ≠ 3) then
  (J1 p).bind fun x8 =>
  some (([] : Str), x8)
  else
  (Jo p).bind fun aS =>
  some (aS.1.Ac, aS.2)
theorem Jcp {p : Jb} {b0 : Nat} {aa : Option Addr} {ab : Nat} {K : Hp} {r : Str × Jb}
    (hm : Jbj p = some r) (ae : (0 < p.list.length → Has aa)) :
    Fn Tryz.prog 210 [.pointer (some ⟨b0, 0, none⟩)] K [Cells b0 163 [.slice aa p.list.length ab, .int .i64 p.atZ, .int .i64 p.line], qat Je.enc aa 166 4 ab p.list] (fun v K' H' => ∃ ar_0 : Option Addr, ∃ cr_0 : Nat, v = str r.1 ∧ (0 < r.2.list.length → Has ar_0) ∧ H' = [Cells b0 163 [.slice ar_0 r.2.list.length cr_0, .int .i64 r.2.atZ, .int .i64 r.2.line], qat Je.enc ar_0 166 4 cr_0 r.2.list]) := by
 refine Fn.enter Tryz.func210 Tryz.call210 rfl fun F => ?_
 unfold Jbj at hm
 refine cb hm fun x4 q4 hm => cgx (JG q4 :) ?_
 refine Jdn rfl rfl rfl rfl ?_
 refine qa3 (cs rfl rfl hm ?_ ?_) <;> intro w6 hm
 refine cb hm fun x8 q8 hm => ckx (J4 q8 :) ?_
 rintro _ _ _ ⟨aW, aX, rfl, aV, rfl⟩
 exact eE hm
 refine cb hm fun aZ aY hm => ckx (Jl aY :) ?_
 rintro _ _ _ ⟨aU, aT, rfl, aS, rfl⟩
 refine Jdn rfl rfl rfl rfl ?_
 exact eE hm

def JaM (aq : (Jb → Option ((List Ja) × Jb))) (n : Nat) (p : Jb) : Option (Ja × Jb) :=
  (JH p).bind fun x5 =>
  (JF p ([123] : Str)).bind fun x9 =>
  (Jt x9).bind fun aU =>
  if aU then
  (aq x9).bind fun aS =>
  (JF aS.2 ([125] : Str)).bind fun aT =>
  some ((⟨12, ([] : Str), aS.1, x5.Ad⟩ : Ja), aT)
  else
  some ((⟨12, ([] : Str), [], x5.Ad⟩ : Ja), x9)
theorem Jbm {aq : (Jb → Option ((List Ja) × Jb))} (ihrec1_0 : ∀ {p : Jb} {b0 : Nat} {aa : Option Addr} {ab : Nat} {K : Hp} {r : (List Ja) × Jb} (hm : aq p = some r) (hX : (0 < p.list.length → Has aa) ∧ GG K), Fn Tryz.prog 97 [.pointer (some ⟨b0, 0, none⟩)] K [Cells b0 163 [.slice aa p.list.length ab, .int .i64 p.atZ, .int .i64 p.line], qat Je.enc aa 166 4 ab p.list] (fun v K' H' => ∃ ar_0 : Option Addr, ∃ cr_0 : Nat, ∃ sr_0 : List (List Value), ∃ ar_1 : Option Addr, ∃ cr_1 : Nat, v = .slice ar_0 r.1.length cr_0 ∧ (0 < r.1.length → Has ar_0) ∧ LR Ja.R K' sr_0 r.1 ∧ (0 < r.2.list.length → Has ar_1) ∧ H' = [OwnA ar_0 117 4 cr_0 sr_0, Cells b0 163 [.slice ar_1 r.2.list.length cr_1, .int .i64 r.2.atZ, .int .i64 r.2.line], qat Je.enc ar_1 166 4 cr_1 r.2.list])) {n : Nat} {p : Jb} {b0 : Nat} {aa : Option Addr} {ab : Nat} {K : Hp} {r : Ja × Jb}
    (hm : JaM aq n p = some r) (hX : (0 < p.list.length → Has aa) ∧ GG K) :
    Fn Tryz.prog 237 [.pointer (some ⟨b0, 0, none⟩)] K [Cells b0 163 [.slice aa p.list.length ab, .int .i64 p.atZ, .int .i64 p.line], qat Je.enc aa 166 4 ab p.list] (fun v K' H' => ∃ ar_0 : Option Addr, ∃ cr_0 : Nat, ∃ sr_0 : List (List Value), ∃ ar_1 : Option Addr, ∃ cr_1 : Nat, v = .agg #[.int .i64 r.1.Ab, str r.1.Ac, .slice ar_0 r.1.Aa.length cr_0, .int .i64 r.1.Ad] ∧ (0 < r.1.Aa.length → Has ar_0) ∧ LR Ja.R K' sr_0 r.1.Aa ∧ (0 < r.2.list.length → Has ar_1) ∧ H' = [OwnA ar_0 117 4 cr_0 sr_0, Cells b0 163 [.slice ar_1 r.2.list.length cr_1, .int .i64 r.2.atZ, .int .i64 r.2.line], qat Je.enc ar_1 166 4 cr_1 r.2.list]) := by
 obtain ⟨ae, hG⟩ := hX
 refine Fn.enter Tryz.func237 Tryz.call237 rfl fun F => ?_
 unfold JaM at hm
 refine qah rfl fun b2 => ?_
 refine cb hm fun x5 q5 hm => cgx (JG q5 :) ?_
 refine Jdn rfl rfl rfl rfl ?_
 refine qaf rfl rfl (cT (cT ?_))
 refine qah rfl fun b3 => ?_
 refine qaa r0 rfl ⟨rfl, rfl, (nl rfl), ?_⟩
 refine cb hm fun x9 q9 hm => ckx (JD q9 :) ?_
 rintro _ _ _ ⟨bd, bb, rfl, bg, rfl⟩
 refine cb hm fun bl bc hm => cgx (Js bc :) ?_
 refine cs rfl rfl hm ?_ ?_ <;> intro bm hm
 refine cb hm fun bn bf hm => cfx (ihrec1_0 bf :) ?_
 rintro _ bj _ bo ⟨ba, a6, aS, aV, aU, rfl, aW, aZ, aT, rfl⟩
 refine fa rfl ?_
 refine qaa r3 rfl ⟨rfl, rfl, (nl rfl), ?_⟩
 refine cb hm fun bp bh hm => ckx (JD bh :) ?_
 rintro _ _ _ ⟨aX, aY, rfl, a8, rfl⟩
 refine ro (qab r2 rfl (nl rfl) ?_)
 refine qaa r4 rfl ⟨rfl, rfl, (nl rfl), ?_⟩
 exact ro (qab r0 rfl (nl rfl) (eE hm))
 refine ro (qab r2 rfl (nl rfl) ?_)
 refine qaa r3 rfl ⟨rfl, rfl, (nl rfl), ?_⟩
 refine ro (qab r0 rfl (nl rfl) ?_)
 refine qch (fun _ : Ja => []) 117 4 ?_
 exact eE hm

def Jam (aq : (Jb → Option ((List Ja) × Jb))) : Nat → Jb → Int → Option (Ja × Jb)
  | 0, _, _ => none
  | n + 1, p, line =>
    (J2 n p).bind fun al =>
    (chk ([al.1].length ≤ lim)).bind fun _ =>
    (Jt al.2).bind fun a8 =>
    if a8 then
    (JaM aq n al.2).bind fun aS =>
    (chk ([al.1].length + [aS.1].length ≤ lim)).bind fun _ =>
    (Jt aS.2).bind fun aX =>
    (if (!aX) then some true else (Jy aS.2 1 ([101, 108, 115, 101] : Str)).bind fun a6 =>
    some (!a6)).bind fun aY =>
    if aY then
    some ((⟨2, ([] : Str), ([al.1] ++ [aS.1]), line⟩ : Ja), aS.2)
    else
    (Jo aS.2).bind fun aU =>
    (Jy aU.2 1 ([105, 102] : Str)).bind fun aZ =>
    if aZ then
    (Jo aU.2).bind fun aW =>
    ((Jam aq n) aW.2 aW.1.Ad).bind fun aT =>
    (chk (([al.1] ++ [aS.1]).length + [aT.1].length ≤ lim)).bind fun _ =>
    some ((⟨2, ([] : Str), (([al.1] ++ [aS.1]) ++ [aT.1]), line⟩ : Ja), aT.2)
    else
    (JaM aq n aU.2).bind fun aV =>
    (chk (([al.1] ++ [aS.1]).length + [aV.1].length ≤ lim)).bind fun _ =>
    some ((⟨2, ([] : Str), (([al.1] ++ [aS.1]) ++ [aV.1]), line⟩ : Ja), aV.2)
    else
    (Jt al.2).bind fun aX =>
    (if (!aX) then some true else (Jy al.2 1 ([101, 108, 115, 101] : Str)).bind fun a6 =>
    some (!a6)).bind fun aY =>
    if aY then
    some ((⟨2, ([] : Str), [al.1], line⟩ : Ja), al.2)
    else
    (Jo al.2).bind fun aU =>
    (Jy aU.2 1 ([105, 102] : Str)).bind fun aZ =>
    if aZ then
    (Jo aU.2).bind fun aW =>
    ((Jam aq n) aW.2 aW.1.Ad).bind fun aT =>
    (chk ([al.1].length + [aT.1].length ≤ lim)).bind fun _ =>
    some ((⟨2, ([] : Str), ([al.1] ++ [aT.1]), line⟩ : Ja), aT.2)
    else
    (JaM aq n aU.2).bind fun aV =>
    (chk ([al.1].length + [aV.1].length ≤ lim)).bind fun _ =>
    some ((⟨2, ([] : Str), ([al.1] ++ [aV.1]), line⟩ : Ja), aV.2)
theorem Jda {aq : (Jb → Option ((List Ja) × Jb))} (ihrec1_0 : ∀ {p : Jb} {b0 : Nat} {aa : Option Addr} {ab : Nat} {K : Hp} {r : (List Ja) × Jb} (hm : aq p = some r) (hX : (0 < p.list.length → Has aa) ∧ GG K), Fn Tryz.prog 97 [.pointer (some ⟨b0, 0, none⟩)] K [Cells b0 163 [.slice aa p.list.length ab, .int .i64 p.atZ, .int .i64 p.line], qat Je.enc aa 166 4 ab p.list] (fun v K' H' => ∃ ar_0 : Option Addr, ∃ cr_0 : Nat, ∃ sr_0 : List (List Value), ∃ ar_1 : Option Addr, ∃ cr_1 : Nat, v = .slice ar_0 r.1.length cr_0 ∧ (0 < r.1.length → Has ar_0) ∧ LR Ja.R K' sr_0 r.1 ∧ (0 < r.2.list.length → Has ar_1) ∧ H' = [OwnA ar_0 117 4 cr_0 sr_0, Cells b0 163 [.slice ar_1 r.2.list.length cr_1, .int .i64 r.2.atZ, .int .i64 r.2.line], qat Je.enc ar_1 166 4 cr_1 r.2.list])) : ∀ {n : Nat} {p : Jb} {line : Int} {b0 : Nat} {aa : Option Addr} {ab : Nat} {K : Hp} {r : Ja × Jb}
    (hm : Jam aq n p line = some r) (hX : (0 < p.list.length → Has aa) ∧ GG K),
    Fn Tryz.prog 207 [.pointer (some ⟨b0, 0, none⟩), .int .i64 line] K [Cells b0 163 [.slice aa p.list.length ab, .int .i64 p.atZ, .int .i64 p.line], qat Je.enc aa 166 4 ab p.list] (fun v K' H' => ∃ ar_0 : Option Addr, ∃ cr_0 : Nat, ∃ sr_0 : List (List Value), ∃ ar_1 : Option Addr, ∃ cr_1 : Nat, v = .agg #[.int .i64 r.1.Ab, str r.1.Ac, .slice ar_0 r.1.Aa.length cr_0, .int .i64 r.1.Ad] ∧ (0 < r.1.Aa.length → Has ar_0) ∧ LR Ja.R K' sr_0 r.1.Aa ∧ (0 < r.2.list.length → Has ar_1) ∧ H' = [OwnA ar_0 117 4 cr_0 sr_0, Cells b0 163 [.slice ar_1 r.2.list.length cr_1, .int .i64 r.2.atZ, .int .i64 r.2.line], qat Je.enc ar_1 166 4 cr_1 r.2.list]) := by
 intro n
 induction n with
 | zero =>
   intro p line b0 aa ab K r hm hX
   rw [Jam.eq_1] at hm; cases hm
 | succ n ih =>
   intro p line b0 aa ab K r hm hX
   obtain ⟨ae, hG⟩ := hX
   refine Fn.enter Tryz.func207 Tryz.call207 rfl fun F => ?_
   rw [Jam.eq_2] at hm
   refine qah rfl fun b4 => ?_
   refine qaf rfl rfl (cT (cT ?_))
   refine qah rfl fun b5 => ?_
   refine qaa r0 rfl ⟨rfl, rfl, (nl rfl), ?_⟩
   refine qa1 ⟨⟨[], false⟩, _, [(_, _)], []⟩ 5 rfl (by kernel_rfl) ⟨Hp.Le.refl _, (pf rfl), ci0⟩ ?_
   refine fa rfl (qao m0 rfl rfl ?_)
   refine cb hm fun al cJ hm => cfx (Jbu cJ :) ?_
   rintro _ da _ cU ⟨bd, bb, cu, cj, co, rfl, cm, bM, cz, rfl⟩
   refine qk (sc [3] rfl) ?_
   refine qj5 Ja.R_ok r0 bM fun bS bo bf => ?_
   refine qi3 (R := Ja.R) (len := 1) (l := [al.1]) (css := [[.int .i64 al.1.Ab, str al.1.Ac, .slice bd al.1.Aa.length bb, .int .i64 al.1.Ad]]) (cl := [.int .i64 al.1.Ab, str al.1.Ac, .slice bd al.1.Aa.length bb, .int .i64 al.1.Ad]) Ja.R_ok qbz rfl rfl (LR.snoc LR.nil (Ja.of (x := al.1) ⟨bd, bb, rfl, bf⟩)) rfl rfl rfl ?_ fun db => ?_
   · conv => whnf
     refine cT ?_
     first | done | rfl
   refine ⟨⟨(cU.trans bo), (sc [3] rfl), ci0⟩, ?_⟩
   obtain ⟨cC, hm⟩ := qay hm
   refine qpa (R := Ja.R) qbz (qc8 rfl r0 rfl Ja.R_ok (show LR Ja.R _ [[.int .i64 al.1.Ab, str al.1.Ac, .slice bd al.1.Aa.length bb, .int .i64 al.1.Ad]] [al.1] from (LR.snoc LR.nil (Ja.of (x := al.1) ⟨bd, bb, rfl, bf⟩)))) (show LR Ja.R _ [[.int .i64 al.1.Ab, str al.1.Ac, .slice bd al.1.Aa.length bb, .int .i64 al.1.Ad]] [al.1] from (LR.snoc LR.nil (Ja.of (x := al.1) ⟨bd, bb, rfl, bf⟩))) cC ?_
   intro de dc dl r_14 di
   refine ⟨⟨Hp.emp_le _, (pf rfl), ci0⟩, ?_⟩
   refine fa rfl ?_
   refine qaa r4 rfl ⟨rfl, rfl, (nl rfl), ?_⟩
   refine ⟨⟨Hp.emp_le _, (pf rfl), ci0⟩, ?_⟩
   refine cb hm fun dg cZ hm => cgx (Js cZ :) ?_
   refine cs rfl rfl hm ?_ ?_ <;> intro dk hm
   refine qa1 ⟨⟨[], false⟩, _, [(_, _)], []⟩ 5 rfl (by kernel_rfl) ⟨Hp.Le.refl _, (sc [2] rfl), ci0⟩ ?_
   refine fa rfl (qao m0 rfl rfl ?_)
   refine cb hm fun bj cK hm => cfx (Jbm ihrec1_0 cK :) ?_
   rintro _ dh _ cy ⟨bc, bh, cw, cp, cr, rfl, cq, bz, cn, rfl⟩
   refine qk (sc [3] rfl) ?_
   refine qj5 Ja.R_ok r0 bz fun bG bl bg => ?_
   refine qi3 (R := Ja.R) (len := 1) (l := [bj.1]) (css := [[.int .i64 bj.1.Ab, str bj.1.Ac, .slice bc bj.1.Aa.length bh, .int .i64 bj.1.Ad]]) (cl := [.int .i64 bj.1.Ab, str bj.1.Ac, .slice bc bj.1.Aa.length bh, .int .i64 bj.1.Ad]) Ja.R_ok qbz rfl rfl (LR.snoc LR.nil (Ja.of (x := bj.1) ⟨bc, bh, rfl, bg⟩)) rfl rfl rfl ?_ fun c9 => ?_
   · conv => whnf
     refine cT ?_
     first | done | rfl
   refine ⟨⟨(cy.trans bl), (sc [3] rfl), ci0⟩, ?_⟩
   obtain ⟨cN, hm⟩ := qay hm
   refine qnl r4 (LR.mono Ja.R_ok (cy.trans bl) r_14) rfl qbz (qc8 rfl r0 rfl Ja.R_ok (show LR Ja.R _ [[.int .i64 bj.1.Ab, str bj.1.Ac, .slice bc bj.1.Aa.length bh, .int .i64 bj.1.Ad]] [bj.1] from (LR.snoc LR.nil (Ja.of (x := bj.1) ⟨bc, bh, rfl, bg⟩)))) (show LR Ja.R _ [[.int .i64 bj.1.Ab, str bj.1.Ac, .slice bc bj.1.Aa.length bh, .int .i64 bj.1.Ad]] [bj.1] from (LR.snoc LR.nil (Ja.of (x := bj.1) ⟨bc, bh, rfl, bg⟩))) cN ?_
   intro dj dm dn r_23 df
   refine ⟨⟨Hp.emp_le _, (pf rfl), ci0⟩, ?_⟩
   refine fa rfl ?_
   refine qaa r4 rfl ⟨rfl, rfl, (nl rfl), ?_⟩
   refine ⟨⟨Hp.emp_le _, (pf rfl), ci0⟩, ?_⟩
   refine qai rfl ?_
   refine cb hm fun cH cd hm => cgx (Js cd :) ?_
   refine qav ?_
   obtain ⟨cY, bm, hm⟩ := bnd hm
   refine cS bm (fun aW bm => ?_) fun aW bm => ?_
   refine ct aW (ct aW (ct aW (qac rfl (cT ?_))))
   replace hm := ift (si bm).symm hm
   refine ro (qab r2 rfl (nl rfl) ?_)
   refine qaa r6 rfl ⟨rfl, rfl, (nl rfl), ?_⟩
   exact ro (qab r0 rfl (nl rfl) (eE hm))
   refine cf aW ?_
   refine cb bm fun cV bV bm => cgx (Jv bV :) ?_
   refine cf aW (qav (cf aW (qac rfl ?_)))
   refine qae ?_ ?_ <;> intro bQ
   replace hm := ift ((si bm).symm.trans (qfh (qj4 bQ))) hm
   refine ro (qab r2 rfl (nl rfl) ?_)
   refine qaa r6 rfl ⟨rfl, rfl, (nl rfl), ?_⟩
   exact ro (qab r0 rfl (nl rfl) (eE hm))
   replace hm := qa9 ((si bm).symm.trans (qdj (qh0 bQ))) hm
   refine cb hm fun cI bU hm => ckx (Jl bU :) ?_
   rintro _ _ _ ⟨bP, bI, rfl, bB, rfl⟩
   refine cb hm fun c3 ce hm => cgx (Jv ce :) ?_
   refine cs rfl rfl hm ?_ ?_ <;> intro cW hm
   refine cb hm fun cQ bY hm => ckx (Jl bY :) ?_
   rintro _ _ _ ⟨bT, bA, rfl, bL, rfl⟩
   refine qah rfl fun b6 => ?_
   refine qaa r0 rfl ⟨rfl, rfl, (nl rfl), ?_⟩
   refine qa1 ⟨⟨[], false⟩, _, [(_, _), (_, _)], []⟩ 7 rfl (by kernel_rfl) ⟨Hp.Le.refl _, (sc [3,0] rfl), ci0⟩ ?_
   refine fa rfl (qao m0 rfl rfl (fa rfl (qao m1 rfl rfl ?_)))
   refine cb hm fun a6 bZ hm => cfx (ih bZ :) ?_
   rintro _ cR _ bO ⟨aS, aU, bR, bJ, bv, rfl, bK, bn, bF, rfl⟩
   refine qk (sc [4,3] rfl) ?_
   refine qj5 Ja.R_ok r0 bn fun bt ba aT => ?_
   refine qi3 (R := Ja.R) (len := 1) (l := [a6.1]) (css := [[.int .i64 a6.1.Ab, str a6.1.Ac, .slice aS a6.1.Aa.length aU, .int .i64 a6.1.Ad]]) (cl := [.int .i64 a6.1.Ab, str a6.1.Ac, .slice aS a6.1.Aa.length aU, .int .i64 a6.1.Ad]) Ja.R_ok qbz rfl rfl (LR.snoc LR.nil (Ja.of (x := a6.1) ⟨aS, aU, rfl, aT⟩)) rfl rfl rfl ?_ fun c4 => ?_
   · conv => whnf
     refine cT ?_
     first | done | rfl
   refine ⟨⟨(bO.trans ba), (sc [4,3] rfl), ci0⟩, ?_⟩
   obtain ⟨bW, hm⟩ := qay hm
   refine qnl r5 (LR.mono Ja.R_ok (bO.trans ba) r_23) rfl qbz (qc8 rfl r0 rfl Ja.R_ok (show LR Ja.R _ [[.int .i64 a6.1.Ab, str a6.1.Ac, .slice aS a6.1.Aa.length aU, .int .i64 a6.1.Ad]] [a6.1] from (LR.snoc LR.nil (Ja.of (x := a6.1) ⟨aS, aU, rfl, aT⟩)))) (show LR Ja.R _ [[.int .i64 a6.1.Ab, str a6.1.Ac, .slice aS a6.1.Aa.length aU, .int .i64 a6.1.Ad]] [a6.1] from (LR.snoc LR.nil (Ja.of (x := a6.1) ⟨aS, aU, rfl, aT⟩))) bW ?_
   intro cM cE c5 r_47 cG
   refine ⟨⟨Hp.emp_le _, (pf rfl), ci0⟩, ?_⟩
   refine fa rfl ?_
   refine qaa r5 rfl ⟨rfl, rfl, (nl rfl), ?_⟩
   refine ⟨⟨Hp.emp_le _, (pf rfl), ci0⟩, ?_⟩
   refine ro (qab r0 rfl (nl rfl) ?_)
   refine qaa r8 rfl ⟨rfl, rfl, (nl rfl), ?_⟩
   exact ro (qab r0 rfl (nl rfl) (eE hm))
   refine qa1 ⟨⟨[], false⟩, _, [(_, _)], []⟩ 5 rfl (by kernel_rfl) ⟨Hp.Le.refl _, (sc [2] rfl), ci0⟩ ?_
   refine fa rfl (qao m0 rfl rfl ?_)
   refine cb hm fun aZ bX hm => cfx (Jbm ihrec1_0 bX :) ?_
   rintro _ cL _ bu ⟨aV, aX, bC, bH, bN, rfl, bw, bp, bD, rfl⟩
   refine qk (sc [3] rfl) ?_
   refine qj5 Ja.R_ok r0 bp fun br a8 aY => ?_
   refine qi3 (R := Ja.R) (len := 1) (l := [aZ.1]) (css := [[.int .i64 aZ.1.Ab, str aZ.1.Ac, .slice aV aZ.1.Aa.length aX, .int .i64 aZ.1.Ad]]) (cl := [.int .i64 aZ.1.Ab, str aZ.1.Ac, .slice aV aZ.1.Aa.length aX, .int .i64 aZ.1.Ad]) Ja.R_ok qbz rfl rfl (LR.snoc LR.nil (Ja.of (x := aZ.1) ⟨aV, aX, rfl, aY⟩)) rfl rfl rfl ?_ fun c8 => ?_
   · conv => whnf
     refine cT ?_
     first | done | rfl
   refine ⟨⟨(bu.trans a8), (sc [3] rfl), ci0⟩, ?_⟩
   obtain ⟨ca, hm⟩ := qay hm
   refine qnl r4 (LR.mono Ja.R_ok (bu.trans a8) r_23) rfl qbz (qc8 rfl r0 rfl Ja.R_ok (show LR Ja.R _ [[.int .i64 aZ.1.Ab, str aZ.1.Ac, .slice aV aZ.1.Aa.length aX, .int .i64 aZ.1.Ad]] [aZ.1] from (LR.snoc LR.nil (Ja.of (x := aZ.1) ⟨aV, aX, rfl, aY⟩)))) (show LR Ja.R _ [[.int .i64 aZ.1.Ab, str aZ.1.Ac, .slice aV aZ.1.Aa.length aX, .int .i64 aZ.1.Ad]] [aZ.1] from (LR.snoc LR.nil (Ja.of (x := aZ.1) ⟨aV, aX, rfl, aY⟩))) ca ?_
   intro cP cO c6 r_55 cD
   refine ⟨⟨Hp.emp_le _, (pf rfl), ci0⟩, ?_⟩
   refine fa rfl ?_
   refine qaa r4 rfl ⟨rfl, rfl, (nl rfl), ?_⟩
   refine ⟨⟨Hp.emp_le _, (pf rfl), ci0⟩, ?_⟩
   refine ro (qab r0 rfl (nl rfl) ?_)
   refine qaa r7 rfl ⟨rfl, rfl, (nl rfl), ?_⟩
   exact ro (qab r0 rfl (nl rfl) (eE hm))
   refine qai rfl ?_
   refine cb hm fun cH cd hm => cgx (Js cd :) ?_
   refine qav ?_
   obtain ⟨cY, bm, hm⟩ := bnd hm
   refine cS bm (fun aW bm => ?_) fun aW bm => ?_
   refine ct aW (ct aW (ct aW (qac rfl (cT ?_))))
   replace hm := ift (si bm).symm hm
   refine ro (qab r2 rfl (nl rfl) ?_)
   refine qaa r5 rfl ⟨rfl, rfl, (nl rfl), ?_⟩
   exact ro (qab r0 rfl (nl rfl) (eE hm))
   refine cf aW ?_
   refine cb bm fun cV bV bm => cgx (Jv bV :) ?_
   refine cf aW (qav (cf aW (qac rfl ?_)))
   refine qae ?_ ?_ <;> intro bQ
   replace hm := ift ((si bm).symm.trans (qfh (qj4 bQ))) hm
   refine ro (qab r2 rfl (nl rfl) ?_)
   refine qaa r5 rfl ⟨rfl, rfl, (nl rfl), ?_⟩
   exact ro (qab r0 rfl (nl rfl) (eE hm))
   replace hm := qa9 ((si bm).symm.trans (qdj (qh0 bQ))) hm
   refine cb hm fun cI bU hm => ckx (Jl bU :) ?_
   rintro _ _ _ ⟨bP, bI, rfl, bB, rfl⟩
   refine cb hm fun c3 ce hm => cgx (Jv ce :) ?_
   refine cs rfl rfl hm ?_ ?_ <;> intro cW hm
   refine cb hm fun cQ bY hm => ckx (Jl bY :) ?_
   rintro _ _ _ ⟨bT, bA, rfl, bL, rfl⟩
   refine qah rfl fun b6 => ?_
   refine qaa r0 rfl ⟨rfl, rfl, (nl rfl), ?_⟩
   refine qa1 ⟨⟨[], false⟩, _, [(_, _), (_, _)], []⟩ 7 rfl (by kernel_rfl) ⟨Hp.Le.refl _, (sc [3,0] rfl), ci0⟩ ?_
   refine fa rfl (qao m0 rfl rfl (fa rfl (qao m1 rfl rfl ?_)))
   refine cb hm fun a6 bZ hm => cfx (ih bZ :) ?_
   rintro _ cR _ bO ⟨aS, aU, bR, bJ, bv, rfl, bK, bn, bF, rfl⟩
   refine qk (sc [4,3] rfl) ?_
   refine qj5 Ja.R_ok r0 bn fun bt ba aT => ?_
   refine qi3 (R := Ja.R) (len := 1) (l := [a6.1]) (css := [[.int .i64 a6.1.Ab, str a6.1.Ac, .slice aS a6.1.Aa.length aU, .int .i64 a6.1.Ad]]) (cl := [.int .i64 a6.1.Ab, str a6.1.Ac, .slice aS a6.1.Aa.length aU, .int .i64 a6.1.Ad]) Ja.R_ok qbz rfl rfl (LR.snoc LR.nil (Ja.of (x := a6.1) ⟨aS, aU, rfl, aT⟩)) rfl rfl rfl ?_ fun c4 => ?_
   · conv => whnf
     refine cT ?_
     first | done | rfl
   refine ⟨⟨(bO.trans ba), (sc [4,3] rfl), ci0⟩, ?_⟩
   obtain ⟨bW, hm⟩ := qay hm
   refine qnl r5 (LR.mono Ja.R_ok (bO.trans ba) r_14) rfl qbz (qc8 rfl r0 rfl Ja.R_ok (show LR Ja.R _ [[.int .i64 a6.1.Ab, str a6.1.Ac, .slice aS a6.1.Aa.length aU, .int .i64 a6.1.Ad]] [a6.1] from (LR.snoc LR.nil (Ja.of (x := a6.1) ⟨aS, aU, rfl, aT⟩)))) (show LR Ja.R _ [[.int .i64 a6.1.Ab, str a6.1.Ac, .slice aS a6.1.Aa.length aU, .int .i64 a6.1.Ad]] [a6.1] from (LR.snoc LR.nil (Ja.of (x := a6.1) ⟨aS, aU, rfl, aT⟩))) bW ?_
   intro cM cE c5 r_47 cG
   refine ⟨⟨Hp.emp_le _, (pf rfl), ci0⟩, ?_⟩
   refine fa rfl ?_
   refine qaa r5 rfl ⟨rfl, rfl, (nl rfl), ?_⟩
   refine ⟨⟨Hp.emp_le _, (pf rfl), ci0⟩, ?_⟩
   refine ro (qab r0 rfl (nl rfl) ?_)
   refine qaa r7 rfl ⟨rfl, rfl, (nl rfl), ?_⟩
   exact ro (qab r0 rfl (nl rfl) (eE hm))
   refine qa1 ⟨⟨[], false⟩, _, [(_, _)], []⟩ 5 rfl (by kernel_rfl) ⟨Hp.Le.refl _, (sc [2] rfl), ci0⟩ ?_
   refine fa rfl (qao m0 rfl rfl ?_)
   refine cb hm fun aZ bX hm => cfx (Jbm ihrec1_0 bX :) ?_
   rintro _ cL _ bu ⟨aV, aX, bC, bH, bN, rfl, bw, bp, bD, rfl⟩
   refine qk (sc [3] rfl) ?_
   refine qj5 Ja.R_ok r0 bp fun br a8 aY => ?_
   refine qi3 (R := Ja.R) (len := 1) (l := [aZ.1]) (css := [[.int .i64 aZ.1.Ab, str aZ.1.Ac, .slice aV aZ.1.Aa.length aX, .int .i64 aZ.1.Ad]]) (cl := [.int .i64 aZ.1.Ab, str aZ.1.Ac, .slice aV aZ.1.Aa.length aX, .int .i64 aZ.1.Ad]) Ja.R_ok qbz rfl rfl (LR.snoc LR.nil (Ja.of (x := aZ.1) ⟨aV, aX, rfl, aY⟩)) rfl rfl rfl ?_ fun c8 => ?_
   · conv => whnf
     refine cT ?_
     first | done | rfl
   refine ⟨⟨(bu.trans a8), (sc [3] rfl), ci0⟩, ?_⟩
   obtain ⟨ca, hm⟩ := qay hm
   refine qnl r4 (LR.mono Ja.R_ok (bu.trans a8) r_14) rfl qbz (qc8 rfl r0 rfl Ja.R_ok (show LR Ja.R _ [[.int .i64 aZ.1.Ab, str aZ.1.Ac, .slice aV aZ.1.Aa.length aX, .int .i64 aZ.1.Ad]] [aZ.1] from (LR.snoc LR.nil (Ja.of (x := aZ.1) ⟨aV, aX, rfl, aY⟩)))) (show LR Ja.R _ [[.int .i64 aZ.1.Ab, str aZ.1.Ac, .slice aV aZ.1.Aa.length aX, .int .i64 aZ.1.Ad]] [aZ.1] from (LR.snoc LR.nil (Ja.of (x := aZ.1) ⟨aV, aX, rfl, aY⟩))) ca ?_
   intro cP cO c6 r_55 cD
   refine ⟨⟨Hp.emp_le _, (pf rfl), ci0⟩, ?_⟩
   refine fa rfl ?_
   refine qaa r4 rfl ⟨rfl, rfl, (nl rfl), ?_⟩
   refine ⟨⟨Hp.emp_le _, (pf rfl), ci0⟩, ?_⟩
   refine ro (qab r0 rfl (nl rfl) ?_)
   refine qaa r6 rfl ⟨rfl, rfl, (nl rfl), ?_⟩
   exact ro (qab r0 rfl (nl rfl) (eE hm))

def Jbe (aq : (Jb → Option ((List Ja) × Jb))) (n : Nat) (p : Jb) : Option (Ja × Jb) :=
  (JH p).bind fun x7 =>
  if decide (x7.Ab ≠ 1) then
  (J1 p).bind fun bj =>
  some ((⟨0, ([] : Str), [], x7.Ad⟩ : Ja), bj)
  else
  if decide (x7.Ac = ([105, 102] : Str)) then
  (Jo p).bind fun bt =>
  (Jam aq n bt.2 x7.Ad).bind fun bc =>
  some (bc.1, bc.2)
  else
  if decide (x7.Ac = ([108, 101, 116] : Str)) then
  (Jo p).bind fun aZ =>
  (JH aZ.2).bind fun a8 =>
  (if decide (a8.Ab ≠ 1) then some true else (JbQ a8.Ac).bind fun bg =>
  some bg).bind fun ba =>
  if ba then
  (J1 aZ.2).bind fun bm =>
  some ((⟨3, ([] : Str), [], x7.Ad⟩ : Ja), bm)
  else
  (Jo aZ.2).bind fun bp =>
  (Jw n bp.2 ([61] : Str)).bind fun bb =>
  some ((⟨3, a8.Ac, bb.1, x7.Ad⟩ : Ja), bb.2)
  else
  if decide (x7.Ac = ([112, 97, 116, 104] : Str)) then
  (Jo p).bind fun a6 =>
  (Jw n a6.2 ([61] : Str)).bind fun aW =>
  some ((⟨4, x7.Ac, aW.1, x7.Ad⟩ : Ja), aW.2)
  else
  if decide (x7.Ac = ([113, 117, 101, 114, 121] : Str)) then
  (Jo p).bind fun a6 =>
  (Jw n a6.2 ([61] : Str)).bind fun aW =>
  some ((⟨4, x7.Ac, aW.1, x7.Ad⟩ : Ja), aW.2)
  else
  if decide (x7.Ac = ([104, 101, 97, 100, 101, 114] : Str)) then
  (Jo p).bind fun bn =>
  (Jbj bn.2).bind fun aY =>
  (Jt aY.2).bind fun bh =>
  if bh then
  (Jw n aY.2 ([61] : Str)).bind fun bd =>
  some ((⟨5, aY.1, bd.1, x7.Ad⟩ : Ja), bd.2)
  else
  some ((⟨5, aY.1, [], x7.Ad⟩ : Ja), aY.2)
  else
  if decide (x7.Ac = ([118, 97, 114, 121] : Str)) then
  (Jo p).bind fun br =>
  (Jbj br.2).bind fun aX =>
  (Jt aX.2).bind fun bf =>
  if bf then
  (JF aX.2 ([59] : Str)).bind fun bl =>
  some ((⟨6, aX.1, [], x7.Ad⟩ : Ja), bl)
  else
  some ((⟨6, aX.1, [], x7.Ad⟩ : Ja), aX.2)
  else
  if decide (x7.Ac = ([116, 97, 103] : Str)) then
  (Jo p).bind fun aU =>
  if decide (x7.Ac = ([116, 116, 108] : Str)) then
  if decide (x7.Ac = ([100, 101, 110, 121] : Str)) then
  (Jw n aU.2 ([] : Str)).bind fun aS =>
  some ((⟨9, ([] : Str), aS.1, x7.Ad⟩ : Ja), aS.2)
  else
  (Jw n aU.2 ([] : Str)).bind fun aS =>
  some ((⟨8, ([] : Str), aS.1, x7.Ad⟩ : Ja), aS.2)
  else
  if decide (x7.Ac = ([100, 101, 110, 121] : Str)) then
  (Jw n aU.2 ([] : Str)).bind fun aS =>
  some ((⟨9, ([] : Str), aS.1, x7.Ad⟩ : Ja), aS.2)
  else
  (Jw n aU.2 ([] : Str)).bind fun aS =>
  some ((⟨7, ([] : Str), aS.1, x7.Ad⟩ : Ja), aS.2)
  else
  if decide (x7.Ac = ([116, 116, 108] : Str)) then
  (Jo p).bind fun aU =>
  if decide (x7.Ac = ([116, 116, 108] : Str)) then
  if decide (x7.Ac = ([100, 101, 110, 121] : Str)) then
  (Jw n aU.2 ([] : Str)).bind fun aS =>
  some ((⟨9, ([] : Str), aS.1, x7.Ad⟩ : Ja), aS.2)
  else
  (Jw n aU.2 ([] : Str)).bind fun aS =>
  some ((⟨8, ([] : Str), aS.1, x7.Ad⟩ : Ja), aS.2)
  else
  if decide (x7.Ac = ([100, 101, 110, 121] : Str)) then
  (Jw n aU.2 ([] : Str)).bind fun aS =>
  some ((⟨9, ([] : Str), aS.1, x7.Ad⟩ : Ja), aS.2)
  else
  (Jw n aU.2 ([] : Str)).bind fun aS =>
  some ((⟨7, ([] : Str), aS.1, x7.Ad⟩ : Ja), aS.2)
  else
  if decide (x7.Ac = ([100, 101, 110, 121] : Str)) then
  (Jo p).bind fun aU =>
  if decide (x7.Ac = ([116, 116, 108] : Str)) then
  if decide (x7.Ac = ([100, 101, 110, 121] : Str)) then
  (Jw n aU.2 ([] : Str)).bind fun aS =>
  some ((⟨9, ([] : Str), aS.1, x7.Ad⟩ : Ja), aS.2)
  else
  (Jw n aU.2 ([] : Str)).bind fun aS =>
  some ((⟨8, ([] : Str), aS.1, x7.Ad⟩ : Ja), aS.2)
  else
  if decide (x7.Ac = ([100, 101, 110, 121] : Str)) then
  (Jw n aU.2 ([] : Str)).bind fun aS =>
  some ((⟨9, ([] : Str), aS.1, x7.Ad⟩ : Ja), aS.2)
  else
  (Jw n aU.2 ([] : Str)).bind fun aS =>
  some ((⟨7, ([] : Str), aS.1, x7.Ad⟩ : Ja), aS.2)
  else
  if decide (x7.Ac = ([112, 97, 115, 115] : Str)) then
  (Jo p).bind fun aV =>
  if decide (x7.Ac = ([116, 111, 107, 101, 110] : Str)) then
  (JF aV.2 ([59] : Str)).bind fun aT =>
  some ((⟨11, ([] : Str), [], x7.Ad⟩ : Ja), aT)
  else
  (JF aV.2 ([59] : Str)).bind fun aT =>
  some ((⟨10, ([] : Str), [], x7.Ad⟩ : Ja), aT)
  else
  if decide (x7.Ac = ([116, 111, 107, 101, 110] : Str)) then
  (Jo p).bind fun aV =>
  if decide (x7.Ac = ([116, 111, 107, 101, 110] : Str)) then
  (JF aV.2 ([59] : Str)).bind fun aT =>
  some ((⟨11, ([] : Str), [], x7.Ad⟩ : Ja), aT)
  else
  (JF aV.2 ([59] : Str)).bind fun aT =>
  some ((⟨10, ([] : Str), [], x7.Ad⟩ : Ja), aT)
  else
  (J1 p).bind fun bo =>
  some ((⟨0, ([] : Str), [], x7.Ad⟩ : Ja), bo)
theorem JcX {aq : (Jb → Option ((List Ja) × Jb))} (ihrec1_0 : ∀ {p : Jb} {b0 : Nat} {aa : Option Addr} {ab : Nat} {K : Hp} {r : (List Ja) × Jb} (hm : aq p = some r) (hX : (0 < p.list.length → Has aa) ∧ GG K), Fn Tryz.prog 97 [.pointer (some ⟨b0, 0, none⟩)] K [Cells b0 163 [.slice aa p.list.length ab, .int .i64 p.atZ, .int .i64 p.line], qat Je.enc aa 166 4 ab p.list] (fun v K' H' => ∃ ar_0 : Option Addr, ∃ cr_0 : Nat, ∃ sr_0 : List (List Value), ∃ ar_1 : Option Addr, ∃ cr_1 : Nat, v = .slice ar_0 r.1.length cr_0 ∧ (0 < r.1.length → Has ar_0) ∧ LR Ja.R K' sr_0 r.1 ∧ (0 < r.2.list.length → Has ar_1) ∧ H' = [OwnA ar_0 117 4 cr_0 sr_0, Cells b0 163 [.slice ar_1 r.2.list.length cr_1, .int .i64 r.2.atZ, .int .i64 r.2.line], qat Je.enc ar_1 166 4 cr_1 r.2.list])) {n : Nat} {p : Jb} {b0 : Nat} {aa : Option Addr} {ab : Nat} {K : Hp} {r : Ja × Jb}
    (hm : Jbe aq n p = some r) (hX : (0 < p.list.length → Has aa) ∧ GG K) :
    Fn Tryz.prog 150 [.pointer (some ⟨b0, 0, none⟩)] K [Cells b0 163 [.slice aa p.list.length ab, .int .i64 p.atZ, .int .i64 p.line], qat Je.enc aa 166 4 ab p.list] (fun v K' H' => ∃ ar_0 : Option Addr, ∃ cr_0 : Nat, ∃ sr_0 : List (List Value), ∃ ar_1 : Option Addr, ∃ cr_1 : Nat, v = .agg #[.int .i64 r.1.Ab, str r.1.Ac, .slice ar_0 r.1.Aa.length cr_0, .int .i64 r.1.Ad] ∧ (0 < r.1.Aa.length → Has ar_0) ∧ LR Ja.R K' sr_0 r.1.Aa ∧ (0 < r.2.list.length → Has ar_1) ∧ H' = [OwnA ar_0 117 4 cr_0 sr_0, Cells b0 163 [.slice ar_1 r.2.list.length cr_1, .int .i64 r.2.atZ, .int .i64 r.2.line], qat Je.enc ar_1 166 4 cr_1 r.2.list]) := by
 obtain ⟨ae, hG⟩ := hX
 refine Fn.enter Tryz.func150 Tryz.call150 rfl fun F => ?_
 unfold Jbe at hm
 refine qah rfl fun b2 => ?_
 refine cb hm fun x7 q7 hm => cgx (JG q7 :) ?_
 refine qah rfl fun b3 => ?_
 refine qaa r0 rfl ⟨rfl, rfl, (nl rfl), ?_⟩
 refine fa rfl (ro (ld r0 rfl rfl (qaf rfl rfl (cT ?_))))
 refine qah rfl fun b4 => ?_
 refine qaa r0 rfl ⟨rfl, rfl, (nl rfl), ?_⟩
 refine fa rfl (ro (ld r1 rfl rfl (qa3 ?_)))
 refine cs rfl rfl hm ?_ ?_ <;> intro ei hm
 refine cb hm fun ed dH hm => ckx (J4 dH :) ?_
 rintro _ _ _ ⟨c5, da, rfl, cH, rfl⟩
 refine ro (qab r2 rfl (nl rfl) ?_)
 refine qaa r4 rfl ⟨rfl, rfl, (nl rfl), ?_⟩
 refine ro (qab r0 rfl (nl rfl) ?_)
 refine qch (fun _ : Ja => []) 117 4 ?_
 exact eE hm
 refine fa rfl (ro (ld r1 rfl rfl ?_))
 refine qal rfl ?_
 refine qap (cs rfl rfl hm ?_ ?_) <;> intro eg hm
 refine cb hm fun dX du hm => ckx (Jl du :) ?_
 rintro _ _ _ ⟨bW, ca, rfl, c9, rfl⟩
 refine fa rfl (ro (ld r3 rfl rfl ?_))
 refine cb hm fun dT dx hm => cfx (Jda ihrec1_0 dx :) ?_
 rintro _ ey _ dY ⟨cI, dh, cO, bV, cZ, rfl, cM, c3, bY, rfl⟩
 refine qaa r5 rfl ⟨rfl, rfl, (nl rfl), ?_⟩
 exact ro (qab r0 rfl (nl rfl) (eE hm))
 refine qap (cs rfl rfl hm ?_ ?_) <;> intro d1 hm
 refine cb hm fun eu dA hm => ckx (Jl dA :) ?_
 rintro _ _ _ ⟨cj, cw, rfl, dm, rfl⟩
 refine fa rfl ?_
 refine qaa r2 rfl ⟨rfl, rfl, (nl rfl), ?_⟩
 refine cb hm fun ee dv hm => cgx (JG dv :) ?_
 refine qah rfl fun b5 => ?_
 refine qaa r0 rfl ⟨rfl, rfl, (nl rfl), ?_⟩
 obtain ⟨bQ, bd, hm⟩ := bnd hm
 refine jR (σ := Bool) (rg 36 8) (fun bm => [(43, .bool bm)]) (fun bm => bm = bQ) ?_ ?_
 replace bd := bsm bd
 refine qai rfl ?_
 refine fa rfl (ro (ld r0 rfl rfl (qa3 ?_)))
 obtain ⟨d6, bw, bd⟩ := bnd bd
 refine cS bw (fun a8 bw => ?_) fun a8 bw => ?_
 refine ct a8 (ct a8 (ct a8 ?_))
 exact eMq bd _ ⟨bq (si bw), trivial⟩
 refine fa rfl (cf a8 (ro (ld r0 rfl rfl (cf a8 ?_))))
 refine cb bw fun dP dy bw => cgx (Jcm dy :) ?_
 refine cf a8 ?_
 exact eMq bd _ ⟨bq (si bw), trivial⟩
 rintro bm rfl dK
 refine cs rfl rfl hm ?_ ?_ <;> intro dQ hm
 refine cb hm fun eo dC hm => ckx (J4 dC :) ?_
 rintro _ _ _ ⟨cW, di, rfl, dg, rfl⟩
 refine ro (qab r3 rfl (nl rfl) ?_)
 refine qaa r5 rfl ⟨rfl, rfl, (nl rfl), ?_⟩
 refine ro (qab r0 rfl (nl rfl) ?_)
 refine qch (fun _ : Ja => []) 117 4 ?_
 exact eE hm
 refine cb hm fun ew dD hm => ckx (Jl dD :) ?_
 rintro _ _ _ ⟨cy, cY, rfl, bX, rfl⟩
 refine fa rfl (ro (ld r2 rfl rfl (fa rfl ?_)))
 refine qaa r3 rfl ⟨rfl, rfl, (nl rfl), ?_⟩
 refine cb hm fun ef dz hm => cfx (Ju dz :) ?_
 rintro _ dV _ d8 ⟨cu, cK, c6, db, cq, rfl, cP, c4, c8, rfl⟩
 refine fa rfl ?_
 refine qaa r3 rfl ⟨rfl, rfl, (nl rfl), ?_⟩
 refine ro (qab r0 rfl (nl rfl) ?_)
 refine qaa r6 rfl ⟨rfl, rfl, (nl rfl), ?_⟩
 exact ro (qab r0 rfl (nl rfl) (eE hm))
 refine qap (cs rfl rfl hm ?_ ?_) <;> intro co hm
 refine qac rfl (ct co ?_)
 refine cb hm fun dG bR hm => ckx (Jl bR :) ?_
 rintro _ _ _ ⟨bD, bK, rfl, bI, rfl⟩
 refine qa4 ⟨⟨[], false⟩, _, [(_, _)], []⟩ (by kernel_rfl) ⟨Hp.Le.refl _, (sc [3] rfl), ci0⟩ ?_
 refine fa rfl (qao m0 rfl rfl (fa rfl ?_))
 refine qaa r2 rfl ⟨rfl, rfl, (nl rfl), ?_⟩
 refine qk (sc [3] rfl) ?_
 refine fa rfl ?_
 refine qaa r0 rfl ⟨rfl, rfl, (nl rfl), ?_⟩
 refine qk (sc [3] rfl) ?_
 refine cb hm fun dO bS hm => cfx (Ju bS :) ?_
 rintro _ dN _ dF ⟨bA, bJ, bM, bN, bO, rfl, bL, bF, bB, rfl⟩
 refine fa rfl ?_
 refine qaa r3 rfl ⟨rfl, rfl, (nl rfl), ?_⟩
 refine ro (qab r0 rfl (nl rfl) ?_)
 refine qaa r5 rfl ⟨rfl, rfl, (nl rfl), ?_⟩
 exact ro (qab r0 rfl (nl rfl) (eE hm))
 refine qap (cs rfl rfl hm ?_ ?_) <;> intro co hm
 refine cb hm fun dG bR hm => ckx (Jl bR :) ?_
 rintro _ _ _ ⟨bD, bK, rfl, bI, rfl⟩
 refine qa4 ⟨⟨[], false⟩, _, [(_, _)], []⟩ (by kernel_rfl) ⟨Hp.Le.refl _, (sc [3] rfl), ci0⟩ ?_
 refine fa rfl (qao m0 rfl rfl (fa rfl ?_))
 refine qaa r2 rfl ⟨rfl, rfl, (nl rfl), ?_⟩
 refine qk (sc [3] rfl) ?_
 refine fa rfl ?_
 refine qaa r0 rfl ⟨rfl, rfl, (nl rfl), ?_⟩
 refine qk (sc [3] rfl) ?_
 refine cb hm fun dO bS hm => cfx (Ju bS :) ?_
 rintro _ dN _ dF ⟨bA, bJ, bM, bN, bO, rfl, bL, bF, bB, rfl⟩
 refine fa rfl ?_
 refine qaa r3 rfl ⟨rfl, rfl, (nl rfl), ?_⟩
 refine ro (qab r0 rfl (nl rfl) ?_)
 refine qaa r5 rfl ⟨rfl, rfl, (nl rfl), ?_⟩
 exact ro (qab r0 rfl (nl rfl) (eE hm))
 refine qap (cs rfl rfl hm ?_ ?_) <;> intro d7 hm
 refine cb hm fun dR dB hm => ckx (Jl dB :) ?_
 rintro _ _ _ ⟨cm, cR, rfl, dn, rfl⟩
 refine fa rfl ?_
 refine qaa r2 rfl ⟨rfl, rfl, (nl rfl), ?_⟩
 refine cb hm fun d4 dJ hm => ckx (Jcp dJ :) ?_
 rintro _ _ _ ⟨cz, bZ, rfl, ce, rfl⟩
 refine fa rfl ?_
 refine qaa r2 rfl ⟨rfl, rfl, (nl rfl), ?_⟩
 refine cb hm fun ep dL hm => cgx (Js dL :) ?_
 refine cs rfl rfl hm ?_ ?_ <;> intro ej hm
 refine cb hm fun dU dt hm => cfx (Ju dt :) ?_
 rintro _ d9 _ dW ⟨cU, dp, cp, cQ, cC, rfl, cN, dc, cr, rfl⟩
 refine fa rfl ?_
 refine qaa r3 rfl ⟨rfl, rfl, (nl rfl), ?_⟩
 refine ro (qab r0 rfl (nl rfl) ?_)
 refine qaa r5 rfl ⟨rfl, rfl, (nl rfl), ?_⟩
 exact ro (qab r0 rfl (nl rfl) (eE hm))
 refine ro (qab r2 rfl (nl rfl) ?_)
 refine qaa r4 rfl ⟨rfl, rfl, (nl rfl), ?_⟩
 refine ro (qab r0 rfl (nl rfl) ?_)
 refine qch (fun _ : Ja => []) 117 4 ?_
 exact eE hm
 refine qap (cs rfl rfl hm ?_ ?_) <;> intro d5 hm
 refine cb hm fun d3 dM hm => ckx (Jl dM :) ?_
 rintro _ _ _ ⟨dl, cD, rfl, cd, rfl⟩
 refine fa rfl ?_
 refine qaa r2 rfl ⟨rfl, rfl, (nl rfl), ?_⟩
 refine cb hm fun dZ dw hm => ckx (Jcp dw :) ?_
 rintro _ _ _ ⟨cL, de, rfl, dk, rfl⟩
 refine fa rfl ?_
 refine qaa r2 rfl ⟨rfl, rfl, (nl rfl), ?_⟩
 refine cb hm fun ek dE hm => cgx (Js dE :) ?_
 refine cs rfl rfl hm ?_ ?_ <;> intro dS hm
 refine cb hm fun eh dI hm => ckx (JD dI :) ?_
 rintro _ _ _ ⟨dj, cG, rfl, cV, rfl⟩
 refine ro (qab r2 rfl (nl rfl) ?_)
 refine qaa r4 rfl ⟨rfl, rfl, (nl rfl), ?_⟩
 refine ro (qab r0 rfl (nl rfl) ?_)
 refine qch (fun _ : Ja => []) 117 4 ?_
 exact eE hm
 refine ro (qab r2 rfl (nl rfl) ?_)
 refine qaa r4 rfl ⟨rfl, rfl, (nl rfl), ?_⟩
 refine ro (qab r0 rfl (nl rfl) ?_)
 refine qch (fun _ : Ja => []) 117 4 ?_
 exact eE hm
 refine qap (cs rfl rfl hm ?_ ?_) <;> intro bP hm
 refine qac rfl (ct bP ?_)
 refine cb hm fun cn bG hm => ckx (Jl bG :) ?_
 rintro _ _ _ ⟨bo, bp, rfl, bn, rfl⟩
 refine fa rfl ?_
 refine qaa r2 rfl ⟨rfl, rfl, (nl rfl), ?_⟩
 refine fa rfl (ro (ld r3 rfl rfl (qap ?_)))
 refine cs rfl rfl hm ?_ ?_ <;> intro bC hm
 refine fa rfl ?_
 refine qaa r0 rfl ⟨rfl, rfl, (nl rfl), ?_⟩
 refine fa rfl (ro (ld r3 rfl rfl (qap ?_)))
 refine cs rfl rfl hm ?_ ?_ <;> intro bl hm
 refine fa rfl ?_
 refine qaa r0 rfl ⟨rfl, rfl, (nl rfl), ?_⟩
 refine cb hm fun bc aV hm => cfx (Ju aV :) ?_
 rintro _ ba _ bb ⟨aT, aW, a6, aU, aX, rfl, aZ, aS, aY, rfl⟩
 refine fa rfl ?_
 refine qaa r3 rfl ⟨rfl, rfl, (nl rfl), ?_⟩
 refine ro (qab r0 rfl (nl rfl) ?_)
 refine qaa r5 rfl ⟨rfl, rfl, (nl rfl), ?_⟩
 exact ro (qab r0 rfl (nl rfl) (eE hm))
 refine cb hm fun bc aV hm => cfx (Ju aV :) ?_
 rintro _ ba _ bb ⟨aT, aW, a6, aU, aX, rfl, aZ, aS, aY, rfl⟩
 refine fa rfl ?_
 refine qaa r3 rfl ⟨rfl, rfl, (nl rfl), ?_⟩
 refine ro (qab r0 rfl (nl rfl) ?_)
 refine qaa r5 rfl ⟨rfl, rfl, (nl rfl), ?_⟩
 exact ro (qab r0 rfl (nl rfl) (eE hm))
 refine fa rfl (ro (ld r3 rfl rfl (qap ?_)))
 refine cs rfl rfl hm ?_ ?_ <;> intro bl hm
 refine fa rfl ?_
 refine qaa r0 rfl ⟨rfl, rfl, (nl rfl), ?_⟩
 refine cb hm fun bc aV hm => cfx (Ju aV :) ?_
 rintro _ ba _ bb ⟨aT, aW, a6, aU, aX, rfl, aZ, aS, aY, rfl⟩
 refine fa rfl ?_
 refine qaa r3 rfl ⟨rfl, rfl, (nl rfl), ?_⟩
 refine ro (qab r0 rfl (nl rfl) ?_)
 refine qaa r5 rfl ⟨rfl, rfl, (nl rfl), ?_⟩
 exact ro (qab r0 rfl (nl rfl) (eE hm))
 refine cb hm fun bc aV hm => cfx (Ju aV :) ?_
 rintro _ ba _ bb ⟨aT, aW, a6, aU, aX, rfl, aZ, aS, aY, rfl⟩
 refine fa rfl ?_
 refine qaa r3 rfl ⟨rfl, rfl, (nl rfl), ?_⟩
 refine ro (qab r0 rfl (nl rfl) ?_)
 refine qaa r5 rfl ⟨rfl, rfl, (nl rfl), ?_⟩
 exact ro (qab r0 rfl (nl rfl) (eE hm))
 refine qap (cs rfl rfl hm ?_ ?_) <;> intro bP hm
 refine qac rfl (ct bP ?_)
 refine cb hm fun cn bG hm => ckx (Jl bG :) ?_
 rintro _ _ _ ⟨bo, bp, rfl, bn, rfl⟩
 refine fa rfl ?_
 refine qaa r2 rfl ⟨rfl, rfl, (nl rfl), ?_⟩
 refine fa rfl (ro (ld r3 rfl rfl (qap ?_)))
 refine cs rfl rfl hm ?_ ?_ <;> intro bC hm
 refine fa rfl ?_
 refine qaa r0 rfl ⟨rfl, rfl, (nl rfl), ?_⟩
 refine fa rfl (ro (ld r3 rfl rfl (qap ?_)))
 refine cs rfl rfl hm ?_ ?_ <;> intro bl hm
 refine fa rfl ?_
 refine qaa r0 rfl ⟨rfl, rfl, (nl rfl), ?_⟩
 refine cb hm fun bc aV hm => cfx (Ju aV :) ?_
 rintro _ ba _ bb ⟨aT, aW, a6, aU, aX, rfl, aZ, aS, aY, rfl⟩
 refine fa rfl ?_
 refine qaa r3 rfl ⟨rfl, rfl, (nl rfl), ?_⟩
 refine ro (qab r0 rfl (nl rfl) ?_)
 refine qaa r5 rfl ⟨rfl, rfl, (nl rfl), ?_⟩
 exact ro (qab r0 rfl (nl rfl) (eE hm))
 refine cb hm fun bc aV hm => cfx (Ju aV :) ?_
 rintro _ ba _ bb ⟨aT, aW, a6, aU, aX, rfl, aZ, aS, aY, rfl⟩
 refine fa rfl ?_
 refine qaa r3 rfl ⟨rfl, rfl, (nl rfl), ?_⟩
 refine ro (qab r0 rfl (nl rfl) ?_)
 refine qaa r5 rfl ⟨rfl, rfl, (nl rfl), ?_⟩
 exact ro (qab r0 rfl (nl rfl) (eE hm))
 refine fa rfl (ro (ld r3 rfl rfl (qap ?_)))
 refine cs rfl rfl hm ?_ ?_ <;> intro bl hm
 refine fa rfl ?_
 refine qaa r0 rfl ⟨rfl, rfl, (nl rfl), ?_⟩
 refine cb hm fun bc aV hm => cfx (Ju aV :) ?_
 rintro _ ba _ bb ⟨aT, aW, a6, aU, aX, rfl, aZ, aS, aY, rfl⟩
 refine fa rfl ?_
 refine qaa r3 rfl ⟨rfl, rfl, (nl rfl), ?_⟩
 refine ro (qab r0 rfl (nl rfl) ?_)
 refine qaa r5 rfl ⟨rfl, rfl, (nl rfl), ?_⟩
 exact ro (qab r0 rfl (nl rfl) (eE hm))
 refine cb hm fun bc aV hm => cfx (Ju aV :) ?_
 rintro _ ba _ bb ⟨aT, aW, a6, aU, aX, rfl, aZ, aS, aY, rfl⟩
 refine fa rfl ?_
 refine qaa r3 rfl ⟨rfl, rfl, (nl rfl), ?_⟩
 refine ro (qab r0 rfl (nl rfl) ?_)
 refine qaa r5 rfl ⟨rfl, rfl, (nl rfl), ?_⟩
 exact ro (qab r0 rfl (nl rfl) (eE hm))
 refine qap (cs rfl rfl hm ?_ ?_) <;> intro bP hm
 refine cb hm fun cn bG hm => ckx (Jl bG :) ?_
 rintro _ _ _ ⟨bo, bp, rfl, bn, rfl⟩
 refine fa rfl ?_
 refine qaa r2 rfl ⟨rfl, rfl, (nl rfl), ?_⟩
 refine fa rfl (ro (ld r3 rfl rfl (qap ?_)))
 refine cs rfl rfl hm ?_ ?_ <;> intro bC hm
 refine fa rfl ?_
 refine qaa r0 rfl ⟨rfl, rfl, (nl rfl), ?_⟩
 refine fa rfl (ro (ld r3 rfl rfl (qap ?_)))
 refine cs rfl rfl hm ?_ ?_ <;> intro bl hm
 refine fa rfl ?_
 refine qaa r0 rfl ⟨rfl, rfl, (nl rfl), ?_⟩
 refine cb hm fun bc aV hm => cfx (Ju aV :) ?_
 rintro _ ba _ bb ⟨aT, aW, a6, aU, aX, rfl, aZ, aS, aY, rfl⟩
 refine fa rfl ?_
 refine qaa r3 rfl ⟨rfl, rfl, (nl rfl), ?_⟩
 refine ro (qab r0 rfl (nl rfl) ?_)
 refine qaa r5 rfl ⟨rfl, rfl, (nl rfl), ?_⟩
 exact ro (qab r0 rfl (nl rfl) (eE hm))
 refine cb hm fun bc aV hm => cfx (Ju aV :) ?_
 rintro _ ba _ bb ⟨aT, aW, a6, aU, aX, rfl, aZ, aS, aY, rfl⟩
 refine fa rfl ?_
 refine qaa r3 rfl ⟨rfl, rfl, (nl rfl), ?_⟩
 refine ro (qab r0 rfl (nl rfl) ?_)
 refine qaa r5 rfl ⟨rfl, rfl, (nl rfl), ?_⟩
 exact ro (qab r0 rfl (nl rfl) (eE hm))
 refine fa rfl (ro (ld r3 rfl rfl (qap ?_)))
 refine cs rfl rfl hm ?_ ?_ <;> intro bl hm
 refine fa rfl ?_
 refine qaa r0 rfl ⟨rfl, rfl, (nl rfl), ?_⟩
 refine cb hm fun bc aV hm => cfx (Ju aV :) ?_
 rintro _ ba _ bb ⟨aT, aW, a6, aU, aX, rfl, aZ, aS, aY, rfl⟩
 refine fa rfl ?_
 refine qaa r3 rfl ⟨rfl, rfl, (nl rfl), ?_⟩
 refine ro (qab r0 rfl (nl rfl) ?_)
 refine qaa r5 rfl ⟨rfl, rfl, (nl rfl), ?_⟩
 exact ro (qab r0 rfl (nl rfl) (eE hm))
 refine cb hm fun bc aV hm => cfx (Ju aV :) ?_
 rintro _ ba _ bb ⟨aT, aW, a6, aU, aX, rfl, aZ, aS, aY, rfl⟩
 refine fa rfl ?_
 refine qaa r3 rfl ⟨rfl, rfl, (nl rfl), ?_⟩
 refine ro (qab r0 rfl (nl rfl) ?_)
 refine qaa r5 rfl ⟨rfl, rfl, (nl rfl), ?_⟩
 exact ro (qab r0 rfl (nl rfl) (eE hm))
 refine qap (cs rfl rfl hm ?_ ?_) <;> intro bH hm
 refine qac rfl (ct bH ?_)
 refine cb hm fun bU bu hm => ckx (Jl bu :) ?_
 rintro _ _ _ ⟨bt, br, rfl, bv, rfl⟩
 refine fa rfl ?_
 refine qaa r2 rfl ⟨rfl, rfl, (nl rfl), ?_⟩
 refine fa rfl (ro (ld r3 rfl rfl (qap ?_)))
 refine cs rfl rfl hm ?_ ?_ <;> intro bT hm
 refine fa rfl ?_
 refine qaa r0 rfl ⟨rfl, rfl, (nl rfl), ?_⟩
 refine cb hm fun bz bf hm => ckx (JD bf :) ?_
 rintro _ _ _ ⟨bj, bh, rfl, bg, rfl⟩
 refine ro (qab r2 rfl (nl rfl) ?_)
 refine qaa r4 rfl ⟨rfl, rfl, (nl rfl), ?_⟩
 refine ro (qab r0 rfl (nl rfl) ?_)
 refine qch (fun _ : Ja => []) 117 4 ?_
 exact eE hm
 refine cb hm fun bz bf hm => ckx (JD bf :) ?_
 rintro _ _ _ ⟨bj, bh, rfl, bg, rfl⟩
 refine ro (qab r2 rfl (nl rfl) ?_)
 refine qaa r4 rfl ⟨rfl, rfl, (nl rfl), ?_⟩
 refine ro (qab r0 rfl (nl rfl) ?_)
 refine qch (fun _ : Ja => []) 117 4 ?_
 exact eE hm
 refine qap (cs rfl rfl hm ?_ ?_) <;> intro bH hm
 refine cb hm fun bU bu hm => ckx (Jl bu :) ?_
 rintro _ _ _ ⟨bt, br, rfl, bv, rfl⟩
 refine fa rfl ?_
 refine qaa r2 rfl ⟨rfl, rfl, (nl rfl), ?_⟩
 refine fa rfl (ro (ld r3 rfl rfl (qap ?_)))
 refine cs rfl rfl hm ?_ ?_ <;> intro bT hm
 refine fa rfl ?_
 refine qaa r0 rfl ⟨rfl, rfl, (nl rfl), ?_⟩
 refine cb hm fun bz bf hm => ckx (JD bf :) ?_
 rintro _ _ _ ⟨bj, bh, rfl, bg, rfl⟩
 refine ro (qab r2 rfl (nl rfl) ?_)
 refine qaa r4 rfl ⟨rfl, rfl, (nl rfl), ?_⟩
 refine ro (qab r0 rfl (nl rfl) ?_)
 refine qch (fun _ : Ja => []) 117 4 ?_
 exact eE hm
 refine cb hm fun bz bf hm => ckx (JD bf :) ?_
 rintro _ _ _ ⟨bj, bh, rfl, bg, rfl⟩
 refine ro (qab r2 rfl (nl rfl) ?_)
 refine qaa r4 rfl ⟨rfl, rfl, (nl rfl), ?_⟩
 refine ro (qab r0 rfl (nl rfl) ?_)
 refine qch (fun _ : Ja => []) 117 4 ?_
 exact eE hm
 refine cb hm fun d2 dq hm => ckx (J4 dq :) ?_
 rintro _ _ _ ⟨df, cE, rfl, cJ, rfl⟩
 refine ro (qab r2 rfl (nl rfl) ?_)
 refine qaa r4 rfl ⟨rfl, rfl, (nl rfl), ?_⟩
 refine ro (qab r0 rfl (nl rfl) ?_)
 refine qch (fun _ : Ja => []) 117 4 ?_
 exact eE hm

def J7 (rec_ : (Jb → Option ((List Ja) × Jb))) (n : Nat) : Nat → (List Ja) → Jb → Option ((List Ja) × Jb)
  | 0, _, _ => none
  | aU + 1, ac, aS =>
    (Jt aS).bind fun x5 =>
    (if x5 then (JH aS).bind fun x8 =>
    some (decide (x8.Ab ≠ 5)) else some false).bind fun aW =>
    (if aW then (Jy aS 4 ([125] : Str)).bind fun aX =>
    some (!aX) else some false).bind fun aV =>
    if aV then
    (Jbe rec_ n aS).bind fun aT =>
    (chk (ac.length + [aT.1].length ≤ lim)).bind fun _ =>
    J7 rec_ n aU (ac ++ [aT.1]) aT.2
    else
    some (ac, aS)
def J3 : Nat → Jb → Option ((List Ja) × Jb)
  | 0, _ => none
  | n + 1, p =>
    (J7 (J3 n) n n [] p).bind fun t0 =>
    some (t0.1, t0.2)
theorem JcM : ∀ {n : Nat} {p : Jb} {b0 : Nat} {aa : Option Addr} {ab : Nat} {K : Hp} {r : (List Ja) × Jb}
    (hm : J3 n p = some r) (hX : (0 < p.list.length → Has aa) ∧ GG K),
    Fn Tryz.prog 97 [.pointer (some ⟨b0, 0, none⟩)] K [Cells b0 163 [.slice aa p.list.length ab, .int .i64 p.atZ, .int .i64 p.line], qat Je.enc aa 166 4 ab p.list] (fun v K' H' => ∃ ar_0 : Option Addr, ∃ cr_0 : Nat, ∃ sr_0 : List (List Value), ∃ ar_1 : Option Addr, ∃ cr_1 : Nat, v = .slice ar_0 r.1.length cr_0 ∧ (0 < r.1.length → Has ar_0) ∧ LR Ja.R K' sr_0 r.1 ∧ (0 < r.2.list.length → Has ar_1) ∧ H' = [OwnA ar_0 117 4 cr_0 sr_0, Cells b0 163 [.slice ar_1 r.2.list.length cr_1, .int .i64 r.2.atZ, .int .i64 r.2.line], qat Je.enc ar_1 166 4 cr_1 r.2.list]) := by
 intro n
 induction n with
 | zero =>
   intro p b0 aa ab K r hm hX
   rw [J3.eq_1] at hm; cases hm
 | succ n ih =>
   intro p b0 aa ab K r hm hX
   obtain ⟨ae, hG⟩ := hX
   refine Fn.enter Tryz.func97 Tryz.call97 rfl fun F => ?_
   rw [J3.eq_2] at hm
   obtain ⟨s0, aU, hm⟩ := bnd hm
   refine qgv (fun _ : Ja => []) 117 4 ?_
   refine lC (σ := ((List Ja) × Jb) × Option Addr × Nat × List (List Value) × Option Addr × Nat) (rg 3 19) [3] (fun _ => []) (fun (t0, aV, a8, aX, aS, aT) => [(3, .slice aV t0.1.length a8)]) (fun (t0, aV, a8, aX, aS, aT) => [OwnA aV 117 4 a8 aX, Cells b0 163 [.slice aS t0.2.list.length aT, .int .i64 t0.2.atZ, .int .i64 t0.2.line], qat Je.enc aS 166 4 aT t0.2.list]) (fun zz K1 => match zz with | (t0, aV, a8, aX, aS, aT) => LR Ja.R K1 aX t0.1 ∧ (0 < t0.1.length → Has aV) ∧ (0 < t0.2.list.length → Has aS)) (fun i0 (t0, aV, a8, aX, aS, aT) => J7 (J3 n) n i0 t0.1 t0.2 = some s0) (fun (t0, aV, a8, aX, aS, aT) => t0 = s0) (fun i0 => i0) n ((_, _), _, _, _, _, _) aU (And.intro qe (And.intro ?_ ?_))
   clear aU
   rintro i0 ⟨⟨ac, bG⟩, bw, bt, bF, bn, bo⟩ bN bV ⟨bj, bp, bl⟩ aU j0
   dsimp only at aU ⊢
   cases i0 with
   | zero => rw [J7.eq_1] at aU; cases aU
   | succ i0 =>
    rw [J7.eq_2] at aU
    refine qai rfl ?_
    refine cb aU fun x5 q5 aU => cgx (Js q5 :) ?_
    obtain ⟨bP, bf, aU⟩ := bnd aU
    refine cS bf (fun bb bf => ?_) fun bb bf => ?_
    refine ct bb ?_
    refine cb bf fun x8 q8 bf => cgx (JG q8 :) ?_
    refine ct bb ?_
    refine Jdn rfl rfl rfl rfl ?_
    refine ct bb (qa3 (ct bb ?_))
    obtain ⟨bL, bc, aU⟩ := bnd aU
    refine qae ?_ ?_ <;> intro aW
    replace bc := ift ((si bf).symm.trans aW) bc
    refine ct aW ?_
    refine cb bc fun bW bI bc => cgx (Jv bI :) ?_
    refine ct aW (qav (ct aW (qac rfl ?_)))
    refine qae ?_ ?_ <;> intro bz
    replace aU := ift ((si bc).symm.trans (qfh (qj4 bz))) aU
    refine qal rfl ?_
    refine cb aU fun ba bK aU => cfx (JcX ih bK :) ?_
    rintro _ bR _ bH ⟨a6, aZ, br, bu, bD, rfl, bB, bh, bv, rfl⟩
    refine qj5 Ja.R_ok r0 bh fun bg bd aY => ?_
    refine qi3 (R := Ja.R) (len := 1) (l := [ba.1]) (css := [[.int .i64 ba.1.Ab, str ba.1.Ac, .slice a6 ba.1.Aa.length aZ, .int .i64 ba.1.Ad]]) (cl := [.int .i64 ba.1.Ab, str ba.1.Ac, .slice a6 ba.1.Aa.length aZ, .int .i64 ba.1.Ad]) Ja.R_ok qbz rfl rfl (LR.snoc LR.nil (Ja.of (x := ba.1) ⟨a6, aZ, rfl, aY⟩)) rfl rfl rfl ?_ fun bO => ?_
    · conv => whnf
      refine cT ?_
      first | done | rfl
    obtain ⟨bJ, aU⟩ := qay aU
    refine qnl r3 (LR.mono Ja.R_ok (bH.trans bd) bj) rfl qbz (qc8 rfl r0 rfl Ja.R_ok (show LR Ja.R _ [[.int .i64 ba.1.Ab, str ba.1.Ac, .slice a6 ba.1.Aa.length aZ, .int .i64 ba.1.Ad]] [ba.1] from (LR.snoc LR.nil (Ja.of (x := ba.1) ⟨a6, aZ, rfl, aY⟩)))) (show LR Ja.R _ [[.int .i64 ba.1.Ab, str ba.1.Ac, .slice a6 ba.1.Aa.length aZ, .int .i64 ba.1.Ad]] [ba.1] from (LR.snoc LR.nil (Ja.of (x := ba.1) ⟨a6, aZ, rfl, aY⟩))) bJ ?_
    intro bS bT bU r_21 bX
    exact eR aU (_, (_, _), _, _, _, _, _)
    replace aU := qa9 ((si bc).symm.trans (qdj (qh0 bz))) aU
    refine cT ?_
    exact eM aU (_, _, _, _, _, _)
    replace bc := qa9 ((si bf).symm.trans aW) bc
    refine cf aW (cf aW (cf aW (qac rfl (cF ?_))))
    replace aU := qa9 (si bc).symm aU
    refine cT ?_
    exact eM aU (_, _, _, _, _, _)
    refine cf bb (cf bb (cf bb (cf bb ?_)))
    obtain ⟨bL, bc, aU⟩ := bnd aU
    replace bc := qa9 (si bf).symm bc
    refine cF (cF (cF (cF (qac rfl (cF ?_)))))
    replace aU := qa9 (si bc).symm aU
    refine cT ?_
    exact eM aU (_, _, _, _, _, _)
   rintro ⟨t0, aV, a8, aX, aS, aT⟩ bQ bM ⟨bC, bA, bm⟩ rfl j0
   exact eE hm

def JbA (rec_ : (Ja → Option (Int))) : List Ja → Nat → Int → Option (Int)
  | [], _, ac => some ac
  | e0 :: aT, i0, ac =>
    (rec_ e0).bind fun aS =>
    (chk (InI (ac + aS))).bind fun _ =>
    JbA rec_ aT (i0 + 1) (ac + aS)
def Jbv : Nat → Ja → Option (Int)
  | 0, _ => none
  | n + 1, n' =>
    (chk (n'.Aa.length ≤ qbd)).bind fun _ =>
    (JbA (Jbv n) n'.Aa 0 1).bind fun t0 =>
    some t0
theorem JcN : ∀ {n : Nat} {n' : Ja} {aa : Option Addr} {ab : Nat} {K : Hp} {r : Int}
    (hm : Jbv n n' = some r) (ae : LiC Ja.R K aa ab 4 n'.Aa),
    Fn Tryz.prog 101 [.agg #[.int .i64 n'.Ab, str n'.Ac, .slice aa n'.Aa.length ab, .int .i64 n'.Ad]] K [] (fun v K' H' => v = .int .i64 r ∧ H' = []) := by
 intro n
 induction n with
 | zero =>
   intro n' aa ab K r hm ae
   rw [Jbv.eq_1] at hm; cases hm
 | succ n ih =>
   intro n' aa ab K r hm ae
   refine Fn.enter Tryz.func101 Tryz.call101 rfl fun F => ?_
   rw [Jbv.eq_2] at hm
   refine qaq ?_
   intro b1
   refine fa rfl (ro (ld r0 rfl rfl (ro (qak rfl ?_))))
   obtain ⟨bb, hm⟩ := qay hm
   obtain ⟨s0, aS, hm⟩ := bnd hm
   refine lD (σ := (Int)) ([3,5] ++ rg 9 9) [0, 1] (fun i0 => [(9, .int .i64 (i0 : Int))]) (fun t0 => [(3, .int .i64 t0)]) (fun _ => []) (fun _ => True) (fun i0 t0 => JbA (Jbv n) (n'.Aa.drop i0) i0 t0 = some s0) (fun t0 => t0 = s0) (fun i0 => n'.Aa.length - i0) 0 _ aS (And.intro qe (And.intro ?_ ?_))
   clear aS
   rintro i0 ac _ aS j0
   conv at aS => whnf
   refine qac rfl ?_
   refine qae ?_ ?_ <;> intro w0
   obtain ⟨e0, aT, bd⟩ := ltx w0
   rw [bd, JbA.eq_2] at aS
   refine qal rfl ?_
   refine RStep.ofN (qad rfl rfl (qc2 ae.rd aT) (nn _) (qbm aT) ?_)
   obtain ⟨a6, ba, aU, aV, aW⟩ := LiR.get ae.rd aT
   obtain ⟨aZ, aY, rfl, aX⟩ := Ja.out aW
   refine ro (qan i0 _ aU rfl aV rfl ?_)
   refine qah rfl fun b5 => ?_
   refine qaa r0 rfl ⟨rfl, rfl, (nl rfl), ?_⟩
   refine ro (qab r0 rfl (nl rfl) ?_)
   refine cb aS fun bf a8 aS => cgx (ih a8 :) ?_
   obtain ⟨bc, aS⟩ := qay aS
   refine qam bc (qam (qbs aT bb) ?_)
   exact eR aS (_, _)
   rw [lty w0, JbA.eq_1] at aS
   refine cT ?_
   exact eM aS _
   rintro t0 _ rfl j0
   exact eE hm

def Jbn (rec_ : (Ja → Option (Int))) : List Ja → Nat → Int → Option (Int)
  | [], _, ac => some ac
  | e0 :: aS, i0, ac =>
    (rec_ e0).bind fun aT =>
    Jbn rec_ aS (i0 + 1) (max ac aT)
def Jbf : Nat → Ja → Option (Int)
  | 0, _ => none
  | n + 1, n' =>
    (chk (n'.Aa.length ≤ qbd)).bind fun _ =>
    (Jbn (Jbf n) n'.Aa 0 0).bind fun t0 =>
    (chk (InI (t0 + 1))).bind fun _ =>
    some (t0 + 1)
theorem JcA : ∀ {n : Nat} {n' : Ja} {aa : Option Addr} {ab : Nat} {K : Hp} {r : Int}
    (hm : Jbf n n' = some r) (ae : LiC Ja.R K aa ab 4 n'.Aa),
    Fn Tryz.prog 102 [.agg #[.int .i64 n'.Ab, str n'.Ac, .slice aa n'.Aa.length ab, .int .i64 n'.Ad]] K [] (fun v K' H' => v = .int .i64 r ∧ H' = []) := by
 intro n
 induction n with
 | zero =>
   intro n' aa ab K r hm ae
   rw [Jbf.eq_1] at hm; cases hm
 | succ n ih =>
   intro n' aa ab K r hm ae
   refine Fn.enter Tryz.func102 Tryz.call102 rfl fun F => ?_
   rw [Jbf.eq_2] at hm
   refine qaq ?_
   intro b1
   refine fa rfl (ro (ld r0 rfl rfl (ro (qak rfl ?_))))
   obtain ⟨bb, hm⟩ := qay hm
   obtain ⟨s0, aS, hm⟩ := bnd hm
   refine lD (σ := (Int)) ([3,5] ++ rg 9 9) [0, 1] (fun i0 => [(9, .int .i64 (i0 : Int))]) (fun t0 => [(3, .int .i64 t0)]) (fun _ => []) (fun _ => True) (fun i0 t0 => Jbn (Jbf n) (n'.Aa.drop i0) i0 t0 = some s0) (fun t0 => t0 = s0) (fun i0 => n'.Aa.length - i0) 0 _ aS (And.intro qe (And.intro ?_ ?_))
   clear aS
   rintro i0 ac _ aS j0
   conv at aS => whnf
   refine qac rfl ?_
   refine qae ?_ ?_ <;> intro w0
   obtain ⟨e0, aT, bc⟩ := ltx w0
   rw [bc, Jbn.eq_2] at aS
   refine qal rfl ?_
   refine RStep.ofN (qad rfl rfl (qc2 ae.rd aT) (nn _) (qbm aT) ?_)
   obtain ⟨a6, ba, aU, aV, aW⟩ := LiR.get ae.rd aT
   obtain ⟨aZ, aY, rfl, aX⟩ := Ja.out aW
   refine ro (qan i0 _ aU rfl aV rfl ?_)
   refine qah rfl fun b5 => ?_
   refine qaa r0 rfl ⟨rfl, rfl, (nl rfl), ?_⟩
   refine ro (qab r0 rfl (nl rfl) ?_)
   refine cb aS fun bd a8 aS => cgx (ih a8 :) ?_
   refine ro (qcj (qam (qbs aT bb) ?_))
   exact eR aS (_, _)
   rw [lty w0, Jbn.eq_1] at aS
   refine cT ?_
   exact eM aS _
   rintro t0 _ rfl j0
   refine ci hm fun hm => ?_
   exact eE hm

def Jdb (n : Nat) (text : Str) : Option (Ja × Int × Err) :=
  (JcV n text).bind fun aU =>
  if aU.2.isSome then
  some ((⟨0, ([] : Str), [], 0⟩ : Ja), 0, aU.2)
  else
  (J3 n (⟨aU.1, 0, 0⟩ : Jb)).bind fun aS =>
  (Jt aS.2).bind fun aZ =>
  (if aZ then (JH aS.2).bind fun a8 =>
  some (decide (a8.Ab ≠ 5)) else some false).bind fun a6 =>
  if a6 then
  (J1 aS.2).bind fun aY =>
  (Jt aY).bind fun aX =>
  if (!aX) then
  some ((⟨0, ([] : Str), [], 0⟩ : Ja), aY.line, (some 2))
  else
  (Jbv n (⟨1, ([] : Str), aS.1, 1⟩ : Ja)).bind fun aT =>
  (if decide (aT > 512) then some true else (Jbf n (⟨1, ([] : Str), aS.1, 1⟩ : Ja)).bind fun aV =>
  some (decide (aV > 32))).bind fun aW =>
  if aW then
  some ((⟨0, ([] : Str), [], 0⟩ : Ja), 0, (some 5))
  else
  some ((⟨1, ([] : Str), aS.1, 1⟩ : Ja), 0, none)
  else
  (Jt aS.2).bind fun aX =>
  if (!aX) then
  some ((⟨0, ([] : Str), [], 0⟩ : Ja), aS.2.line, (some 2))
  else
  (Jbv n (⟨1, ([] : Str), aS.1, 1⟩ : Ja)).bind fun aT =>
  (if decide (aT > 512) then some true else (Jbf n (⟨1, ([] : Str), aS.1, 1⟩ : Ja)).bind fun aV =>
  some (decide (aV > 32))).bind fun aW =>
  if aW then
  some ((⟨0, ([] : Str), [], 0⟩ : Ja), 0, (some 5))
  else
  some ((⟨1, ([] : Str), aS.1, 1⟩ : Ja), 0, none)
theorem Jd6 {n : Nat} {text : Str} {K : Hp} {r : Ja × Int × Err}
    (hm : Jdb n text = some r) (hG : GG K) :
    Fn Tryz.prog 62 [str text] K [] (fun v K' H' => ∃ ar_0 : Option Addr, ∃ cr_0 : Nat, v = .tuple #[.agg #[.int .i64 r.1.Ab, str r.1.Ac, .slice ar_0 r.1.Aa.length cr_0, .int .i64 r.1.Ad], .int .i64 r.2.1, qcr 48 r.2.2] ∧ LiC Ja.R K' ar_0 cr_0 4 r.1.Aa ∧ H' = []) := by
 refine Fn.enter Tryz.func62 Tryz.call62 rfl fun F => ?_
 unfold Jdb at hm
 refine qah rfl fun b2 => ?_
 refine cb hm fun bI bD hm => ck0 (Jdy bD :) ?_
 rintro _ _ _ ⟨bc, bh, rfl, bt, rfl⟩
 refine qa7 rfl ?_
 refine cs rfl rfl hm ?_ ?_ <;> intro bQ hm
 refine qaf rfl rfl ?_
 refine qaa r1 rfl ⟨rfl, rfl, (nl rfl), ?_⟩
 exact ro (qab r0 rfl (nl rfl) (eE hm))
 refine qaf rfl rfl (cT ?_)
 refine qaq ?_
 intro bN
 refine cb hm fun bP bC hm => cfx (JcM bC :) ?_
 rintro _ bR _ bK ⟨bu, bl, bf, bA, bp, rfl, bv, aY, bB, rfl⟩
 refine qaf rfl rfl (cT (cT (cT ?_)))
 refine qah rfl fun b8 => ?_
 refine qaa r0 rfl ⟨rfl, rfl, (nl rfl), ?_⟩
 refine qai rfl ?_
 refine cb hm fun bO bF hm => cgx (Js bF :) ?_
 obtain ⟨bJ, aZ, hm⟩ := bnd hm
 refine cS aZ (fun aT aZ => ?_) fun aT aZ => ?_
 refine ct aT ?_
 refine cb aZ fun bL bG aZ => cgx (JG bG :) ?_
 refine ct aT ?_
 refine Jdn rfl rfl rfl rfl ?_
 refine ct aT (qa3 (ct aT (qac rfl ?_)))
 refine qae ?_ ?_ <;> intro bd
 replace hm := ift ((si aZ).symm.trans bd) hm
 refine cb hm fun bM bH hm => ckx (J4 bH :) ?_
 rintro _ _ _ ⟨bg, bo, rfl, bj, rfl⟩
 refine cb hm fun bm a8 hm => cgx (Js a8 :) ?_
 refine qav ?_
 refine cs rfl rfl hm ?_ ?_ <;> intro bn hm
 refine qa4 ⟨⟨[], false⟩, _, [(_, _)], []⟩ (by kernel_rfl) ⟨Hp.Le.refl _, (pf rfl), ci0⟩ ?_
 refine qaf rfl rfl (qaj (fa rfl (qao m0 rfl rfl ?_)))
 refine qar rfl ?_
 refine qaa r4 rfl ⟨rfl, rfl, (nl rfl), ?_⟩
 refine qk (sc [1] rfl) ?_
 exact ro (qab r0 rfl (nl rfl) (eE hm))
 refine qai rfl ?_
 refine ro (qab r2 rfl (nl rfl) ?_)
 refine qi2 Tryz.call101 Ja.R_ok r3 aY fun aV aW aX => ?_
 refine cb hm fun bw ba hm => cgx (JcN ba :) ?_
 obtain ⟨br, aU, hm⟩ := bnd hm
 refine cS aU (fun aS aU => ?_) fun aS aU => ?_
 refine ct aS (ct aS (ct aS (qac rfl (cT ?_))))
 replace hm := ift (si aU).symm hm
 refine qaf rfl rfl ?_
 refine qar rfl ?_
 refine qaa r3 rfl ⟨rfl, rfl, (nl rfl), ?_⟩
 exact ro (qab r0 rfl (nl rfl) (eE hm))
 refine ro (qab r2 rfl (nl rfl) (cf aS ?_))
 refine cb aU fun bz bb aU => cgx (JcA bb :) ?_
 refine cf aS (cf aS (qac rfl ?_))
 refine qae ?_ ?_ <;> intro a6
 replace hm := ift ((si aU).symm.trans a6) hm
 refine qaf rfl rfl ?_
 refine qar rfl ?_
 refine qaa r3 rfl ⟨rfl, rfl, (nl rfl), ?_⟩
 exact ro (qab r0 rfl (nl rfl) (eE hm))
 replace hm := qa9 ((si aU).symm.trans a6) hm
 refine ro (qab r2 rfl (nl rfl) ?_)
 refine qaa r3 rfl ⟨rfl, rfl, (nl rfl), ?_⟩
 exact ro (qab r0 rfl (nl rfl) (eE hm))
 replace hm := qa9 ((si aZ).symm.trans bd) hm
 refine cb hm fun bm a8 hm => cgx (Js a8 :) ?_
 refine qav ?_
 refine cs rfl rfl hm ?_ ?_ <;> intro bn hm
 refine qa4 ⟨⟨[], false⟩, _, [(_, _)], []⟩ (by kernel_rfl) ⟨Hp.Le.refl _, (pf rfl), ci0⟩ ?_
 refine qaf rfl rfl (qaj (fa rfl (qao m0 rfl rfl ?_)))
 refine qar rfl ?_
 refine qaa r4 rfl ⟨rfl, rfl, (nl rfl), ?_⟩
 refine qk (sc [1] rfl) ?_
 exact ro (qab r0 rfl (nl rfl) (eE hm))
 refine qai rfl ?_
 refine ro (qab r2 rfl (nl rfl) ?_)
 refine qi2 Tryz.call101 Ja.R_ok r3 aY fun aV aW aX => ?_
 refine cb hm fun bw ba hm => cgx (JcN ba :) ?_
 obtain ⟨br, aU, hm⟩ := bnd hm
 refine cS aU (fun aS aU => ?_) fun aS aU => ?_
 refine ct aS (ct aS (ct aS (qac rfl (cT ?_))))
 replace hm := ift (si aU).symm hm
 refine qaf rfl rfl ?_
 refine qar rfl ?_
 refine qaa r3 rfl ⟨rfl, rfl, (nl rfl), ?_⟩
 exact ro (qab r0 rfl (nl rfl) (eE hm))
 refine ro (qab r2 rfl (nl rfl) (cf aS ?_))
 refine cb aU fun bz bb aU => cgx (JcA bb :) ?_
 refine cf aS (cf aS (qac rfl ?_))
 refine qae ?_ ?_ <;> intro a6
 replace hm := ift ((si aU).symm.trans a6) hm
 refine qaf rfl rfl ?_
 refine qar rfl ?_
 refine qaa r3 rfl ⟨rfl, rfl, (nl rfl), ?_⟩
 exact ro (qab r0 rfl (nl rfl) (eE hm))
 replace hm := qa9 ((si aU).symm.trans a6) hm
 refine ro (qab r2 rfl (nl rfl) ?_)
 refine qaa r3 rfl ⟨rfl, rfl, (nl rfl), ?_⟩
 exact ro (qab r0 rfl (nl rfl) (eE hm))
 refine cf aT (cf aT (cf aT (cf aT (qac rfl (cF ?_)))))
 replace hm := qa9 (si aZ).symm hm
 refine cb hm fun bm a8 hm => cgx (Js a8 :) ?_
 refine qav ?_
 refine cs rfl rfl hm ?_ ?_ <;> intro bn hm
 refine qa4 ⟨⟨[], false⟩, _, [(_, _)], []⟩ (by kernel_rfl) ⟨Hp.Le.refl _, (pf rfl), ci0⟩ ?_
 refine qaf rfl rfl (qaj (fa rfl (qao m0 rfl rfl ?_)))
 refine qar rfl ?_
 refine qaa r4 rfl ⟨rfl, rfl, (nl rfl), ?_⟩
 refine qk (sc [1] rfl) ?_
 exact ro (qab r0 rfl (nl rfl) (eE hm))
 refine qai rfl ?_
 refine ro (qab r2 rfl (nl rfl) ?_)
 refine qi2 Tryz.call101 Ja.R_ok r3 aY fun aV aW aX => ?_
 refine cb hm fun bw ba hm => cgx (JcN ba :) ?_
 obtain ⟨br, aU, hm⟩ := bnd hm
 refine cS aU (fun aS aU => ?_) fun aS aU => ?_
 refine ct aS (ct aS (ct aS (qac rfl (cT ?_))))
 replace hm := ift (si aU).symm hm
 refine qaf rfl rfl ?_
 refine qar rfl ?_
 refine qaa r3 rfl ⟨rfl, rfl, (nl rfl), ?_⟩
 exact ro (qab r0 rfl (nl rfl) (eE hm))
 refine ro (qab r2 rfl (nl rfl) (cf aS ?_))
 refine cb aU fun bz bb aU => cgx (JcA bb :) ?_
 refine cf aS (cf aS (qac rfl ?_))
 refine qae ?_ ?_ <;> intro a6
 replace hm := ift ((si aU).symm.trans a6) hm
 refine qaf rfl rfl ?_
 refine qar rfl ?_
 refine qaa r3 rfl ⟨rfl, rfl, (nl rfl), ?_⟩
 exact ro (qab r0 rfl (nl rfl) (eE hm))
 replace hm := qa9 ((si aU).symm.trans a6) hm
 refine ro (qab r2 rfl (nl rfl) ?_)
 refine qaa r3 rfl ⟨rfl, rfl, (nl rfl), ?_⟩
 exact ro (qab r0 rfl (nl rfl) (eE hm))

def Jbo (depth : Int) (rec_ : (Ja → Int → Int → Option (Bool × Int))) : List Ja → Nat → Int → Option (Fl (Bool × Int) (Int))
  | [], _, ac => some (Fl.go ac)
  | e0 :: aT, i0, ac =>
    (chk (InI (depth - 1))).bind fun _ =>
    (rec_ e0 ac (depth - 1)).bind fun aS =>
    if (!aS.1) then
    some (Fl.ret (false, aS.2))
    else
    Jbo depth rec_ aT (i0 + 1) aS.2
def JbE : Nat → Ja → Int → Int → Option (Bool × Int)
  | 0, _, _, _ => none
  | n + 1, n', nodes, depth =>
    (chk (InI (nodes - 1))).bind fun _ =>
    if (decide ((nodes - 1) < 0) || decide (depth < 1)) then
    some (false, (nodes - 1))
    else
    (chk (n'.Aa.length ≤ qbd)).bind fun _ =>
    (Jbo depth (JbE n) n'.Aa 0 (nodes - 1)).bind fun s0 => s0.el some fun t0 =>
    some (true, t0)
theorem Jd7 : ∀ {n : Nat} {n' : Ja} {nodes : Int} {depth : Int} {aa : Option Addr} {ab : Nat} {b1 : Nat} {K : Hp} {r : Bool × Int}
    (hm : JbE n n' nodes depth = some r) (ae : LiC Ja.R K aa ab 4 n'.Aa),
    Fn Tryz.prog 189 [.agg #[.int .i64 n'.Ab, str n'.Ac, .slice aa n'.Aa.length ab, .int .i64 n'.Ad], .pointer (some ⟨b1, 0, none⟩), .int .i64 depth] K [Cells b1 3 [.int .i64 nodes]] (fun v K' H' => v = .bool r.1 ∧ H' = [Cells b1 3 [.int .i64 r.2]]) := by
 intro n
 induction n with
 | zero =>
   intro n' nodes depth aa ab b1 K r hm ae
   rw [JbE.eq_1] at hm; cases hm
 | succ n ih =>
   intro n' nodes depth aa ab b1 K r hm ae
   refine Fn.enter Tryz.func189 Tryz.call189 rfl fun F => ?_
   rw [JbE.eq_2] at hm
   refine qaq ?_
   intro b3
   refine qaj (ro (ld r1 rfl rfl ?_))
   obtain ⟨bb, hm⟩ := qay hm
   refine qam bb (qaj ?_)
   refine qaa r1 rfl ⟨rfl, rfl, (nl rfl), ?_⟩
   refine jR (σ := Unit) (rg 14 8) (fun _ => [(21, .bool (decide ((nodes - 1) < 0) || decide (depth < 1)))]) (fun bc => True) ?_ ?_
   refine qai rfl ?_
   refine qaj (ro (ld r0 rfl rfl ?_))
   refine qae ?_ ?_ <;> intro aS
   refine ct aS (ct aS ?_)
   exact eMt () ⟨bq (((qbt aS)).symm), trivial⟩
   refine cf aS (cf aS ?_)
   exact eMt () ⟨bq (qgz (b := decide (depth < 1)) aS), trivial⟩
   rintro _ _ bg
   refine cs rfl rfl hm ?_ ?_ <;> intro bl hm
   exact eE hm
   refine fa rfl (ro (ld r1 rfl rfl (ro (qak rfl ?_))))
   obtain ⟨ba, hm⟩ := qay hm
   obtain ⟨s0, aT, hm⟩ := bnd hm
   refine lD (σ := (Int)) ([6,8] ++ rg 25 11) [1, 2] (fun i0 => [(25, .int .i64 (i0 : Int))]) (fun _ => []) (fun t0 => [Cells b1 3 [.int .i64 t0]]) (fun _ => True) (fun i0 t0 => Jbo depth (JbE n) (n'.Aa.drop i0) i0 t0 = some s0) (fun t0 => s0 = Fl.go t0) (fun i0 => n'.Aa.length - i0) 0 _ aT (And.intro qe (And.intro ?_ ?_))
   clear aT
   rintro i0 ac _ aT j0
   conv at aT => whnf
   refine qac rfl ?_
   refine qae ?_ ?_ <;> intro w0
   obtain ⟨e0, aU, bf⟩ := ltx w0
   rw [bf, Jbo.eq_2] at aT
   refine qal rfl ?_
   refine RStep.ofN (qad rfl rfl (qc2 ae.rd aU) (nn _) (qbm aU) ?_)
   obtain ⟨bd, a8, aV, aW, aX⟩ := LiR.get ae.rd aU
   obtain ⟨aZ, aY, rfl, a6⟩ := Ja.out aX
   refine ro (qan i0 _ aV rfl aW rfl ?_)
   refine qah rfl fun b8 => ?_
   refine qaa r0 rfl ⟨rfl, rfl, (nl rfl), ?_⟩
   refine ro (qab r0 rfl (nl rfl) ?_)
   refine ci aT fun aT => ?_
   refine cb aT fun bj bh aT => cgx (ih bh :) ?_
   refine qav ?_
   refine cs rfl rfl aT ?_ ?_ <;> intro bm aT
   exact eE (er aT hm)
   refine qam (qbs aU ba) ?_
   exact eR aT (_, _)
   rw [lty w0, Jbo.eq_1] at aT
   refine cT ?_
   exact eM aT _
   rintro t0 _ rfl j0
   replace hm := elg hm
   exact eE hm

def Ja6 : List UInt8 → Nat → Option (Fl (Bool) (Unit))
  | [], _ => some (Fl.go ())
  | e0 :: aT, i0 =>
    (if decide ((e0.toNat : Int) < 48) then some true else some (decide ((e0.toNat : Int) > 57))).bind fun aS =>
    if aS then
    some (Fl.ret false)
    else
    Ja6 aT (i0 + 1)
def Jc0 (s : Str) : Option (Bool) :=
  (chk (s.length ≤ qbd)).bind fun _ =>
  (Ja6 s 0).bind fun s0 => s0.el some fun t0 =>
  some (decide ((s.length : Int) ≥ 1) && decide ((s.length : Int) ≤ 9))
theorem JdZ {s : Str} {K : Hp} {r : Bool}
    (hm : Jc0 s = some r)  :
    Fn Tryz.prog 258 [str s] K [] (fun v K' H' => v = .bool r ∧ H' = []) := by
 refine Fn.enter Tryz.func258 Tryz.call258 rfl fun F => ?_
 unfold Jc0 at hm
 refine ro (qa2 rfl ?_)
 obtain ⟨aY, hm⟩ := qay hm
 obtain ⟨s0, aU, hm⟩ := bnd hm
 refine lD (σ := (Unit)) ([2,3] ++ rg 6 14) [0] (fun i0 => [(6, .int .i64 (i0 : Int))]) (fun _ => []) (fun _ => []) (fun _ => True) (fun i0 _ => Ja6 (s.drop i0) i0 = some s0) (fun t0 => s0 = Fl.go t0) (fun i0 => s.length - i0) 0 () aU (And.intro qe (And.intro ?_ ?_))
 clear aU
 rintro i0 _ _ aU j0
 conv at aU => whnf
 refine qac rfl ?_
 refine qae ?_ ?_ <;> intro w0
 obtain ⟨e0, aW, aZ⟩ := ltx w0
 rw [aZ, Ja6.eq_2] at aU
 refine qal rfl ?_
 refine qai rfl ?_
 refine qaz rfl (nn _) aW ?_
 obtain ⟨a6, aV, aU⟩ := bnd aU
 refine cS aV (fun aS aV => ?_) fun aS aV => ?_
 refine ct aS (ct aS (ct aS (ct aS (qac rfl (cT ?_)))))
 replace aU := ift (si aV).symm aU
 exact eE (er aU hm)
 refine cf aS (cf aS (qaz rfl (nn _) aW (cf aS (cf aS (qac rfl ?_)))))
 refine qae ?_ ?_ <;> intro aX
 replace aU := ift ((si aV).symm.trans aX) aU
 exact eE (er aU hm)
 replace aU := qa9 ((si aV).symm.trans aX) aU
 refine qam (qbs aW aY) ?_
 exact eR aU (_, ())
 rw [lty w0, Ja6.eq_1] at aU
 refine cT ?_
 exact eM aU _
 rintro t0 _ rfl j0
 replace hm := elg hm
 refine qai rfl ?_
 refine ro (qa2 rfl ?_)
 refine qae ?_ ?_ <;> intro aT
 refine ct aT (ro (qa2 rfl (ct aT (ct aT ?_))))
 exact bE (qcw (b := decide ((s.length : Int) ≤ 9)) aT) (eE hm)
 refine cf aT (cf aT (cf aT ?_))
 exact bE (((qbc aT)).symm) (eE hm)

def Ja3 : List UInt8 → Nat → Str → Option (Fl (Str × Err) (Str))
  | [], _, ac => some (Fl.go ac)
  | e0 :: aT, i0, ac =>
    (if decide ((e0.toNat : Int) < 32) then some true else some (decide ((e0.toNat : Int) > 126))).bind fun aS =>
    if aS then
    some (Fl.ret (([] : Str), (some 2)))
    else
    (if decide ((e0.toNat : Int) = 34) then some true else some (decide ((e0.toNat : Int) = 92))).bind fun aU =>
    if aU then
    (chk (ac.length + ([(92 : UInt8)] : Str).length ≤ lim)).bind fun _ =>
    (chk ((ac ++ ([(92 : UInt8)] : Str)).length + ([e0] : Str).length ≤ lim)).bind fun _ =>
    Ja3 aT (i0 + 1) ((ac ++ ([(92 : UInt8)] : Str)) ++ ([e0] : Str))
    else
    (chk (ac.length + ([e0] : Str).length ≤ lim)).bind fun _ =>
    Ja3 aT (i0 + 1) (ac ++ ([e0] : Str))
def JcY (s : Str) : Option (Str × Err) :=
  (chk (s.length ≤ qbd)).bind fun _ =>
  (Ja3 s 0 ([(34 : UInt8)] : Str)).bind fun s0 => s0.el some fun t0 =>
  (chk (t0.length + ([(34 : UInt8)] : Str).length ≤ lim)).bind fun _ =>
  some ((t0 ++ ([(34 : UInt8)] : Str)), none)
theorem Jdz {s : Str} {K : Hp} {r : Str × Err}
    (hm : JcY s = some r)  :
    Fn Tryz.prog 238 [str s] K [] (fun v K' H' => v = .tuple #[str r.1, qcr 48 r.2] ∧ H' = []) := by
 refine Fn.enter Tryz.func238 Tryz.call238 rfl fun F => ?_
 unfold JcY at hm
 refine bsO (len := 1) (enc := eU) (l := ([(34 : UInt8)] : Str)) (cl := [.int .u8 34]) qcl rfl rfl (fun _ _ => rfl) rfl rfl rfl ?_ fun b6 => ?_
 · conv => whnf
   refine cT ?_
   first | done | rfl
 refine ro (qa2 rfl ?_)
 obtain ⟨bd, hm⟩ := qay hm
 obtain ⟨s0, aS, hm⟩ := bnd hm
 refine lD (σ := (Str) × Option Addr × Nat) ([2,3,4,5] ++ rg 9 34) [1] (fun i0 => [(9, .int .i64 (i0 : Int))]) (fun (t0, aV, aW) => [(4, .slice aV t0.length aW)]) (fun (t0, aV, aW) => [qat eU aV 5 1 aW t0]) (fun (t0, aV, aW) => (0 < t0.length → Has aV) ∧ True) (fun i0 (t0, aV, aW) => Ja3 (s.drop i0) i0 t0 = some s0) (fun (t0, aV, aW) => s0 = Fl.go t0) (fun i0 => s.length - i0) 0 (_, _, _) aS (And.intro qe (And.intro ?_ ?_))
 clear aS
 rintro i0 ⟨ac, bp, bj⟩ ⟨bf, _⟩ aS j0
 conv at aS => whnf
 refine qac rfl ?_
 refine qae ?_ ?_ <;> intro w0
 obtain ⟨e0, aY, bz⟩ := ltx w0
 rw [bz, Ja3.eq_2] at aS
 refine qal rfl ?_
 obtain ⟨bc, aX, aS⟩ := bnd aS
 refine jR (σ := Bool) (rg 12 10) (fun aZ => [(21, .bool aZ)]) (fun aZ => aZ = bc) ?_ ?_
 replace aX := bsm aX
 refine qai rfl ?_
 refine qaz rfl (nn _) aY ?_
 obtain ⟨bF, ba, aX⟩ := bnd aX
 refine cS ba (fun aU ba => ?_) fun aU ba => ?_
 refine ct aU (ct aU (ct aU (ct aU ?_)))
 exact eMq aX _ ⟨bq (si ba), trivial⟩
 refine cf aU (cf aU (qaz rfl (nn _) aY (cf aU (cf aU ?_))))
 exact eMq aX _ ⟨bq (si ba), trivial⟩
 rintro aZ rfl bA
 refine cs rfl rfl aS ?_ ?_ <;> intro bC aS
 refine qar rfl ?_
 exact eE (er aS hm)
 refine qai rfl ?_
 refine qaz rfl (nn _) aY (qag ?_)
 obtain ⟨bG, a6, aS⟩ := bnd aS
 refine cS a6 (fun aT a6 => ?_) fun aT a6 => ?_
 refine ct aT (ct aT (ct aT (ct aT (qac rfl (cT ?_)))))
 replace aS := ift (si a6).symm aS
 refine bsO (len := 1) (enc := eU) (l := ([(92 : UInt8)] : Str)) (cl := [.int .u8 92]) qcl rfl rfl (fun _ _ => rfl) rfl rfl rfl ?_ fun bw => ?_
 · conv => whnf
   refine cT ?_
   first | done | rfl
 obtain ⟨bb, aS⟩ := qay aS
 refine apE rfl r1 qcl (qax rfl r0 rfl (fun _ => rfl) (fun _ => rfl)) bb ?_
 intro bv bt bu
 refine qaz rfl (nn _) aY ?_
 refine bsO (len := 1) (enc := eU) (l := ([e0] : Str)) (cl := [.int .u8 (e0.toNat : Int)]) qcl rfl rfl (fun _ _ => rfl) rfl rfl rfl ?_ fun bn => ?_
 · conv => whnf
   refine cT ?_
   first | done | rfl
 obtain ⟨a8, aS⟩ := qay aS
 refine apE rfl r1 qcl (qax rfl r0 rfl (fun _ => rfl) (fun _ => rfl)) a8 ?_
 intro bh bl bo
 refine qam (qbs aY bd) ?_
 exact eR aS (_, _, _, _)
 refine cf aT (cf aT (qaz rfl (nn _) aY (cf aT (qag (cf aT (qac rfl ?_))))))
 refine qae ?_ ?_ <;> intro bm
 replace aS := ift ((si a6).symm.trans bm) aS
 refine bsO (len := 1) (enc := eU) (l := ([(92 : UInt8)] : Str)) (cl := [.int .u8 92]) qcl rfl rfl (fun _ _ => rfl) rfl rfl rfl ?_ fun bw => ?_
 · conv => whnf
   refine cT ?_
   first | done | rfl
 obtain ⟨bb, aS⟩ := qay aS
 refine apE rfl r1 qcl (qax rfl r0 rfl (fun _ => rfl) (fun _ => rfl)) bb ?_
 intro bv bt bu
 refine qaz rfl (nn _) aY ?_
 refine bsO (len := 1) (enc := eU) (l := ([e0] : Str)) (cl := [.int .u8 (e0.toNat : Int)]) qcl rfl rfl (fun _ _ => rfl) rfl rfl rfl ?_ fun bn => ?_
 · conv => whnf
   refine cT ?_
   first | done | rfl
 obtain ⟨a8, aS⟩ := qay aS
 refine apE rfl r1 qcl (qax rfl r0 rfl (fun _ => rfl) (fun _ => rfl)) a8 ?_
 intro bh bl bo
 refine qam (qbs aY bd) ?_
 exact eR aS (_, _, _, _)
 replace aS := qa9 ((si a6).symm.trans bm) aS
 refine qaz rfl (nn _) aY ?_
 refine bsO (len := 1) (enc := eU) (l := ([e0] : Str)) (cl := [.int .u8 (e0.toNat : Int)]) qcl rfl rfl (fun _ _ => rfl) rfl rfl rfl ?_ fun bn => ?_
 · conv => whnf
   refine cT ?_
   first | done | rfl
 obtain ⟨a8, aS⟩ := qay aS
 refine apE rfl r1 qcl (qax rfl r0 rfl (fun _ => rfl) (fun _ => rfl)) a8 ?_
 intro bh bl bo
 refine qam (qbs aY bd) ?_
 exact eR aS (_, _, _, _)
 rw [lty w0, Ja3.eq_1] at aS
 refine cT ?_
 exact eM aS (_, _, _)
 rintro ⟨t0, aV, aW⟩ ⟨bg, _⟩ rfl j0
 replace hm := elg hm
 refine bsO (len := 1) (enc := eU) (l := ([(34 : UInt8)] : Str)) (cl := [.int .u8 34]) qcl rfl rfl (fun _ _ => rfl) rfl rfl rfl ?_ fun bD => ?_
 · conv => whnf
   refine cT ?_
   first | done | rfl
 obtain ⟨br, hm⟩ := qay hm
 refine apE rfl r1 qcl (qax rfl r0 rfl (fun _ => rfl) (fun _ => rfl)) br ?_
 intro bB bI bH
 refine ro (qek rfl r0 rfl rfl rfl ?_)
 exact eE hm

def Ja7 (s : Str) : Option (Bool) :=
  (JcY s).bind fun x7 =>
  some x7.2.isNone
theorem JbR {s : Str} {K : Hp} {r : Bool}
    (hm : Ja7 s = some r)  :
    Fn Tryz.prog 225 [str s] K [] (fun v K' H' => v = .bool r ∧ H' = []) := by
 refine Fn.enter Tryz.func225 Tryz.call225 rfl fun F => ?_
 unfold Ja7 at hm
 refine cb hm fun x7 q7 hm => cg0 (Jdz q7 :) ?_
 refine qc7 rfl ?_
 exact eE hm

def Jb8 (n : Nat) (s : Str) : Option (Bool) :=
  (JcV n s).bind fun x7 =>
  (if (x7.2.isNone && decide ((x7.1.length : Int) = 2)) then (ix x7.1 0).bind fun aV =>
  some (decide (aV.Ab = 1)) else some false).bind fun aS =>
  (if aS then (ix x7.1 0).bind fun aU =>
  some (decide (aU.Ac = s)) else some false).bind fun aX =>
  (if aX then (JbQ s).bind fun aW =>
  some (!aW) else some false).bind fun aT =>
  some aT
theorem JcB {n : Nat} {s : Str} {K : Hp} {r : Bool}
    (hm : Jb8 n s = some r) (hG : GG K) :
    Fn Tryz.prog 226 [str s] K [] (fun v K' H' => v = .bool r ∧ H' = []) := by
 refine Fn.enter Tryz.func226 Tryz.call226 rfl fun F => ?_
 unfold Jb8 at hm
 refine cb hm fun x7 q7 hm => ck0 (Jdy q7 :) ?_
 rintro _ _ _ ⟨bg, bh, rfl, aZ, rfl⟩
 refine qai rfl ?_
 refine qc7 rfl ?_
 refine qae ?_ ?_ <;> intro aU
 refine ct aU (ro (qak rfl (ct aU (qag (ct aU ?_)))))
 obtain ⟨bf, aY, hm⟩ := bnd hm
 refine qae ?_ ?_ <;> intro aT
 replace aY := ift (qct aU aT) aY
 refine ct aT ?_
 obtain ⟨bl, bc, a6, aY⟩ := ixb aY
 refine RStep.ofN (qad rfl rfl (qcv aZ a6) bc (qaw rfl bc a6) (ct aT (qba rfl (qcv aZ a6) (ct aT (ro (qb7 (i := (0 : Int).toNat) (o := 0) r0 rfl a6 rfl rfl (ct aT (qag (ct aT ?_)))))))))
 obtain ⟨bb, aX, hm⟩ := bnd hm
 refine qae ?_ ?_ <;> intro aS
 replace aX := ift ((si aY).symm.trans aS) aX
 refine ct aS ?_
 obtain ⟨bn, bd, a8, aX⟩ := ixb aX
 refine RStep.ofN (qad rfl rfl (qcv aZ a8) bd (qaw rfl bd a8) (ct aS (qba rfl (qcv aZ a8) (ct aS (ro (qb7 (i := (0 : Int).toNat) (o := 1) r0 rfl a8 rfl rfl (ct aS (ct aS (qap ?_)))))))))
 refine ct aS ?_
 obtain ⟨ba, aW, hm⟩ := bnd hm
 refine qae ?_ ?_ <;> intro aV
 replace aW := ift ((si aX).symm.trans aV) aW
 refine ct aV ?_
 refine cb aW fun bm bj aW => cgx (Jcm bj :) ?_
 refine ct aV (qav (ct aV ?_))
 exact bE (si aW) (eE hm)
 replace aW := qa9 ((si aX).symm.trans aV) aW
 refine cf aV (cf aV (cf aV ?_))
 exact bE (si aW) (eE hm)
 replace aX := qa9 ((si aY).symm.trans aS) aX
 refine cf aS (cf aS (cf aS (cf aS (cf aS (cf aS ?_)))))
 obtain ⟨ba, aW, hm⟩ := bnd hm
 replace aW := qa9 (si aX).symm aW
 refine cF (cF (cF (cF ?_)))
 exact bE (si aW) (eE hm)
 replace aY := qa9 (qcu aU aT) aY
 refine cf aT (cf aT (cf aT (cf aT (cf aT ?_))))
 obtain ⟨bb, aX, hm⟩ := bnd hm
 replace aX := qa9 (si aY).symm aX
 refine cF (cF (cF (cF (cF (cF (cF ?_))))))
 obtain ⟨ba, aW, hm⟩ := bnd hm
 replace aW := qa9 (si aX).symm aW
 refine cF (cF (cF (cF ?_)))
 exact bE (si aW) (eE hm)
 refine cf aU (cf aU (cf aU ?_))
 obtain ⟨bf, aY, hm⟩ := bnd hm
 replace aY := qa9 (qbc aU) aY
 refine cF (cF (cF (cF (cF (cF ?_)))))
 obtain ⟨bb, aX, hm⟩ := bnd hm
 replace aX := qa9 (si aY).symm aX
 refine cF (cF (cF (cF (cF (cF (cF ?_))))))
 obtain ⟨ba, aW, hm⟩ := bnd hm
 replace aW := qa9 (si aX).symm aW
 refine cF (cF (cF (cF ?_)))
 exact bE (si aW) (eE hm)

def JcC (n : Nat) (n' : Ja) : Option (Int) :=
  if decide (n'.Ab = 13) then
  if (!decide (n'.Ac = ([] : Str))) then
  some (-2)
  else
  some 2
  else
  if decide (n'.Ab = 14) then
  if (!decide (n'.Ac = ([] : Str))) then
  some (-2)
  else
  some 2
  else
  if decide (n'.Ab = 17) then
  if (!decide (n'.Ac = ([] : Str))) then
  some (-2)
  else
  some 2
  else
  if decide (n'.Ab = 18) then
  if (!decide (n'.Ac = ([] : Str))) then
  some (-2)
  else
  some 2
  else
  if decide (n'.Ab = 19) then
  if (!decide (n'.Ac = ([] : Str))) then
  some (-2)
  else
  some 2
  else
  if decide (n'.Ab = 15) then
  if (!decide (n'.Ac = ([] : Str))) then
  some (-2)
  else
  some 1
  else
  if decide (n'.Ab = 16) then
  (Jbl 4 n'.Ac).bind fun aW =>
  (if aW then some true else (Jbl 1 n'.Ac).bind fun aY =>
  some aY).bind fun aV =>
  if (!aV) then
  some (-2)
  else
  some 2
  else
  if decide (n'.Ab = 20) then
  (Jc0 n'.Ac).bind fun aX =>
  if (!aX) then
  some (-2)
  else
  some 0
  else
  if decide (n'.Ab = 21) then
  (Ja7 n'.Ac).bind fun aS =>
  if (!aS) then
  some (-2)
  else
  some 0
  else
  if decide (n'.Ab = 22) then
  if (!(decide (n'.Ac = ([116, 114, 117, 101] : Str)) || decide (n'.Ac = ([102, 97, 108, 115, 101] : Str)))) then
  some (-2)
  else
  some 0
  else
  if decide (n'.Ab = 23) then
  (Jb8 n n'.Ac).bind fun aT =>
  if (!aT) then
  some (-2)
  else
  some 0
  else
  if decide (n'.Ab = 24) then
  (Jb8 n n'.Ac).bind fun aU =>
  if (!aU) then
  some (-2)
  else
  some (-1)
  else
  some (-2)
theorem JdO {n : Nat} {n' : Ja} {aa : Option Addr} {ab : Nat} {K : Hp} {r : Int}
    (hm : JcC n n' = some r) (hX : LiC Ja.R K aa ab 4 n'.Aa ∧ GG K) :
    Fn Tryz.prog 242 [.agg #[.int .i64 n'.Ab, str n'.Ac, .slice aa n'.Aa.length ab, .int .i64 n'.Ad]] K [] (fun v K' H' => v = .int .i64 r ∧ H' = []) := by
 obtain ⟨ae, hG⟩ := hX
 refine Fn.enter Tryz.func242 Tryz.call242 rfl fun F => ?_
 unfold JcC at hm
 refine qaq ?_
 intro b1
 refine fa rfl (ro (ld r0 rfl rfl (qap (fa rfl (ro (ld r0 rfl rfl ?_))))))
 refine qal rfl ?_
 refine qag (cs rfl rfl hm ?_ ?_) <;> intro aW hm
 refine qac rfl (ct aW (qav ?_))
 refine cs rfl rfl hm ?_ ?_ <;> intro aU hm
 exact eE hm
 exact eE hm
 refine qag (cs rfl rfl hm ?_ ?_) <;> intro aW hm
 refine qac rfl (ct aW (qav ?_))
 refine cs rfl rfl hm ?_ ?_ <;> intro aU hm
 exact eE hm
 exact eE hm
 refine qag (cs rfl rfl hm ?_ ?_) <;> intro aW hm
 refine qac rfl (ct aW (qav ?_))
 refine cs rfl rfl hm ?_ ?_ <;> intro aU hm
 exact eE hm
 exact eE hm
 refine qag (cs rfl rfl hm ?_ ?_) <;> intro aW hm
 refine qac rfl (ct aW (qav ?_))
 refine cs rfl rfl hm ?_ ?_ <;> intro aU hm
 exact eE hm
 exact eE hm
 refine qag (cs rfl rfl hm ?_ ?_) <;> intro aW hm
 refine qav ?_
 refine cs rfl rfl hm ?_ ?_ <;> intro aU hm
 exact eE hm
 exact eE hm
 refine qag (cs rfl rfl hm ?_ ?_) <;> intro bb hm
 refine qav ?_
 refine cs rfl rfl hm ?_ ?_ <;> intro aU hm
 exact eE hm
 exact eE hm
 refine qag (cs rfl rfl hm ?_ ?_) <;> intro br hm
 refine qai rfl ?_
 refine fa rfl (ro (ld r0 rfl rfl ?_))
 refine cb hm fun bc a6 hm => cg0 (Jb5 a6 :) ?_
 obtain ⟨bh, aV, hm⟩ := bnd hm
 refine cS aV (fun aT aV => ?_) fun aT aV => ?_
 refine ct aT (ct aT (ct aT (qav (qac rfl (cF ?_)))))
 replace hm := qa9 (qdj (si aV).symm) hm
 exact eE hm
 refine fa rfl (cf aT (ro (ld r0 rfl rfl (cf aT ?_))))
 refine cb aV fun bp aY aV => cg0 (Jb5 aY :) ?_
 refine cf aT (qav (qac rfl ?_))
 refine qae ?_ ?_ <;> intro aU
 replace hm := ift (qfh ((si aV).symm.trans (qj4 aU))) hm
 exact eE hm
 replace hm := qa9 (qdj ((si aV).symm.trans (qh0 aU))) hm
 exact eE hm
 refine qag (cs rfl rfl hm ?_ ?_) <;> intro bt hm
 refine fa rfl (ro (ld r0 rfl rfl ?_))
 refine cb hm fun bf aZ hm => cg0 (JdZ aZ :) ?_
 refine qav ?_
 refine cs rfl rfl hm ?_ ?_ <;> intro aU hm
 exact eE hm
 exact eE hm
 refine qag (cs rfl rfl hm ?_ ?_) <;> intro bl hm
 refine fa rfl (ro (ld r0 rfl rfl ?_))
 refine cb hm fun bg ba hm => cg0 (JbR ba :) ?_
 refine qav ?_
 refine cs rfl rfl hm ?_ ?_ <;> intro aU hm
 exact eE hm
 exact eE hm
 refine qag (cs rfl rfl hm ?_ ?_) <;> intro bm hm
 refine qai rfl ?_
 refine fa rfl (ro (ld r0 rfl rfl (qap ?_)))
 refine qae ?_ ?_ <;> intro aS
 refine ct aS (ct aS (ct aS (qav (qac rfl (cF ?_)))))
 replace hm := qa9 (qdj (qbt aS)) hm
 exact eE hm
 refine fa rfl (cf aS (ro (ld r0 rfl rfl (cf aS (qap (cf aS (qav (qac rfl ?_))))))))
 refine qae ?_ ?_ <;> intro aU
 replace hm := ift (qfh (qcy aS (qj4 aU))) hm
 exact eE hm
 replace hm := qa9 (qdj (qfg aS (qh0 aU))) hm
 exact eE hm
 refine qag (cs rfl rfl hm ?_ ?_) <;> intro bd hm
 refine fa rfl (ro (ld r0 rfl rfl ?_))
 refine cb hm fun bn a8 hm => cgx (JcB a8 :) ?_
 refine qav ?_
 refine cs rfl rfl hm ?_ ?_ <;> intro aU hm
 exact eE hm
 exact eE hm
 refine qag (cs rfl rfl hm ?_ ?_) <;> intro bj hm
 refine fa rfl (ro (ld r0 rfl rfl ?_))
 refine cb hm fun bo aX hm => cgx (JcB aX :) ?_
 refine qav ?_
 refine cs rfl rfl hm ?_ ?_ <;> intro aU hm
 exact eE hm
 exact eE hm
 exact eE hm

def JY (rec_ : (Ja → Option (Bool))) : List Ja → Nat → Option (Fl (Bool) (Unit))
  | [], _ => some (Fl.go ())
  | e0 :: aT, i0 =>
    (rec_ e0).bind fun aS =>
    if (!aS) then
    some (Fl.ret false)
    else
    JY rec_ aT (i0 + 1)
def JL : Nat → Ja → Option (Bool)
  | 0, _ => none
  | n + 1, n' =>
    (JcC n n').bind fun x7 =>
    if decide (x7 = (-2)) then
    some false
    else
    if (decide (x7 ≥ 0) && decide ((n'.Aa.length : Int) ≠ x7)) then
    some false
    else
    (chk (n'.Aa.length ≤ qbd)).bind fun _ =>
    (JY (JL n) n'.Aa 0).bind fun s0 => s0.el some fun t0 =>
    some true
theorem JZ : ∀ {n : Nat} {n' : Ja} {aa : Option Addr} {ab : Nat} {K : Hp} {r : Bool}
    (hm : JL n n' = some r) (hX : LiC Ja.R K aa ab 4 n'.Aa ∧ GG K),
    Fn Tryz.prog 223 [.agg #[.int .i64 n'.Ab, str n'.Ac, .slice aa n'.Aa.length ab, .int .i64 n'.Ad]] K [] (fun v K' H' => v = .bool r ∧ H' = []) := by
 intro n
 induction n with
 | zero =>
   intro n' aa ab K r hm hX
   rw [JL.eq_1] at hm; cases hm
 | succ n ih =>
   intro n' aa ab K r hm hX
   obtain ⟨ae, hG⟩ := hX
   refine Fn.enter Tryz.func223 Tryz.call223 rfl fun F => ?_
   rw [JL.eq_2] at hm
   refine qaq ?_
   intro b1
   refine ro (qab r0 rfl (nl rfl) ?_)
   refine cb hm fun x7 q7 hm => cgx (JdO q7 :) ?_
   refine qai rfl ?_
   refine qag ?_
   refine cS hm (fun aT hm => ?_) fun aT hm => ?_
   refine ct aT (ct aT (ct aT (ct aT (qac rfl (cT ?_)))))
   exact eE hm
   refine cf aT (cf aT ?_)
   refine qae ?_ ?_ <;> intro aS
   refine fa rfl (ct aS (ro (ld r0 rfl rfl (ct aS (ro (qak rfl (ct aS (ct aS (qa3 ?_)))))))))
   refine cf aT (ct aS (cf aT (qac rfl ?_)))
   refine qae ?_ ?_ <;> intro bg
   replace hm := ift (qct aS bg) hm
   exact eE hm
   replace hm := qa9 (qcu aS bg) hm
   refine fa rfl (ro (ld r0 rfl rfl (ro (qak rfl ?_))))
   obtain ⟨bb, hm⟩ := qay hm
   obtain ⟨s0, aU, hm⟩ := bnd hm
   refine lD (σ := (Unit)) ([2,5] ++ rg 24 8) [0, 1] (fun i0 => [(24, .int .i64 (i0 : Int))]) (fun _ => []) (fun _ => []) (fun _ => True) (fun i0 _ => JY (JL n) (n'.Aa.drop i0) i0 = some s0) (fun t0 => s0 = Fl.go t0) (fun i0 => n'.Aa.length - i0) 0 () aU (And.intro qe (And.intro ?_ ?_))
   clear aU
   rintro i0 _ _ aU j0
   conv at aU => whnf
   refine qac rfl ?_
   refine qae ?_ ?_ <;> intro w0
   obtain ⟨e0, aV, bf⟩ := ltx w0
   rw [bf, JY.eq_2] at aU
   refine qal rfl ?_
   refine RStep.ofN (qad rfl rfl (qc2 ae.rd aV) (nn _) (qbm aV) ?_)
   obtain ⟨bc, ba, aW, aY, aX⟩ := LiR.get ae.rd aV
   obtain ⟨a6, a8, rfl, aZ⟩ := Ja.out aX
   refine ro (qan i0 _ aW rfl aY rfl ?_)
   refine qah rfl fun b5 => ?_
   refine qaa r0 rfl ⟨rfl, rfl, (nl rfl), ?_⟩
   refine ro (qab r0 rfl (nl rfl) ?_)
   refine cb aU fun bj bd aU => cgx (ih bd :) ?_
   refine qav ?_
   refine cs rfl rfl aU ?_ ?_ <;> intro bh aU
   exact eE (er aU hm)
   refine qam (qbs aV bb) ?_
   exact eR aU (_, ())
   rw [lty w0, JY.eq_1] at aU
   refine cT ?_
   exact eM aU _
   rintro t0 _ rfl j0
   replace hm := elg hm
   exact eE hm
   refine cf aS (cf aS (cf aS (cf aS (cf aT (cf aS (cf aT (qac rfl ?_)))))))
   refine cF ?_
   replace hm := qa9 (qbc aS) hm
   refine fa rfl (ro (ld r0 rfl rfl (ro (qak rfl ?_))))
   obtain ⟨bb, hm⟩ := qay hm
   obtain ⟨s0, aU, hm⟩ := bnd hm
   refine lD (σ := (Unit)) ([2,5] ++ rg 24 8) [0, 1] (fun i0 => [(24, .int .i64 (i0 : Int))]) (fun _ => []) (fun _ => []) (fun _ => True) (fun i0 _ => JY (JL n) (n'.Aa.drop i0) i0 = some s0) (fun t0 => s0 = Fl.go t0) (fun i0 => n'.Aa.length - i0) 0 () aU (And.intro qe (And.intro ?_ ?_))
   clear aU
   rintro i0 _ _ aU j0
   conv at aU => whnf
   refine qac rfl ?_
   refine qae ?_ ?_ <;> intro w0
   obtain ⟨e0, aV, bf⟩ := ltx w0
   rw [bf, JY.eq_2] at aU
   refine qal rfl ?_
   refine RStep.ofN (qad rfl rfl (qc2 ae.rd aV) (nn _) (qbm aV) ?_)
   obtain ⟨bc, ba, aW, aY, aX⟩ := LiR.get ae.rd aV
   obtain ⟨a6, a8, rfl, aZ⟩ := Ja.out aX
   refine ro (qan i0 _ aW rfl aY rfl ?_)
   refine qah rfl fun b5 => ?_
   refine qaa r0 rfl ⟨rfl, rfl, (nl rfl), ?_⟩
   refine ro (qab r0 rfl (nl rfl) ?_)
   refine cb aU fun bj bd aU => cgx (ih bd :) ?_
   refine qav ?_
   refine cs rfl rfl aU ?_ ?_ <;> intro bh aU
   exact eE (er aU hm)
   refine qam (qbs aV bb) ?_
   exact eR aU (_, ())
   rw [lty w0, JY.eq_1] at aU
   refine cT ?_
   exact eM aU _
   rintro t0 _ rfl j0
   replace hm := elg hm
   exact eE hm

def JaY (aB : (Ja → Option (Bool))) : List Ja → Nat → Option (Fl (Bool) (Unit))
  | [], _ => some (Fl.go ())
  | e0 :: aS, i0 =>
    (aB e0).bind fun aT =>
    if (!aT) then
    some (Fl.ret false)
    else
    JaY aB aS (i0 + 1)
def Jcd (aB : (Ja → Option (Bool))) (n : Nat) (n' : Ja) : Option (Bool) :=
  if (decide (n'.Ab ≠ 12) || decide (n'.Ac ≠ ([] : Str))) then
  some false
  else
  (chk (n'.Aa.length ≤ qbd)).bind fun _ =>
  (JaY aB n'.Aa 0).bind fun s0 => s0.el some fun t0 =>
  some true
theorem Jc1 {aB : (Ja → Option (Bool))} (ihrec2_0 : ∀ {n' : Ja} {aa : Option Addr} {ab : Nat} {K : Hp} {r : Bool} (hm : aB n' = some r) (hX : LiC Ja.R K aa ab 4 n'.Aa ∧ GG K), Fn Tryz.prog 190 [.agg #[.int .i64 n'.Ab, str n'.Ac, .slice aa n'.Aa.length ab, .int .i64 n'.Ad]] K [] (fun v K' H' => v = .bool r ∧ H' = [])) {n : Nat} {n' : Ja} {aa : Option Addr} {ab : Nat} {K : Hp} {r : Bool}
    (hm : Jcd aB n n' = some r) (hX : LiC Ja.R K aa ab 4 n'.Aa ∧ GG K) :
    Fn Tryz.prog 224 [.agg #[.int .i64 n'.Ab, str n'.Ac, .slice aa n'.Aa.length ab, .int .i64 n'.Ad]] K [] (fun v K' H' => v = .bool r ∧ H' = []) := by
 obtain ⟨ae, hG⟩ := hX
 refine Fn.enter Tryz.func224 Tryz.call224 rfl fun F => ?_
 unfold Jcd at hm
 refine qaq ?_
 intro b1
 refine jR (σ := Unit) (rg 5 8) (fun _ => [(12, .bool (decide (n'.Ab ≠ 12) || decide (n'.Ac ≠ ([] : Str))))]) (fun bc => True) ?_ ?_
 refine qai rfl ?_
 refine fa rfl (ro (ld r0 rfl rfl (qa3 ?_)))
 refine qae ?_ ?_ <;> intro aS
 refine ct aS (ct aS (ct aS ?_))
 exact eMt () ⟨bq (((qbt aS)).symm), trivial⟩
 refine fa rfl (cf aS (ro (ld r0 rfl rfl (cf aS (qbl (cf aS ?_))))))
 exact eMt () ⟨bq (qgz (b := decide (n'.Ac ≠ ([] : Str))) aS), trivial⟩
 rintro _ _ bg
 refine cs rfl rfl hm ?_ ?_ <;> intro bl hm
 exact eE hm
 refine fa rfl (ro (ld r0 rfl rfl (ro (qak rfl ?_))))
 obtain ⟨a8, hm⟩ := qay hm
 obtain ⟨s0, aT, hm⟩ := bnd hm
 refine lD (σ := (Unit)) ([2,4] ++ rg 16 8) [0, 1] (fun i0 => [(16, .int .i64 (i0 : Int))]) (fun _ => []) (fun _ => []) (fun _ => True) (fun i0 _ => JaY aB (n'.Aa.drop i0) i0 = some s0) (fun t0 => s0 = Fl.go t0) (fun i0 => n'.Aa.length - i0) 0 () aT (And.intro qe (And.intro ?_ ?_))
 clear aT
 rintro i0 _ _ aT j0
 conv at aT => whnf
 refine qac rfl ?_
 refine qae ?_ ?_ <;> intro w0
 obtain ⟨e0, aU, bf⟩ := ltx w0
 rw [bf, JaY.eq_2] at aT
 refine qal rfl ?_
 refine RStep.ofN (qad rfl rfl (qc2 ae.rd aU) (nn _) (qbm aU) ?_)
 obtain ⟨ba, bb, aX, aW, aV⟩ := LiR.get ae.rd aU
 obtain ⟨aY, a6, rfl, aZ⟩ := Ja.out aV
 refine ro (qan i0 _ aX rfl aW rfl ?_)
 refine qah rfl fun b4 => ?_
 refine qaa r0 rfl ⟨rfl, rfl, (nl rfl), ?_⟩
 refine ro (qab r0 rfl (nl rfl) ?_)
 refine cb aT fun bh bd aT => cgx (ihrec2_0 bd :) ?_
 refine qav ?_
 refine cs rfl rfl aT ?_ ?_ <;> intro bj aT
 exact eE (er aT hm)
 refine qam (qbs aU a8) ?_
 exact eR aT (_, ())
 rw [lty w0, JaY.eq_1] at aT
 refine cT ?_
 exact eM aT _
 rintro t0 _ rfl j0
 replace hm := elg hm
 exact eE hm
