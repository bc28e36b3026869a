/- Functions of the program: mirrors, and that a call returns what the mirror says. Printed by gen.py. -/
import Derived.Test.YtiaaooopklhobaaGreatDoorG1
set_option linter.unusedVariables false
set_option linter.unusedSimpArgs false
open Go Go.SL Go.Proofs
noncomputable section
set_option maxRecDepth 1000000
set_option maxHeartbeats 8000000
def JbL (p : Jb) : Option (Str × Jb) :=
  (JQ p).bind fun x4 =>
  if decide (x4.Ab ≠ 3) then
  (Jaj p).bind fun x8 =>
  some (([] : Str), x8)
  else
  (Jq p).bind fun aT =>
  some (aT.1.Ac, aT.2)
theorem JcJ {p : Jb} {b0 : Nat} {aa : Option Addr} {ab : Nat} {K : Hp} {r : Str × Jb}
    (hm : JbL p = some r) (ae : (0 < p.list.length → Has aa)) :
    Fn Tryz.prog 210 [.pointer (some ⟨b0, 0, none⟩)] K [Cells b0 163 [.slice aa p.list.length ab, .int .i64 p.atZ, .int .i64 p.line], qau Jf.enc aa 166 4 ab p.list] (fun v K' H' => ∃ ar_0 : Option Addr, ∃ cr_0 : Nat, v = str r.1 ∧ (0 < r.2.list.length → Has ar_0) ∧ H' = [Cells b0 163 [.slice ar_0 r.2.list.length cr_0, .int .i64 r.2.atZ, .int .i64 r.2.line], qau Jf.enc ar_0 166 4 cr_0 r.2.list]) := by
 refine Fn.enter Tryz.func210 Tryz.call210 rfl fun F => ?_
 unfold JbL at hm
 refine cb hm fun x4 q4 hm => cgx (JP q4 :) ?_
 refine Jdu rfl rfl rfl rfl ?_
 refine qa8 (cs rfl rfl hm ?_ ?_) <;> intro w6 hm
 refine cb hm fun x8 q8 hm => ckx (Jaq q8 :) ?_
 rintro _ _ _ ⟨aX, aY, rfl, aW, rfl⟩
 exact eE hm
 refine cb hm fun a6 aZ hm => ckx (Jn aZ :) ?_
 rintro _ _ _ ⟨aV, aU, rfl, aT, rfl⟩
 refine Jdu rfl rfl rfl rfl ?_
 exact eE hm

def Jbg (ao : (Jb → Option ((List Ja) × Jb))) (n : Nat) (p : Jb) : Option (Ja × Jb) :=
  (JQ p).bind fun x5 =>
  (JM p ([123] : Str)).bind fun x9 =>
  (Ju x9).bind fun aV =>
  if aV then
  (ao x9).bind fun aT =>
  (JM aT.2 ([125] : Str)).bind fun aU =>
  some ((⟨12, ([] : Str), aT.1, x5.Ad⟩ : Ja), aU)
  else
  some ((⟨12, ([] : Str), [], x5.Ad⟩ : Ja), x9)
theorem JbO {ao : (Jb → Option ((List Ja) × Jb))} (ihrec1_0 : ∀ {p : Jb} {b0 : Nat} {aa : Option Addr} {ab : Nat} {K : Hp} {r : (List Ja) × Jb} (hm : ao p = some r) (hX : (0 < p.list.length → Has aa) ∧ GG K), Fn Tryz.prog 97 [.pointer (some ⟨b0, 0, none⟩)] K [Cells b0 163 [.slice aa p.list.length ab, .int .i64 p.atZ, .int .i64 p.line], qau Jf.enc aa 166 4 ab p.list] (fun v K' H' => ∃ ar_0 : Option Addr, ∃ cr_0 : Nat, ∃ sr_0 : List (List Value), ∃ ar_1 : Option Addr, ∃ cr_1 : Nat, v = .slice ar_0 r.1.length cr_0 ∧ (0 < r.1.length → Has ar_0) ∧ LR Ja.R K' sr_0 r.1 ∧ (0 < r.2.list.length → Has ar_1) ∧ H' = [OwnA ar_0 117 4 cr_0 sr_0, Cells b0 163 [.slice ar_1 r.2.list.length cr_1, .int .i64 r.2.atZ, .int .i64 r.2.line], qau Jf.enc ar_1 166 4 cr_1 r.2.list])) {n : Nat} {p : Jb} {b0 : Nat} {aa : Option Addr} {ab : Nat} {K : Hp} {r : Ja × Jb}
    (hm : Jbg ao n p = some r) (hX : (0 < p.list.length → Has aa) ∧ GG K) :
    Fn Tryz.prog 237 [.pointer (some ⟨b0, 0, none⟩)] K [Cells b0 163 [.slice aa p.list.length ab, .int .i64 p.atZ, .int .i64 p.line], qau Jf.enc aa 166 4 ab p.list] (fun v K' H' => ∃ ar_0 : Option Addr, ∃ cr_0 : Nat, ∃ sr_0 : List (List Value), ∃ ar_1 : Option Addr, ∃ cr_1 : Nat, v = .agg #[.int .i64 r.1.Ab, str r.1.Ac, .slice ar_0 r.1.Aa.length cr_0, .int .i64 r.1.Ad] ∧ (0 < r.1.Aa.length → Has ar_0) ∧ LR Ja.R K' sr_0 r.1.Aa ∧ (0 < r.2.list.length → Has ar_1) ∧ H' = [OwnA ar_0 117 4 cr_0 sr_0, Cells b0 163 [.slice ar_1 r.2.list.length cr_1, .int .i64 r.2.atZ, .int .i64 r.2.line], qau Jf.enc ar_1 166 4 cr_1 r.2.list]) := by
 obtain ⟨ae, hG⟩ := hX
 refine Fn.enter Tryz.func237 Tryz.call237 rfl fun F => ?_
 unfold Jbg at hm
 refine qai rfl fun b2 => ?_
 refine cb hm fun x5 q5 hm => cgx (JP q5 :) ?_
 refine Jdu rfl rfl rfl rfl ?_
 refine qad rfl rfl (cT (cT ?_))
 refine qai rfl fun b3 => ?_
 refine qaa r0 rfl ⟨rfl, rfl, (nl rfl), ?_⟩
 refine cb hm fun x9 q9 hm => ckx (JK q9 :) ?_
 rintro _ _ _ ⟨bf, bc, rfl, bh, rfl⟩
 refine cb hm fun bm bd hm => cgx (Jt bd :) ?_
 refine cs rfl rfl hm ?_ ?_ <;> intro bn hm
 refine cb hm fun bo bg hm => cfx (ihrec1_0 bg :) ?_
 rintro _ bl _ bp ⟨bb, a8, aT, aW, aV, rfl, aX, a6, aU, rfl⟩
 refine fa rfl ?_
 refine qaa r3 rfl ⟨rfl, rfl, (nl rfl), ?_⟩
 refine cb hm fun br bj hm => ckx (JK bj :) ?_
 rintro _ _ _ ⟨aY, aZ, rfl, ba, rfl⟩
 refine ro (qab r2 rfl (nl rfl) ?_)
 refine qaa r4 rfl ⟨rfl, rfl, (nl rfl), ?_⟩
 exact ro (qab r0 rfl (nl rfl) (eE hm))
 refine ro (qab r2 rfl (nl rfl) ?_)
 refine qaa r3 rfl ⟨rfl, rfl, (nl rfl), ?_⟩
 refine ro (qab r0 rfl (nl rfl) ?_)
 refine qci (fun _ : Ja => []) 117 4 ?_
 exact eE hm

def JaE (ao : (Jb → Option ((List Ja) × Jb))) : Nat → Jb → Int → Option (Ja × Jb)
  | 0, _, _ => none
  | n + 1, p, line =>
    (Jak n p).bind fun al =>
    (chk ([al.1].length ≤ lim)).bind fun _ =>
    (Ju al.2).bind fun ba =>
    if ba then
    (Jbg ao n al.2).bind fun aT =>
    (chk ([al.1].length + [aT.1].length ≤ lim)).bind fun _ =>
    (Ju aT.2).bind fun aY =>
    (if (!aY) then some true else (JB aT.2 1 ([101, 108, 115, 101] : Str)).bind fun a8 =>
    some (!a8)).bind fun aZ =>
    if aZ then
    some ((⟨2, ([] : Str), ([al.1] ++ [aT.1]), line⟩ : Ja), aT.2)
    else
    (Jq aT.2).bind fun aV =>
    (JB aV.2 1 ([105, 102] : Str)).bind fun a6 =>
    if a6 then
    (Jq aV.2).bind fun aX =>
    ((JaE ao n) aX.2 aX.1.Ad).bind fun aU =>
    (chk (([al.1] ++ [aT.1]).length + [aU.1].length ≤ lim)).bind fun _ =>
    some ((⟨2, ([] : Str), (([al.1] ++ [aT.1]) ++ [aU.1]), line⟩ : Ja), aU.2)
    else
    (Jbg ao n aV.2).bind fun aW =>
    (chk (([al.1] ++ [aT.1]).length + [aW.1].length ≤ lim)).bind fun _ =>
    some ((⟨2, ([] : Str), (([al.1] ++ [aT.1]) ++ [aW.1]), line⟩ : Ja), aW.2)
    else
    (Ju al.2).bind fun aY =>
    (if (!aY) then some true else (JB al.2 1 ([101, 108, 115, 101] : Str)).bind fun a8 =>
    some (!a8)).bind fun aZ =>
    if aZ then
    some ((⟨2, ([] : Str), [al.1], line⟩ : Ja), al.2)
    else
    (Jq al.2).bind fun aV =>
    (JB aV.2 1 ([105, 102] : Str)).bind fun a6 =>
    if a6 then
    (Jq aV.2).bind fun aX =>
    ((JaE ao n) aX.2 aX.1.Ad).bind fun aU =>
    (chk ([al.1].length + [aU.1].length ≤ lim)).bind fun _ =>
    some ((⟨2, ([] : Str), ([al.1] ++ [aU.1]), line⟩ : Ja), aU.2)
    else
    (Jbg ao n aV.2).bind fun aW =>
    (chk ([al.1].length + [aW.1].length ≤ lim)).bind fun _ =>
    some ((⟨2, ([] : Str), ([al.1] ++ [aW.1]), line⟩ : Ja), aW.2)
theorem Jdm {ao : (Jb → Option ((List Ja) × Jb))} (ihrec1_0 : ∀ {p : Jb} {b0 : Nat} {aa : Option Addr} {ab : Nat} {K : Hp} {r : (List Ja) × Jb} (hm : ao p = some r) (hX : (0 < p.list.length → Has aa) ∧ GG K), Fn Tryz.prog 97 [.pointer (some ⟨b0, 0, none⟩)] K [Cells b0 163 [.slice aa p.list.length ab, .int .i64 p.atZ, .int .i64 p.line], qau Jf.enc aa 166 4 ab p.list] (fun v K' H' => ∃ ar_0 : Option Addr, ∃ cr_0 : Nat, ∃ sr_0 : List (List Value), ∃ ar_1 : Option Addr, ∃ cr_1 : Nat, v = .slice ar_0 r.1.length cr_0 ∧ (0 < r.1.length → Has ar_0) ∧ LR Ja.R K' sr_0 r.1 ∧ (0 < r.2.list.length → Has ar_1) ∧ H' = [OwnA ar_0 117 4 cr_0 sr_0, Cells b0 163 [.slice ar_1 r.2.list.length cr_1, .int .i64 r.2.atZ, .int .i64 r.2.line], qau Jf.enc ar_1 166 4 cr_1 r.2.list])) : ∀ {n : Nat} {p : Jb} {line : Int} {b0 : Nat} {aa : Option Addr} {ab : Nat} {K : Hp} {r : Ja × Jb}
    (hm : JaE ao n p line = some r) (hX : (0 < p.list.length → Has aa) ∧ GG K),
    Fn Tryz.prog 207 [.pointer (some ⟨b0, 0, none⟩), .int .i64 line] K [Cells b0 163 [.slice aa p.list.length ab, .int .i64 p.atZ, .int .i64 p.line], qau Jf.enc aa 166 4 ab p.list] (fun v K' H' => ∃ ar_0 : Option Addr, ∃ cr_0 : Nat, ∃ sr_0 : List (List Value), ∃ ar_1 : Option Addr, ∃ cr_1 : Nat, v = .agg #[.int .i64 r.1.Ab, str r.1.Ac, .slice ar_0 r.1.Aa.length cr_0, .int .i64 r.1.Ad] ∧ (0 < r.1.Aa.length → Has ar_0) ∧ LR Ja.R K' sr_0 r.1.Aa ∧ (0 < r.2.list.length → Has ar_1) ∧ H' = [OwnA ar_0 117 4 cr_0 sr_0, Cells b0 163 [.slice ar_1 r.2.list.length cr_1, .int .i64 r.2.atZ, .int .i64 r.2.line], qau Jf.enc ar_1 166 4 cr_1 r.2.list]) := by
 intro n
 induction n with
 | zero =>
   intro p line b0 aa ab K r hm hX
   rw [JaE.eq_1] at hm; cases hm
 | succ n ih =>
   intro p line b0 aa ab K r hm hX
   obtain ⟨ae, hG⟩ := hX
   refine Fn.enter Tryz.func207 Tryz.call207 rfl fun F => ?_
   rw [JaE.eq_2] at hm
   refine qai rfl fun b4 => ?_
   refine qad rfl rfl (cT (cT ?_))
   refine qai rfl fun b5 => ?_
   refine qaa r0 rfl ⟨rfl, rfl, (nl rfl), ?_⟩
   refine qa2 ⟨⟨[], false⟩, _, [(_, _)], []⟩ 5 rfl (by kernel_rfl) ⟨Hp.Le.refl _, (pf rfl), ci0⟩ ?_
   refine fa rfl (qap m0 rfl rfl ?_)
   refine cb hm fun al cI hm => cfx (JbX cI :) ?_
   rintro _ c9 _ cR ⟨bf, bc, cw, cm, cp, rfl, cn, bN, cA, rfl⟩
   refine qk (sc [3] rfl) ?_
   refine qlh Ja.R_ok r0 bN fun bT bp bg => ?_
   refine qj2 (R := Ja.R) (len := 1) (l := [al.1]) (css := [[.int .i64 al.1.Ab, str al.1.Ac, .slice bf al.1.Aa.length bc, .int .i64 al.1.Ad]]) (cl := [.int .i64 al.1.Ab, str al.1.Ac, .slice bf al.1.Aa.length bc, .int .i64 al.1.Ad]) Ja.R_ok qbz rfl rfl (LR.snoc LR.nil (Ja.of (x := al.1) ⟨bf, bc, rfl, bg⟩)) rfl rfl rfl ?_ fun dc => ?_
   · conv => whnf
     refine cT ?_
     first | done | rfl
   refine ⟨⟨(cR.trans bp), (sc [3] rfl), ci0⟩, ?_⟩
   obtain ⟨cB, hm⟩ := qaw hm
   refine qsu (R := Ja.R) qbz (qdd rfl r0 rfl Ja.R_ok (show LR Ja.R _ [[.int .i64 al.1.Ab, str al.1.Ac, .slice bf al.1.Aa.length bc, .int .i64 al.1.Ad]] [al.1] from (LR.snoc LR.nil (Ja.of (x := al.1) ⟨bf, bc, rfl, bg⟩)))) (show LR Ja.R _ [[.int .i64 al.1.Ab, str al.1.Ac, .slice bf al.1.Aa.length bc, .int .i64 al.1.Ad]] [al.1] from (LR.snoc LR.nil (Ja.of (x := al.1) ⟨bf, bc, rfl, bg⟩))) cB ?_
   intro df de dn r_14 dj
   refine ⟨⟨Hp.emp_le _, (pf rfl), ci0⟩, ?_⟩
   refine fa rfl ?_
   refine qaa r4 rfl ⟨rfl, rfl, (nl rfl), ?_⟩
   refine ⟨⟨Hp.emp_le _, (pf rfl), ci0⟩, ?_⟩
   refine cb hm fun dh cX hm => cgx (Jt cX :) ?_
   refine cs rfl rfl hm ?_ ?_ <;> intro dm hm
   refine qa2 ⟨⟨[], false⟩, _, [(_, _)], []⟩ 5 rfl (by kernel_rfl) ⟨Hp.Le.refl _, (sc [2] rfl), ci0⟩ ?_
   refine fa rfl (qap m0 rfl rfl ?_)
   refine cb hm fun bl cJ hm => cfx (JbO ihrec1_0 cJ :) ?_
   rintro _ di _ cz ⟨bd, bj, cy, cq, cu, rfl, cr, bA, co, rfl⟩
   refine qk (sc [3] rfl) ?_
   refine qlh Ja.R_ok r0 bA fun bH bm bh => ?_
   refine qj2 (R := Ja.R) (len := 1) (l := [bl.1]) (css := [[.int .i64 bl.1.Ab, str bl.1.Ac, .slice bd bl.1.Aa.length bj, .int .i64 bl.1.Ad]]) (cl := [.int .i64 bl.1.Ab, str bl.1.Ac, .slice bd bl.1.Aa.length bj, .int .i64 bl.1.Ad]) Ja.R_ok qbz rfl rfl (LR.snoc LR.nil (Ja.of (x := bl.1) ⟨bd, bj, rfl, bh⟩)) rfl rfl rfl ?_ fun c8 => ?_
   · conv => whnf
     refine cT ?_
     first | done | rfl
   refine ⟨⟨(cz.trans bm), (sc [3] rfl), ci0⟩, ?_⟩
   obtain ⟨cM, hm⟩ := qaw hm
   refine qp5 r4 (LR.mono Ja.R_ok (cz.trans bm) r_14) rfl qbz (qdd rfl r0 rfl Ja.R_ok (show LR Ja.R _ [[.int .i64 bl.1.Ab, str bl.1.Ac, .slice bd bl.1.Aa.length bj, .int .i64 bl.1.Ad]] [bl.1] from (LR.snoc LR.nil (Ja.of (x := bl.1) ⟨bd, bj, rfl, bh⟩)))) (show LR Ja.R _ [[.int .i64 bl.1.Ab, str bl.1.Ac, .slice bd bl.1.Aa.length bj, .int .i64 bl.1.Ad]] [bl.1] from (LR.snoc LR.nil (Ja.of (x := bl.1) ⟨bd, bj, rfl, bh⟩))) cM ?_
   intro dk dp dq r_23 dg
   refine ⟨⟨Hp.emp_le _, (pf rfl), ci0⟩, ?_⟩
   refine fa rfl ?_
   refine qaa r4 rfl ⟨rfl, rfl, (nl rfl), ?_⟩
   refine ⟨⟨Hp.emp_le _, (pf rfl), ci0⟩, ?_⟩
   refine qaf rfl ?_
   refine cb hm fun cG ce hm => cgx (Jt ce :) ?_
   refine qax ?_
   obtain ⟨cW, bn, hm⟩ := bnd hm
   refine cS bn (fun aX bn => ?_) fun aX bn => ?_
   refine ct aX (ct aX (ct aX (qac rfl (cT ?_))))
   replace hm := ift (si bn).symm hm
   refine ro (qab r2 rfl (nl rfl) ?_)
   refine qaa r6 rfl ⟨rfl, rfl, (nl rfl), ?_⟩
   exact ro (qab r0 rfl (nl rfl) (eE hm))
   refine cf aX ?_
   refine cb bn fun cU bW bn => cgx (Jx bW :) ?_
   refine cf aX (qax (cf aX (qac rfl ?_)))
   refine qah ?_ ?_ <;> intro bR
   replace hm := ift ((si bn).symm.trans (qfp (qlg bR))) hm
   refine ro (qab r2 rfl (nl rfl) ?_)
   refine qaa r6 rfl ⟨rfl, rfl, (nl rfl), ?_⟩
   exact ro (qab r0 rfl (nl rfl) (eE hm))
   replace hm := qbb ((si bn).symm.trans (qdo (qio bR))) hm
   refine cb hm fun cH bV hm => ckx (Jn bV :) ?_
   rintro _ _ _ ⟨bQ, bJ, rfl, bC, rfl⟩
   refine cb hm fun cY cj hm => cgx (Jx cj :) ?_
   refine cs rfl rfl hm ?_ ?_ <;> intro cV hm
   refine cb hm fun cP bZ hm => ckx (Jn bZ :) ?_
   rintro _ _ _ ⟨bU, bB, rfl, bM, rfl⟩
   refine qai rfl fun b6 => ?_
   refine qaa r0 rfl ⟨rfl, rfl, (nl rfl), ?_⟩
   refine qa2 ⟨⟨[], false⟩, _, [(_, _), (_, _)], []⟩ 7 rfl (by kernel_rfl) ⟨Hp.Le.refl _, (sc [3,0] rfl), ci0⟩ ?_
   refine fa rfl (qap m0 rfl rfl (fa rfl (qap m1 rfl rfl ?_)))
   refine cb hm fun a8 ca hm => cfx (ih ca :) ?_
   rintro _ cQ _ bP ⟨aT, aV, bS, bK, bw, rfl, bL, bo, bG, rfl⟩
   refine qk (sc [4,3] rfl) ?_
   refine qlh Ja.R_ok r0 bo fun bu bb aU => ?_
   refine qj2 (R := Ja.R) (len := 1) (l := [a8.1]) (css := [[.int .i64 a8.1.Ab, str a8.1.Ac, .slice aT a8.1.Aa.length aV, .int .i64 a8.1.Ad]]) (cl := [.int .i64 a8.1.Ab, str a8.1.Ac, .slice aT a8.1.Aa.length aV, .int .i64 a8.1.Ad]) Ja.R_ok qbz rfl rfl (LR.snoc LR.nil (Ja.of (x := a8.1) ⟨aT, aV, rfl, aU⟩)) rfl rfl rfl ?_ fun cZ => ?_
   · conv => whnf
     refine cT ?_
     first | done | rfl
   refine ⟨⟨(bP.trans bb), (sc [4,3] rfl), ci0⟩, ?_⟩
   obtain ⟨bX, hm⟩ := qaw hm
   refine qp5 r5 (LR.mono Ja.R_ok (bP.trans bb) r_23) rfl qbz (qdd rfl r0 rfl Ja.R_ok (show LR Ja.R _ [[.int .i64 a8.1.Ab, str a8.1.Ac, .slice aT a8.1.Aa.length aV, .int .i64 a8.1.Ad]] [a8.1] from (LR.snoc LR.nil (Ja.of (x := a8.1) ⟨aT, aV, rfl, aU⟩)))) (show LR Ja.R _ [[.int .i64 a8.1.Ab, str a8.1.Ac, .slice aT a8.1.Aa.length aV, .int .i64 a8.1.Ad]] [a8.1] from (LR.snoc LR.nil (Ja.of (x := a8.1) ⟨aT, aV, rfl, aU⟩))) bX ?_
   intro cL cD c4 r_47 cE
   refine ⟨⟨Hp.emp_le _, (pf rfl), ci0⟩, ?_⟩
   refine fa rfl ?_
   refine qaa r5 rfl ⟨rfl, rfl, (nl rfl), ?_⟩
   refine ⟨⟨Hp.emp_le _, (pf rfl), ci0⟩, ?_⟩
   refine ro (qab r0 rfl (nl rfl) ?_)
   refine qaa r8 rfl ⟨rfl, rfl, (nl rfl), ?_⟩
   exact ro (qab r0 rfl (nl rfl) (eE hm))
   refine qa2 ⟨⟨[], false⟩, _, [(_, _)], []⟩ 5 rfl (by kernel_rfl) ⟨Hp.Le.refl _, (sc [2] rfl), ci0⟩ ?_
   refine fa rfl (qap m0 rfl rfl ?_)
   refine cb hm fun a6 bY hm => cfx (JbO ihrec1_0 bY :) ?_
   rintro _ cK _ bv ⟨aW, aY, bD, bI, bO, rfl, bz, br, bF, rfl⟩
   refine qk (sc [3] rfl) ?_
   refine qlh Ja.R_ok r0 br fun bt ba aZ => ?_
   refine qj2 (R := Ja.R) (len := 1) (l := [a6.1]) (css := [[.int .i64 a6.1.Ab, str a6.1.Ac, .slice aW a6.1.Aa.length aY, .int .i64 a6.1.Ad]]) (cl := [.int .i64 a6.1.Ab, str a6.1.Ac, .slice aW a6.1.Aa.length aY, .int .i64 a6.1.Ad]) Ja.R_ok qbz rfl rfl (LR.snoc LR.nil (Ja.of (x := a6.1) ⟨aW, aY, rfl, aZ⟩)) rfl rfl rfl ?_ fun c6 => ?_
   · conv => whnf
     refine cT ?_
     first | done | rfl
   refine ⟨⟨(bv.trans ba), (sc [3] rfl), ci0⟩, ?_⟩
   obtain ⟨cd, hm⟩ := qaw hm
   refine qp5 r4 (LR.mono Ja.R_ok (bv.trans ba) r_23) rfl qbz (qdd rfl r0 rfl Ja.R_ok (show LR Ja.R _ [[.int .i64 a6.1.Ab, str a6.1.Ac, .slice aW a6.1.Aa.length aY, .int .i64 a6.1.Ad]] [a6.1] from (LR.snoc LR.nil (Ja.of (x := a6.1) ⟨aW, aY, rfl, aZ⟩)))) (show LR Ja.R _ [[.int .i64 a6.1.Ab, str a6.1.Ac, .slice aW a6.1.Aa.length aY, .int .i64 a6.1.Ad]] [a6.1] from (LR.snoc LR.nil (Ja.of (x := a6.1) ⟨aW, aY, rfl, aZ⟩))) cd ?_
   intro cO cN c5 r_55 cC
   refine ⟨⟨Hp.emp_le _, (pf rfl), ci0⟩, ?_⟩
   refine fa rfl ?_
   refine qaa r4 rfl ⟨rfl, rfl, (nl rfl), ?_⟩
   refine ⟨⟨Hp.emp_le _, (pf rfl), ci0⟩, ?_⟩
   refine ro (qab r0 rfl (nl rfl) ?_)
   refine qaa r7 rfl ⟨rfl, rfl, (nl rfl), ?_⟩
   exact ro (qab r0 rfl (nl rfl) (eE hm))
   refine qaf rfl ?_
   refine cb hm fun cG ce hm => cgx (Jt ce :) ?_
   refine qax ?_
   obtain ⟨cW, bn, hm⟩ := bnd hm
   refine cS bn (fun aX bn => ?_) fun aX bn => ?_
   refine ct aX (ct aX (ct aX (qac rfl (cT ?_))))
   replace hm := ift (si bn).symm hm
   refine ro (qab r2 rfl (nl rfl) ?_)
   refine qaa r5 rfl ⟨rfl, rfl, (nl rfl), ?_⟩
   exact ro (qab r0 rfl (nl rfl) (eE hm))
   refine cf aX ?_
   refine cb bn fun cU bW bn => cgx (Jx bW :) ?_
   refine cf aX (qax (cf aX (qac rfl ?_)))
   refine qah ?_ ?_ <;> intro bR
   replace hm := ift ((si bn).symm.trans (qfp (qlg bR))) hm
   refine ro (qab r2 rfl (nl rfl) ?_)
   refine qaa r5 rfl ⟨rfl, rfl, (nl rfl), ?_⟩
   exact ro (qab r0 rfl (nl rfl) (eE hm))
   replace hm := qbb ((si bn).symm.trans (qdo (qio bR))) hm
   refine cb hm fun cH bV hm => ckx (Jn bV :) ?_
   rintro _ _ _ ⟨bQ, bJ, rfl, bC, rfl⟩
   refine cb hm fun cY cj hm => cgx (Jx cj :) ?_
   refine cs rfl rfl hm ?_ ?_ <;> intro cV hm
   refine cb hm fun cP bZ hm => ckx (Jn bZ :) ?_
   rintro _ _ _ ⟨bU, bB, rfl, bM, rfl⟩
   refine qai rfl fun b6 => ?_
   refine qaa r0 rfl ⟨rfl, rfl, (nl rfl), ?_⟩
   refine qa2 ⟨⟨[], false⟩, _, [(_, _), (_, _)], []⟩ 7 rfl (by kernel_rfl) ⟨Hp.Le.refl _, (sc [3,0] rfl), ci0⟩ ?_
   refine fa rfl (qap m0 rfl rfl (fa rfl (qap m1 rfl rfl ?_)))
   refine cb hm fun a8 ca hm => cfx (ih ca :) ?_
   rintro _ cQ _ bP ⟨aT, aV, bS, bK, bw, rfl, bL, bo, bG, rfl⟩
   refine qk (sc [4,3] rfl) ?_
   refine qlh Ja.R_ok r0 bo fun bu bb aU => ?_
   refine qj2 (R := Ja.R) (len := 1) (l := [a8.1]) (css := [[.int .i64 a8.1.Ab, str a8.1.Ac, .slice aT a8.1.Aa.length aV, .int .i64 a8.1.Ad]]) (cl := [.int .i64 a8.1.Ab, str a8.1.Ac, .slice aT a8.1.Aa.length aV, .int .i64 a8.1.Ad]) Ja.R_ok qbz rfl rfl (LR.snoc LR.nil (Ja.of (x := a8.1) ⟨aT, aV, rfl, aU⟩)) rfl rfl rfl ?_ fun cZ => ?_
   · conv => whnf
     refine cT ?_
     first | done | rfl
   refine ⟨⟨(bP.trans bb), (sc [4,3] rfl), ci0⟩, ?_⟩
   obtain ⟨bX, hm⟩ := qaw hm
   refine qp5 r5 (LR.mono Ja.R_ok (bP.trans bb) r_14) rfl qbz (qdd rfl r0 rfl Ja.R_ok (show LR Ja.R _ [[.int .i64 a8.1.Ab, str a8.1.Ac, .slice aT a8.1.Aa.length aV, .int .i64 a8.1.Ad]] [a8.1] from (LR.snoc LR.nil (Ja.of (x := a8.1) ⟨aT, aV, rfl, aU⟩)))) (show LR Ja.R _ [[.int .i64 a8.1.Ab, str a8.1.Ac, .slice aT a8.1.Aa.length aV, .int .i64 a8.1.Ad]] [a8.1] from (LR.snoc LR.nil (Ja.of (x := a8.1) ⟨aT, aV, rfl, aU⟩))) bX ?_
   intro cL cD c4 r_47 cE
   refine ⟨⟨Hp.emp_le _, (pf rfl), ci0⟩, ?_⟩
   refine fa rfl ?_
   refine qaa r5 rfl ⟨rfl, rfl, (nl rfl), ?_⟩
   refine ⟨⟨Hp.emp_le _, (pf rfl), ci0⟩, ?_⟩
   refine ro (qab r0 rfl (nl rfl) ?_)
   refine qaa r7 rfl ⟨rfl, rfl, (nl rfl), ?_⟩
   exact ro (qab r0 rfl (nl rfl) (eE hm))
   refine qa2 ⟨⟨[], false⟩, _, [(_, _)], []⟩ 5 rfl (by kernel_rfl) ⟨Hp.Le.refl _, (sc [2] rfl), ci0⟩ ?_
   refine fa rfl (qap m0 rfl rfl ?_)
   refine cb hm fun a6 bY hm => cfx (JbO ihrec1_0 bY :) ?_
   rintro _ cK _ bv ⟨aW, aY, bD, bI, bO, rfl, bz, br, bF, rfl⟩
   refine qk (sc [3] rfl) ?_
   refine qlh Ja.R_ok r0 br fun bt ba aZ => ?_
   refine qj2 (R := Ja.R) (len := 1) (l := [a6.1]) (css := [[.int .i64 a6.1.Ab, str a6.1.Ac, .slice aW a6.1.Aa.length aY, .int .i64 a6.1.Ad]]) (cl := [.int .i64 a6.1.Ab, str a6.1.Ac, .slice aW a6.1.Aa.length aY, .int .i64 a6.1.Ad]) Ja.R_ok qbz rfl rfl (LR.snoc LR.nil (Ja.of (x := a6.1) ⟨aW, aY, rfl, aZ⟩)) rfl rfl rfl ?_ fun c6 => ?_
   · conv => whnf
     refine cT ?_
     first | done | rfl
   refine ⟨⟨(bv.trans ba), (sc [3] rfl), ci0⟩, ?_⟩
   obtain ⟨cd, hm⟩ := qaw hm
   refine qp5 r4 (LR.mono Ja.R_ok (bv.trans ba) r_14) rfl qbz (qdd rfl r0 rfl Ja.R_ok (show LR Ja.R _ [[.int .i64 a6.1.Ab, str a6.1.Ac, .slice aW a6.1.Aa.length aY, .int .i64 a6.1.Ad]] [a6.1] from (LR.snoc LR.nil (Ja.of (x := a6.1) ⟨aW, aY, rfl, aZ⟩)))) (show LR Ja.R _ [[.int .i64 a6.1.Ab, str a6.1.Ac, .slice aW a6.1.Aa.length aY, .int .i64 a6.1.Ad]] [a6.1] from (LR.snoc LR.nil (Ja.of (x := a6.1) ⟨aW, aY, rfl, aZ⟩))) cd ?_
   intro cO cN c5 r_55 cC
   refine ⟨⟨Hp.emp_le _, (pf rfl), ci0⟩, ?_⟩
   refine fa rfl ?_
   refine qaa r4 rfl ⟨rfl, rfl, (nl rfl), ?_⟩
   refine ⟨⟨Hp.emp_le _, (pf rfl), ci0⟩, ?_⟩
   refine ro (qab r0 rfl (nl rfl) ?_)
   refine qaa r6 rfl ⟨rfl, rfl, (nl rfl), ?_⟩
   exact ro (qab r0 rfl (nl rfl) (eE hm))

def JbF (ao : (Jb → Option ((List Ja) × Jb))) (n : Nat) (p : Jb) : Option (Ja × Jb) :=
  (JQ p).bind fun x7 =>
  if decide (x7.Ab ≠ 1) then
  (Jaj p).bind fun bl =>
  some ((⟨0, ([] : Str), [], x7.Ad⟩ : Ja), bl)
  else
  if decide (x7.Ac = ([105, 102] : Str)) then
  (Jq p).bind fun bu =>
  (JaE ao n bu.2 x7.Ad).bind fun bd =>
  some (bd.1, bd.2)
  else
  if decide (x7.Ac = ([108, 101, 116] : Str)) then
  (Jq p).bind fun a6 =>
  (JQ a6.2).bind fun ba =>
  (if decide (ba.Ab ≠ 1) then some true else (Jcg ba.Ac).bind fun bh =>
  some bh).bind fun bb =>
  if bb then
  (Jaj a6.2).bind fun bn =>
  some ((⟨3, ([] : Str), [], x7.Ad⟩ : Ja), bn)
  else
  (Jq a6.2).bind fun br =>
  (Jy n br.2 ([61] : Str)).bind fun bc =>
  some ((⟨3, ba.Ac, bc.1, x7.Ad⟩ : Ja), bc.2)
  else
  if decide (x7.Ac = ([112, 97, 116, 104] : Str)) then
  (Jq p).bind fun a8 =>
  (Jy n a8.2 ([61] : Str)).bind fun aX =>
  some ((⟨4, x7.Ac, aX.1, x7.Ad⟩ : Ja), aX.2)
  else
  if decide (x7.Ac = ([113, 117, 101, 114, 121] : Str)) then
  (Jq p).bind fun a8 =>
  (Jy n a8.2 ([61] : Str)).bind fun aX =>
  some ((⟨4, x7.Ac, aX.1, x7.Ad⟩ : Ja), aX.2)
  else
  if decide (x7.Ac = ([104, 101, 97, 100, 101, 114] : Str)) then
  (Jq p).bind fun bo =>
  (JbL bo.2).bind fun aZ =>
  (Ju aZ.2).bind fun bj =>
  if bj then
  (Jy n aZ.2 ([61] : Str)).bind fun bf =>
  some ((⟨5, aZ.1, bf.1, x7.Ad⟩ : Ja), bf.2)
  else
  some ((⟨5, aZ.1, [], x7.Ad⟩ : Ja), aZ.2)
  else
  if decide (x7.Ac = ([118, 97, 114, 121] : Str)) then
  (Jq p).bind fun bt =>
  (JbL bt.2).bind fun aY =>
  (Ju aY.2).bind fun bg =>
  if bg then
  (JM aY.2 ([59] : Str)).bind fun bm =>
  some ((⟨6, aY.1, [], x7.Ad⟩ : Ja), bm)
  else
  some ((⟨6, aY.1, [], x7.Ad⟩ : Ja), aY.2)
  else
  if decide (x7.Ac = ([116, 97, 103] : Str)) then
  (Jq p).bind fun aV =>
  if decide (x7.Ac = ([116, 116, 108] : Str)) then
  if decide (x7.Ac = ([100, 101, 110, 121] : Str)) then
  (Jy n aV.2 ([] : Str)).bind fun aT =>
  some ((⟨9, ([] : Str), aT.1, x7.Ad⟩ : Ja), aT.2)
  else
  (Jy n aV.2 ([] : Str)).bind fun aT =>
  some ((⟨8, ([] : Str), aT.1, x7.Ad⟩ : Ja), aT.2)
  else
  if decide (x7.Ac = ([100, 101, 110, 121] : Str)) then
  (Jy n aV.2 ([] : Str)).bind fun aT =>
  some ((⟨9, ([] : Str), aT.1, x7.Ad⟩ : Ja), aT.2)
  else
  (Jy n aV.2 ([] : Str)).bind fun aT =>
  some ((⟨7, ([] : Str), aT.1, x7.Ad⟩ : Ja), aT.2)
  else
  if decide (x7.Ac = ([116, 116, 108] : Str)) then
  (Jq p).bind fun aV =>
  if decide (x7.Ac = ([116, 116, 108] : Str)) then
  if decide (x7.Ac = ([100, 101, 110, 121] : Str)) then
  (Jy n aV.2 ([] : Str)).bind fun aT =>
  some ((⟨9, ([] : Str), aT.1, x7.Ad⟩ : Ja), aT.2)
  else
  (Jy n aV.2 ([] : Str)).bind fun aT =>
  some ((⟨8, ([] : Str), aT.1, x7.Ad⟩ : Ja), aT.2)
  else
  if decide (x7.Ac = ([100, 101, 110, 121] : Str)) then
  (Jy n aV.2 ([] : Str)).bind fun aT =>
  some ((⟨9, ([] : Str), aT.1, x7.Ad⟩ : Ja), aT.2)
  else
  (Jy n aV.2 ([] : Str)).bind fun aT =>
  some ((⟨7, ([] : Str), aT.1, x7.Ad⟩ : Ja), aT.2)
  else
  if decide (x7.Ac = ([100, 101, 110, 121] : Str)) then
  (Jq p).bind fun aV =>
  if decide (x7.Ac = ([116, 116, 108] : Str)) then
  if decide (x7.Ac = ([100, 101, 110, 121] : Str)) then
  (Jy n aV.2 ([] : Str)).bind fun aT =>
  some ((⟨9, ([] : Str), aT.1, x7.Ad⟩ : Ja), aT.2)
  else
  (Jy n aV.2 ([] : Str)).bind fun aT =>
  some ((⟨8, ([] : Str), aT.1, x7.Ad⟩ : Ja), aT.2)
  else
  if decide (x7.Ac = ([100, 101, 110, 121] : Str)) then
  (Jy n aV.2 ([] : Str)).bind fun aT =>
  some ((⟨9, ([] : Str), aT.1, x7.Ad⟩ : Ja), aT.2)
  else
  (Jy n aV.2 ([] : Str)).bind fun aT =>
  some ((⟨7, ([] : Str), aT.1, x7.Ad⟩ : Ja), aT.2)
  else
  if decide (x7.Ac = ([112, 97, 115, 115] : Str)) then
  (Jq p).bind fun aW =>
  if decide (x7.Ac = ([116, 111, 107, 101, 110] : Str)) then
  (JM aW.2 ([59] : Str)).bind fun aU =>
  some ((⟨11, ([] : Str), [], x7.Ad⟩ : Ja), aU)
  else
  (JM aW.2 ([59] : Str)).bind fun aU =>
  some ((⟨10, ([] : Str), [], x7.Ad⟩ : Ja), aU)
  else
  if decide (x7.Ac = ([116, 111, 107, 101, 110] : Str)) then
  (Jq p).bind fun aW =>
  if decide (x7.Ac = ([116, 111, 107, 101, 110] : Str)) then
  (JM aW.2 ([59] : Str)).bind fun aU =>
  some ((⟨11, ([] : Str), [], x7.Ad⟩ : Ja), aU)
  else
  (JM aW.2 ([59] : Str)).bind fun aU =>
  some ((⟨10, ([] : Str), [], x7.Ad⟩ : Ja), aU)
  else
  (Jaj p).bind fun bp =>
  some ((⟨0, ([] : Str), [], x7.Ad⟩ : Ja), bp)
theorem Jdf {ao : (Jb → Option ((List Ja) × Jb))} (ihrec1_0 : ∀ {p : Jb} {b0 : Nat} {aa : Option Addr} {ab : Nat} {K : Hp} {r : (List Ja) × Jb} (hm : ao p = some r) (hX : (0 < p.list.length → Has aa) ∧ GG K), Fn Tryz.prog 97 [.pointer (some ⟨b0, 0, none⟩)] K [Cells b0 163 [.slice aa p.list.length ab, .int .i64 p.atZ, .int .i64 p.line], qau Jf.enc aa 166 4 ab p.list] (fun v K' H' => ∃ ar_0 : Option Addr, ∃ cr_0 : Nat, ∃ sr_0 : List (List Value), ∃ ar_1 : Option Addr, ∃ cr_1 : Nat, v = .slice ar_0 r.1.length cr_0 ∧ (0 < r.1.length → Has ar_0) ∧ LR Ja.R K' sr_0 r.1 ∧ (0 < r.2.list.length → Has ar_1) ∧ H' = [OwnA ar_0 117 4 cr_0 sr_0, Cells b0 163 [.slice ar_1 r.2.list.length cr_1, .int .i64 r.2.atZ, .int .i64 r.2.line], qau Jf.enc ar_1 166 4 cr_1 r.2.list])) {n : Nat} {p : Jb} {b0 : Nat} {aa : Option Addr} {ab : Nat} {K : Hp} {r : Ja × Jb}
    (hm : JbF ao n p = some r) (hX : (0 < p.list.length → Has aa) ∧ GG K) :
    Fn Tryz.prog 150 [.pointer (some ⟨b0, 0, none⟩)] K [Cells b0 163 [.slice aa p.list.length ab, .int .i64 p.atZ, .int .i64 p.line], qau Jf.enc aa 166 4 ab p.list] (fun v K' H' => ∃ ar_0 : Option Addr, ∃ cr_0 : Nat, ∃ sr_0 : List (List Value), ∃ ar_1 : Option Addr, ∃ cr_1 : Nat, v = .agg #[.int .i64 r.1.Ab, str r.1.Ac, .slice ar_0 r.1.Aa.length cr_0, .int .i64 r.1.Ad] ∧ (0 < r.1.Aa.length → Has ar_0) ∧ LR Ja.R K' sr_0 r.1.Aa ∧ (0 < r.2.list.length → Has ar_1) ∧ H' = [OwnA ar_0 117 4 cr_0 sr_0, Cells b0 163 [.slice ar_1 r.2.list.length cr_1, .int .i64 r.2.atZ, .int .i64 r.2.line], qau Jf.enc ar_1 166 4 cr_1 r.2.list]) := by
 obtain ⟨ae, hG⟩ := hX
 refine Fn.enter Tryz.func150 Tryz.call150 rfl fun F => ?_
 unfold JbF at hm
 refine qai rfl fun b2 => ?_
 refine cb hm fun x7 q7 hm => cgx (JP q7 :) ?_
 refine qai rfl fun b3 => ?_
 refine qaa r0 rfl ⟨rfl, rfl, (nl rfl), ?_⟩
 refine fa rfl (ro (ld r0 rfl rfl (qad rfl rfl (cT ?_))))
 refine qai rfl fun b4 => ?_
 refine qaa r0 rfl ⟨rfl, rfl, (nl rfl), ?_⟩
 refine fa rfl (ro (ld r1 rfl rfl (qa8 ?_)))
 refine cs rfl rfl hm ?_ ?_ <;> intro ey hm
 refine cb hm fun ej dJ hm => ckx (Jaq dJ :) ?_
 rintro _ _ _ ⟨c4, c9, rfl, cG, rfl⟩
 refine ro (qab r2 rfl (nl rfl) ?_)
 refine qaa r4 rfl ⟨rfl, rfl, (nl rfl), ?_⟩
 refine ro (qab r0 rfl (nl rfl) ?_)
 refine qci (fun _ : Ja => []) 117 4 ?_
 exact eE hm
 refine fa rfl (ro (ld r1 rfl rfl ?_))
 refine qam rfl ?_
 refine qaq (cs rfl rfl hm ?_ ?_) <;> intro eu hm
 refine cb hm fun dZ dw hm => ckx (Jn dw :) ?_
 rintro _ _ _ ⟨bX, cd, rfl, c8, rfl⟩
 refine fa rfl (ro (ld r3 rfl rfl ?_))
 refine cb hm fun dV dz hm => cfx (Jdm ihrec1_0 dz :) ?_
 rintro _ eH _ d4 ⟨cH, di, cN, bW, cX, rfl, cL, cY, bZ, rfl⟩
 refine qaa r5 rfl ⟨rfl, rfl, (nl rfl), ?_⟩
 exact ro (qab r0 rfl (nl rfl) (eE hm))
 refine qaq (cs rfl rfl hm ?_ ?_) <;> intro d6 hm
 refine cb hm fun eF dC hm => ckx (Jn dC :) ?_
 rintro _ _ _ ⟨cm, cy, rfl, dp, rfl⟩
 refine fa rfl ?_
 refine qaa r2 rfl ⟨rfl, rfl, (nl rfl), ?_⟩
 refine cb hm fun ek dx hm => cgx (JP dx :) ?_
 refine qai rfl fun b5 => ?_
 refine qaa r0 rfl ⟨rfl, rfl, (nl rfl), ?_⟩
 obtain ⟨bR, bf, hm⟩ := bnd hm
 refine jR (σ := Bool) (rg 36 8) (fun bn => [(43, .bool bn)]) (fun bn => bn = bR) ?_ ?_
 replace bf := bsm bf
 refine qaf rfl ?_
 refine fa rfl (ro (ld r0 rfl rfl (qa8 ?_)))
 obtain ⟨ef, bz, bf⟩ := bnd bf
 refine cS bz (fun ba bz => ?_) fun ba bz => ?_
 refine ct ba (ct ba (ct ba ?_))
 exact eMq bf _ ⟨bq (si bz), trivial⟩
 refine fa rfl (cf ba (ro (ld r0 rfl rfl (cf ba ?_))))
 refine cb bz fun dR dA bz => cgx (JcG dA :) ?_
 refine cf ba ?_
 exact eMq bf _ ⟨bq (si bz), trivial⟩
 rintro bn rfl dM
 refine cs rfl rfl hm ?_ ?_ <;> intro dS hm
 refine cb hm fun eC dE hm => ckx (Jaq dE :) ?_
 rintro _ _ _ ⟨cV, dj, rfl, dh, rfl⟩
 refine ro (qab r3 rfl (nl rfl) ?_)
 refine qaa r5 rfl ⟨rfl, rfl, (nl rfl), ?_⟩
 refine ro (qab r0 rfl (nl rfl) ?_)
 refine qci (fun _ : Ja => []) 117 4 ?_
 exact eE hm
 refine cb hm fun eG dF hm => ckx (Jn dF :) ?_
 rintro _ _ _ ⟨cz, cW, rfl, bY, rfl⟩
 refine fa rfl (ro (ld r2 rfl rfl (fa rfl ?_)))
 refine qaa r3 rfl ⟨rfl, rfl, (nl rfl), ?_⟩
 refine cb hm fun ep dB hm => cfx (Jv dB :) ?_
 rintro _ dX _ eh ⟨cw, cJ, c5, dc, cr, rfl, cO, cZ, c6, rfl⟩
 refine fa rfl ?_
 refine qaa r3 rfl ⟨rfl, rfl, (nl rfl), ?_⟩
 refine ro (qab r0 rfl (nl rfl) ?_)
 refine qaa r6 rfl ⟨rfl, rfl, (nl rfl), ?_⟩
 exact ro (qab r0 rfl (nl rfl) (eE hm))
 refine qaq (cs rfl rfl hm ?_ ?_) <;> intro cp hm
 refine qac rfl (ct cp ?_)
 refine cb hm fun dI bS hm => ckx (Jn bS :) ?_
 rintro _ _ _ ⟨bF, bL, rfl, bJ, rfl⟩
 refine qa4 ⟨⟨[], false⟩, _, [(_, _)], []⟩ (by kernel_rfl) ⟨Hp.Le.refl _, (sc [3] rfl), ci0⟩ ?_
 refine fa rfl (qap m0 rfl rfl (fa rfl ?_))
 refine qaa r2 rfl ⟨rfl, rfl, (nl rfl), ?_⟩
 refine qk (sc [3] rfl) ?_
 refine fa rfl ?_
 refine qaa r0 rfl ⟨rfl, rfl, (nl rfl), ?_⟩
 refine qk (sc [3] rfl) ?_
 refine cb hm fun dQ bT hm => cfx (Jv bT :) ?_
 rintro _ dP _ dH ⟨bB, bK, bN, bO, bP, rfl, bM, bG, bC, rfl⟩
 refine fa rfl ?_
 refine qaa r3 rfl ⟨rfl, rfl, (nl rfl), ?_⟩
 refine ro (qab r0 rfl (nl rfl) ?_)
 refine qaa r5 rfl ⟨rfl, rfl, (nl rfl), ?_⟩
 exact ro (qab r0 rfl (nl rfl) (eE hm))
 refine qaq (cs rfl rfl hm ?_ ?_) <;> intro cp hm
 refine cb hm fun dI bS hm => ckx (Jn bS :) ?_
 rintro _ _ _ ⟨bF, bL, rfl, bJ, rfl⟩
 refine qa4 ⟨⟨[], false⟩, _, [(_, _)], []⟩ (by kernel_rfl) ⟨Hp.Le.refl _, (sc [3] rfl), ci0⟩ ?_
 refine fa rfl (qap m0 rfl rfl (fa rfl ?_))
 refine qaa r2 rfl ⟨rfl, rfl, (nl rfl), ?_⟩
 refine qk (sc [3] rfl) ?_
 refine fa rfl ?_
 refine qaa r0 rfl ⟨rfl, rfl, (nl rfl), ?_⟩
 refine qk (sc [3] rfl) ?_
 refine cb hm fun dQ bT hm => cfx (Jv bT :) ?_
 rintro _ dP _ dH ⟨bB, bK, bN, bO, bP, rfl, bM, bG, bC, rfl⟩
 refine fa rfl ?_
 refine qaa r3 rfl ⟨rfl, rfl, (nl rfl), ?_⟩
 refine ro (qab r0 rfl (nl rfl) ?_)
 refine qaa r5 rfl ⟨rfl, rfl, (nl rfl), ?_⟩
 exact ro (qab r0 rfl (nl rfl) (eE hm))
 refine qaq (cs rfl rfl hm ?_ ?_) <;> intro eg hm
 refine cb hm fun dT dD hm => ckx (Jn dD :) ?_
 rintro _ _ _ ⟨cn, cQ, rfl, dq, rfl⟩
 refine fa rfl ?_
 refine qaa r2 rfl ⟨rfl, rfl, (nl rfl), ?_⟩
 refine cb hm fun d9 dL hm => ckx (JcJ dL :) ?_
 rintro _ _ _ ⟨cA, ca, rfl, cj, rfl⟩
 refine fa rfl ?_
 refine qaa r2 rfl ⟨rfl, rfl, (nl rfl), ?_⟩
 refine cb hm fun eD dN hm => cgx (Jt dN :) ?_
 refine cs rfl rfl hm ?_ ?_ <;> intro ez hm
 refine cb hm fun dW dv hm => cfx (Jv dv :) ?_
 rintro _ ei _ dY ⟨cR, dt, cq, cP, cB, rfl, cM, de, cu, rfl⟩
 refine fa rfl ?_
 refine qaa r3 rfl ⟨rfl, rfl, (nl rfl), ?_⟩
 refine ro (qab r0 rfl (nl rfl) ?_)
 refine qaa r5 rfl ⟨rfl, rfl, (nl rfl), ?_⟩
 exact ro (qab r0 rfl (nl rfl) (eE hm))
 refine ro (qab r2 rfl (nl rfl) ?_)
 refine qaa r4 rfl ⟨rfl, rfl, (nl rfl), ?_⟩
 refine ro (qab r0 rfl (nl rfl) ?_)
 refine qci (fun _ : Ja => []) 117 4 ?_
 exact eE hm
 refine qaq (cs rfl rfl hm ?_ ?_) <;> intro ee hm
 refine cb hm fun d8 dO hm => ckx (Jn dO :) ?_
 rintro _ _ _ ⟨dn, cC, rfl, ce, rfl⟩
 refine fa rfl ?_
 refine qaa r2 rfl ⟨rfl, rfl, (nl rfl), ?_⟩
 refine cb hm fun d5 dy hm => ckx (JcJ dy :) ?_
 rintro _ _ _ ⟨cK, df, rfl, dm, rfl⟩
 refine fa rfl ?_
 refine qaa r2 rfl ⟨rfl, rfl, (nl rfl), ?_⟩
 refine cb hm fun eA dG hm => cgx (Jt dG :) ?_
 refine cs rfl rfl hm ?_ ?_ <;> intro dU hm
 refine cb hm fun ew dK hm => ckx (JK dK :) ?_
 rintro _ _ _ ⟨dk, cE, rfl, cU, rfl⟩
 refine ro (qab r2 rfl (nl rfl) ?_)
 refine qaa r4 rfl ⟨rfl, rfl, (nl rfl), ?_⟩
 refine ro (qab r0 rfl (nl rfl) ?_)
 refine qci (fun _ : Ja => []) 117 4 ?_
 exact eE hm
 refine ro (qab r2 rfl (nl rfl) ?_)
 refine qaa r4 rfl ⟨rfl, rfl, (nl rfl), ?_⟩
 refine ro (qab r0 rfl (nl rfl) ?_)
 refine qci (fun _ : Ja => []) 117 4 ?_
 exact eE hm
 refine qaq (cs rfl rfl hm ?_ ?_) <;> intro bQ hm
 refine qac rfl (ct bQ ?_)
 refine cb hm fun co bH hm => ckx (Jn bH :) ?_
 rintro _ _ _ ⟨bp, br, rfl, bo, rfl⟩
 refine fa rfl ?_
 refine qaa r2 rfl ⟨rfl, rfl, (nl rfl), ?_⟩
 refine fa rfl (ro (ld r3 rfl rfl (qaq ?_)))
 refine cs rfl rfl hm ?_ ?_ <;> intro bD hm
 refine fa rfl ?_
 refine qaa r0 rfl ⟨rfl, rfl, (nl rfl), ?_⟩
 refine fa rfl (ro (ld r3 rfl rfl (qaq ?_)))
 refine cs rfl rfl hm ?_ ?_ <;> intro bm hm
 refine fa rfl ?_
 refine qaa r0 rfl ⟨rfl, rfl, (nl rfl), ?_⟩
 refine cb hm fun bd aW hm => cfx (Jv aW :) ?_
 rintro _ bb _ bc ⟨aU, aX, a8, aV, aY, rfl, a6, aT, aZ, rfl⟩
 refine fa rfl ?_
 refine qaa r3 rfl ⟨rfl, rfl, (nl rfl), ?_⟩
 refine ro (qab r0 rfl (nl rfl) ?_)
 refine qaa r5 rfl ⟨rfl, rfl, (nl rfl), ?_⟩
 exact ro (qab r0 rfl (nl rfl) (eE hm))
 refine cb hm fun bd aW hm => cfx (Jv aW :) ?_
 rintro _ bb _ bc ⟨aU, aX, a8, aV, aY, rfl, a6, aT, aZ, rfl⟩
 refine fa rfl ?_
 refine qaa r3 rfl ⟨rfl, rfl, (nl rfl), ?_⟩
 refine ro (qab r0 rfl (nl rfl) ?_)
 refine qaa r5 rfl ⟨rfl, rfl, (nl rfl), ?_⟩
 exact ro (qab r0 rfl (nl rfl) (eE hm))
 refine fa rfl (ro (ld r3 rfl rfl (qaq ?_)))
 refine cs rfl rfl hm ?_ ?_ <;> intro bm hm
 refine fa rfl ?_
 refine qaa r0 rfl ⟨rfl, rfl, (nl rfl), ?_⟩
 refine cb hm fun bd aW hm => cfx (Jv aW :) ?_
 rintro _ bb _ bc ⟨aU, aX, a8, aV, aY, rfl, a6, aT, aZ, rfl⟩
 refine fa rfl ?_
 refine qaa r3 rfl ⟨rfl, rfl, (nl rfl), ?_⟩
 refine ro (qab r0 rfl (nl rfl) ?_)
 refine qaa r5 rfl ⟨rfl, rfl, (nl rfl), ?_⟩
 exact ro (qab r0 rfl (nl rfl) (eE hm))
 refine cb hm fun bd aW hm => cfx (Jv aW :) ?_
 rintro _ bb _ bc ⟨aU, aX, a8, aV, aY, rfl, a6, aT, aZ, rfl⟩
 refine fa rfl ?_
 refine qaa r3 rfl ⟨rfl, rfl, (nl rfl), ?_⟩
 refine ro (qab r0 rfl (nl rfl) ?_)
 refine qaa r5 rfl ⟨rfl, rfl, (nl rfl), ?_⟩
 exact ro (qab r0 rfl (nl rfl) (eE hm))
 refine qaq (cs rfl rfl hm ?_ ?_) <;> intro bQ hm
 refine qac rfl (ct bQ ?_)
 refine cb hm fun co bH hm => ckx (Jn bH :) ?_
 rintro _ _ _ ⟨bp, br, rfl, bo, rfl⟩
 refine fa rfl ?_
 refine qaa r2 rfl ⟨rfl, rfl, (nl rfl), ?_⟩
 refine fa rfl (ro (ld r3 rfl rfl (qaq ?_)))
 refine cs rfl rfl hm ?_ ?_ <;> intro bD hm
 refine fa rfl ?_
 refine qaa r0 rfl ⟨rfl, rfl, (nl rfl), ?_⟩
 refine fa rfl (ro (ld r3 rfl rfl (qaq ?_)))
 refine cs rfl rfl hm ?_ ?_ <;> intro bm hm
 refine fa rfl ?_
 refine qaa r0 rfl ⟨rfl, rfl, (nl rfl), ?_⟩
 refine cb hm fun bd aW hm => cfx (Jv aW :) ?_
 rintro _ bb _ bc ⟨aU, aX, a8, aV, aY, rfl, a6, aT, aZ, rfl⟩
 refine fa rfl ?_
 refine qaa r3 rfl ⟨rfl, rfl, (nl rfl), ?_⟩
 refine ro (qab r0 rfl (nl rfl) ?_)
 refine qaa r5 rfl ⟨rfl, rfl, (nl rfl), ?_⟩
 exact ro (qab r0 rfl (nl rfl) (eE hm))
 refine cb hm fun bd aW hm => cfx (Jv aW :) ?_
 rintro _ bb _ bc ⟨aU, aX, a8, aV, aY, rfl, a6, aT, aZ, rfl⟩
 refine fa rfl ?_
 refine qaa r3 rfl ⟨rfl, rfl, (nl rfl), ?_⟩
 refine ro (qab r0 rfl (nl rfl) ?_)
 refine qaa r5 rfl ⟨rfl, rfl, (nl rfl), ?_⟩
 exact ro (qab r0 rfl (nl rfl) (eE hm))
 refine fa rfl (ro (ld r3 rfl rfl (qaq ?_)))
 refine cs rfl rfl hm ?_ ?_ <;> intro bm hm
 refine fa rfl ?_
 refine qaa r0 rfl ⟨rfl, rfl, (nl rfl), ?_⟩
 refine cb hm fun bd aW hm => cfx (Jv aW :) ?_
 rintro _ bb _ bc ⟨aU, aX, a8, aV, aY, rfl, a6, aT, aZ, rfl⟩
 refine fa rfl ?_
 refine qaa r3 rfl ⟨rfl, rfl, (nl rfl), ?_⟩
 refine ro (qab r0 rfl (nl rfl) ?_)
 refine qaa r5 rfl ⟨rfl, rfl, (nl rfl), ?_⟩
 exact ro (qab r0 rfl (nl rfl) (eE hm))
 refine cb hm fun bd aW hm => cfx (Jv aW :) ?_
 rintro _ bb _ bc ⟨aU, aX, a8, aV, aY, rfl, a6, aT, aZ, rfl⟩
 refine fa rfl ?_
 refine qaa r3 rfl ⟨rfl, rfl, (nl rfl), ?_⟩
 refine ro (qab r0 rfl (nl rfl) ?_)
 refine qaa r5 rfl ⟨rfl, rfl, (nl rfl), ?_⟩
 exact ro (qab r0 rfl (nl rfl) (eE hm))
 refine qaq (cs rfl rfl hm ?_ ?_) <;> intro bQ hm
 refine cb hm fun co bH hm => ckx (Jn bH :) ?_
 rintro _ _ _ ⟨bp, br, rfl, bo, rfl⟩
 refine fa rfl ?_
 refine qaa r2 rfl ⟨rfl, rfl, (nl rfl), ?_⟩
 refine fa rfl (ro (ld r3 rfl rfl (qaq ?_)))
 refine cs rfl rfl hm ?_ ?_ <;> intro bD hm
 refine fa rfl ?_
 refine qaa r0 rfl ⟨rfl, rfl, (nl rfl), ?_⟩
 refine fa rfl (ro (ld r3 rfl rfl (qaq ?_)))
 refine cs rfl rfl hm ?_ ?_ <;> intro bm hm
 refine fa rfl ?_
 refine qaa r0 rfl ⟨rfl, rfl, (nl rfl), ?_⟩
 refine cb hm fun bd aW hm => cfx (Jv aW :) ?_
 rintro _ bb _ bc ⟨aU, aX, a8, aV, aY, rfl, a6, aT, aZ, rfl⟩
 refine fa rfl ?_
 refine qaa r3 rfl ⟨rfl, rfl, (nl rfl), ?_⟩
 refine ro (qab r0 rfl (nl rfl) ?_)
 refine qaa r5 rfl ⟨rfl, rfl, (nl rfl), ?_⟩
 exact ro (qab r0 rfl (nl rfl) (eE hm))
 refine cb hm fun bd aW hm => cfx (Jv aW :) ?_
 rintro _ bb _ bc ⟨aU, aX, a8, aV, aY, rfl, a6, aT, aZ, rfl⟩
 refine fa rfl ?_
 refine qaa r3 rfl ⟨rfl, rfl, (nl rfl), ?_⟩
 refine ro (qab r0 rfl (nl rfl) ?_)
 refine qaa r5 rfl ⟨rfl, rfl, (nl rfl), ?_⟩
 exact ro (qab r0 rfl (nl rfl) (eE hm))
 refine fa rfl (ro (ld r3 rfl rfl (qaq ?_)))
 refine cs rfl rfl hm ?_ ?_ <;> intro bm hm
 refine fa rfl ?_
 refine qaa r0 rfl ⟨rfl, rfl, (nl rfl), ?_⟩
 refine cb hm fun bd aW hm => cfx (Jv aW :) ?_
 rintro _ bb _ bc ⟨aU, aX, a8, aV, aY, rfl, a6, aT, aZ, rfl⟩
 refine fa rfl ?_
 refine qaa r3 rfl ⟨rfl, rfl, (nl rfl), ?_⟩
 refine ro (qab r0 rfl (nl rfl) ?_)
 refine qaa r5 rfl ⟨rfl, rfl, (nl rfl), ?_⟩
 exact ro (qab r0 rfl (nl rfl) (eE hm))
 refine cb hm fun bd aW hm => cfx (Jv aW :) ?_
 rintro _ bb _ bc ⟨aU, aX, a8, aV, aY, rfl, a6, aT, aZ, rfl⟩
 refine fa rfl ?_
 refine qaa r3 rfl ⟨rfl, rfl, (nl rfl), ?_⟩
 refine ro (qab r0 rfl (nl rfl) ?_)
 refine qaa r5 rfl ⟨rfl, rfl, (nl rfl), ?_⟩
 exact ro (qab r0 rfl (nl rfl) (eE hm))
 refine qaq (cs rfl rfl hm ?_ ?_) <;> intro bI hm
 refine qac rfl (ct bI ?_)
 refine cb hm fun bV bv hm => ckx (Jn bv :) ?_
 rintro _ _ _ ⟨bu, bt, rfl, bw, rfl⟩
 refine fa rfl ?_
 refine qaa r2 rfl ⟨rfl, rfl, (nl rfl), ?_⟩
 refine fa rfl (ro (ld r3 rfl rfl (qaq ?_)))
 refine cs rfl rfl hm ?_ ?_ <;> intro bU hm
 refine fa rfl ?_
 refine qaa r0 rfl ⟨rfl, rfl, (nl rfl), ?_⟩
 refine cb hm fun bA bg hm => ckx (JK bg :) ?_
 rintro _ _ _ ⟨bl, bj, rfl, bh, rfl⟩
 refine ro (qab r2 rfl (nl rfl) ?_)
 refine qaa r4 rfl ⟨rfl, rfl, (nl rfl), ?_⟩
 refine ro (qab r0 rfl (nl rfl) ?_)
 refine qci (fun _ : Ja => []) 117 4 ?_
 exact eE hm
 refine cb hm fun bA bg hm => ckx (JK bg :) ?_
 rintro _ _ _ ⟨bl, bj, rfl, bh, rfl⟩
 refine ro (qab r2 rfl (nl rfl) ?_)
 refine qaa r4 rfl ⟨rfl, rfl, (nl rfl), ?_⟩
 refine ro (qab r0 rfl (nl rfl) ?_)
 refine qci (fun _ : Ja => []) 117 4 ?_
 exact eE hm
 refine qaq (cs rfl rfl hm ?_ ?_) <;> intro bI hm
 refine cb hm fun bV bv hm => ckx (Jn bv :) ?_
 rintro _ _ _ ⟨bu, bt, rfl, bw, rfl⟩
 refine fa rfl ?_
 refine qaa r2 rfl ⟨rfl, rfl, (nl rfl), ?_⟩
 refine fa rfl (ro (ld r3 rfl rfl (qaq ?_)))
 refine cs rfl rfl hm ?_ ?_ <;> intro bU hm
 refine fa rfl ?_
 refine qaa r0 rfl ⟨rfl, rfl, (nl rfl), ?_⟩
 refine cb hm fun bA bg hm => ckx (JK bg :) ?_
 rintro _ _ _ ⟨bl, bj, rfl, bh, rfl⟩
 refine ro (qab r2 rfl (nl rfl) ?_)
 refine qaa r4 rfl ⟨rfl, rfl, (nl rfl), ?_⟩
 refine ro (qab r0 rfl (nl rfl) ?_)
 refine qci (fun _ : Ja => []) 117 4 ?_
 exact eE hm
 refine cb hm fun bA bg hm => ckx (JK bg :) ?_
 rintro _ _ _ ⟨bl, bj, rfl, bh, rfl⟩
 refine ro (qab r2 rfl (nl rfl) ?_)
 refine qaa r4 rfl ⟨rfl, rfl, (nl rfl), ?_⟩
 refine ro (qab r0 rfl (nl rfl) ?_)
 refine qci (fun _ : Ja => []) 117 4 ?_
 exact eE hm
 refine cb hm fun d7 du hm => ckx (Jaq du :) ?_
 rintro _ _ _ ⟨dg, cD, rfl, cI, rfl⟩
 refine ro (qab r2 rfl (nl rfl) ?_)
 refine qaa r4 rfl ⟨rfl, rfl, (nl rfl), ?_⟩
 refine ro (qab r0 rfl (nl rfl) ?_)
 refine qci (fun _ : Ja => []) 117 4 ?_
 exact eE hm

def Jar (rec_ : (Jb → Option ((List Ja) × Jb))) (n : Nat) : Nat → (List Ja) → Jb → Option ((List Ja) × Jb)
  | 0, _, _ => none
  | aV + 1, ac, aT =>
    (Ju aT).bind fun x5 =>
    (if x5 then (JQ aT).bind fun x8 =>
    some (decide (x8.Ab ≠ 5)) else some false).bind fun aX =>
    (if aX then (JB aT 4 ([125] : Str)).bind fun aY =>
    some (!aY) else some false).bind fun aW =>
    if aW then
    (JbF rec_ n aT).bind fun aU =>
    (chk (ac.length + [aU.1].length ≤ lim)).bind fun _ =>
    Jar rec_ n aV (ac ++ [aU.1]) aU.2
    else
    some (ac, aT)
def Jao : Nat → Jb → Option ((List Ja) × Jb)
  | 0, _ => none
  | n + 1, p =>
    (Jar (Jao n) n n [] p).bind fun t0 =>
    some (t0.1, t0.2)
theorem Jc7 : ∀ {n : Nat} {p : Jb} {b0 : Nat} {aa : Option Addr} {ab : Nat} {K : Hp} {r : (List Ja) × Jb}
    (hm : Jao n p = some r) (hX : (0 < p.list.length → Has aa) ∧ GG K),
    Fn Tryz.prog 97 [.pointer (some ⟨b0, 0, none⟩)] K [Cells b0 163 [.slice aa p.list.length ab, .int .i64 p.atZ, .int .i64 p.line], qau Jf.enc aa 166 4 ab p.list] (fun v K' H' => ∃ ar_0 : Option Addr, ∃ cr_0 : Nat, ∃ sr_0 : List (List Value), ∃ ar_1 : Option Addr, ∃ cr_1 : Nat, v = .slice ar_0 r.1.length cr_0 ∧ (0 < r.1.length → Has ar_0) ∧ LR Ja.R K' sr_0 r.1 ∧ (0 < r.2.list.length → Has ar_1) ∧ H' = [OwnA ar_0 117 4 cr_0 sr_0, Cells b0 163 [.slice ar_1 r.2.list.length cr_1, .int .i64 r.2.atZ, .int .i64 r.2.line], qau Jf.enc ar_1 166 4 cr_1 r.2.list]) := by
 intro n
 induction n with
 | zero =>
   intro p b0 aa ab K r hm hX
   rw [Jao.eq_1] at hm; cases hm
 | succ n ih =>
   intro p b0 aa ab K r hm hX
   obtain ⟨ae, hG⟩ := hX
   refine Fn.enter Tryz.func97 Tryz.call97 rfl fun F => ?_
   rw [Jao.eq_2] at hm
   obtain ⟨s0, aV, hm⟩ := bnd hm
   refine qhp (fun _ : Ja => []) 117 4 ?_
   refine lC (σ := ((List Ja) × Jb) × Option Addr × Nat × List (List Value) × Option Addr × Nat) (rg 3 19) [3] (fun _ => []) (fun (t0, aW, ba, aY, aT, aU) => [(3, .slice aW t0.1.length ba)]) (fun (t0, aW, ba, aY, aT, aU) => [OwnA aW 117 4 ba aY, Cells b0 163 [.slice aT t0.2.list.length aU, .int .i64 t0.2.atZ, .int .i64 t0.2.line], qau Jf.enc aT 166 4 aU t0.2.list]) (fun zz K1 => match zz with | (t0, aW, ba, aY, aT, aU) => LR Ja.R K1 aY t0.1 ∧ (0 < t0.1.length → Has aW) ∧ (0 < t0.2.list.length → Has aT)) (fun i0 (t0, aW, ba, aY, aT, aU) => Jar (Jao n) n i0 t0.1 t0.2 = some s0) (fun (t0, aW, ba, aY, aT, aU) => t0 = s0) (fun i0 => i0) n ((_, _), _, _, _, _, _) aV (And.intro qe (And.intro ?_ ?_))
   clear aV
   rintro i0 ⟨⟨ac, bH⟩, bz, bu, bG, bo, bp⟩ bO bW ⟨bl, br, bm⟩ aV j0
   dsimp only at aV ⊢
   cases i0 with
   | zero => rw [Jar.eq_1] at aV; cases aV
   | succ i0 =>
    rw [Jar.eq_2] at aV
    refine qaf rfl ?_
    refine cb aV fun x5 q5 aV => cgx (Jt q5 :) ?_
    obtain ⟨bQ, bg, aV⟩ := bnd aV
    refine cS bg (fun bc bg => ?_) fun bc bg => ?_
    refine ct bc ?_
    refine cb bg fun x8 q8 bg => cgx (JP q8 :) ?_
    refine ct bc ?_
    refine Jdu rfl rfl rfl rfl ?_
    refine ct bc (qa8 (ct bc ?_))
    obtain ⟨bM, bd, aV⟩ := bnd aV
    refine qah ?_ ?_ <;> intro aX
    replace bd := ift ((si bg).symm.trans aX) bd
    refine ct aX ?_
    refine cb bd fun bX bJ bd => cgx (Jx bJ :) ?_
    refine ct aX (qax (ct aX (qac rfl ?_)))
    refine qah ?_ ?_ <;> intro bA
    replace aV := ift ((si bd).symm.trans (qfp (qlg bA))) aV
    refine qam rfl ?_
    refine cb aV fun bb bL aV => cfx (Jdf ih bL :) ?_
    rintro _ bS _ bI ⟨a8, a6, bt, bv, bF, rfl, bC, bj, bw, rfl⟩
    refine qlh Ja.R_ok r0 bj fun bh bf aZ => ?_
    refine qj2 (R := Ja.R) (len := 1) (l := [bb.1]) (css := [[.int .i64 bb.1.Ab, str bb.1.Ac, .slice a8 bb.1.Aa.length a6, .int .i64 bb.1.Ad]]) (cl := [.int .i64 bb.1.Ab, str bb.1.Ac, .slice a8 bb.1.Aa.length a6, .int .i64 bb.1.Ad]) Ja.R_ok qbz rfl rfl (LR.snoc LR.nil (Ja.of (x := bb.1) ⟨a8, a6, rfl, aZ⟩)) rfl rfl rfl ?_ fun bP => ?_
    · conv => whnf
      refine cT ?_
      first | done | rfl
    obtain ⟨bK, aV⟩ := qaw aV
    refine qp5 r3 (LR.mono Ja.R_ok (bI.trans bf) bl) rfl qbz (qdd rfl r0 rfl Ja.R_ok (show LR Ja.R _ [[.int .i64 bb.1.Ab, str bb.1.Ac, .slice a8 bb.1.Aa.length a6, .int .i64 bb.1.Ad]] [bb.1] from (LR.snoc LR.nil (Ja.of (x := bb.1) ⟨a8, a6, rfl, aZ⟩)))) (show LR Ja.R _ [[.int .i64 bb.1.Ab, str bb.1.Ac, .slice a8 bb.1.Aa.length a6, .int .i64 bb.1.Ad]] [bb.1] from (LR.snoc LR.nil (Ja.of (x := bb.1) ⟨a8, a6, rfl, aZ⟩))) bK ?_
    intro bT bU bV r_21 bY
    exact eR aV (_, (_, _), _, _, _, _, _)
    replace aV := qbb ((si bd).symm.trans (qdo (qio bA))) aV
    refine cT ?_
    exact eM aV (_, _, _, _, _, _)
    replace bd := qbb ((si bg).symm.trans aX) bd
    refine cf aX (cf aX (cf aX (qac rfl (cF ?_))))
    replace aV := qbb (si bd).symm aV
    refine cT ?_
    exact eM aV (_, _, _, _, _, _)
    refine cf bc (cf bc (cf bc (cf bc ?_)))
    obtain ⟨bM, bd, aV⟩ := bnd aV
    replace bd := qbb (si bg).symm bd
    refine cF (cF (cF (cF (qac rfl (cF ?_)))))
    replace aV := qbb (si bd).symm aV
    refine cT ?_
    exact eM aV (_, _, _, _, _, _)
   rintro ⟨t0, aW, ba, aY, aT, aU⟩ bR bN ⟨bD, bB, bn⟩ rfl j0
   exact eE hm

def Jb3 (rec_ : (Ja → Option (Int))) : List Ja → Nat → Int → Option (Int)
  | [], _, ac => some ac
  | e0 :: aU, i0, ac =>
    (rec_ e0).bind fun aT =>
    (chk (InI (ac + aT))).bind fun _ =>
    Jb3 rec_ aU (i0 + 1) (ac + aT)
def JbY : Nat → Ja → Option (Int)
  | 0, _ => none
  | n + 1, n' =>
    (chk (n'.Aa.length ≤ qa7)).bind fun _ =>
    (Jb3 (JbY n) n'.Aa 0 1).bind fun t0 =>
    some t0
theorem Jc8 : ∀ {n : Nat} {n' : Ja} {aa : Option Addr} {ab : Nat} {K : Hp} {r : Int}
    (hm : JbY n n' = some r) (ae : LiC Ja.R K aa ab 4 n'.Aa),
    Fn Tryz.prog 101 [.agg #[.int .i64 n'.Ab, str n'.Ac, .slice aa n'.Aa.length ab, .int .i64 n'.Ad]] K [] (fun v K' H' => v = .int .i64 r ∧ H' = []) := by
 intro n
 induction n with
 | zero =>
   intro n' aa ab K r hm ae
   rw [JbY.eq_1] at hm; cases hm
 | succ n ih =>
   intro n' aa ab K r hm ae
   refine Fn.enter Tryz.func101 Tryz.call101 rfl fun F => ?_
   rw [JbY.eq_2] at hm
   refine qas ?_
   intro b1
   refine fa rfl (ro (ld r0 rfl rfl (ro (qal rfl ?_))))
   obtain ⟨bc, hm⟩ := qaw hm
   obtain ⟨s0, aT, hm⟩ := bnd hm
   refine lD (σ := (Int)) ([3,5] ++ rg 9 9) [0, 1] (fun i0 => [(9, .int .i64 (i0 : Int))]) (fun t0 => [(3, .int .i64 t0)]) (fun _ => []) (fun _ => True) (fun i0 t0 => Jb3 (JbY n) (n'.Aa.drop i0) i0 t0 = some s0) (fun t0 => t0 = s0) (fun i0 => n'.Aa.length - i0) 0 _ aT (And.intro qe (And.intro ?_ ?_))
   clear aT
   rintro i0 ac _ aT j0
   conv at aT => whnf
   refine qac rfl ?_
   refine qah ?_ ?_ <;> intro w0
   obtain ⟨e0, aU, bf⟩ := ltx w0
   rw [bf, Jb3.eq_2] at aT
   refine qam rfl ?_
   refine RStep.ofN (qae rfl rfl (qc8 ae.rd aU) (nn _) (qbs aU) ?_)
   obtain ⟨a8, bb, aV, aW, aX⟩ := LiR.get ae.rd aU
   obtain ⟨a6, aZ, rfl, aY⟩ := Ja.out aX
   refine ro (qao i0 _ aV rfl aW rfl ?_)
   refine qai rfl fun b5 => ?_
   refine qaa r0 rfl ⟨rfl, rfl, (nl rfl), ?_⟩
   refine ro (qab r0 rfl (nl rfl) ?_)
   refine cb aT fun bg ba aT => cgx (ih ba :) ?_
   obtain ⟨bd, aT⟩ := qaw aT
   refine qan bd (qan (qbu aU bc) ?_)
   exact eR aT (_, _)
   rw [lty w0, Jb3.eq_1] at aT
   refine cT ?_
   exact eM aT _
   rintro t0 _ rfl j0
   exact eE hm

def JbP (rec_ : (Ja → Option (Int))) : List Ja → Nat → Int → Option (Int)
  | [], _, ac => some ac
  | e0 :: aT, i0, ac =>
    (rec_ e0).bind fun aU =>
    JbP rec_ aT (i0 + 1) (max ac aU)
def JbG : Nat → Ja → Option (Int)
  | 0, _ => none
  | n + 1, n' =>
    (chk (n'.Aa.length ≤ qa7)).bind fun _ =>
    (JbP (JbG n) n'.Aa 0 0).bind fun t0 =>
    (chk (InI (t0 + 1))).bind fun _ =>
    some (t0 + 1)
theorem JcT : ∀ {n : Nat} {n' : Ja} {aa : Option Addr} {ab : Nat} {K : Hp} {r : Int}
    (hm : JbG n n' = some r) (ae : LiC Ja.R K aa ab 4 n'.Aa),
    Fn Tryz.prog 102 [.agg #[.int .i64 n'.Ab, str n'.Ac, .slice aa n'.Aa.length ab, .int .i64 n'.Ad]] K [] (fun v K' H' => v = .int .i64 r ∧ H' = []) := by
 intro n
 induction n with
 | zero =>
   intro n' aa ab K r hm ae
   rw [JbG.eq_1] at hm; cases hm
 | succ n ih =>
   intro n' aa ab K r hm ae
   refine Fn.enter Tryz.func102 Tryz.call102 rfl fun F => ?_
   rw [JbG.eq_2] at hm
   refine qas ?_
   intro b1
   refine fa rfl (ro (ld r0 rfl rfl (ro (qal rfl ?_))))
   obtain ⟨bc, hm⟩ := qaw hm
   obtain ⟨s0, aT, hm⟩ := bnd hm
   refine lD (σ := (Int)) ([3,5] ++ rg 9 9) [0, 1] (fun i0 => [(9, .int .i64 (i0 : Int))]) (fun t0 => [(3, .int .i64 t0)]) (fun _ => []) (fun _ => True) (fun i0 t0 => JbP (JbG n) (n'.Aa.drop i0) i0 t0 = some s0) (fun t0 => t0 = s0) (fun i0 => n'.Aa.length - i0) 0 _ aT (And.intro qe (And.intro ?_ ?_))
   clear aT
   rintro i0 ac _ aT j0
   conv at aT => whnf
   refine qac rfl ?_
   refine qah ?_ ?_ <;> intro w0
   obtain ⟨e0, aU, bd⟩ := ltx w0
   rw [bd, JbP.eq_2] at aT
   refine qam rfl ?_
   refine RStep.ofN (qae rfl rfl (qc8 ae.rd aU) (nn _) (qbs aU) ?_)
   obtain ⟨a8, bb, aV, aW, aX⟩ := LiR.get ae.rd aU
   obtain ⟨a6, aZ, rfl, aY⟩ := Ja.out aX
   refine ro (qao i0 _ aV rfl aW rfl ?_)
   refine qai rfl fun b5 => ?_
   refine qaa r0 rfl ⟨rfl, rfl, (nl rfl), ?_⟩
   refine ro (qab r0 rfl (nl rfl) ?_)
   refine cb aT fun bf ba aT => cgx (ih ba :) ?_
   refine ro (qcg (qan (qbu aU bc) ?_))
   exact eR aT (_, _)
   rw [lty w0, JbP.eq_1] at aT
   refine cT ?_
   exact eM aT _
   rintro t0 _ rfl j0
   refine ci hm fun hm => ?_
   exact eE hm

def Jad (n : Nat) (text : Str) : Option (Ja × Int × Err) :=
  (JaI n text).bind fun aV =>
  if aV.2.isSome then
  some ((⟨0, ([] : Str), [], 0⟩ : Ja), 0, aV.2)
  else
  (Jao n (⟨aV.1, 0, 0⟩ : Jb)).bind fun aT =>
  (Ju aT.2).bind fun a6 =>
  (if a6 then (JQ aT.2).bind fun ba =>
  some (decide (ba.Ab ≠ 5)) else some false).bind fun a8 =>
  if a8 then
  (Jaj aT.2).bind fun aZ =>
  (Ju aZ).bind fun aY =>
  if (!aY) then
  some ((⟨0, ([] : Str), [], 0⟩ : Ja), aZ.line, (some 2))
  else
  (JbY n (⟨1, ([] : Str), aT.1, 1⟩ : Ja)).bind fun aU =>
  (if decide (aU > 512) then some true else (JbG n (⟨1, ([] : Str), aT.1, 1⟩ : Ja)).bind fun aW =>
  some (decide (aW > 32))).bind fun aX =>
  if aX then
  some ((⟨0, ([] : Str), [], 0⟩ : Ja), 0, (some 5))
  else
  some ((⟨1, ([] : Str), aT.1, 1⟩ : Ja), 0, none)
  else
  (Ju aT.2).bind fun aY =>
  if (!aY) then
  some ((⟨0, ([] : Str), [], 0⟩ : Ja), aT.2.line, (some 2))
  else
  (JbY n (⟨1, ([] : Str), aT.1, 1⟩ : Ja)).bind fun aU =>
  (if decide (aU > 512) then some true else (JbG n (⟨1, ([] : Str), aT.1, 1⟩ : Ja)).bind fun aW =>
  some (decide (aW > 32))).bind fun aX =>
  if aX then
  some ((⟨0, ([] : Str), [], 0⟩ : Ja), 0, (some 5))
  else
  some ((⟨1, ([] : Str), aT.1, 1⟩ : Ja), 0, none)
theorem Jd5 {n : Nat} {text : Str} {K : Hp} {r : Ja × Int × Err}
    (hm : Jad n text = some r) (hG : GG K) :
    Fn Tryz.prog 62 [str text] K [] (fun v K' H' => ∃ ar_0 : Option Addr, ∃ cr_0 : Nat, v = .tuple #[.agg #[.int .i64 r.1.Ab, str r.1.Ac, .slice ar_0 r.1.Aa.length cr_0, .int .i64 r.1.Ad], .int .i64 r.2.1, qc5 48 r.2.2] ∧ LiC Ja.R K' ar_0 cr_0 4 r.1.Aa ∧ H' = []) := by
 refine Fn.enter Tryz.func62 Tryz.call62 rfl fun F => ?_
 unfold Jad at hm
 refine qai rfl fun b2 => ?_
 refine cb hm fun bJ bF hm => ck0 (JdF bF :) ?_
 rintro _ _ _ ⟨bd, bj, rfl, bu, rfl⟩
 refine qa9 rfl ?_
 refine cs rfl rfl hm ?_ ?_ <;> intro bR hm
 refine qad rfl rfl ?_
 refine qaa r1 rfl ⟨rfl, rfl, (nl rfl), ?_⟩
 exact ro (qab r0 rfl (nl rfl) (eE hm))
 refine qad rfl rfl (cT ?_)
 refine qas ?_
 intro bO
 refine cb hm fun bQ bD hm => cfx (Jc7 bD :) ?_
 rintro _ bS _ bL ⟨bv, bm, bg, bB, br, rfl, bw, aZ, bC, rfl⟩
 refine qad rfl rfl (cT (cT (cT ?_)))
 refine qai rfl fun b8 => ?_
 refine qaa r0 rfl ⟨rfl, rfl, (nl rfl), ?_⟩
 refine qaf rfl ?_
 refine cb hm fun bP bG hm => cgx (Jt bG :) ?_
 obtain ⟨bK, a6, hm⟩ := bnd hm
 refine cS a6 (fun aU a6 => ?_) fun aU a6 => ?_
 refine ct aU ?_
 refine cb a6 fun bM bH a6 => cgx (JP bH :) ?_
 refine ct aU ?_
 refine Jdu rfl rfl rfl rfl ?_
 refine ct aU (qa8 (ct aU (qac rfl ?_)))
 refine qah ?_ ?_ <;> intro bf
 replace hm := ift ((si a6).symm.trans bf) hm
 refine cb hm fun bN bI hm => ckx (Jaq bI :) ?_
 rintro _ _ _ ⟨bh, bp, rfl, bl, rfl⟩
 refine cb hm fun bn ba hm => cgx (Jt ba :) ?_
 refine qax ?_
 refine cs rfl rfl hm ?_ ?_ <;> intro bo hm
 refine qa4 ⟨⟨[], false⟩, _, [(_, _)], []⟩ (by kernel_rfl) ⟨Hp.Le.refl _, (pf rfl), ci0⟩ ?_
 refine qad rfl rfl (qaj (fa rfl (qap m0 rfl rfl ?_)))
 refine qat rfl ?_
 refine qaa r4 rfl ⟨rfl, rfl, (nl rfl), ?_⟩
 refine qk (sc [1] rfl) ?_
 exact ro (qab r0 rfl (nl rfl) (eE hm))
 refine qaf rfl ?_
 refine ro (qab r2 rfl (nl rfl) ?_)
 refine qj1 Tryz.call101 Ja.R_ok r3 aZ fun aW aX aY => ?_
 refine cb hm fun bz bb hm => cgx (Jc8 bb :) ?_
 obtain ⟨bt, aV, hm⟩ := bnd hm
 refine cS aV (fun aT aV => ?_) fun aT aV => ?_
 refine ct aT (ct aT (ct aT (qac rfl (cT ?_))))
 replace hm := ift (si aV).symm hm
 refine qad rfl rfl ?_
 refine qat rfl ?_
 refine qaa r3 rfl ⟨rfl, rfl, (nl rfl), ?_⟩
 exact ro (qab r0 rfl (nl rfl) (eE hm))
 refine ro (qab r2 rfl (nl rfl) (cf aT ?_))
 refine cb aV fun bA bc aV => cgx (JcT bc :) ?_
 refine cf aT (cf aT (qac rfl ?_))
 refine qah ?_ ?_ <;> intro a8
 replace hm := ift ((si aV).symm.trans a8) hm
 refine qad rfl rfl ?_
 refine qat rfl ?_
 refine qaa r3 rfl ⟨rfl, rfl, (nl rfl), ?_⟩
 exact ro (qab r0 rfl (nl rfl) (eE hm))
 replace hm := qbb ((si aV).symm.trans a8) hm
 refine ro (qab r2 rfl (nl rfl) ?_)
 refine qaa r3 rfl ⟨rfl, rfl, (nl rfl), ?_⟩
 exact ro (qab r0 rfl (nl rfl) (eE hm))
 replace hm := qbb ((si a6).symm.trans bf) hm
 refine cb hm fun bn ba hm => cgx (Jt ba :) ?_
 refine qax ?_
 refine cs rfl rfl hm ?_ ?_ <;> intro bo hm
 refine qa4 ⟨⟨[], false⟩, _, [(_, _)], []⟩ (by kernel_rfl) ⟨Hp.Le.refl _, (pf rfl), ci0⟩ ?_
 refine qad rfl rfl (qaj (fa rfl (qap m0 rfl rfl ?_)))
 refine qat rfl ?_
 refine qaa r4 rfl ⟨rfl, rfl, (nl rfl), ?_⟩
 refine qk (sc [1] rfl) ?_
 exact ro (qab r0 rfl (nl rfl) (eE hm))
 refine qaf rfl ?_
 refine ro (qab r2 rfl (nl rfl) ?_)
 refine qj1 Tryz.call101 Ja.R_ok r3 aZ fun aW aX aY => ?_
 refine cb hm fun bz bb hm => cgx (Jc8 bb :) ?_
 obtain ⟨bt, aV, hm⟩ := bnd hm
 refine cS aV (fun aT aV => ?_) fun aT aV => ?_
 refine ct aT (ct aT (ct aT (qac rfl (cT ?_))))
 replace hm := ift (si aV).symm hm
 refine qad rfl rfl ?_
 refine qat rfl ?_
 refine qaa r3 rfl ⟨rfl, rfl, (nl rfl), ?_⟩
 exact ro (qab r0 rfl (nl rfl) (eE hm))
 refine ro (qab r2 rfl (nl rfl) (cf aT ?_))
 refine cb aV fun bA bc aV => cgx (JcT bc :) ?_
 refine cf aT (cf aT (qac rfl ?_))
 refine qah ?_ ?_ <;> intro a8
 replace hm := ift ((si aV).symm.trans a8) hm
 refine qad rfl rfl ?_
 refine qat rfl ?_
 refine qaa r3 rfl ⟨rfl, rfl, (nl rfl), ?_⟩
 exact ro (qab r0 rfl (nl rfl) (eE hm))
 replace hm := qbb ((si aV).symm.trans a8) hm
 refine ro (qab r2 rfl (nl rfl) ?_)
 refine qaa r3 rfl ⟨rfl, rfl, (nl rfl), ?_⟩
 exact ro (qab r0 rfl (nl rfl) (eE hm))
 refine cf aU (cf aU (cf aU (cf aU (qac rfl (cF ?_)))))
 replace hm := qbb (si a6).symm hm
 refine cb hm fun bn ba hm => cgx (Jt ba :) ?_
 refine qax ?_
 refine cs rfl rfl hm ?_ ?_ <;> intro bo hm
 refine qa4 ⟨⟨[], false⟩, _, [(_, _)], []⟩ (by kernel_rfl) ⟨Hp.Le.refl _, (pf rfl), ci0⟩ ?_
 refine qad rfl rfl (qaj (fa rfl (qap m0 rfl rfl ?_)))
 refine qat rfl ?_
 refine qaa r4 rfl ⟨rfl, rfl, (nl rfl), ?_⟩
 refine qk (sc [1] rfl) ?_
 exact ro (qab r0 rfl (nl rfl) (eE hm))
 refine qaf rfl ?_
 refine ro (qab r2 rfl (nl rfl) ?_)
 refine qj1 Tryz.call101 Ja.R_ok r3 aZ fun aW aX aY => ?_
 refine cb hm fun bz bb hm => cgx (Jc8 bb :) ?_
 obtain ⟨bt, aV, hm⟩ := bnd hm
 refine cS aV (fun aT aV => ?_) fun aT aV => ?_
 refine ct aT (ct aT (ct aT (qac rfl (cT ?_))))
 replace hm := ift (si aV).symm hm
 refine qad rfl rfl ?_
 refine qat rfl ?_
 refine qaa r3 rfl ⟨rfl, rfl, (nl rfl), ?_⟩
 exact ro (qab r0 rfl (nl rfl) (eE hm))
 refine ro (qab r2 rfl (nl rfl) (cf aT ?_))
 refine cb aV fun bA bc aV => cgx (JcT bc :) ?_
 refine cf aT (cf aT (qac rfl ?_))
 refine qah ?_ ?_ <;> intro a8
 replace hm := ift ((si aV).symm.trans a8) hm
 refine qad rfl rfl ?_
 refine qat rfl ?_
 refine qaa r3 rfl ⟨rfl, rfl, (nl rfl), ?_⟩
 exact ro (qab r0 rfl (nl rfl) (eE hm))
 replace hm := qbb ((si aV).symm.trans a8) hm
 refine ro (qab r2 rfl (nl rfl) ?_)
 refine qaa r3 rfl ⟨rfl, rfl, (nl rfl), ?_⟩
 exact ro (qab r0 rfl (nl rfl) (eE hm))

def JbQ (depth : Int) (rec_ : (Ja → Int → Int → Option (Bool × Int))) : List Ja → Nat → Int → Option (Fl (Bool × Int) (Int))
  | [], _, ac => some (Fl.go ac)
  | e0 :: aU, i0, ac =>
    (chk (InI (depth - 1))).bind fun _ =>
    (rec_ e0 ac (depth - 1)).bind fun aT =>
    if (!aT.1) then
    some (Fl.ret (false, aT.2))
    else
    JbQ depth rec_ aU (i0 + 1) aT.2
def JaQ : Nat → Ja → Int → Int → Option (Bool × Int)
  | 0, _, _, _ => none
  | n + 1, n', nodes, depth =>
    (chk (InI (nodes - 1))).bind fun _ =>
    if (decide ((nodes - 1) < 0) || decide (depth < 1)) then
    some (false, (nodes - 1))
    else
    (chk (n'.Aa.length ≤ qa7)).bind fun _ =>
    (JbQ depth (JaQ n) n'.Aa 0 (nodes - 1)).bind fun s0 => s0.el some fun t0 =>
    some (true, t0)
theorem Jd6 : ∀ {n : Nat} {n' : Ja} {nodes : Int} {depth : Int} {aa : Option Addr} {ab : Nat} {b1 : Nat} {K : Hp} {r : Bool × Int}
    (hm : JaQ n n' nodes depth = some r) (ae : LiC Ja.R K aa ab 4 n'.Aa),
    Fn Tryz.prog 189 [.agg #[.int .i64 n'.Ab, str n'.Ac, .slice aa n'.Aa.length ab, .int .i64 n'.Ad], .pointer (some ⟨b1, 0, none⟩), .int .i64 depth] K [Cells b1 3 [.int .i64 nodes]] (fun v K' H' => v = .bool r.1 ∧ H' = [Cells b1 3 [.int .i64 r.2]]) := by
 intro n
 induction n with
 | zero =>
   intro n' nodes depth aa ab b1 K r hm ae
   rw [JaQ.eq_1] at hm; cases hm
 | succ n ih =>
   intro n' nodes depth aa ab b1 K r hm ae
   refine Fn.enter Tryz.func189 Tryz.call189 rfl fun F => ?_
   rw [JaQ.eq_2] at hm
   refine qas ?_
   intro b3
   refine qaj (ro (ld r1 rfl rfl ?_))
   obtain ⟨bc, hm⟩ := qaw hm
   refine qan bc (qaj ?_)
   refine qaa r1 rfl ⟨rfl, rfl, (nl rfl), ?_⟩
   refine jR (σ := Unit) (rg 14 8) (fun _ => [(21, .bool (decide ((nodes - 1) < 0) || decide (depth < 1)))]) (fun bd => True) ?_ ?_
   refine qaf rfl ?_
   refine qaj (ro (ld r0 rfl rfl ?_))
   refine qah ?_ ?_ <;> intro aT
   refine ct aT (ct aT ?_)
   exact eMt () ⟨bq (((qbv aT)).symm), trivial⟩
   refine cf aT (cf aT ?_)
   exact eMt () ⟨bq (qhb (b := decide (depth < 1)) aT), trivial⟩
   rintro _ _ bh
   refine cs rfl rfl hm ?_ ?_ <;> intro bm hm
   exact eE hm
   refine fa rfl (ro (ld r1 rfl rfl (ro (qal rfl ?_))))
   obtain ⟨bb, hm⟩ := qaw hm
   obtain ⟨s0, aU, hm⟩ := bnd hm
   refine lD (σ := (Int)) ([6,8] ++ rg 25 11) [1, 2] (fun i0 => [(25, .int .i64 (i0 : Int))]) (fun _ => []) (fun t0 => [Cells b1 3 [.int .i64 t0]]) (fun _ => True) (fun i0 t0 => JbQ depth (JaQ n) (n'.Aa.drop i0) i0 t0 = some s0) (fun t0 => s0 = Fl.go t0) (fun i0 => n'.Aa.length - i0) 0 _ aU (And.intro qe (And.intro ?_ ?_))
   clear aU
   rintro i0 ac _ aU j0
   conv at aU => whnf
   refine qac rfl ?_
   refine qah ?_ ?_ <;> intro w0
   obtain ⟨e0, aV, bg⟩ := ltx w0
   rw [bg, JbQ.eq_2] at aU
   refine qam rfl ?_
   refine RStep.ofN (qae rfl rfl (qc8 ae.rd aV) (nn _) (qbs aV) ?_)
   obtain ⟨bf, ba, aW, aX, aY⟩ := LiR.get ae.rd aV
   obtain ⟨a6, aZ, rfl, a8⟩ := Ja.out aY
   refine ro (qao i0 _ aW rfl aX rfl ?_)
   refine qai rfl fun b8 => ?_
   refine qaa r0 rfl ⟨rfl, rfl, (nl rfl), ?_⟩
   refine ro (qab r0 rfl (nl rfl) ?_)
   refine ci aU fun aU => ?_
   refine cb aU fun bl bj aU => cgx (ih bj :) ?_
   refine qax ?_
   refine cs rfl rfl aU ?_ ?_ <;> intro bn aU
   exact eE (er aU hm)
   refine qan (qbu aV bb) ?_
   exact eR aU (_, _)
   rw [lty w0, JbQ.eq_1] at aU
   refine cT ?_
   exact eM aU _
   rintro t0 _ rfl j0
   replace hm := elg hm
   exact eE hm

def Jbz : List UInt8 → Nat → Option (Fl (Bool) (Unit))
  | [], _ => some (Fl.go ())
  | e0 :: aU, i0 =>
    (if decide ((e0.toNat : Int) < 48) then some true else some (decide ((e0.toNat : Int) > 57))).bind fun aT =>
    if aT then
    some (Fl.ret false)
    else
    Jbz aU (i0 + 1)
def Jdh (s : Str) : Option (Bool) :=
  (chk (s.length ≤ qa7)).bind fun _ =>
  (Jbz s 0).bind fun s0 => s0.el some fun t0 =>
  some (decide ((s.length : Int) ≥ 1) && decide ((s.length : Int) ≤ 9))
theorem Jd0 {s : Str} {K : Hp} {r : Bool}
    (hm : Jdh s = some r)  :
    Fn Tryz.prog 258 [str s] K [] (fun v K' H' => v = .bool r ∧ H' = []) := by
 refine Fn.enter Tryz.func258 Tryz.call258 rfl fun F => ?_
 unfold Jdh at hm
 refine ro (qa3 rfl ?_)
 obtain ⟨aZ, hm⟩ := qaw hm
 obtain ⟨s0, aV, hm⟩ := bnd hm
 refine lD (σ := (Unit)) ([2,3] ++ rg 6 14) [0] (fun i0 => [(6, .int .i64 (i0 : Int))]) (fun _ => []) (fun _ => []) (fun _ => True) (fun i0 _ => Jbz (s.drop i0) i0 = some s0) (fun t0 => s0 = Fl.go t0) (fun i0 => s.length - i0) 0 () aV (And.intro qe (And.intro ?_ ?_))
 clear aV
 rintro i0 _ _ aV j0
 conv at aV => whnf
 refine qac rfl ?_
 refine qah ?_ ?_ <;> intro w0
 obtain ⟨e0, aX, a6⟩ := ltx w0
 rw [a6, Jbz.eq_2] at aV
 refine qam rfl ?_
 refine qaf rfl ?_
 refine qa0 rfl (nn _) aX ?_
 obtain ⟨a8, aW, aV⟩ := bnd aV
 refine cS aW (fun aT aW => ?_) fun aT aW => ?_
 refine ct aT (ct aT (ct aT (ct aT (qac rfl (cT ?_)))))
 replace aV := ift (si aW).symm aV
 exact eE (er aV hm)
 refine cf aT (cf aT (qa0 rfl (nn _) aX (cf aT (cf aT (qac rfl ?_)))))
 refine qah ?_ ?_ <;> intro aY
 replace aV := ift ((si aW).symm.trans aY) aV
 exact eE (er aV hm)
 replace aV := qbb ((si aW).symm.trans aY) aV
 refine qan (qbu aX aZ) ?_
 exact eR aV (_, ())
 rw [lty w0, Jbz.eq_1] at aV
 refine cT ?_
 exact eM aV _
 rintro t0 _ rfl j0
 replace hm := elg hm
 refine qaf rfl ?_
 refine ro (qa3 rfl ?_)
 refine qah ?_ ?_ <;> intro aU
 refine ct aU (ro (qa3 rfl (ct aU (ct aU ?_))))
 exact bE (qcz (b := decide ((s.length : Int) ≤ 9)) aU) (eE hm)
 refine cf aU (cf aU (cf aU ?_))
 exact bE (((qbe aU)).symm) (eE hm)

def Ja3 : List UInt8 → Nat → Str → Option (Fl (Str × Err) (Str))
  | [], _, ac => some (Fl.go ac)
  | e0 :: aU, i0, ac =>
    (if decide ((e0.toNat : Int) < 32) then some true else some (decide ((e0.toNat : Int) > 126))).bind fun aT =>
    if aT then
    some (Fl.ret (([] : Str), (some 2)))
    else
    (if decide ((e0.toNat : Int) = 34) then some true else some (decide ((e0.toNat : Int) = 92))).bind fun aV =>
    if aV then
    (chk (ac.length + ([(92 : UInt8)] : Str).length ≤ lim)).bind fun _ =>
    (chk ((ac ++ ([(92 : UInt8)] : Str)).length + ([e0] : Str).length ≤ lim)).bind fun _ =>
    Ja3 aU (i0 + 1) ((ac ++ ([(92 : UInt8)] : Str)) ++ ([e0] : Str))
    else
    (chk (ac.length + ([e0] : Str).length ≤ lim)).bind fun _ =>
    Ja3 aU (i0 + 1) (ac ++ ([e0] : Str))
def Jcl (s : Str) : Option (Str × Err) :=
  (chk (s.length ≤ qa7)).bind fun _ =>
  (Ja3 s 0 ([(34 : UInt8)] : Str)).bind fun s0 => s0.el some fun t0 =>
  (chk (t0.length + ([(34 : UInt8)] : Str).length ≤ lim)).bind fun _ =>
  some ((t0 ++ ([(34 : UInt8)] : Str)), none)
theorem JdG {s : Str} {K : Hp} {r : Str × Err}
    (hm : Jcl s = some r)  :
    Fn Tryz.prog 238 [str s] K [] (fun v K' H' => v = .tuple #[str r.1, qc5 48 r.2] ∧ H' = []) := by
 refine Fn.enter Tryz.func238 Tryz.call238 rfl fun F => ?_
 unfold Jcl at hm
 refine bsO (len := 1) (enc := eU) (l := ([(34 : UInt8)] : Str)) (cl := [.int .u8 34]) qck rfl rfl (fun _ _ => rfl) rfl rfl rfl ?_ fun b6 => ?_
 · conv => whnf
   refine cT ?_
   first | done | rfl
 refine ro (qa3 rfl ?_)
 obtain ⟨bf, hm⟩ := qaw hm
 obtain ⟨s0, aT, hm⟩ := bnd hm
 refine lD (σ := (Str) × Option Addr × Nat) ([2,3,4,5] ++ rg 9 34) [1] (fun i0 => [(9, .int .i64 (i0 : Int))]) (fun (t0, aW, aX) => [(4, .slice aW t0.length aX)]) (fun (t0, aW, aX) => [qau eU aW 5 1 aX t0]) (fun (t0, aW, aX) => (0 < t0.length → Has aW) ∧ True) (fun i0 (t0, aW, aX) => Ja3 (s.drop i0) i0 t0 = some s0) (fun (t0, aW, aX) => s0 = Fl.go t0) (fun i0 => s.length - i0) 0 (_, _, _) aT (And.intro qe (And.intro ?_ ?_))
 clear aT
 rintro i0 ⟨ac, br, bl⟩ ⟨bg, _⟩ aT j0
 conv at aT => whnf
 refine qac rfl ?_
 refine qah ?_ ?_ <;> intro w0
 obtain ⟨e0, aZ, bA⟩ := ltx w0
 rw [bA, Ja3.eq_2] at aT
 refine qam rfl ?_
 obtain ⟨bd, aY, aT⟩ := bnd aT
 refine jR (σ := Bool) (rg 12 10) (fun a6 => [(21, .bool a6)]) (fun a6 => a6 = bd) ?_ ?_
 replace aY := bsm aY
 refine qaf rfl ?_
 refine qa0 rfl (nn _) aZ ?_
 obtain ⟨bG, bb, aY⟩ := bnd aY
 refine cS bb (fun aV bb => ?_) fun aV bb => ?_
 refine ct aV (ct aV (ct aV (ct aV ?_)))
 exact eMq aY _ ⟨bq (si bb), trivial⟩
 refine cf aV (cf aV (qa0 rfl (nn _) aZ (cf aV (cf aV ?_))))
 exact eMq aY _ ⟨bq (si bb), trivial⟩
 rintro a6 rfl bB
 refine cs rfl rfl aT ?_ ?_ <;> intro bD aT
 refine qat rfl ?_
 exact eE (er aT hm)
 refine qaf rfl ?_
 refine qa0 rfl (nn _) aZ (qag ?_)
 obtain ⟨bH, a8, aT⟩ := bnd aT
 refine cS a8 (fun aU a8 => ?_) fun aU a8 => ?_
 refine ct aU (ct aU (ct aU (ct aU (qac rfl (cT ?_)))))
 replace aT := ift (si a8).symm aT
 refine bsO (len := 1) (enc := eU) (l := ([(92 : UInt8)] : Str)) (cl := [.int .u8 92]) qck rfl rfl (fun _ _ => rfl) rfl rfl rfl ?_ fun bz => ?_
 · conv => whnf
   refine cT ?_
   first | done | rfl
 obtain ⟨bc, aT⟩ := qaw aT
 refine apE rfl r1 qck (qay rfl r0 rfl (fun _ => rfl) (fun _ => rfl)) bc ?_
 intro bw bu bv
 refine qa0 rfl (nn _) aZ ?_
 refine bsO (len := 1) (enc := eU) (l := ([e0] : Str)) (cl := [.int .u8 (e0.toNat : Int)]) qck rfl rfl (fun _ _ => rfl) rfl rfl rfl ?_ fun bo => ?_
 · conv => whnf
   refine cT ?_
   first | done | rfl
 obtain ⟨ba, aT⟩ := qaw aT
 refine apE rfl r1 qck (qay rfl r0 rfl (fun _ => rfl) (fun _ => rfl)) ba ?_
 intro bj bm bp
 refine qan (qbu aZ bf) ?_
 exact eR aT (_, _, _, _)
 refine cf aU (cf aU (qa0 rfl (nn _) aZ (cf aU (qag (cf aU (qac rfl ?_))))))
 refine qah ?_ ?_ <;> intro bn
 replace aT := ift ((si a8).symm.trans bn) aT
 refine bsO (len := 1) (enc := eU) (l := ([(92 : UInt8)] : Str)) (cl := [.int .u8 92]) qck rfl rfl (fun _ _ => rfl) rfl rfl rfl ?_ fun bz => ?_
 · conv => whnf
   refine cT ?_
   first | done | rfl
 obtain ⟨bc, aT⟩ := qaw aT
 refine apE rfl r1 qck (qay rfl r0 rfl (fun _ => rfl) (fun _ => rfl)) bc ?_
 intro bw bu bv
 refine qa0 rfl (nn _) aZ ?_
 refine bsO (len := 1) (enc := eU) (l := ([e0] : Str)) (cl := [.int .u8 (e0.toNat : Int)]) qck rfl rfl (fun _ _ => rfl) rfl rfl rfl ?_ fun bo => ?_
 · conv => whnf
   refine cT ?_
   first | done | rfl
 obtain ⟨ba, aT⟩ := qaw aT
 refine apE rfl r1 qck (qay rfl r0 rfl (fun _ => rfl) (fun _ => rfl)) ba ?_
 intro bj bm bp
 refine qan (qbu aZ bf) ?_
 exact eR aT (_, _, _, _)
 replace aT := qbb ((si a8).symm.trans bn) aT
 refine qa0 rfl (nn _) aZ ?_
 refine bsO (len := 1) (enc := eU) (l := ([e0] : Str)) (cl := [.int .u8 (e0.toNat : Int)]) qck rfl rfl (fun _ _ => rfl) rfl rfl rfl ?_ fun bo => ?_
 · conv => whnf
   refine cT ?_
   first | done | rfl
 obtain ⟨ba, aT⟩ := qaw aT
 refine apE rfl r1 qck (qay rfl r0 rfl (fun _ => rfl) (fun _ => rfl)) ba ?_
 intro bj bm bp
 refine qan (qbu aZ bf) ?_
 exact eR aT (_, _, _, _)
 rw [lty w0, Ja3.eq_1] at aT
 refine cT ?_
 exact eM aT (_, _, _)
 rintro ⟨t0, aW, aX⟩ ⟨bh, _⟩ rfl j0
 replace hm := elg hm
 refine bsO (len := 1) (enc := eU) (l := ([(34 : UInt8)] : Str)) (cl := [.int .u8 34]) qck rfl rfl (fun _ _ => rfl) rfl rfl rfl ?_ fun bF => ?_
 · conv => whnf
   refine cT ?_
   first | done | rfl
 obtain ⟨bt, hm⟩ := qaw hm
 refine apE rfl r1 qck (qay rfl r0 rfl (fun _ => rfl) (fun _ => rfl)) bt ?_
 intro bC bJ bI
 refine ro (qd7 rfl r0 rfl rfl rfl ?_)
 exact eE hm

def JN (s : Str) : Option (Bool) :=
  (Jcl s).bind fun x7 =>
  some x7.2.isNone
theorem Jch {s : Str} {K : Hp} {r : Bool}
    (hm : JN s = some r)  :
    Fn Tryz.prog 225 [str s] K [] (fun v K' H' => v = .bool r ∧ H' = []) := by
 refine Fn.enter Tryz.func225 Tryz.call225 rfl fun F => ?_
 unfold JN at hm
 refine cb hm fun x7 q7 hm => cg0 (JdG q7 :) ?_
 refine qbn rfl ?_
 exact eE hm

def Jct (n : Nat) (s : Str) : Option (Bool) :=
  (JaI n s).bind fun x7 =>
  (if (x7.2.isNone && decide ((x7.1.length : Int) = 2)) then (ix x7.1 0).bind fun aW =>
  some (decide (aW.Ab = 1)) else some false).bind fun aT =>
  (if aT then (ix x7.1 0).bind fun aV =>
  some (decide (aV.Ac = s)) else some false).bind fun aY =>
  (if aY then (Jcg s).bind fun aX =>
  some (!aX) else some false).bind fun aU =>
  some aU
theorem JcU {n : Nat} {s : Str} {K : Hp} {r : Bool}
    (hm : Jct n s = some r) (hG : GG K) :
    Fn Tryz.prog 226 [str s] K [] (fun v K' H' => v = .bool r ∧ H' = []) := by
 refine Fn.enter Tryz.func226 Tryz.call226 rfl fun F => ?_
 unfold Jct at hm
 refine cb hm fun x7 q7 hm => ck0 (JdF q7 :) ?_
 rintro _ _ _ ⟨bh, bj, rfl, a6, rfl⟩
 refine qaf rfl ?_
 refine qbn rfl ?_
 refine qah ?_ ?_ <;> intro aV
 refine ct aV (ro (qal rfl (ct aV (qag (ct aV ?_)))))
 obtain ⟨bg, aZ, hm⟩ := bnd hm
 refine qah ?_ ?_ <;> intro aU
 replace aZ := ift (qcx aV aU) aZ
 refine ct aU ?_
 obtain ⟨bm, bd, a8, aZ⟩ := ixb aZ
 refine RStep.ofN (qae rfl rfl (qcv a6 a8) bd (qaz rfl bd a8) (ct aU (qbd rfl (qcv a6 a8) (ct aU (ro (qb1 (i := (0 : Int).toNat) (o := 0) r0 rfl a8 rfl rfl (ct aU (qag (ct aU ?_)))))))))
 obtain ⟨bc, aY, hm⟩ := bnd hm
 refine qah ?_ ?_ <;> intro aT
 replace aY := ift ((si aZ).symm.trans aT) aY
 refine ct aT ?_
 obtain ⟨bo, bf, ba, aY⟩ := ixb aY
 refine RStep.ofN (qae rfl rfl (qcv a6 ba) bf (qaz rfl bf ba) (ct aT (qbd rfl (qcv a6 ba) (ct aT (ro (qb1 (i := (0 : Int).toNat) (o := 1) r0 rfl ba rfl rfl (ct aT (ct aT (qaq ?_)))))))))
 refine ct aT ?_
 obtain ⟨bb, aX, hm⟩ := bnd hm
 refine qah ?_ ?_ <;> intro aW
 replace aX := ift ((si aY).symm.trans aW) aX
 refine ct aW ?_
 refine cb aX fun bn bl aX => cgx (JcG bl :) ?_
 refine ct aW (qax (ct aW ?_))
 exact bE (si aX) (eE hm)
 replace aX := qbb ((si aY).symm.trans aW) aX
 refine cf aW (cf aW (cf aW ?_))
 exact bE (si aX) (eE hm)
 replace aY := qbb ((si aZ).symm.trans aT) aY
 refine cf aT (cf aT (cf aT (cf aT (cf aT (cf aT ?_)))))
 obtain ⟨bb, aX, hm⟩ := bnd hm
 replace aX := qbb (si aY).symm aX
 refine cF (cF (cF (cF ?_)))
 exact bE (si aX) (eE hm)
 replace aZ := qbb (qcy aV aU) aZ
 refine cf aU (cf aU (cf aU (cf aU (cf aU ?_))))
 obtain ⟨bc, aY, hm⟩ := bnd hm
 replace aY := qbb (si aZ).symm aY
 refine cF (cF (cF (cF (cF (cF (cF ?_))))))
 obtain ⟨bb, aX, hm⟩ := bnd hm
 replace aX := qbb (si aY).symm aX
 refine cF (cF (cF (cF ?_)))
 exact bE (si aX) (eE hm)
 refine cf aV (cf aV (cf aV ?_))
 obtain ⟨bg, aZ, hm⟩ := bnd hm
 replace aZ := qbb (qbe aV) aZ
 refine cF (cF (cF (cF (cF (cF ?_)))))
 obtain ⟨bc, aY, hm⟩ := bnd hm
 replace aY := qbb (si aZ).symm aY
 refine cF (cF (cF (cF (cF (cF (cF ?_))))))
 obtain ⟨bb, aX, hm⟩ := bnd hm
 replace aX := qbb (si aY).symm aX
 refine cF (cF (cF (cF ?_)))
 exact bE (si aX) (eE hm)

def JbR (n : Nat) (n' : Ja) : Option (Int) :=
  if decide (n'.Ab = 13) then
  if (!decide (n'.Ac = ([] : Str))) then
  some (-2)
  else
  some 2
  else
  if decide (n'.Ab = 14) then
  if (!decide (n'.Ac = ([] : Str))) then
  some (-2)
  else
  some 2
  else
  if decide (n'.Ab = 17) then
  if (!decide (n'.Ac = ([] : Str))) then
  some (-2)
  else
  some 2
  else
  if decide (n'.Ab = 18) then
  if (!decide (n'.Ac = ([] : Str))) then
  some (-2)
  else
  some 2
  else
  if decide (n'.Ab = 19) then
  if (!decide (n'.Ac = ([] : Str))) then
  some (-2)
  else
  some 2
  else
  if decide (n'.Ab = 15) then
  if (!decide (n'.Ac = ([] : Str))) then
  some (-2)
  else
  some 1
  else
  if decide (n'.Ab = 16) then
  (JbN 4 n'.Ac).bind fun aX =>
  (if aX then some true else (JbN 1 n'.Ac).bind fun aZ =>
  some aZ).bind fun aW =>
  if (!aW) then
  some (-2)
  else
  some 2
  else
  if decide (n'.Ab = 20) then
  (Jdh n'.Ac).bind fun aY =>
  if (!aY) then
  some (-2)
  else
  some 0
  else
  if decide (n'.Ab = 21) then
  (JN n'.Ac).bind fun aT =>
  if (!aT) then
  some (-2)
  else
  some 0
  else
  if decide (n'.Ab = 22) then
  if (!(decide (n'.Ac = ([116, 114, 117, 101] : Str)) || decide (n'.Ac = ([102, 97, 108, 115, 101] : Str)))) then
  some (-2)
  else
  some 0
  else
  if decide (n'.Ab = 23) then
  (Jct n n'.Ac).bind fun aU =>
  if (!aU) then
  some (-2)
  else
  some 0
  else
  if decide (n'.Ab = 24) then
  (Jct n n'.Ac).bind fun aV =>
  if (!aV) then
  some (-2)
  else
  some (-1)
  else
  some (-2)
theorem JdT {n : Nat} {n' : Ja} {aa : Option Addr} {ab : Nat} {K : Hp} {r : Int}
    (hm : JbR n n' = some r) (hX : LiC Ja.R K aa ab 4 n'.Aa ∧ GG K) :
    Fn Tryz.prog 242 [.agg #[.int .i64 n'.Ab, str n'.Ac, .slice aa n'.Aa.length ab, .int .i64 n'.Ad]] K [] (fun v K' H' => v = .int .i64 r ∧ H' = []) := by
 obtain ⟨ae, hG⟩ := hX
 refine Fn.enter Tryz.func242 Tryz.call242 rfl fun F => ?_
 unfold JbR at hm
 refine qas ?_
 intro b1
 refine fa rfl (ro (ld r0 rfl rfl (qaq (fa rfl (ro (ld r0 rfl rfl ?_))))))
 refine qam rfl ?_
 refine qag (cs rfl rfl hm ?_ ?_) <;> intro aX hm
 refine qac rfl (ct aX (qax ?_))
 refine cs rfl rfl hm ?_ ?_ <;> intro aV hm
 exact eE hm
 exact eE hm
 refine qag (cs rfl rfl hm ?_ ?_) <;> intro aX hm
 refine qac rfl (ct aX (qax ?_))
 refine cs rfl rfl hm ?_ ?_ <;> intro aV hm
 exact eE hm
 exact eE hm
 refine qag (cs rfl rfl hm ?_ ?_) <;> intro aX hm
 refine qac rfl (ct aX (qax ?_))
 refine cs rfl rfl hm ?_ ?_ <;> intro aV hm
 exact eE hm
 exact eE hm
 refine qag (cs rfl rfl hm ?_ ?_) <;> intro aX hm
 refine qac rfl (ct aX (qax ?_))
 refine cs rfl rfl hm ?_ ?_ <;> intro aV hm
 exact eE hm
 exact eE hm
 refine qag (cs rfl rfl hm ?_ ?_) <;> intro aX hm
 refine qax ?_
 refine cs rfl rfl hm ?_ ?_ <;> intro aV hm
 exact eE hm
 exact eE hm
 refine qag (cs rfl rfl hm ?_ ?_) <;> intro bc hm
 refine qax ?_
 refine cs rfl rfl hm ?_ ?_ <;> intro aV hm
 exact eE hm
 exact eE hm
 refine qag (cs rfl rfl hm ?_ ?_) <;> intro bt hm
 refine qaf rfl ?_
 refine fa rfl (ro (ld r0 rfl rfl ?_))
 refine cb hm fun bd a8 hm => cg0 (Jcq a8 :) ?_
 obtain ⟨bj, aW, hm⟩ := bnd hm
 refine cS aW (fun aU aW => ?_) fun aU aW => ?_
 refine ct aU (ct aU (ct aU (qax (qac rfl (cF ?_)))))
 replace hm := qbb (qdo (si aW).symm) hm
 exact eE hm
 refine fa rfl (cf aU (ro (ld r0 rfl rfl (cf aU ?_))))
 refine cb aW fun br aZ aW => cg0 (Jcq aZ :) ?_
 refine cf aU (qax (qac rfl ?_))
 refine qah ?_ ?_ <;> intro aV
 replace hm := ift (qfp ((si aW).symm.trans (qlg aV))) hm
 exact eE hm
 replace hm := qbb (qdo ((si aW).symm.trans (qio aV))) hm
 exact eE hm
 refine qag (cs rfl rfl hm ?_ ?_) <;> intro bu hm
 refine fa rfl (ro (ld r0 rfl rfl ?_))
 refine cb hm fun bg a6 hm => cg0 (Jd0 a6 :) ?_
 refine qax ?_
 refine cs rfl rfl hm ?_ ?_ <;> intro aV hm
 exact eE hm
 exact eE hm
 refine qag (cs rfl rfl hm ?_ ?_) <;> intro bm hm
 refine fa rfl (ro (ld r0 rfl rfl ?_))
 refine cb hm fun bh bb hm => cg0 (Jch bb :) ?_
 refine qax ?_
 refine cs rfl rfl hm ?_ ?_ <;> intro aV hm
 exact eE hm
 exact eE hm
 refine qag (cs rfl rfl hm ?_ ?_) <;> intro bn hm
 refine qaf rfl ?_
 refine fa rfl (ro (ld r0 rfl rfl (qaq ?_)))
 refine qah ?_ ?_ <;> intro aT
 refine ct aT (ct aT (ct aT (qax (qac rfl (cF ?_)))))
 replace hm := qbb (qdo (qbv aT)) hm
 exact eE hm
 refine fa rfl (cf aT (ro (ld r0 rfl rfl (cf aT (qaq (cf aT (qax (qac rfl ?_))))))))
 refine qah ?_ ?_ <;> intro aV
 replace hm := ift (qfp (qc4 aT (qlg aV))) hm
 exact eE hm
 replace hm := qbb (qdo (qf2 aT (qio aV))) hm
 exact eE hm
 refine qag (cs rfl rfl hm ?_ ?_) <;> intro bf hm
 refine fa rfl (ro (ld r0 rfl rfl ?_))
 refine cb hm fun bo ba hm => cgx (JcU ba :) ?_
 refine qax ?_
 refine cs rfl rfl hm ?_ ?_ <;> intro aV hm
 exact eE hm
 exact eE hm
 refine qag (cs rfl rfl hm ?_ ?_) <;> intro bl hm
 refine fa rfl (ro (ld r0 rfl rfl ?_))
 refine cb hm fun bp aY hm => cgx (JcU aY :) ?_
 refine qax ?_
 refine cs rfl rfl hm ?_ ?_ <;> intro aV hm
 exact eE hm
 exact eE hm
 exact eE hm

def Jag (rec_ : (Ja → Option (Bool))) : List Ja → Nat → Option (Fl (Bool) (Unit))
  | [], _ => some (Fl.go ())
  | e0 :: aU, i0 =>
    (rec_ e0).bind fun aT =>
    if (!aT) then
    some (Fl.ret false)
    else
    Jag rec_ aU (i0 + 1)
def JL : Nat → Ja → Option (Bool)
  | 0, _ => none
  | n + 1, n' =>
    (JbR n n').bind fun x7 =>
    if decide (x7 = (-2)) then
    some false
    else
    if (decide (x7 ≥ 0) && decide ((n'.Aa.length : Int) ≠ x7)) then
    some false
    else
    (chk (n'.Aa.length ≤ qa7)).bind fun _ =>
    (Jag (JL n) n'.Aa 0).bind fun s0 => s0.el some fun t0 =>
    some true
theorem Jah : ∀ {n : Nat} {n' : Ja} {aa : Option Addr} {ab : Nat} {K : Hp} {r : Bool}
    (hm : JL n n' = some r) (hX : LiC Ja.R K aa ab 4 n'.Aa ∧ GG K),
    Fn Tryz.prog 223 [.agg #[.int .i64 n'.Ab, str n'.Ac, .slice aa n'.Aa.length ab, .int .i64 n'.Ad]] K [] (fun v K' H' => v = .bool r ∧ H' = []) := by
 intro n
 induction n with
 | zero =>
   intro n' aa ab K r hm hX
   rw [JL.eq_1] at hm; cases hm
 | succ n ih =>
   intro n' aa ab K r hm hX
   obtain ⟨ae, hG⟩ := hX
   refine Fn.enter Tryz.func223 Tryz.call223 rfl fun F => ?_
   rw [JL.eq_2] at hm
   refine qas ?_
   intro b1
   refine ro (qab r0 rfl (nl rfl) ?_)
   refine cb hm fun x7 q7 hm => cgx (JdT q7 :) ?_
   refine qaf rfl ?_
   refine qag ?_
   refine cS hm (fun aU hm => ?_) fun aU hm => ?_
   refine ct aU (ct aU (ct aU (ct aU (qac rfl (cT ?_)))))
   exact eE hm
   refine cf aU (cf aU ?_)
   refine qah ?_ ?_ <;> intro aT
   refine fa rfl (ct aT (ro (ld r0 rfl rfl (ct aT (ro (qal rfl (ct aT (ct aT (qa8 ?_)))))))))
   refine cf aU (ct aT (cf aU (qac rfl ?_)))
   refine qah ?_ ?_ <;> intro bh
   replace hm := ift (qcx aT bh) hm
   exact eE hm
   replace hm := qbb (qcy aT bh) hm
   refine fa rfl (ro (ld r0 rfl rfl (ro (qal rfl ?_))))
   obtain ⟨bc, hm⟩ := qaw hm
   obtain ⟨s0, aV, hm⟩ := bnd hm
   refine lD (σ := (Unit)) ([2,5] ++ rg 24 8) [0, 1] (fun i0 => [(24, .int .i64 (i0 : Int))]) (fun _ => []) (fun _ => []) (fun _ => True) (fun i0 _ => Jag (JL n) (n'.Aa.drop i0) i0 = some s0) (fun t0 => s0 = Fl.go t0) (fun i0 => n'.Aa.length - i0) 0 () aV (And.intro qe (And.intro ?_ ?_))
   clear aV
   rintro i0 _ _ aV j0
   conv at aV => whnf
   refine qac rfl ?_
   refine qah ?_ ?_ <;> intro w0
   obtain ⟨e0, aW, bg⟩ := ltx w0
   rw [bg, Jag.eq_2] at aV
   refine qam rfl ?_
   refine RStep.ofN (qae rfl rfl (qc8 ae.rd aW) (nn _) (qbs aW) ?_)
   obtain ⟨bd, bb, aX, aZ, aY⟩ := LiR.get ae.rd aW
   obtain ⟨a8, ba, rfl, a6⟩ := Ja.out aY
   refine ro (qao i0 _ aX rfl aZ rfl ?_)
   refine qai rfl fun b5 => ?_
   refine qaa r0 rfl ⟨rfl, rfl, (nl rfl), ?_⟩
   refine ro (qab r0 rfl (nl rfl) ?_)
   refine cb aV fun bl bf aV => cgx (ih bf :) ?_
   refine qax ?_
   refine cs rfl rfl aV ?_ ?_ <;> intro bj aV
   exact eE (er aV hm)
   refine qan (qbu aW bc) ?_
   exact eR aV (_, ())
   rw [lty w0, Jag.eq_1] at aV
   refine cT ?_
   exact eM aV _
   rintro t0 _ rfl j0
   replace hm := elg hm
   exact eE hm
   refine cf aT (cf aT (cf aT (cf aT (cf aU (cf aT (cf aU (qac rfl ?_)))))))
   refine cF ?_
   replace hm := qbb (qbe aT) hm
   refine fa rfl (ro (ld r0 rfl rfl (ro (qal rfl ?_))))
   obtain ⟨bc, hm⟩ := qaw hm
   obtain ⟨s0, aV, hm⟩ := bnd hm
   refine lD (σ := (Unit)) ([2,5] ++ rg 24 8) [0, 1] (fun i0 => [(24, .int .i64 (i0 : Int))]) (fun _ => []) (fun _ => []) (fun _ => True) (fun i0 _ => Jag (JL n) (n'.Aa.drop i0) i0 = some s0) (fun t0 => s0 = Fl.go t0) (fun i0 => n'.Aa.length - i0) 0 () aV (And.intro qe (And.intro ?_ ?_))
   clear aV
   rintro i0 _ _ aV j0
   conv at aV => whnf
   refine qac rfl ?_
   refine qah ?_ ?_ <;> intro w0
   obtain ⟨e0, aW, bg⟩ := ltx w0
   rw [bg, Jag.eq_2] at aV
   refine qam rfl ?_
   refine RStep.ofN (qae rfl rfl (qc8 ae.rd aW) (nn _) (qbs aW) ?_)
   obtain ⟨bd, bb, aX, aZ, aY⟩ := LiR.get ae.rd aW
   obtain ⟨a8, ba, rfl, a6⟩ := Ja.out aY
   refine ro (qao i0 _ aX rfl aZ rfl ?_)
   refine qai rfl fun b5 => ?_
   refine qaa r0 rfl ⟨rfl, rfl, (nl rfl), ?_⟩
   refine ro (qab r0 rfl (nl rfl) ?_)
   refine cb aV fun bl bf aV => cgx (ih bf :) ?_
   refine qax ?_
   refine cs rfl rfl aV ?_ ?_ <;> intro bj aV
   exact eE (er aV hm)
   refine qan (qbu aW bc) ?_
   exact eR aV (_, ())
   rw [lty w0, Jag.eq_1] at aV
   refine cT ?_
   exact eM aV _
   rintro t0 _ rfl j0
   replace hm := elg hm
   exact eE hm

def Jbu (aC : (Ja → Option (Bool))) : List Ja → Nat → Option (Fl (Bool) (Unit))
  | [], _ => some (Fl.go ())
  | e0 :: aT, i0 =>
    (aC e0).bind fun aU =>
    if (!aU) then
    some (Fl.ret false)
    else
    Jbu aC aT (i0 + 1)
def Jcy (aC : (Ja → Option (Bool))) (n : Nat) (n' : Ja) : Option (Bool) :=
  if (decide (n'.Ab ≠ 12) || decide (n'.Ac ≠ ([] : Str))) then
  some false
  else
  (chk (n'.Aa.length ≤ qa7)).bind fun _ =>
  (Jbu aC n'.Aa 0).bind fun s0 => s0.el some fun t0 =>
  some true
theorem Jdi {aC : (Ja → Option (Bool))} (ihrec2_0 : ∀ {n' : Ja} {aa : Option Addr} {ab : Nat} {K : Hp} {r : Bool} (hm : aC n' = some r) (hX : LiC Ja.R K aa ab 4 n'.Aa ∧ GG K), Fn Tryz.prog 190 [.agg #[.int .i64 n'.Ab, str n'.Ac, .slice aa n'.Aa.length ab, .int .i64 n'.Ad]] K [] (fun v K' H' => v = .bool r ∧ H' = [])) {n : Nat} {n' : Ja} {aa : Option Addr} {ab : Nat} {K : Hp} {r : Bool}
    (hm : Jcy aC n n' = some r) (hX : LiC Ja.R K aa ab 4 n'.Aa ∧ GG K) :
    Fn Tryz.prog 224 [.agg #[.int .i64 n'.Ab, str n'.Ac, .slice aa n'.Aa.length ab, .int .i64 n'.Ad]] K [] (fun v K' H' => v = .bool r ∧ H' = []) := by
 obtain ⟨ae, hG⟩ := hX
 refine Fn.enter Tryz.func224 Tryz.call224 rfl fun F => ?_
 unfold Jcy at hm
 refine qas ?_
 intro b1
 refine jR (σ := Unit) (rg 5 8) (fun _ => [(12, .bool (decide (n'.Ab ≠ 12) || decide (n'.Ac ≠ ([] : Str))))]) (fun bd => True) ?_ ?_
 refine qaf rfl ?_
 refine fa rfl (ro (ld r0 rfl rfl (qa8 ?_)))
 refine qah ?_ ?_ <;> intro aT
 refine ct aT (ct aT (ct aT ?_))
 exact eMt () ⟨bq (((qbv aT)).symm), trivial⟩
 refine fa rfl (cf aT (ro (ld r0 rfl rfl (cf aT (qbr (cf aT ?_))))))
 exact eMt () ⟨bq (qhb (b := decide (n'.Ac ≠ ([] : Str))) aT), trivial⟩
 rintro _ _ bh
 refine cs rfl rfl hm ?_ ?_ <;> intro bm hm
 exact eE hm
 refine fa rfl (ro (ld r0 rfl rfl (ro (qal rfl ?_))))
 obtain ⟨ba, hm⟩ := qaw hm
 obtain ⟨s0, aU, hm⟩ := bnd hm
 refine lD (σ := (Unit)) ([2,4] ++ rg 16 8) [0, 1] (fun i0 => [(16, .int .i64 (i0 : Int))]) (fun _ => []) (fun _ => []) (fun _ => True) (fun i0 _ => Jbu aC (n'.Aa.drop i0) i0 = some s0) (fun t0 => s0 = Fl.go t0) (fun i0 => n'.Aa.length - i0) 0 () aU (And.intro qe (And.intro ?_ ?_))
 clear aU
 rintro i0 _ _ aU j0
 conv at aU => whnf
 refine qac rfl ?_
 refine qah ?_ ?_ <;> intro w0
 obtain ⟨e0, aV, bg⟩ := ltx w0
 rw [bg, Jbu.eq_2] at aU
 refine qam rfl ?_
 refine RStep.ofN (qae rfl rfl (qc8 ae.rd aV) (nn _) (qbs aV) ?_)
 obtain ⟨bb, bc, aY, aX, aW⟩ := LiR.get ae.rd aV
 obtain ⟨aZ, a8, rfl, a6⟩ := Ja.out aW
 refine ro (qao i0 _ aY rfl aX rfl ?_)
 refine qai rfl fun b4 => ?_
 refine qaa r0 rfl ⟨rfl, rfl, (nl rfl), ?_⟩
 refine ro (qab r0 rfl (nl rfl) ?_)
 refine cb aU fun bj bf aU => cgx (ihrec2_0 bf :) ?_
 refine qax ?_
 refine cs rfl rfl aU ?_ ?_ <;> intro bl aU
 exact eE (er aU hm)
 refine qan (qbu aV ba) ?_
 exact eR aU (_, ())
 rw [lty w0, Jbu.eq_1] at aU
 refine cT ?_
 exact eM aU _
 rintro t0 _ rfl j0
 replace hm := elg hm
 exact eE hm
