/- Functions of the program: mirrors, and that a call returns what the mirror says. Printed by gen.py. -/
import Derived.Test.YtiaaooopklhobaaGreatDoorG1
set_option linter.unusedVariables false
set_option linter.unusedSimpArgs false
open Go Go.SL Go.Proofs
noncomputable section
set_option maxRecDepth 1000000
set_option maxHeartbeats 8000000
def Jw (n : Nat) (p : Jb) (sign : Str) : Option ((List Ja) × Jb) :=
  if decide (sign ≠ ([] : Str)) then
  (JE p sign).bind fun aT =>
  (Jt aT).bind fun al =>
  if (!al) then
  some ([], aT)
  else
  (JZ n aT).bind fun aS =>
  (Jt aS.2).bind fun aV =>
  if aV then
  (JE aS.2 ([59] : Str)).bind fun aU =>
  some ([aS.1], aU)
  else
  some ([aS.1], aS.2)
  else
  (Jt p).bind fun al =>
  if (!al) then
  some ([], p)
  else
  (JZ n p).bind fun aS =>
  (Jt aS.2).bind fun aV =>
  if aV then
  (JE aS.2 ([59] : Str)).bind fun aU =>
  some ([aS.1], aU)
  else
  some ([aS.1], aS.2)
theorem Ju {n : Nat} {p : Jb} {sign : Str} {b0 : Nat} {aa : Option Addr} {ab : Nat} {K : Hp} {r : (List Ja) × Jb}
    (hm : Jw n p sign = some r) (hX : (0 < p.list.length → Has aa) ∧ GG K) :
    Fn Tryz.prog 209 [.pointer (some ⟨b0, 0, none⟩), str sign] K [Cells b0 163 [.slice aa p.list.length ab, .int .i64 p.atZ, .int .i64 p.line], qau Je.enc aa 166 4 ab p.list] (fun v K' H' => ∃ ar_0 : Option Addr, ∃ cr_0 : Nat, ∃ sr_0 : List (List Value), ∃ ar_1 : Option Addr, ∃ cr_1 : Nat, v = .slice ar_0 r.1.length cr_0 ∧ (0 < r.1.length → Has ar_0) ∧ LR Ja.R K' sr_0 r.1 ∧ (0 < r.2.list.length → Has ar_1) ∧ H' = [OwnA ar_0 117 4 cr_0 sr_0, Cells b0 163 [.slice ar_1 r.2.list.length cr_1, .int .i64 r.2.atZ, .int .i64 r.2.line], qau Je.enc ar_1 166 4 cr_1 r.2.list]) := by
 obtain ⟨ae, hG⟩ := hX
 refine Fn.enter Tryz.func209 Tryz.call209 rfl fun F => ?_
 unfold Jw at hm
 refine qbp (cs rfl rfl hm ?_ ?_) <;> intro w7 hm
 refine cb hm fun bD bz hm => ckx (JD bz :) ?_
 rintro _ _ _ ⟨bu, br, rfl, bt, rfl⟩
 refine cb hm fun al bn hm => cgx (Js bn :) ?_
 refine qaw ?_
 refine cs rfl rfl hm ?_ ?_ <;> intro bB hm
 refine qcg (fun _ : Ja => []) 117 4 ?_
 exact eE hm
 refine cb hm fun aS bm hm => cfx (JbD bm :) ?_
 rintro _ bv _ bh ⟨aU, aT, bj, ba, bb, rfl, bl, aY, bd, rfl⟩
 refine qai rfl fun b5 => ?_
 refine qaa r0 rfl ⟨rfl, rfl, (nl rfl), ?_⟩
 refine cb hm fun bC bo hm => cgx (Js bo :) ?_
 refine cs rfl rfl hm ?_ ?_ <;> intro bA hm
 refine cb hm fun bw bp hm => ckx (JD bp :) ?_
 rintro _ _ _ ⟨aZ, bf, rfl, bc, rfl⟩
 refine ro (qab r2 rfl (nl rfl) ?_)
 refine qlb Ja.R_ok r3 aY fun aX aW aV => ?_
 refine qji (R := Ja.R) (len := 1) (l := [aS.1]) (css := [[.int .i64 aS.1.Ab, str aS.1.Ac, .slice aU aS.1.Aa.length aT, .int .i64 aS.1.Ad]]) (cl := [.int .i64 aS.1.Ab, str aS.1.Ac, .slice aU aS.1.Aa.length aT, .int .i64 aS.1.Ad]) Ja.R_ok qbz rfl rfl (LR.snoc LR.nil (Ja.of (x := aS.1) ⟨aU, aT, rfl, aV⟩)) rfl rfl rfl ?_ fun bg => ?_
 · conv => whnf
   refine cT ?_
   first | done | rfl
 cases hm
 exact en (bh.trans aW) ⟨(some ⟨bg, 0, none⟩), 1, ([[.int .i64 aS.1.Ab, str aS.1.Ac, .slice aU aS.1.Aa.length aT, .int .i64 aS.1.Ad]]), aZ, bf, rfl, (fun _ => ⟨_, _, rfl⟩), (show LR Ja.R _ [[.int .i64 aS.1.Ab, str aS.1.Ac, .slice aU aS.1.Aa.length aT, .int .i64 aS.1.Ad]] [aS.1] from (LR.snoc LR.nil (Ja.of (x := aS.1) ⟨aU, aT, rfl, aV⟩))), bc, rfl⟩ (sc [0,0,0,1] rfl)
 refine ro (qab r2 rfl (nl rfl) ?_)
 refine qlb Ja.R_ok r3 aY fun aX aW aV => ?_
 refine qji (R := Ja.R) (len := 1) (l := [aS.1]) (css := [[.int .i64 aS.1.Ab, str aS.1.Ac, .slice aU aS.1.Aa.length aT, .int .i64 aS.1.Ad]]) (cl := [.int .i64 aS.1.Ab, str aS.1.Ac, .slice aU aS.1.Aa.length aT, .int .i64 aS.1.Ad]) Ja.R_ok qbz rfl rfl (LR.snoc LR.nil (Ja.of (x := aS.1) ⟨aU, aT, rfl, aV⟩)) rfl rfl rfl ?_ fun bg => ?_
 · conv => whnf
   refine cT ?_
   first | done | rfl
 cases hm
 exact en (bh.trans aW) ⟨(some ⟨bg, 0, none⟩), 1, ([[.int .i64 aS.1.Ab, str aS.1.Ac, .slice aU aS.1.Aa.length aT, .int .i64 aS.1.Ad]]), ba, bb, rfl, (fun _ => ⟨_, _, rfl⟩), (show LR Ja.R _ [[.int .i64 aS.1.Ab, str aS.1.Ac, .slice aU aS.1.Aa.length aT, .int .i64 aS.1.Ad]] [aS.1] from (LR.snoc LR.nil (Ja.of (x := aS.1) ⟨aU, aT, rfl, aV⟩))), bd, rfl⟩ (sc [0,0,0,1] rfl)
 refine cb hm fun al bn hm => cgx (Js bn :) ?_
 refine qaw ?_
 refine cs rfl rfl hm ?_ ?_ <;> intro bB hm
 refine qcg (fun _ : Ja => []) 117 4 ?_
 exact eE hm
 refine cb hm fun aS bm hm => cfx (JbD bm :) ?_
 rintro _ bv _ bh ⟨aU, aT, bj, ba, bb, rfl, bl, aY, bd, rfl⟩
 refine qai rfl fun b5 => ?_
 refine qaa r0 rfl ⟨rfl, rfl, (nl rfl), ?_⟩
 refine cb hm fun bC bo hm => cgx (Js bo :) ?_
 refine cs rfl rfl hm ?_ ?_ <;> intro bA hm
 refine cb hm fun bw bp hm => ckx (JD bp :) ?_
 rintro _ _ _ ⟨aZ, bf, rfl, bc, rfl⟩
 refine ro (qab r2 rfl (nl rfl) ?_)
 refine qlb Ja.R_ok r3 aY fun aX aW aV => ?_
 refine qji (R := Ja.R) (len := 1) (l := [aS.1]) (css := [[.int .i64 aS.1.Ab, str aS.1.Ac, .slice aU aS.1.Aa.length aT, .int .i64 aS.1.Ad]]) (cl := [.int .i64 aS.1.Ab, str aS.1.Ac, .slice aU aS.1.Aa.length aT, .int .i64 aS.1.Ad]) Ja.R_ok qbz rfl rfl (LR.snoc LR.nil (Ja.of (x := aS.1) ⟨aU, aT, rfl, aV⟩)) rfl rfl rfl ?_ fun bg => ?_
 · conv => whnf
   refine cT ?_
   first | done | rfl
 cases hm
 exact en (bh.trans aW) ⟨(some ⟨bg, 0, none⟩), 1, ([[.int .i64 aS.1.Ab, str aS.1.Ac, .slice aU aS.1.Aa.length aT, .int .i64 aS.1.Ad]]), aZ, bf, rfl, (fun _ => ⟨_, _, rfl⟩), (show LR Ja.R _ [[.int .i64 aS.1.Ab, str aS.1.Ac, .slice aU aS.1.Aa.length aT, .int .i64 aS.1.Ad]] [aS.1] from (LR.snoc LR.nil (Ja.of (x := aS.1) ⟨aU, aT, rfl, aV⟩))), bc, rfl⟩ (sc [0,0,0,1] rfl)
 refine ro (qab r2 rfl (nl rfl) ?_)
 refine qlb Ja.R_ok r3 aY fun aX aW aV => ?_
 refine qji (R := Ja.R) (len := 1) (l := [aS.1]) (css := [[.int .i64 aS.1.Ab, str aS.1.Ac, .slice aU aS.1.Aa.length aT, .int .i64 aS.1.Ad]]) (cl := [.int .i64 aS.1.Ab, str aS.1.Ac, .slice aU aS.1.Aa.length aT, .int .i64 aS.1.Ad]) Ja.R_ok qbz rfl rfl (LR.snoc LR.nil (Ja.of (x := aS.1) ⟨aU, aT, rfl, aV⟩)) rfl rfl rfl ?_ fun bg => ?_
 · conv => whnf
   refine cT ?_
   first | done | rfl
 cases hm
 exact en (bh.trans aW) ⟨(some ⟨bg, 0, none⟩), 1, ([[.int .i64 aS.1.Ab, str aS.1.Ac, .slice aU aS.1.Aa.length aT, .int .i64 aS.1.Ad]]), ba, bb, rfl, (fun _ => ⟨_, _, rfl⟩), (show LR Ja.R _ [[.int .i64 aS.1.Ab, str aS.1.Ac, .slice aU aS.1.Aa.length aT, .int .i64 aS.1.Ad]] [aS.1] from (LR.snoc LR.nil (Ja.of (x := aS.1) ⟨aU, aT, rfl, aV⟩))), bd, rfl⟩ (sc [0,0,0,1] rfl)

def Jbr (p : Jb) : Option (Str × Jb) :=
  (JI p).bind fun x4 =>
  if decide (x4.Ab ≠ 3) then
  (JY p).bind fun x8 =>
  some (([] : Str), x8)
  else
  (Jp p).bind fun aS =>
  some (aS.1.Ac, aS.2)
theorem Jcs {p : Jb} {b0 : Nat} {aa : Option Addr} {ab : Nat} {K : Hp} {r : Str × Jb}
    (hm : Jbr p = some r) (ae : (0 < p.list.length → Has aa)) :
    Fn Tryz.prog 210 [.pointer (some ⟨b0, 0, none⟩)] K [Cells b0 163 [.slice aa p.list.length ab, .int .i64 p.atZ, .int .i64 p.line], qau Je.enc aa 166 4 ab p.list] (fun v K' H' => ∃ ar_0 : Option Addr, ∃ cr_0 : Nat, v = str r.1 ∧ (0 < r.2.list.length → Has ar_0) ∧ H' = [Cells b0 163 [.slice ar_0 r.2.list.length cr_0, .int .i64 r.2.atZ, .int .i64 r.2.line], qau Je.enc ar_0 166 4 cr_0 r.2.list]) := by
 refine Fn.enter Tryz.func210 Tryz.call210 rfl fun F => ?_
 unfold Jbr at hm
 refine cb hm fun x4 q4 hm => cgx (JH q4 :) ?_
 refine Jdk rfl rfl rfl rfl ?_
 refine qa6 (cs rfl rfl hm ?_ ?_) <;> intro w6 hm
 refine cb hm fun x8 q8 hm => ckx (J2 q8 :) ?_
 rintro _ _ _ ⟨aW, aX, rfl, aV, rfl⟩
 exact eE hm
 refine cb hm fun aZ aY hm => ckx (Jm aY :) ?_
 rintro _ _ _ ⟨aU, aT, rfl, aS, rfl⟩
 refine Jdk rfl rfl rfl rfl ?_
 exact eE hm

def JaO (au : (Jb → Option ((List Ja) × Jb))) (n : Nat) (p : Jb) : Option (Ja × Jb) :=
  (JI p).bind fun x5 =>
  (JE p ([123] : Str)).bind fun x9 =>
  (Jt x9).bind fun aU =>
  if aU then
  (au x9).bind fun aS =>
  (JE aS.2 ([125] : Str)).bind fun aT =>
  some ((⟨12, ([] : Str), aS.1, x5.Ad⟩ : Ja), aT)
  else
  some ((⟨12, ([] : Str), [], x5.Ad⟩ : Ja), x9)
theorem Jbt {au : (Jb → Option ((List Ja) × Jb))} (ihrec1_0 : ∀ {p : Jb} {b0 : Nat} {aa : Option Addr} {ab : Nat} {K : Hp} {r : (List Ja) × Jb} (hm : au p = some r) (hX : (0 < p.list.length → Has aa) ∧ GG K), Fn Tryz.prog 97 [.pointer (some ⟨b0, 0, none⟩)] K [Cells b0 163 [.slice aa p.list.length ab, .int .i64 p.atZ, .int .i64 p.line], qau Je.enc aa 166 4 ab p.list] (fun v K' H' => ∃ ar_0 : Option Addr, ∃ cr_0 : Nat, ∃ sr_0 : List (List Value), ∃ ar_1 : Option Addr, ∃ cr_1 : Nat, v = .slice ar_0 r.1.length cr_0 ∧ (0 < r.1.length → Has ar_0) ∧ LR Ja.R K' sr_0 r.1 ∧ (0 < r.2.list.length → Has ar_1) ∧ H' = [OwnA ar_0 117 4 cr_0 sr_0, Cells b0 163 [.slice ar_1 r.2.list.length cr_1, .int .i64 r.2.atZ, .int .i64 r.2.line], qau Je.enc ar_1 166 4 cr_1 r.2.list])) {n : Nat} {p : Jb} {b0 : Nat} {aa : Option Addr} {ab : Nat} {K : Hp} {r : Ja × Jb}
    (hm : JaO au n p = some r) (hX : (0 < p.list.length → Has aa) ∧ GG K) :
    Fn Tryz.prog 237 [.pointer (some ⟨b0, 0, none⟩)] K [Cells b0 163 [.slice aa p.list.length ab, .int .i64 p.atZ, .int .i64 p.line], qau Je.enc aa 166 4 ab p.list] (fun v K' H' => ∃ ar_0 : Option Addr, ∃ cr_0 : Nat, ∃ sr_0 : List (List Value), ∃ ar_1 : Option Addr, ∃ cr_1 : Nat, v = .agg #[.int .i64 r.1.Ab, str r.1.Ac, .slice ar_0 r.1.Aa.length cr_0, .int .i64 r.1.Ad] ∧ (0 < r.1.Aa.length → Has ar_0) ∧ LR Ja.R K' sr_0 r.1.Aa ∧ (0 < r.2.list.length → Has ar_1) ∧ H' = [OwnA ar_0 117 4 cr_0 sr_0, Cells b0 163 [.slice ar_1 r.2.list.length cr_1, .int .i64 r.2.atZ, .int .i64 r.2.line], qau Je.enc ar_1 166 4 cr_1 r.2.list]) := by
 obtain ⟨ae, hG⟩ := hX
 refine Fn.enter Tryz.func237 Tryz.call237 rfl fun F => ?_
 unfold JaO at hm
 refine qai rfl fun b2 => ?_
 refine cb hm fun x5 q5 hm => cgx (JH q5 :) ?_
 refine Jdk rfl rfl rfl rfl ?_
 refine qaj rfl rfl (cT (cT ?_))
 refine qai rfl fun b3 => ?_
 refine qaa r0 rfl ⟨rfl, rfl, (nl rfl), ?_⟩
 refine cb hm fun x9 q9 hm => ckx (JD q9 :) ?_
 rintro _ _ _ ⟨bg, bd, rfl, bj, rfl⟩
 refine cb hm fun bn bf hm => cgx (Js bf :) ?_
 refine cs rfl rfl hm ?_ ?_ <;> intro bo hm
 refine cb hm fun bp bh hm => cfx (ihrec1_0 bh :) ?_
 rintro _ bm _ br ⟨bc, ba, aS, aV, aU, rfl, aW, aZ, aT, rfl⟩
 refine fa rfl ?_
 refine qaa r3 rfl ⟨rfl, rfl, (nl rfl), ?_⟩
 refine cb hm fun bt bl hm => ckx (JD bl :) ?_
 rintro _ _ _ ⟨aX, aY, rfl, bb, rfl⟩
 refine ro (qab r2 rfl (nl rfl) ?_)
 refine qaa r4 rfl ⟨rfl, rfl, (nl rfl), ?_⟩
 exact ro (qab r0 rfl (nl rfl) (eE hm))
 refine ro (qab r2 rfl (nl rfl) ?_)
 refine qaa r3 rfl ⟨rfl, rfl, (nl rfl), ?_⟩
 refine ro (qab r0 rfl (nl rfl) ?_)
 refine qcg (fun _ : Ja => []) 117 4 ?_
 exact eE hm

def Jai (au : (Jb → Option ((List Ja) × Jb))) : Nat → Jb → Int → Option (Ja × Jb)
  | 0, _, _ => none
  | n + 1, p, line =>
    (JZ n p).bind fun al =>
    (chk ([al.1].length ≤ lim)).bind fun _ =>
    (Jt al.2).bind fun bb =>
    if bb then
    (JaO au n al.2).bind fun aS =>
    (chk ([al.1].length + [aS.1].length ≤ lim)).bind fun _ =>
    (Jt aS.2).bind fun aX =>
    (if (!aX) then some true else (Jz aS.2 1 ([101, 108, 115, 101] : Str)).bind fun ba =>
    some (!ba)).bind fun aY =>
    if aY then
    some ((⟨2, ([] : Str), ([al.1] ++ [aS.1]), line⟩ : Ja), aS.2)
    else
    (Jp aS.2).bind fun aU =>
    (Jz aU.2 1 ([105, 102] : Str)).bind fun aZ =>
    if aZ then
    (Jp aU.2).bind fun aW =>
    ((Jai au n) aW.2 aW.1.Ad).bind fun aT =>
    (chk (([al.1] ++ [aS.1]).length + [aT.1].length ≤ lim)).bind fun _ =>
    some ((⟨2, ([] : Str), (([al.1] ++ [aS.1]) ++ [aT.1]), line⟩ : Ja), aT.2)
    else
    (JaO au n aU.2).bind fun aV =>
    (chk (([al.1] ++ [aS.1]).length + [aV.1].length ≤ lim)).bind fun _ =>
    some ((⟨2, ([] : Str), (([al.1] ++ [aS.1]) ++ [aV.1]), line⟩ : Ja), aV.2)
    else
    (Jt al.2).bind fun aX =>
    (if (!aX) then some true else (Jz al.2 1 ([101, 108, 115, 101] : Str)).bind fun ba =>
    some (!ba)).bind fun aY =>
    if aY then
    some ((⟨2, ([] : Str), [al.1], line⟩ : Ja), al.2)
    else
    (Jp al.2).bind fun aU =>
    (Jz aU.2 1 ([105, 102] : Str)).bind fun aZ =>
    if aZ then
    (Jp aU.2).bind fun aW =>
    ((Jai au n) aW.2 aW.1.Ad).bind fun aT =>
    (chk ([al.1].length + [aT.1].length ≤ lim)).bind fun _ =>
    some ((⟨2, ([] : Str), ([al.1] ++ [aT.1]), line⟩ : Ja), aT.2)
    else
    (JaO au n aU.2).bind fun aV =>
    (chk ([al.1].length + [aV.1].length ≤ lim)).bind fun _ =>
    some ((⟨2, ([] : Str), ([al.1] ++ [aV.1]), line⟩ : Ja), aV.2)
theorem Jc7 {au : (Jb → Option ((List Ja) × Jb))} (ihrec1_0 : ∀ {p : Jb} {b0 : Nat} {aa : Option Addr} {ab : Nat} {K : Hp} {r : (List Ja) × Jb} (hm : au p = some r) (hX : (0 < p.list.length → Has aa) ∧ GG K), Fn Tryz.prog 97 [.pointer (some ⟨b0, 0, none⟩)] K [Cells b0 163 [.slice aa p.list.length ab, .int .i64 p.atZ, .int .i64 p.line], qau Je.enc aa 166 4 ab p.list] (fun v K' H' => ∃ ar_0 : Option Addr, ∃ cr_0 : Nat, ∃ sr_0 : List (List Value), ∃ ar_1 : Option Addr, ∃ cr_1 : Nat, v = .slice ar_0 r.1.length cr_0 ∧ (0 < r.1.length → Has ar_0) ∧ LR Ja.R K' sr_0 r.1 ∧ (0 < r.2.list.length → Has ar_1) ∧ H' = [OwnA ar_0 117 4 cr_0 sr_0, Cells b0 163 [.slice ar_1 r.2.list.length cr_1, .int .i64 r.2.atZ, .int .i64 r.2.line], qau Je.enc ar_1 166 4 cr_1 r.2.list])) : ∀ {n : Nat} {p : Jb} {line : Int} {b0 : Nat} {aa : Option Addr} {ab : Nat} {K : Hp} {r : Ja × Jb}
    (hm : Jai au n p line = some r) (hX : (0 < p.list.length → Has aa) ∧ GG K),
    Fn Tryz.prog 207 [.pointer (some ⟨b0, 0, none⟩), .int .i64 line] K [Cells b0 163 [.slice aa p.list.length ab, .int .i64 p.atZ, .int .i64 p.line], qau Je.enc aa 166 4 ab p.list] (fun v K' H' => ∃ ar_0 : Option Addr, ∃ cr_0 : Nat, ∃ sr_0 : List (List Value), ∃ ar_1 : Option Addr, ∃ cr_1 : Nat, v = .agg #[.int .i64 r.1.Ab, str r.1.Ac, .slice ar_0 r.1.Aa.length cr_0, .int .i64 r.1.Ad] ∧ (0 < r.1.Aa.length → Has ar_0) ∧ LR Ja.R K' sr_0 r.1.Aa ∧ (0 < r.2.list.length → Has ar_1) ∧ H' = [OwnA ar_0 117 4 cr_0 sr_0, Cells b0 163 [.slice ar_1 r.2.list.length cr_1, .int .i64 r.2.atZ, .int .i64 r.2.line], qau Je.enc ar_1 166 4 cr_1 r.2.list]) := by
 intro n
 induction n with
 | zero =>
   intro p line b0 aa ab K r hm hX
   rw [Jai.eq_1] at hm; cases hm
 | succ n ih =>
   intro p line b0 aa ab K r hm hX
   obtain ⟨ae, hG⟩ := hX
   refine Fn.enter Tryz.func207 Tryz.call207 rfl fun F => ?_
   rw [Jai.eq_2] at hm
   refine qai rfl fun b4 => ?_
   refine qaj rfl rfl (cT (cT ?_))
   refine qai rfl fun b5 => ?_
   refine qaa r0 rfl ⟨rfl, rfl, (nl rfl), ?_⟩
   refine qa2 ⟨⟨[], false⟩, _, [(_, _)], []⟩ 5 rfl (by kernel_rfl) ⟨Hp.Le.refl _, (pf rfl), ci0⟩ ?_
   refine fa rfl (qap m0 rfl rfl ?_)
   refine cb hm fun al cM hm => cfx (JbD cM :) ?_
   rintro _ dm _ cX ⟨bg, bd, cB, co, cw, rfl, cr, bO, cE, rfl⟩
   refine qk (sc [3] rfl) ?_
   refine qlb Ja.R_ok r0 bO fun bU br bh => ?_
   refine qji (R := Ja.R) (len := 1) (l := [al.1]) (css := [[.int .i64 al.1.Ab, str al.1.Ac, .slice bg al.1.Aa.length bd, .int .i64 al.1.Ad]]) (cl := [.int .i64 al.1.Ab, str al.1.Ac, .slice bg al.1.Aa.length bd, .int .i64 al.1.Ad]) Ja.R_ok qbz rfl rfl (LR.snoc LR.nil (Ja.of (x := al.1) ⟨bg, bd, rfl, bh⟩)) rfl rfl rfl ?_ fun dn => ?_
   · conv => whnf
     refine cT ?_
     first | done | rfl
   refine ⟨⟨(cX.trans br), (sc [3] rfl), ci0⟩, ?_⟩
   obtain ⟨cG, hm⟩ := qax hm
   refine qrl (R := Ja.R) qbz (qc8 rfl r0 rfl Ja.R_ok (show LR Ja.R _ [[.int .i64 al.1.Ab, str al.1.Ac, .slice bg al.1.Aa.length bd, .int .i64 al.1.Ad]] [al.1] from (LR.snoc LR.nil (Ja.of (x := al.1) ⟨bg, bd, rfl, bh⟩)))) (show LR Ja.R _ [[.int .i64 al.1.Ab, str al.1.Ac, .slice bg al.1.Aa.length bd, .int .i64 al.1.Ad]] [al.1] from (LR.snoc LR.nil (Ja.of (x := al.1) ⟨bg, bd, rfl, bh⟩))) cG ?_
   intro dq dp dz r_14 dw
   refine ⟨⟨Hp.emp_le _, (pf rfl), ci0⟩, ?_⟩
   refine fa rfl ?_
   refine qaa r4 rfl ⟨rfl, rfl, (nl rfl), ?_⟩
   refine ⟨⟨Hp.emp_le _, (pf rfl), ci0⟩, ?_⟩
   refine cb hm fun du de hm => cgx (Js de :) ?_
   refine cs rfl rfl hm ?_ ?_ <;> intro dy hm
   refine qa2 ⟨⟨[], false⟩, _, [(_, _)], []⟩ 5 rfl (by kernel_rfl) ⟨Hp.Le.refl _, (sc [2] rfl), ci0⟩ ?_
   refine fa rfl (qap m0 rfl rfl ?_)
   refine cb hm fun bm cN hm => cfx (Jbt ihrec1_0 cN :) ?_
   rintro _ dv _ cD ⟨bf, bl, cC, cy, cA, rfl, cz, bB, cu, rfl⟩
   refine qk (sc [3] rfl) ?_
   refine qlb Ja.R_ok r0 bB fun bI bn bj => ?_
   refine qji (R := Ja.R) (len := 1) (l := [bm.1]) (css := [[.int .i64 bm.1.Ab, str bm.1.Ac, .slice bf bm.1.Aa.length bl, .int .i64 bm.1.Ad]]) (cl := [.int .i64 bm.1.Ab, str bm.1.Ac, .slice bf bm.1.Aa.length bl, .int .i64 bm.1.Ad]) Ja.R_ok qbz rfl rfl (LR.snoc LR.nil (Ja.of (x := bm.1) ⟨bf, bl, rfl, bj⟩)) rfl rfl rfl ?_ fun dk => ?_
   · conv => whnf
     refine cT ?_
     first | done | rfl
   refine ⟨⟨(cD.trans bn), (sc [3] rfl), ci0⟩, ?_⟩
   obtain ⟨cQ, hm⟩ := qax hm
   refine qph r4 (LR.mono Ja.R_ok (cD.trans bn) r_14) rfl qbz (qc8 rfl r0 rfl Ja.R_ok (show LR Ja.R _ [[.int .i64 bm.1.Ab, str bm.1.Ac, .slice bf bm.1.Aa.length bl, .int .i64 bm.1.Ad]] [bm.1] from (LR.snoc LR.nil (Ja.of (x := bm.1) ⟨bf, bl, rfl, bj⟩)))) (show LR Ja.R _ [[.int .i64 bm.1.Ab, str bm.1.Ac, .slice bf bm.1.Aa.length bl, .int .i64 bm.1.Ad]] [bm.1] from (LR.snoc LR.nil (Ja.of (x := bm.1) ⟨bf, bl, rfl, bj⟩))) cQ ?_
   intro dx dA dB r_23 dt
   refine ⟨⟨Hp.emp_le _, (pf rfl), ci0⟩, ?_⟩
   refine fa rfl ?_
   refine qaa r4 rfl ⟨rfl, rfl, (nl rfl), ?_⟩
   refine ⟨⟨Hp.emp_le _, (pf rfl), ci0⟩, ?_⟩
   refine qah rfl ?_
   refine cb hm fun cK cm hm => cgx (Js cm :) ?_
   refine qaw ?_
   obtain ⟨dc, bo, hm⟩ := bnd hm
   refine cS bo (fun aW bo => ?_) fun aW bo => ?_
   refine ct aW (ct aW (ct aW (qac rfl (cT ?_))))
   replace hm := ift (si bo).symm hm
   refine ro (qab r2 rfl (nl rfl) ?_)
   refine qaa r6 rfl ⟨rfl, rfl, (nl rfl), ?_⟩
   exact ro (qab r0 rfl (nl rfl) (eE hm))
   refine cf aW ?_
   refine cb bo fun cY bX bo => cgx (Jv bX :) ?_
   refine cf aW (qaw (cf aW (qac rfl ?_)))
   refine qae ?_ ?_ <;> intro bS
   replace hm := ift ((si bo).symm.trans (qfh (qla bS))) hm
   refine ro (qab r2 rfl (nl rfl) ?_)
   refine qaa r6 rfl ⟨rfl, rfl, (nl rfl), ?_⟩
   exact ro (qab r0 rfl (nl rfl) (eE hm))
   replace hm := qa7 ((si bo).symm.trans (qdg (qib bS))) hm
   refine cb hm fun cL bW hm => ckx (Jm bW :) ?_
   rintro _ _ _ ⟨bR, bK, rfl, bD, rfl⟩
   refine cb hm fun df cn hm => cgx (Jv cn :) ?_
   refine cs rfl rfl hm ?_ ?_ <;> intro cZ hm
   refine cb hm fun cV ca hm => ckx (Jm ca :) ?_
   rintro _ _ _ ⟨bV, bC, rfl, bN, rfl⟩
   refine qai rfl fun b6 => ?_
   refine qaa r0 rfl ⟨rfl, rfl, (nl rfl), ?_⟩
   refine qa2 ⟨⟨[], false⟩, _, [(_, _), (_, _)], []⟩ 7 rfl (by kernel_rfl) ⟨Hp.Le.refl _, (sc [3,0] rfl), ci0⟩ ?_
   refine fa rfl (qap m0 rfl rfl (fa rfl (qap m1 rfl rfl ?_)))
   refine cb hm fun ba ce hm => cfx (ih ce :) ?_
   rintro _ cW _ bQ ⟨aS, aU, bT, bL, bz, rfl, bM, bp, bH, rfl⟩
   refine qk (sc [4,3] rfl) ?_
   refine qlb Ja.R_ok r0 bp fun bv bc aT => ?_
   refine qji (R := Ja.R) (len := 1) (l := [ba.1]) (css := [[.int .i64 ba.1.Ab, str ba.1.Ac, .slice aS ba.1.Aa.length aU, .int .i64 ba.1.Ad]]) (cl := [.int .i64 ba.1.Ab, str ba.1.Ac, .slice aS ba.1.Aa.length aU, .int .i64 ba.1.Ad]) Ja.R_ok qbz rfl rfl (LR.snoc LR.nil (Ja.of (x := ba.1) ⟨aS, aU, rfl, aT⟩)) rfl rfl rfl ?_ fun dg => ?_
   · conv => whnf
     refine cT ?_
     first | done | rfl
   refine ⟨⟨(bQ.trans bc), (sc [4,3] rfl), ci0⟩, ?_⟩
   obtain ⟨bY, hm⟩ := qax hm
   refine qph r5 (LR.mono Ja.R_ok (bQ.trans bc) r_23) rfl qbz (qc8 rfl r0 rfl Ja.R_ok (show LR Ja.R _ [[.int .i64 ba.1.Ab, str ba.1.Ac, .slice aS ba.1.Aa.length aU, .int .i64 ba.1.Ad]] [ba.1] from (LR.snoc LR.nil (Ja.of (x := ba.1) ⟨aS, aU, rfl, aT⟩)))) (show LR Ja.R _ [[.int .i64 ba.1.Ab, str ba.1.Ac, .slice aS ba.1.Aa.length aU, .int .i64 ba.1.Ad]] [ba.1] from (LR.snoc LR.nil (Ja.of (x := ba.1) ⟨aS, aU, rfl, aT⟩))) bY ?_
   intro cP cI dh r_47 cJ
   refine ⟨⟨Hp.emp_le _, (pf rfl), ci0⟩, ?_⟩
   refine fa rfl ?_
   refine qaa r5 rfl ⟨rfl, rfl, (nl rfl), ?_⟩
   refine ⟨⟨Hp.emp_le _, (pf rfl), ci0⟩, ?_⟩
   refine ro (qab r0 rfl (nl rfl) ?_)
   refine qaa r8 rfl ⟨rfl, rfl, (nl rfl), ?_⟩
   exact ro (qab r0 rfl (nl rfl) (eE hm))
   refine qa2 ⟨⟨[], false⟩, _, [(_, _)], []⟩ 5 rfl (by kernel_rfl) ⟨Hp.Le.refl _, (sc [2] rfl), ci0⟩ ?_
   refine fa rfl (qap m0 rfl rfl ?_)
   refine cb hm fun aZ bZ hm => cfx (Jbt ihrec1_0 bZ :) ?_
   rintro _ cO _ bw ⟨aV, aX, bF, bJ, bP, rfl, bA, bt, bG, rfl⟩
   refine qk (sc [3] rfl) ?_
   refine qlb Ja.R_ok r0 bt fun bu bb aY => ?_
   refine qji (R := Ja.R) (len := 1) (l := [aZ.1]) (css := [[.int .i64 aZ.1.Ab, str aZ.1.Ac, .slice aV aZ.1.Aa.length aX, .int .i64 aZ.1.Ad]]) (cl := [.int .i64 aZ.1.Ab, str aZ.1.Ac, .slice aV aZ.1.Aa.length aX, .int .i64 aZ.1.Ad]) Ja.R_ok qbz rfl rfl (LR.snoc LR.nil (Ja.of (x := aZ.1) ⟨aV, aX, rfl, aY⟩)) rfl rfl rfl ?_ fun dj => ?_
   · conv => whnf
     refine cT ?_
     first | done | rfl
   refine ⟨⟨(bw.trans bb), (sc [3] rfl), ci0⟩, ?_⟩
   obtain ⟨cj, hm⟩ := qax hm
   refine qph r4 (LR.mono Ja.R_ok (bw.trans bb) r_23) rfl qbz (qc8 rfl r0 rfl Ja.R_ok (show LR Ja.R _ [[.int .i64 aZ.1.Ab, str aZ.1.Ac, .slice aV aZ.1.Aa.length aX, .int .i64 aZ.1.Ad]] [aZ.1] from (LR.snoc LR.nil (Ja.of (x := aZ.1) ⟨aV, aX, rfl, aY⟩)))) (show LR Ja.R _ [[.int .i64 aZ.1.Ab, str aZ.1.Ac, .slice aV aZ.1.Aa.length aX, .int .i64 aZ.1.Ad]] [aZ.1] from (LR.snoc LR.nil (Ja.of (x := aZ.1) ⟨aV, aX, rfl, aY⟩))) cj ?_
   intro cU cR di r_55 cH
   refine ⟨⟨Hp.emp_le _, (pf rfl), ci0⟩, ?_⟩
   refine fa rfl ?_
   refine qaa r4 rfl ⟨rfl, rfl, (nl rfl), ?_⟩
   refine ⟨⟨Hp.emp_le _, (pf rfl), ci0⟩, ?_⟩
   refine ro (qab r0 rfl (nl rfl) ?_)
   refine qaa r7 rfl ⟨rfl, rfl, (nl rfl), ?_⟩
   exact ro (qab r0 rfl (nl rfl) (eE hm))
   refine qah rfl ?_
   refine cb hm fun cK cm hm => cgx (Js cm :) ?_
   refine qaw ?_
   obtain ⟨dc, bo, hm⟩ := bnd hm
   refine cS bo (fun aW bo => ?_) fun aW bo => ?_
   refine ct aW (ct aW (ct aW (qac rfl (cT ?_))))
   replace hm := ift (si bo).symm hm
   refine ro (qab r2 rfl (nl rfl) ?_)
   refine qaa r5 rfl ⟨rfl, rfl, (nl rfl), ?_⟩
   exact ro (qab r0 rfl (nl rfl) (eE hm))
   refine cf aW ?_
   refine cb bo fun cY bX bo => cgx (Jv bX :) ?_
   refine cf aW (qaw (cf aW (qac rfl ?_)))
   refine qae ?_ ?_ <;> intro bS
   replace hm := ift ((si bo).symm.trans (qfh (qla bS))) hm
   refine ro (qab r2 rfl (nl rfl) ?_)
   refine qaa r5 rfl ⟨rfl, rfl, (nl rfl), ?_⟩
   exact ro (qab r0 rfl (nl rfl) (eE hm))
   replace hm := qa7 ((si bo).symm.trans (qdg (qib bS))) hm
   refine cb hm fun cL bW hm => ckx (Jm bW :) ?_
   rintro _ _ _ ⟨bR, bK, rfl, bD, rfl⟩
   refine cb hm fun df cn hm => cgx (Jv cn :) ?_
   refine cs rfl rfl hm ?_ ?_ <;> intro cZ hm
   refine cb hm fun cV ca hm => ckx (Jm ca :) ?_
   rintro _ _ _ ⟨bV, bC, rfl, bN, rfl⟩
   refine qai rfl fun b6 => ?_
   refine qaa r0 rfl ⟨rfl, rfl, (nl rfl), ?_⟩
   refine qa2 ⟨⟨[], false⟩, _, [(_, _), (_, _)], []⟩ 7 rfl (by kernel_rfl) ⟨Hp.Le.refl _, (sc [3,0] rfl), ci0⟩ ?_
   refine fa rfl (qap m0 rfl rfl (fa rfl (qap m1 rfl rfl ?_)))
   refine cb hm fun ba ce hm => cfx (ih ce :) ?_
   rintro _ cW _ bQ ⟨aS, aU, bT, bL, bz, rfl, bM, bp, bH, rfl⟩
   refine qk (sc [4,3] rfl) ?_
   refine qlb Ja.R_ok r0 bp fun bv bc aT => ?_
   refine qji (R := Ja.R) (len := 1) (l := [ba.1]) (css := [[.int .i64 ba.1.Ab, str ba.1.Ac, .slice aS ba.1.Aa.length aU, .int .i64 ba.1.Ad]]) (cl := [.int .i64 ba.1.Ab, str ba.1.Ac, .slice aS ba.1.Aa.length aU, .int .i64 ba.1.Ad]) Ja.R_ok qbz rfl rfl (LR.snoc LR.nil (Ja.of (x := ba.1) ⟨aS, aU, rfl, aT⟩)) rfl rfl rfl ?_ fun dg => ?_
   · conv => whnf
     refine cT ?_
     first | done | rfl
   refine ⟨⟨(bQ.trans bc), (sc [4,3] rfl), ci0⟩, ?_⟩
   obtain ⟨bY, hm⟩ := qax hm
   refine qph r5 (LR.mono Ja.R_ok (bQ.trans bc) r_14) rfl qbz (qc8 rfl r0 rfl Ja.R_ok (show LR Ja.R _ [[.int .i64 ba.1.Ab, str ba.1.Ac, .slice aS ba.1.Aa.length aU, .int .i64 ba.1.Ad]] [ba.1] from (LR.snoc LR.nil (Ja.of (x := ba.1) ⟨aS, aU, rfl, aT⟩)))) (show LR Ja.R _ [[.int .i64 ba.1.Ab, str ba.1.Ac, .slice aS ba.1.Aa.length aU, .int .i64 ba.1.Ad]] [ba.1] from (LR.snoc LR.nil (Ja.of (x := ba.1) ⟨aS, aU, rfl, aT⟩))) bY ?_
   intro cP cI dh r_47 cJ
   refine ⟨⟨Hp.emp_le _, (pf rfl), ci0⟩, ?_⟩
   refine fa rfl ?_
   refine qaa r5 rfl ⟨rfl, rfl, (nl rfl), ?_⟩
   refine ⟨⟨Hp.emp_le _, (pf rfl), ci0⟩, ?_⟩
   refine ro (qab r0 rfl (nl rfl) ?_)
   refine qaa r7 rfl ⟨rfl, rfl, (nl rfl), ?_⟩
   exact ro (qab r0 rfl (nl rfl) (eE hm))
   refine qa2 ⟨⟨[], false⟩, _, [(_, _)], []⟩ 5 rfl (by kernel_rfl) ⟨Hp.Le.refl _, (sc [2] rfl), ci0⟩ ?_
   refine fa rfl (qap m0 rfl rfl ?_)
   refine cb hm fun aZ bZ hm => cfx (Jbt ihrec1_0 bZ :) ?_
   rintro _ cO _ bw ⟨aV, aX, bF, bJ, bP, rfl, bA, bt, bG, rfl⟩
   refine qk (sc [3] rfl) ?_
   refine qlb Ja.R_ok r0 bt fun bu bb aY => ?_
   refine qji (R := Ja.R) (len := 1) (l := [aZ.1]) (css := [[.int .i64 aZ.1.Ab, str aZ.1.Ac, .slice aV aZ.1.Aa.length aX, .int .i64 aZ.1.Ad]]) (cl := [.int .i64 aZ.1.Ab, str aZ.1.Ac, .slice aV aZ.1.Aa.length aX, .int .i64 aZ.1.Ad]) Ja.R_ok qbz rfl rfl (LR.snoc LR.nil (Ja.of (x := aZ.1) ⟨aV, aX, rfl, aY⟩)) rfl rfl rfl ?_ fun dj => ?_
   · conv => whnf
     refine cT ?_
     first | done | rfl
   refine ⟨⟨(bw.trans bb), (sc [3] rfl), ci0⟩, ?_⟩
   obtain ⟨cj, hm⟩ := qax hm
   refine qph r4 (LR.mono Ja.R_ok (bw.trans bb) r_14) rfl qbz (qc8 rfl r0 rfl Ja.R_ok (show LR Ja.R _ [[.int .i64 aZ.1.Ab, str aZ.1.Ac, .slice aV aZ.1.Aa.length aX, .int .i64 aZ.1.Ad]] [aZ.1] from (LR.snoc LR.nil (Ja.of (x := aZ.1) ⟨aV, aX, rfl, aY⟩)))) (show LR Ja.R _ [[.int .i64 aZ.1.Ab, str aZ.1.Ac, .slice aV aZ.1.Aa.length aX, .int .i64 aZ.1.Ad]] [aZ.1] from (LR.snoc LR.nil (Ja.of (x := aZ.1) ⟨aV, aX, rfl, aY⟩))) cj ?_
   intro cU cR di r_55 cH
   refine ⟨⟨Hp.emp_le _, (pf rfl), ci0⟩, ?_⟩
   refine fa rfl ?_
   refine qaa r4 rfl ⟨rfl, rfl, (nl rfl), ?_⟩
   refine ⟨⟨Hp.emp_le _, (pf rfl), ci0⟩, ?_⟩
   refine ro (qab r0 rfl (nl rfl) ?_)
   refine qaa r6 rfl ⟨rfl, rfl, (nl rfl), ?_⟩
   exact ro (qab r0 rfl (nl rfl) (eE hm))

def Jbm (au : (Jb → Option ((List Ja) × Jb))) (n : Nat) (p : Jb) : Option (Ja × Jb) :=
  (JI p).bind fun x7 =>
  if decide (x7.Ab ≠ 1) then
  (JY p).bind fun bm =>
  some ((⟨0, ([] : Str), [], x7.Ad⟩ : Ja), bm)
  else
  if decide (x7.Ac = ([105, 102] : Str)) then
  (Jp p).bind fun bv =>
  (Jai au n bv.2 x7.Ad).bind fun bf =>
  some (bf.1, bf.2)
  else
  if decide (x7.Ac = ([108, 101, 116] : Str)) then
  (Jp p).bind fun aZ =>
  (JI aZ.2).bind fun bb =>
  (if decide (bb.Ab ≠ 1) then some true else (JbW bb.Ac).bind fun bj =>
  some bj).bind fun bc =>
  if bc then
  (JY aZ.2).bind fun bo =>
  some ((⟨3, ([] : Str), [], x7.Ad⟩ : Ja), bo)
  else
  (Jp aZ.2).bind fun bt =>
  (Jw n bt.2 ([61] : Str)).bind fun bd =>
  some ((⟨3, bb.Ac, bd.1, x7.Ad⟩ : Ja), bd.2)
  else
  if decide (x7.Ac = ([112, 97, 116, 104] : Str)) then
  (Jp p).bind fun ba =>
  (Jw n ba.2 ([61] : Str)).bind fun aW =>
  some ((⟨4, x7.Ac, aW.1, x7.Ad⟩ : Ja), aW.2)
  else
  if decide (x7.Ac = ([113, 117, 101, 114, 121] : Str)) then
  (Jp p).bind fun ba =>
  (Jw n ba.2 ([61] : Str)).bind fun aW =>
  some ((⟨4, x7.Ac, aW.1, x7.Ad⟩ : Ja), aW.2)
  else
  if decide (x7.Ac = ([104, 101, 97, 100, 101, 114] : Str)) then
  (Jp p).bind fun bp =>
  (Jbr bp.2).bind fun aY =>
  (Jt aY.2).bind fun bl =>
  if bl then
  (Jw n aY.2 ([61] : Str)).bind fun bg =>
  some ((⟨5, aY.1, bg.1, x7.Ad⟩ : Ja), bg.2)
  else
  some ((⟨5, aY.1, [], x7.Ad⟩ : Ja), aY.2)
  else
  if decide (x7.Ac = ([118, 97, 114, 121] : Str)) then
  (Jp p).bind fun bu =>
  (Jbr bu.2).bind fun aX =>
  (Jt aX.2).bind fun bh =>
  if bh then
  (JE aX.2 ([59] : Str)).bind fun bn =>
  some ((⟨6, aX.1, [], x7.Ad⟩ : Ja), bn)
  else
  some ((⟨6, aX.1, [], x7.Ad⟩ : Ja), aX.2)
  else
  if decide (x7.Ac = ([116, 97, 103] : Str)) then
  (Jp p).bind fun aU =>
  if decide (x7.Ac = ([116, 116, 108] : Str)) then
  if decide (x7.Ac = ([100, 101, 110, 121] : Str)) then
  (Jw n aU.2 ([] : Str)).bind fun aS =>
  some ((⟨9, ([] : Str), aS.1, x7.Ad⟩ : Ja), aS.2)
  else
  (Jw n aU.2 ([] : Str)).bind fun aS =>
  some ((⟨8, ([] : Str), aS.1, x7.Ad⟩ : Ja), aS.2)
  else
  if decide (x7.Ac = ([100, 101, 110, 121] : Str)) then
  (Jw n aU.2 ([] : Str)).bind fun aS =>
  some ((⟨9, ([] : Str), aS.1, x7.Ad⟩ : Ja), aS.2)
  else
  (Jw n aU.2 ([] : Str)).bind fun aS =>
  some ((⟨7, ([] : Str), aS.1, x7.Ad⟩ : Ja), aS.2)
  else
  if decide (x7.Ac = ([116, 116, 108] : Str)) then
  (Jp p).bind fun aU =>
  if decide (x7.Ac = ([116, 116, 108] : Str)) then
  if decide (x7.Ac = ([100, 101, 110, 121] : Str)) then
  (Jw n aU.2 ([] : Str)).bind fun aS =>
  some ((⟨9, ([] : Str), aS.1, x7.Ad⟩ : Ja), aS.2)
  else
  (Jw n aU.2 ([] : Str)).bind fun aS =>
  some ((⟨8, ([] : Str), aS.1, x7.Ad⟩ : Ja), aS.2)
  else
  if decide (x7.Ac = ([100, 101, 110, 121] : Str)) then
  (Jw n aU.2 ([] : Str)).bind fun aS =>
  some ((⟨9, ([] : Str), aS.1, x7.Ad⟩ : Ja), aS.2)
  else
  (Jw n aU.2 ([] : Str)).bind fun aS =>
  some ((⟨7, ([] : Str), aS.1, x7.Ad⟩ : Ja), aS.2)
  else
  if decide (x7.Ac = ([100, 101, 110, 121] : Str)) then
  (Jp p).bind fun aU =>
  if decide (x7.Ac = ([116, 116, 108] : Str)) then
  if decide (x7.Ac = ([100, 101, 110, 121] : Str)) then
  (Jw n aU.2 ([] : Str)).bind fun aS =>
  some ((⟨9, ([] : Str), aS.1, x7.Ad⟩ : Ja), aS.2)
  else
  (Jw n aU.2 ([] : Str)).bind fun aS =>
  some ((⟨8, ([] : Str), aS.1, x7.Ad⟩ : Ja), aS.2)
  else
  if decide (x7.Ac = ([100, 101, 110, 121] : Str)) then
  (Jw n aU.2 ([] : Str)).bind fun aS =>
  some ((⟨9, ([] : Str), aS.1, x7.Ad⟩ : Ja), aS.2)
  else
  (Jw n aU.2 ([] : Str)).bind fun aS =>
  some ((⟨7, ([] : Str), aS.1, x7.Ad⟩ : Ja), aS.2)
  else
  if decide (x7.Ac = ([112, 97, 115, 115] : Str)) then
  (Jp p).bind fun aV =>
  if decide (x7.Ac = ([116, 111, 107, 101, 110] : Str)) then
  (JE aV.2 ([59] : Str)).bind fun aT =>
  some ((⟨11, ([] : Str), [], x7.Ad⟩ : Ja), aT)
  else
  (JE aV.2 ([59] : Str)).bind fun aT =>
  some ((⟨10, ([] : Str), [], x7.Ad⟩ : Ja), aT)
  else
  if decide (x7.Ac = ([116, 111, 107, 101, 110] : Str)) then
  (Jp p).bind fun aV =>
  if decide (x7.Ac = ([116, 111, 107, 101, 110] : Str)) then
  (JE aV.2 ([59] : Str)).bind fun aT =>
  some ((⟨11, ([] : Str), [], x7.Ad⟩ : Ja), aT)
  else
  (JE aV.2 ([59] : Str)).bind fun aT =>
  some ((⟨10, ([] : Str), [], x7.Ad⟩ : Ja), aT)
  else
  (JY p).bind fun br =>
  some ((⟨0, ([] : Str), [], x7.Ad⟩ : Ja), br)
theorem JcY {au : (Jb → Option ((List Ja) × Jb))} (ihrec1_0 : ∀ {p : Jb} {b0 : Nat} {aa : Option Addr} {ab : Nat} {K : Hp} {r : (List Ja) × Jb} (hm : au p = some r) (hX : (0 < p.list.length → Has aa) ∧ GG K), Fn Tryz.prog 97 [.pointer (some ⟨b0, 0, none⟩)] K [Cells b0 163 [.slice aa p.list.length ab, .int .i64 p.atZ, .int .i64 p.line], qau Je.enc aa 166 4 ab p.list] (fun v K' H' => ∃ ar_0 : Option Addr, ∃ cr_0 : Nat, ∃ sr_0 : List (List Value), ∃ ar_1 : Option Addr, ∃ cr_1 : Nat, v = .slice ar_0 r.1.length cr_0 ∧ (0 < r.1.length → Has ar_0) ∧ LR Ja.R K' sr_0 r.1 ∧ (0 < r.2.list.length → Has ar_1) ∧ H' = [OwnA ar_0 117 4 cr_0 sr_0, Cells b0 163 [.slice ar_1 r.2.list.length cr_1, .int .i64 r.2.atZ, .int .i64 r.2.line], qau Je.enc ar_1 166 4 cr_1 r.2.list])) {n : Nat} {p : Jb} {b0 : Nat} {aa : Option Addr} {ab : Nat} {K : Hp} {r : Ja × Jb}
    (hm : Jbm au n p = some r) (hX : (0 < p.list.length → Has aa) ∧ GG K) :
    Fn Tryz.prog 150 [.pointer (some ⟨b0, 0, none⟩)] K [Cells b0 163 [.slice aa p.list.length ab, .int .i64 p.atZ, .int .i64 p.line], qau Je.enc aa 166 4 ab p.list] (fun v K' H' => ∃ ar_0 : Option Addr, ∃ cr_0 : Nat, ∃ sr_0 : List (List Value), ∃ ar_1 : Option Addr, ∃ cr_1 : Nat, v = .agg #[.int .i64 r.1.Ab, str r.1.Ac, .slice ar_0 r.1.Aa.length cr_0, .int .i64 r.1.Ad] ∧ (0 < r.1.Aa.length → Has ar_0) ∧ LR Ja.R K' sr_0 r.1.Aa ∧ (0 < r.2.list.length → Has ar_1) ∧ H' = [OwnA ar_0 117 4 cr_0 sr_0, Cells b0 163 [.slice ar_1 r.2.list.length cr_1, .int .i64 r.2.atZ, .int .i64 r.2.line], qau Je.enc ar_1 166 4 cr_1 r.2.list]) := by
 obtain ⟨ae, hG⟩ := hX
 refine Fn.enter Tryz.func150 Tryz.call150 rfl fun F => ?_
 unfold Jbm at hm
 refine qai rfl fun b2 => ?_
 refine cb hm fun x7 q7 hm => cgx (JH q7 :) ?_
 refine qai rfl fun b3 => ?_
 refine qaa r0 rfl ⟨rfl, rfl, (nl rfl), ?_⟩
 refine fa rfl (ro (ld r0 rfl rfl (qaj rfl rfl (cT ?_))))
 refine qai rfl fun b4 => ?_
 refine qaa r0 rfl ⟨rfl, rfl, (nl rfl), ?_⟩
 refine fa rfl (ro (ld r1 rfl rfl (qa6 ?_)))
 refine cs rfl rfl hm ?_ ?_ <;> intro eL hm
 refine cb hm fun eF dS hm => ckx (J2 dS :) ?_
 rintro _ _ _ ⟨dh, dm, rfl, cK, rfl⟩
 refine ro (qab r2 rfl (nl rfl) ?_)
 refine qaa r4 rfl ⟨rfl, rfl, (nl rfl), ?_⟩
 refine ro (qab r0 rfl (nl rfl) ?_)
 refine qcg (fun _ : Ja => []) 117 4 ?_
 exact eE hm
 refine fa rfl (ro (ld r1 rfl rfl ?_))
 refine qal rfl ?_
 refine qaq (cs rfl rfl hm ?_ ?_) <;> intro eJ hm
 refine cb hm fun ef dF hm => ckx (Jm dF :) ?_
 rintro _ _ _ ⟨bY, cj, rfl, dk, rfl⟩
 refine fa rfl (ro (ld r3 rfl rfl ?_))
 refine cb hm fun d7 dI hm => cfx (Jc7 ihrec1_0 dI :) ?_
 rintro _ eX _ eg ⟨cL, dv, cR, bX, de, rfl, cP, df, ca, rfl⟩
 refine qaa r5 rfl ⟨rfl, rfl, (nl rfl), ?_⟩
 exact ro (qab r0 rfl (nl rfl) (eE hm))
 refine qaq (cs rfl rfl hm ?_ ?_) <;> intro ei hm
 refine cb hm fun eV dL hm => ckx (Jm dL :) ?_
 rintro _ _ _ ⟨co, cC, rfl, dA, rfl⟩
 refine fa rfl ?_
 refine qaa r2 rfl ⟨rfl, rfl, (nl rfl), ?_⟩
 refine cb hm fun eG dG hm => cgx (JH dG :) ?_
 refine qai rfl fun b5 => ?_
 refine qaa r0 rfl ⟨rfl, rfl, (nl rfl), ?_⟩
 obtain ⟨bS, bg, hm⟩ := bnd hm
 refine jR (σ := Bool) (rg 36 8) (fun bo => [(43, .bool bo)]) (fun bo => bo = bS) ?_ ?_
 replace bg := bsm bg
 refine qah rfl ?_
 refine fa rfl (ro (ld r0 rfl rfl (qa6 ?_)))
 obtain ⟨ey, bA, bg⟩ := bnd bg
 refine cS bA (fun bb bA => ?_) fun bb bA => ?_
 refine ct bb (ct bb (ct bb ?_))
 exact eMq bg _ ⟨bq (si bA), trivial⟩
 refine fa rfl (cf bb (ro (ld r0 rfl rfl (cf bb ?_))))
 refine cb bA fun d3 dJ bA => cgx (Jcp dJ :) ?_
 refine cf bb ?_
 exact eMq bg _ ⟨bq (si bA), trivial⟩
 rintro bo rfl dV
 refine cs rfl rfl hm ?_ ?_ <;> intro d4 hm
 refine cb hm fun eQ dN hm => ckx (J2 dN :) ?_
 rintro _ _ _ ⟨cZ, dw, rfl, du, rfl⟩
 refine ro (qab r3 rfl (nl rfl) ?_)
 refine qaa r5 rfl ⟨rfl, rfl, (nl rfl), ?_⟩
 refine ro (qab r0 rfl (nl rfl) ?_)
 refine qcg (fun _ : Ja => []) 117 4 ?_
 exact eE hm
 refine cb hm fun eW dO hm => ckx (Jm dO :) ?_
 rintro _ _ _ ⟨cD, dc, rfl, bZ, rfl⟩
 refine fa rfl (ro (ld r2 rfl rfl (fa rfl ?_)))
 refine qaa r3 rfl ⟨rfl, rfl, (nl rfl), ?_⟩
 refine cb hm fun eH dK hm => cfx (Ju dK :) ?_
 rintro _ d9 _ eC ⟨cB, cN, di, dn, cz, rfl, cU, dg, dj, rfl⟩
 refine fa rfl ?_
 refine qaa r3 rfl ⟨rfl, rfl, (nl rfl), ?_⟩
 refine ro (qab r0 rfl (nl rfl) ?_)
 refine qaa r6 rfl ⟨rfl, rfl, (nl rfl), ?_⟩
 exact ro (qab r0 rfl (nl rfl) (eE hm))
 refine qaq (cs rfl rfl hm ?_ ?_) <;> intro cw hm
 refine qac rfl (ct cw ?_)
 refine cb hm fun dR bT hm => ckx (Jm bT :) ?_
 rintro _ _ _ ⟨bG, bM, rfl, bK, rfl⟩
 refine qa3 ⟨⟨[], false⟩, _, [(_, _)], []⟩ (by kernel_rfl) ⟨Hp.Le.refl _, (sc [3] rfl), ci0⟩ ?_
 refine fa rfl (qap m0 rfl rfl (fa rfl ?_))
 refine qaa r2 rfl ⟨rfl, rfl, (nl rfl), ?_⟩
 refine qk (sc [3] rfl) ?_
 refine fa rfl ?_
 refine qaa r0 rfl ⟨rfl, rfl, (nl rfl), ?_⟩
 refine qk (sc [3] rfl) ?_
 refine cb hm fun dZ bU hm => cfx (Ju bU :) ?_
 rintro _ dY _ dQ ⟨bC, bL, bO, bP, bQ, rfl, bN, bH, bD, rfl⟩
 refine fa rfl ?_
 refine qaa r3 rfl ⟨rfl, rfl, (nl rfl), ?_⟩
 refine ro (qab r0 rfl (nl rfl) ?_)
 refine qaa r5 rfl ⟨rfl, rfl, (nl rfl), ?_⟩
 exact ro (qab r0 rfl (nl rfl) (eE hm))
 refine qaq (cs rfl rfl hm ?_ ?_) <;> intro cw hm
 refine cb hm fun dR bT hm => ckx (Jm bT :) ?_
 rintro _ _ _ ⟨bG, bM, rfl, bK, rfl⟩
 refine qa3 ⟨⟨[], false⟩, _, [(_, _)], []⟩ (by kernel_rfl) ⟨Hp.Le.refl _, (sc [3] rfl), ci0⟩ ?_
 refine fa rfl (qap m0 rfl rfl (fa rfl ?_))
 refine qaa r2 rfl ⟨rfl, rfl, (nl rfl), ?_⟩
 refine qk (sc [3] rfl) ?_
 refine fa rfl ?_
 refine qaa r0 rfl ⟨rfl, rfl, (nl rfl), ?_⟩
 refine qk (sc [3] rfl) ?_
 refine cb hm fun dZ bU hm => cfx (Ju bU :) ?_
 rintro _ dY _ dQ ⟨bC, bL, bO, bP, bQ, rfl, bN, bH, bD, rfl⟩
 refine fa rfl ?_
 refine qaa r3 rfl ⟨rfl, rfl, (nl rfl), ?_⟩
 refine ro (qab r0 rfl (nl rfl) ?_)
 refine qaa r5 rfl ⟨rfl, rfl, (nl rfl), ?_⟩
 exact ro (qab r0 rfl (nl rfl) (eE hm))
 refine qaq (cs rfl rfl hm ?_ ?_) <;> intro eA hm
 refine cb hm fun d5 dM hm => ckx (Jm dM :) ?_
 rintro _ _ _ ⟨cr, cW, rfl, dB, rfl⟩
 refine fa rfl ?_
 refine qaa r2 rfl ⟨rfl, rfl, (nl rfl), ?_⟩
 refine cb hm fun eu dU hm => ckx (Jcs dU :) ?_
 rintro _ _ _ ⟨cE, ce, rfl, cn, rfl⟩
 refine fa rfl ?_
 refine qaa r2 rfl ⟨rfl, rfl, (nl rfl), ?_⟩
 refine cb hm fun eT dW hm => cgx (Js dW :) ?_
 refine cs rfl rfl hm ?_ ?_ <;> intro eO hm
 refine cb hm fun d8 dE hm => cfx (Ju dE :) ?_
 rintro _ eD _ ee ⟨cX, dC, cy, cV, cG, rfl, cQ, dp, cA, rfl⟩
 refine fa rfl ?_
 refine qaa r3 rfl ⟨rfl, rfl, (nl rfl), ?_⟩
 refine ro (qab r0 rfl (nl rfl) ?_)
 refine qaa r5 rfl ⟨rfl, rfl, (nl rfl), ?_⟩
 exact ro (qab r0 rfl (nl rfl) (eE hm))
 refine ro (qab r2 rfl (nl rfl) ?_)
 refine qaa r4 rfl ⟨rfl, rfl, (nl rfl), ?_⟩
 refine ro (qab r0 rfl (nl rfl) ?_)
 refine qcg (fun _ : Ja => []) 117 4 ?_
 exact eE hm
 refine qaq (cs rfl rfl hm ?_ ?_) <;> intro ew hm
 refine cb hm fun ep dX hm => ckx (Jm dX :) ?_
 rintro _ _ _ ⟨dz, cH, rfl, cm, rfl⟩
 refine fa rfl ?_
 refine qaa r2 rfl ⟨rfl, rfl, (nl rfl), ?_⟩
 refine cb hm fun eh dH hm => ckx (Jcs dH :) ?_
 rintro _ _ _ ⟨cO, dq, rfl, dy, rfl⟩
 refine fa rfl ?_
 refine qaa r2 rfl ⟨rfl, rfl, (nl rfl), ?_⟩
 refine cb hm fun eP dP hm => cgx (Js dP :) ?_
 refine cs rfl rfl hm ?_ ?_ <;> intro d6 hm
 refine cb hm fun eK dT hm => ckx (JD dT :) ?_
 rintro _ _ _ ⟨dx, cJ, rfl, cY, rfl⟩
 refine ro (qab r2 rfl (nl rfl) ?_)
 refine qaa r4 rfl ⟨rfl, rfl, (nl rfl), ?_⟩
 refine ro (qab r0 rfl (nl rfl) ?_)
 refine qcg (fun _ : Ja => []) 117 4 ?_
 exact eE hm
 refine ro (qab r2 rfl (nl rfl) ?_)
 refine qaa r4 rfl ⟨rfl, rfl, (nl rfl), ?_⟩
 refine ro (qab r0 rfl (nl rfl) ?_)
 refine qcg (fun _ : Ja => []) 117 4 ?_
 exact eE hm
 refine qaq (cs rfl rfl hm ?_ ?_) <;> intro bR hm
 refine qac rfl (ct bR ?_)
 refine cb hm fun cu bI hm => ckx (Jm bI :) ?_
 rintro _ _ _ ⟨br, bt, rfl, bp, rfl⟩
 refine fa rfl ?_
 refine qaa r2 rfl ⟨rfl, rfl, (nl rfl), ?_⟩
 refine fa rfl (ro (ld r3 rfl rfl (qaq ?_)))
 refine cs rfl rfl hm ?_ ?_ <;> intro bF hm
 refine fa rfl ?_
 refine qaa r0 rfl ⟨rfl, rfl, (nl rfl), ?_⟩
 refine fa rfl (ro (ld r3 rfl rfl (qaq ?_)))
 refine cs rfl rfl hm ?_ ?_ <;> intro bn hm
 refine fa rfl ?_
 refine qaa r0 rfl ⟨rfl, rfl, (nl rfl), ?_⟩
 refine cb hm fun bf aV hm => cfx (Ju aV :) ?_
 rintro _ bc _ bd ⟨aT, aW, ba, aU, aX, rfl, aZ, aS, aY, rfl⟩
 refine fa rfl ?_
 refine qaa r3 rfl ⟨rfl, rfl, (nl rfl), ?_⟩
 refine ro (qab r0 rfl (nl rfl) ?_)
 refine qaa r5 rfl ⟨rfl, rfl, (nl rfl), ?_⟩
 exact ro (qab r0 rfl (nl rfl) (eE hm))
 refine cb hm fun bf aV hm => cfx (Ju aV :) ?_
 rintro _ bc _ bd ⟨aT, aW, ba, aU, aX, rfl, aZ, aS, aY, rfl⟩
 refine fa rfl ?_
 refine qaa r3 rfl ⟨rfl, rfl, (nl rfl), ?_⟩
 refine ro (qab r0 rfl (nl rfl) ?_)
 refine qaa r5 rfl ⟨rfl, rfl, (nl rfl), ?_⟩
 exact ro (qab r0 rfl (nl rfl) (eE hm))
 refine fa rfl (ro (ld r3 rfl rfl (qaq ?_)))
 refine cs rfl rfl hm ?_ ?_ <;> intro bn hm
 refine fa rfl ?_
 refine qaa r0 rfl ⟨rfl, rfl, (nl rfl), ?_⟩
 refine cb hm fun bf aV hm => cfx (Ju aV :) ?_
 rintro _ bc _ bd ⟨aT, aW, ba, aU, aX, rfl, aZ, aS, aY, rfl⟩
 refine fa rfl ?_
 refine qaa r3 rfl ⟨rfl, rfl, (nl rfl), ?_⟩
 refine ro (qab r0 rfl (nl rfl) ?_)
 refine qaa r5 rfl ⟨rfl, rfl, (nl rfl), ?_⟩
 exact ro (qab r0 rfl (nl rfl) (eE hm))
 refine cb hm fun bf aV hm => cfx (Ju aV :) ?_
 rintro _ bc _ bd ⟨aT, aW, ba, aU, aX, rfl, aZ, aS, aY, rfl⟩
 refine fa rfl ?_
 refine qaa r3 rfl ⟨rfl, rfl, (nl rfl), ?_⟩
 refine ro (qab r0 rfl (nl rfl) ?_)
 refine qaa r5 rfl ⟨rfl, rfl, (nl rfl), ?_⟩
 exact ro (qab r0 rfl (nl rfl) (eE hm))
 refine qaq (cs rfl rfl hm ?_ ?_) <;> intro bR hm
 refine qac rfl (ct bR ?_)
 refine cb hm fun cu bI hm => ckx (Jm bI :) ?_
 rintro _ _ _ ⟨br, bt, rfl, bp, rfl⟩
 refine fa rfl ?_
 refine qaa r2 rfl ⟨rfl, rfl, (nl rfl), ?_⟩
 refine fa rfl (ro (ld r3 rfl rfl (qaq ?_)))
 refine cs rfl rfl hm ?_ ?_ <;> intro bF hm
 refine fa rfl ?_
 refine qaa r0 rfl ⟨rfl, rfl, (nl rfl), ?_⟩
 refine fa rfl (ro (ld r3 rfl rfl (qaq ?_)))
 refine cs rfl rfl hm ?_ ?_ <;> intro bn hm
 refine fa rfl ?_
 refine qaa r0 rfl ⟨rfl, rfl, (nl rfl), ?_⟩
 refine cb hm fun bf aV hm => cfx (Ju aV :) ?_
 rintro _ bc _ bd ⟨aT, aW, ba, aU, aX, rfl, aZ, aS, aY, rfl⟩
 refine fa rfl ?_
 refine qaa r3 rfl ⟨rfl, rfl, (nl rfl), ?_⟩
 refine ro (qab r0 rfl (nl rfl) ?_)
 refine qaa r5 rfl ⟨rfl, rfl, (nl rfl), ?_⟩
 exact ro (qab r0 rfl (nl rfl) (eE hm))
 refine cb hm fun bf aV hm => cfx (Ju aV :) ?_
 rintro _ bc _ bd ⟨aT, aW, ba, aU, aX, rfl, aZ, aS, aY, rfl⟩
 refine fa rfl ?_
 refine qaa r3 rfl ⟨rfl, rfl, (nl rfl), ?_⟩
 refine ro (qab r0 rfl (nl rfl) ?_)
 refine qaa r5 rfl ⟨rfl, rfl, (nl rfl), ?_⟩
 exact ro (qab r0 rfl (nl rfl) (eE hm))
 refine fa rfl (ro (ld r3 rfl rfl (qaq ?_)))
 refine cs rfl rfl hm ?_ ?_ <;> intro bn hm
 refine fa rfl ?_
 refine qaa r0 rfl ⟨rfl, rfl, (nl rfl), ?_⟩
 refine cb hm fun bf aV hm => cfx (Ju aV :) ?_
 rintro _ bc _ bd ⟨aT, aW, ba, aU, aX, rfl, aZ, aS, aY, rfl⟩
 refine fa rfl ?_
 refine qaa r3 rfl ⟨rfl, rfl, (nl rfl), ?_⟩
 refine ro (qab r0 rfl (nl rfl) ?_)
 refine qaa r5 rfl ⟨rfl, rfl, (nl rfl), ?_⟩
 exact ro (qab r0 rfl (nl rfl) (eE hm))
 refine cb hm fun bf aV hm => cfx (Ju aV :) ?_
 rintro _ bc _ bd ⟨aT, aW, ba, aU, aX, rfl, aZ, aS, aY, rfl⟩
 refine fa rfl ?_
 refine qaa r3 rfl ⟨rfl, rfl, (nl rfl), ?_⟩
 refine ro (qab r0 rfl (nl rfl) ?_)
 refine qaa r5 rfl ⟨rfl, rfl, (nl rfl), ?_⟩
 exact ro (qab r0 rfl (nl rfl) (eE hm))
 refine qaq (cs rfl rfl hm ?_ ?_) <;> intro bR hm
 refine cb hm fun cu bI hm => ckx (Jm bI :) ?_
 rintro _ _ _ ⟨br, bt, rfl, bp, rfl⟩
 refine fa rfl ?_
 refine qaa r2 rfl ⟨rfl, rfl, (nl rfl), ?_⟩
 refine fa rfl (ro (ld r3 rfl rfl (qaq ?_)))
 refine cs rfl rfl hm ?_ ?_ <;> intro bF hm
 refine fa rfl ?_
 refine qaa r0 rfl ⟨rfl, rfl, (nl rfl), ?_⟩
 refine fa rfl (ro (ld r3 rfl rfl (qaq ?_)))
 refine cs rfl rfl hm ?_ ?_ <;> intro bn hm
 refine fa rfl ?_
 refine qaa r0 rfl ⟨rfl, rfl, (nl rfl), ?_⟩
 refine cb hm fun bf aV hm => cfx (Ju aV :) ?_
 rintro _ bc _ bd ⟨aT, aW, ba, aU, aX, rfl, aZ, aS, aY, rfl⟩
 refine fa rfl ?_
 refine qaa r3 rfl ⟨rfl, rfl, (nl rfl), ?_⟩
 refine ro (qab r0 rfl (nl rfl) ?_)
 refine qaa r5 rfl ⟨rfl, rfl, (nl rfl), ?_⟩
 exact ro (qab r0 rfl (nl rfl) (eE hm))
 refine cb hm fun bf aV hm => cfx (Ju aV :) ?_
 rintro _ bc _ bd ⟨aT, aW, ba, aU, aX, rfl, aZ, aS, aY, rfl⟩
 refine fa rfl ?_
 refine qaa r3 rfl ⟨rfl, rfl, (nl rfl), ?_⟩
 refine ro (qab r0 rfl (nl rfl) ?_)
 refine qaa r5 rfl ⟨rfl, rfl, (nl rfl), ?_⟩
 exact ro (qab r0 rfl (nl rfl) (eE hm))
 refine fa rfl (ro (ld r3 rfl rfl (qaq ?_)))
 refine cs rfl rfl hm ?_ ?_ <;> intro bn hm
 refine fa rfl ?_
 refine qaa r0 rfl ⟨rfl, rfl, (nl rfl), ?_⟩
 refine cb hm fun bf aV hm => cfx (Ju aV :) ?_
 rintro _ bc _ bd ⟨aT, aW, ba, aU, aX, rfl, aZ, aS, aY, rfl⟩
 refine fa rfl ?_
 refine qaa r3 rfl ⟨rfl, rfl, (nl rfl), ?_⟩
 refine ro (qab r0 rfl (nl rfl) ?_)
 refine qaa r5 rfl ⟨rfl, rfl, (nl rfl), ?_⟩
 exact ro (qab r0 rfl (nl rfl) (eE hm))
 refine cb hm fun bf aV hm => cfx (Ju aV :) ?_
 rintro _ bc _ bd ⟨aT, aW, ba, aU, aX, rfl, aZ, aS, aY, rfl⟩
 refine fa rfl ?_
 refine qaa r3 rfl ⟨rfl, rfl, (nl rfl), ?_⟩
 refine ro (qab r0 rfl (nl rfl) ?_)
 refine qaa r5 rfl ⟨rfl, rfl, (nl rfl), ?_⟩
 exact ro (qab r0 rfl (nl rfl) (eE hm))
 refine qaq (cs rfl rfl hm ?_ ?_) <;> intro bJ hm
 refine qac rfl (ct bJ ?_)
 refine cb hm fun bW bw hm => ckx (Jm bw :) ?_
 rintro _ _ _ ⟨bv, bu, rfl, bz, rfl⟩
 refine fa rfl ?_
 refine qaa r2 rfl ⟨rfl, rfl, (nl rfl), ?_⟩
 refine fa rfl (ro (ld r3 rfl rfl (qaq ?_)))
 refine cs rfl rfl hm ?_ ?_ <;> intro bV hm
 refine fa rfl ?_
 refine qaa r0 rfl ⟨rfl, rfl, (nl rfl), ?_⟩
 refine cb hm fun bB bh hm => ckx (JD bh :) ?_
 rintro _ _ _ ⟨bm, bl, rfl, bj, rfl⟩
 refine ro (qab r2 rfl (nl rfl) ?_)
 refine qaa r4 rfl ⟨rfl, rfl, (nl rfl), ?_⟩
 refine ro (qab r0 rfl (nl rfl) ?_)
 refine qcg (fun _ : Ja => []) 117 4 ?_
 exact eE hm
 refine cb hm fun bB bh hm => ckx (JD bh :) ?_
 rintro _ _ _ ⟨bm, bl, rfl, bj, rfl⟩
 refine ro (qab r2 rfl (nl rfl) ?_)
 refine qaa r4 rfl ⟨rfl, rfl, (nl rfl), ?_⟩
 refine ro (qab r0 rfl (nl rfl) ?_)
 refine qcg (fun _ : Ja => []) 117 4 ?_
 exact eE hm
 refine qaq (cs rfl rfl hm ?_ ?_) <;> intro bJ hm
 refine cb hm fun bW bw hm => ckx (Jm bw :) ?_
 rintro _ _ _ ⟨bv, bu, rfl, bz, rfl⟩
 refine fa rfl ?_
 refine qaa r2 rfl ⟨rfl, rfl, (nl rfl), ?_⟩
 refine fa rfl (ro (ld r3 rfl rfl (qaq ?_)))
 refine cs rfl rfl hm ?_ ?_ <;> intro bV hm
 refine fa rfl ?_
 refine qaa r0 rfl ⟨rfl, rfl, (nl rfl), ?_⟩
 refine cb hm fun bB bh hm => ckx (JD bh :) ?_
 rintro _ _ _ ⟨bm, bl, rfl, bj, rfl⟩
 refine ro (qab r2 rfl (nl rfl) ?_)
 refine qaa r4 rfl ⟨rfl, rfl, (nl rfl), ?_⟩
 refine ro (qab r0 rfl (nl rfl) ?_)
 refine qcg (fun _ : Ja => []) 117 4 ?_
 exact eE hm
 refine cb hm fun bB bh hm => ckx (JD bh :) ?_
 rintro _ _ _ ⟨bm, bl, rfl, bj, rfl⟩
 refine ro (qab r2 rfl (nl rfl) ?_)
 refine qaa r4 rfl ⟨rfl, rfl, (nl rfl), ?_⟩
 refine ro (qab r0 rfl (nl rfl) ?_)
 refine qcg (fun _ : Ja => []) 117 4 ?_
 exact eE hm
 refine cb hm fun ej dD hm => ckx (J2 dD :) ?_
 rintro _ _ _ ⟨dt, cI, rfl, cM, rfl⟩
 refine ro (qab r2 rfl (nl rfl) ?_)
 refine qaa r4 rfl ⟨rfl, rfl, (nl rfl), ?_⟩
 refine ro (qab r0 rfl (nl rfl) ?_)
 refine qcg (fun _ : Ja => []) 117 4 ?_
 exact eE hm

def J5 (rec_ : (Jb → Option ((List Ja) × Jb))) (n : Nat) : Nat → (List Ja) → Jb → Option ((List Ja) × Jb)
  | 0, _, _ => none
  | aU + 1, ac, aS =>
    (Jt aS).bind fun x5 =>
    (if x5 then (JI aS).bind fun x8 =>
    some (decide (x8.Ab ≠ 5)) else some false).bind fun aW =>
    (if aW then (Jz aS 4 ([125] : Str)).bind fun aX =>
    some (!aX) else some false).bind fun aV =>
    if aV then
    (Jbm rec_ n aS).bind fun aT =>
    (chk (ac.length + [aT.1].length ≤ lim)).bind fun _ =>
    J5 rec_ n aU (ac ++ [aT.1]) aT.2
    else
    some (ac, aS)
def J1 : Nat → Jb → Option ((List Ja) × Jb)
  | 0, _ => none
  | n + 1, p =>
    (J5 (J1 n) n n [] p).bind fun t0 =>
    some (t0.1, t0.2)
theorem JcN : ∀ {n : Nat} {p : Jb} {b0 : Nat} {aa : Option Addr} {ab : Nat} {K : Hp} {r : (List Ja) × Jb}
    (hm : J1 n p = some r) (hX : (0 < p.list.length → Has aa) ∧ GG K),
    Fn Tryz.prog 97 [.pointer (some ⟨b0, 0, none⟩)] K [Cells b0 163 [.slice aa p.list.length ab, .int .i64 p.atZ, .int .i64 p.line], qau Je.enc aa 166 4 ab p.list] (fun v K' H' => ∃ ar_0 : Option Addr, ∃ cr_0 : Nat, ∃ sr_0 : List (List Value), ∃ ar_1 : Option Addr, ∃ cr_1 : Nat, v = .slice ar_0 r.1.length cr_0 ∧ (0 < r.1.length → Has ar_0) ∧ LR Ja.R K' sr_0 r.1 ∧ (0 < r.2.list.length → Has ar_1) ∧ H' = [OwnA ar_0 117 4 cr_0 sr_0, Cells b0 163 [.slice ar_1 r.2.list.length cr_1, .int .i64 r.2.atZ, .int .i64 r.2.line], qau Je.enc ar_1 166 4 cr_1 r.2.list]) := by
 intro n
 induction n with
 | zero =>
   intro p b0 aa ab K r hm hX
   rw [J1.eq_1] at hm; cases hm
 | succ n ih =>
   intro p b0 aa ab K r hm hX
   obtain ⟨ae, hG⟩ := hX
   refine Fn.enter Tryz.func97 Tryz.call97 rfl fun F => ?_
   rw [J1.eq_2] at hm
   obtain ⟨s0, aU, hm⟩ := bnd hm
   refine qgy (fun _ : Ja => []) 117 4 ?_
   refine lC (σ := ((List Ja) × Jb) × Option Addr × Nat × List (List Value) × Option Addr × Nat) (rg 3 19) [3] (fun _ => []) (fun (t0, aV, bb, aX, aS, aT) => [(3, .slice aV t0.1.length bb)]) (fun (t0, aV, bb, aX, aS, aT) => [OwnA aV 117 4 bb aX, Cells b0 163 [.slice aS t0.2.list.length aT, .int .i64 t0.2.atZ, .int .i64 t0.2.line], qau Je.enc aS 166 4 aT t0.2.list]) (fun zz K1 => match zz with | (t0, aV, bb, aX, aS, aT) => LR Ja.R K1 aX t0.1 ∧ (0 < t0.1.length → Has aV) ∧ (0 < t0.2.list.length → Has aS)) (fun i0 (t0, aV, bb, aX, aS, aT) => J5 (J1 n) n i0 t0.1 t0.2 = some s0) (fun (t0, aV, bb, aX, aS, aT) => t0 = s0) (fun i0 => i0) n ((_, _), _, _, _, _, _) aU (And.intro qe (And.intro ?_ ?_))
   clear aU
   rintro i0 ⟨⟨ac, bI⟩, bA, bv, bH, bp, br⟩ bP bX ⟨bm, bt, bn⟩ aU j0
   dsimp only at aU ⊢
   cases i0 with
   | zero => rw [J5.eq_1] at aU; cases aU
   | succ i0 =>
    rw [J5.eq_2] at aU
    refine qah rfl ?_
    refine cb aU fun x5 q5 aU => cgx (Js q5 :) ?_
    obtain ⟨bR, bh, aU⟩ := bnd aU
    refine cS bh (fun bd bh => ?_) fun bd bh => ?_
    refine ct bd ?_
    refine cb bh fun x8 q8 bh => cgx (JH q8 :) ?_
    refine ct bd ?_
    refine Jdk rfl rfl rfl rfl ?_
    refine ct bd (qa6 (ct bd ?_))
    obtain ⟨bN, bf, aU⟩ := bnd aU
    refine qae ?_ ?_ <;> intro aW
    replace bf := ift ((si bh).symm.trans aW) bf
    refine ct aW ?_
    refine cb bf fun bY bK bf => cgx (Jv bK :) ?_
    refine ct aW (qaw (ct aW (qac rfl ?_)))
    refine qae ?_ ?_ <;> intro bB
    replace aU := ift ((si bf).symm.trans (qfh (qla bB))) aU
    refine qal rfl ?_
    refine cb aU fun bc bM aU => cfx (JcY ih bM :) ?_
    rintro _ bT _ bJ ⟨ba, aZ, bu, bw, bG, rfl, bD, bl, bz, rfl⟩
    refine qlb Ja.R_ok r0 bl fun bj bg aY => ?_
    refine qji (R := Ja.R) (len := 1) (l := [bc.1]) (css := [[.int .i64 bc.1.Ab, str bc.1.Ac, .slice ba bc.1.Aa.length aZ, .int .i64 bc.1.Ad]]) (cl := [.int .i64 bc.1.Ab, str bc.1.Ac, .slice ba bc.1.Aa.length aZ, .int .i64 bc.1.Ad]) Ja.R_ok qbz rfl rfl (LR.snoc LR.nil (Ja.of (x := bc.1) ⟨ba, aZ, rfl, aY⟩)) rfl rfl rfl ?_ fun bQ => ?_
    · conv => whnf
      refine cT ?_
      first | done | rfl
    obtain ⟨bL, aU⟩ := qax aU
    refine qph r3 (LR.mono Ja.R_ok (bJ.trans bg) bm) rfl qbz (qc8 rfl r0 rfl Ja.R_ok (show LR Ja.R _ [[.int .i64 bc.1.Ab, str bc.1.Ac, .slice ba bc.1.Aa.length aZ, .int .i64 bc.1.Ad]] [bc.1] from (LR.snoc LR.nil (Ja.of (x := bc.1) ⟨ba, aZ, rfl, aY⟩)))) (show LR Ja.R _ [[.int .i64 bc.1.Ab, str bc.1.Ac, .slice ba bc.1.Aa.length aZ, .int .i64 bc.1.Ad]] [bc.1] from (LR.snoc LR.nil (Ja.of (x := bc.1) ⟨ba, aZ, rfl, aY⟩))) bL ?_
    intro bU bV bW r_21 bZ
    exact eR aU (_, (_, _), _, _, _, _, _)
    replace aU := qa7 ((si bf).symm.trans (qdg (qib bB))) aU
    refine cT ?_
    exact eM aU (_, _, _, _, _, _)
    replace bf := qa7 ((si bh).symm.trans aW) bf
    refine cf aW (cf aW (cf aW (qac rfl (cF ?_))))
    replace aU := qa7 (si bf).symm aU
    refine cT ?_
    exact eM aU (_, _, _, _, _, _)
    refine cf bd (cf bd (cf bd (cf bd ?_)))
    obtain ⟨bN, bf, aU⟩ := bnd aU
    replace bf := qa7 (si bh).symm bf
    refine cF (cF (cF (cF (qac rfl (cF ?_)))))
    replace aU := qa7 (si bf).symm aU
    refine cT ?_
    exact eM aU (_, _, _, _, _, _)
   rintro ⟨t0, aV, bb, aX, aS, aT⟩ bS bO ⟨bF, bC, bo⟩ rfl j0
   exact eE hm

def JbJ (rec_ : (Ja → Option (Int))) : List Ja → Nat → Int → Option (Int)
  | [], _, ac => some ac
  | e0 :: aT, i0, ac =>
    (rec_ e0).bind fun aS =>
    (chk (InI (ac + aS))).bind fun _ =>
    JbJ rec_ aT (i0 + 1) (ac + aS)
def JbE : Nat → Ja → Option (Int)
  | 0, _ => none
  | n + 1, n' =>
    (chk (n'.Aa.length ≤ qbg)).bind fun _ =>
    (JbJ (JbE n) n'.Aa 0 1).bind fun t0 =>
    some t0
theorem JcO : ∀ {n : Nat} {n' : Ja} {aa : Option Addr} {ab : Nat} {K : Hp} {r : Int}
    (hm : JbE n n' = some r) (ae : LiC Ja.R K aa ab 4 n'.Aa),
    Fn Tryz.prog 101 [.agg #[.int .i64 n'.Ab, str n'.Ac, .slice aa n'.Aa.length ab, .int .i64 n'.Ad]] K [] (fun v K' H' => v = .int .i64 r ∧ H' = []) := by
 intro n
 induction n with
 | zero =>
   intro n' aa ab K r hm ae
   rw [JbE.eq_1] at hm; cases hm
 | succ n ih =>
   intro n' aa ab K r hm ae
   refine Fn.enter Tryz.func101 Tryz.call101 rfl fun F => ?_
   rw [JbE.eq_2] at hm
   refine qar ?_
   intro b1
   refine fa rfl (ro (ld r0 rfl rfl (ro (qak rfl ?_))))
   obtain ⟨bd, hm⟩ := qax hm
   obtain ⟨s0, aS, hm⟩ := bnd hm
   refine lD (σ := (Int)) ([3,5] ++ rg 9 9) [0, 1] (fun i0 => [(9, .int .i64 (i0 : Int))]) (fun t0 => [(3, .int .i64 t0)]) (fun _ => []) (fun _ => True) (fun i0 t0 => JbJ (JbE n) (n'.Aa.drop i0) i0 t0 = some s0) (fun t0 => t0 = s0) (fun i0 => n'.Aa.length - i0) 0 _ aS (And.intro qe (And.intro ?_ ?_))
   clear aS
   rintro i0 ac _ aS j0
   conv at aS => whnf
   refine qac rfl ?_
   refine qae ?_ ?_ <;> intro w0
   obtain ⟨e0, aT, bg⟩ := ltx w0
   rw [bg, JbJ.eq_2] at aS
   refine qal rfl ?_
   refine RStep.ofN (qad rfl rfl (qc0 ae.rd aT) (nn _) (qbm aT) ?_)
   obtain ⟨ba, bc, aU, aV, aW⟩ := LiR.get ae.rd aT
   obtain ⟨aZ, aY, rfl, aX⟩ := Ja.out aW
   refine ro (qan i0 _ aU rfl aV rfl ?_)
   refine qai rfl fun b5 => ?_
   refine qaa r0 rfl ⟨rfl, rfl, (nl rfl), ?_⟩
   refine ro (qab r0 rfl (nl rfl) ?_)
   refine cb aS fun bh bb aS => cgx (ih bb :) ?_
   obtain ⟨bf, aS⟩ := qax aS
   refine qam bf (qam (qbj aT bd) ?_)
   exact eR aS (_, _)
   rw [lty w0, JbJ.eq_1] at aS
   refine cT ?_
   exact eM aS _
   rintro t0 _ rfl j0
   exact eE hm

def Jbu (rec_ : (Ja → Option (Int))) : List Ja → Nat → Int → Option (Int)
  | [], _, ac => some ac
  | e0 :: aS, i0, ac =>
    (rec_ e0).bind fun aT =>
    Jbu rec_ aS (i0 + 1) (max ac aT)
def Jbn : Nat → Ja → Option (Int)
  | 0, _ => none
  | n + 1, n' =>
    (chk (n'.Aa.length ≤ qbg)).bind fun _ =>
    (Jbu (Jbn n) n'.Aa 0 0).bind fun t0 =>
    (chk (InI (t0 + 1))).bind fun _ =>
    some (t0 + 1)
theorem JcC : ∀ {n : Nat} {n' : Ja} {aa : Option Addr} {ab : Nat} {K : Hp} {r : Int}
    (hm : Jbn n n' = some r) (ae : LiC Ja.R K aa ab 4 n'.Aa),
    Fn Tryz.prog 102 [.agg #[.int .i64 n'.Ab, str n'.Ac, .slice aa n'.Aa.length ab, .int .i64 n'.Ad]] K [] (fun v K' H' => v = .int .i64 r ∧ H' = []) := by
 intro n
 induction n with
 | zero =>
   intro n' aa ab K r hm ae
   rw [Jbn.eq_1] at hm; cases hm
 | succ n ih =>
   intro n' aa ab K r hm ae
   refine Fn.enter Tryz.func102 Tryz.call102 rfl fun F => ?_
   rw [Jbn.eq_2] at hm
   refine qar ?_
   intro b1
   refine fa rfl (ro (ld r0 rfl rfl (ro (qak rfl ?_))))
   obtain ⟨bd, hm⟩ := qax hm
   obtain ⟨s0, aS, hm⟩ := bnd hm
   refine lD (σ := (Int)) ([3,5] ++ rg 9 9) [0, 1] (fun i0 => [(9, .int .i64 (i0 : Int))]) (fun t0 => [(3, .int .i64 t0)]) (fun _ => []) (fun _ => True) (fun i0 t0 => Jbu (Jbn n) (n'.Aa.drop i0) i0 t0 = some s0) (fun t0 => t0 = s0) (fun i0 => n'.Aa.length - i0) 0 _ aS (And.intro qe (And.intro ?_ ?_))
   clear aS
   rintro i0 ac _ aS j0
   conv at aS => whnf
   refine qac rfl ?_
   refine qae ?_ ?_ <;> intro w0
   obtain ⟨e0, aT, bf⟩ := ltx w0
   rw [bf, Jbu.eq_2] at aS
   refine qal rfl ?_
   refine RStep.ofN (qad rfl rfl (qc0 ae.rd aT) (nn _) (qbm aT) ?_)
   obtain ⟨ba, bc, aU, aV, aW⟩ := LiR.get ae.rd aT
   obtain ⟨aZ, aY, rfl, aX⟩ := Ja.out aW
   refine ro (qan i0 _ aU rfl aV rfl ?_)
   refine qai rfl fun b5 => ?_
   refine qaa r0 rfl ⟨rfl, rfl, (nl rfl), ?_⟩
   refine ro (qab r0 rfl (nl rfl) ?_)
   refine cb aS fun bg bb aS => cgx (ih bb :) ?_
   refine ro (qce (qam (qbj aT bd) ?_))
   exact eR aS (_, _)
   rw [lty w0, Jbu.eq_1] at aS
   refine cT ?_
   exact eM aS _
   rintro t0 _ rfl j0
   refine ci hm fun hm => ?_
   exact eE hm

def Jc8 (n : Nat) (text : Str) : Option (Ja × Int × Err) :=
  (JcW n text).bind fun aU =>
  if aU.2.isSome then
  some ((⟨0, ([] : Str), [], 0⟩ : Ja), 0, aU.2)
  else
  (J1 n (⟨aU.1, 0, 0⟩ : Jb)).bind fun aS =>
  (Jt aS.2).bind fun aZ =>
  (if aZ then (JI aS.2).bind fun bb =>
  some (decide (bb.Ab ≠ 5)) else some false).bind fun ba =>
  if ba then
  (JY aS.2).bind fun aY =>
  (Jt aY).bind fun aX =>
  if (!aX) then
  some ((⟨0, ([] : Str), [], 0⟩ : Ja), aY.line, (some 2))
  else
  (JbE n (⟨1, ([] : Str), aS.1, 1⟩ : Ja)).bind fun aT =>
  (if decide (aT > 512) then some true else (Jbn n (⟨1, ([] : Str), aS.1, 1⟩ : Ja)).bind fun aV =>
  some (decide (aV > 32))).bind fun aW =>
  if aW then
  some ((⟨0, ([] : Str), [], 0⟩ : Ja), 0, (some 5))
  else
  some ((⟨1, ([] : Str), aS.1, 1⟩ : Ja), 0, none)
  else
  (Jt aS.2).bind fun aX =>
  if (!aX) then
  some ((⟨0, ([] : Str), [], 0⟩ : Ja), aS.2.line, (some 2))
  else
  (JbE n (⟨1, ([] : Str), aS.1, 1⟩ : Ja)).bind fun aT =>
  (if decide (aT > 512) then some true else (Jbn n (⟨1, ([] : Str), aS.1, 1⟩ : Ja)).bind fun aV =>
  some (decide (aV > 32))).bind fun aW =>
  if aW then
  some ((⟨0, ([] : Str), [], 0⟩ : Ja), 0, (some 5))
  else
  some ((⟨1, ([] : Str), aS.1, 1⟩ : Ja), 0, none)
theorem JdY {n : Nat} {text : Str} {K : Hp} {r : Ja × Int × Err}
    (hm : Jc8 n text = some r) (hG : GG K) :
    Fn Tryz.prog 62 [str text] K [] (fun v K' H' => ∃ ar_0 : Option Addr, ∃ cr_0 : Nat, v = .tuple #[.agg #[.int .i64 r.1.Ab, str r.1.Ac, .slice ar_0 r.1.Aa.length cr_0, .int .i64 r.1.Ad], .int .i64 r.2.1, qcy 48 r.2.2] ∧ LiC Ja.R K' ar_0 cr_0 4 r.1.Aa ∧ H' = []) := by
 refine Fn.enter Tryz.func62 Tryz.call62 rfl fun F => ?_
 unfold Jc8 at hm
 refine qai rfl fun b2 => ?_
 refine cb hm fun bK bG hm => ck0 (Jdu bG :) ?_
 rintro _ _ _ ⟨bf, bl, rfl, bv, rfl⟩
 refine qa5 rfl ?_
 refine cs rfl rfl hm ?_ ?_ <;> intro bS hm
 refine qaj rfl rfl ?_
 refine qaa r1 rfl ⟨rfl, rfl, (nl rfl), ?_⟩
 exact ro (qab r0 rfl (nl rfl) (eE hm))
 refine qaj rfl rfl (cT ?_)
 refine qar ?_
 intro bP
 refine cb hm fun bR bF hm => cfx (JcN bF :) ?_
 rintro _ bT _ bM ⟨bw, bn, bh, bC, bt, rfl, bz, aY, bD, rfl⟩
 refine qaj rfl rfl (cT (cT (cT ?_)))
 refine qai rfl fun b8 => ?_
 refine qaa r0 rfl ⟨rfl, rfl, (nl rfl), ?_⟩
 refine qah rfl ?_
 refine cb hm fun bQ bH hm => cgx (Js bH :) ?_
 obtain ⟨bL, aZ, hm⟩ := bnd hm
 refine cS aZ (fun aT aZ => ?_) fun aT aZ => ?_
 refine ct aT ?_
 refine cb aZ fun bN bI aZ => cgx (JH bI :) ?_
 refine ct aT ?_
 refine Jdk rfl rfl rfl rfl ?_
 refine ct aT (qa6 (ct aT (qac rfl ?_)))
 refine qae ?_ ?_ <;> intro bg
 replace hm := ift ((si aZ).symm.trans bg) hm
 refine cb hm fun bO bJ hm => ckx (J2 bJ :) ?_
 rintro _ _ _ ⟨bj, br, rfl, bm, rfl⟩
 refine cb hm fun bo bb hm => cgx (Js bb :) ?_
 refine qaw ?_
 refine cs rfl rfl hm ?_ ?_ <;> intro bp hm
 refine qa3 ⟨⟨[], false⟩, _, [(_, _)], []⟩ (by kernel_rfl) ⟨Hp.Le.refl _, (pf rfl), ci0⟩ ?_
 refine qaj rfl rfl (qag (fa rfl (qap m0 rfl rfl ?_)))
 refine qas rfl ?_
 refine qaa r4 rfl ⟨rfl, rfl, (nl rfl), ?_⟩
 refine qk (sc [1] rfl) ?_
 exact ro (qab r0 rfl (nl rfl) (eE hm))
 refine qah rfl ?_
 refine ro (qab r2 rfl (nl rfl) ?_)
 refine qjh Tryz.call101 Ja.R_ok r3 aY fun aV aW aX => ?_
 refine cb hm fun bA bc hm => cgx (JcO bc :) ?_
 obtain ⟨bu, aU, hm⟩ := bnd hm
 refine cS aU (fun aS aU => ?_) fun aS aU => ?_
 refine ct aS (ct aS (ct aS (qac rfl (cT ?_))))
 replace hm := ift (si aU).symm hm
 refine qaj rfl rfl ?_
 refine qas rfl ?_
 refine qaa r3 rfl ⟨rfl, rfl, (nl rfl), ?_⟩
 exact ro (qab r0 rfl (nl rfl) (eE hm))
 refine ro (qab r2 rfl (nl rfl) (cf aS ?_))
 refine cb aU fun bB bd aU => cgx (JcC bd :) ?_
 refine cf aS (cf aS (qac rfl ?_))
 refine qae ?_ ?_ <;> intro ba
 replace hm := ift ((si aU).symm.trans ba) hm
 refine qaj rfl rfl ?_
 refine qas rfl ?_
 refine qaa r3 rfl ⟨rfl, rfl, (nl rfl), ?_⟩
 exact ro (qab r0 rfl (nl rfl) (eE hm))
 replace hm := qa7 ((si aU).symm.trans ba) hm
 refine ro (qab r2 rfl (nl rfl) ?_)
 refine qaa r3 rfl ⟨rfl, rfl, (nl rfl), ?_⟩
 exact ro (qab r0 rfl (nl rfl) (eE hm))
 replace hm := qa7 ((si aZ).symm.trans bg) hm
 refine cb hm fun bo bb hm => cgx (Js bb :) ?_
 refine qaw ?_
 refine cs rfl rfl hm ?_ ?_ <;> intro bp hm
 refine qa3 ⟨⟨[], false⟩, _, [(_, _)], []⟩ (by kernel_rfl) ⟨Hp.Le.refl _, (pf rfl), ci0⟩ ?_
 refine qaj rfl rfl (qag (fa rfl (qap m0 rfl rfl ?_)))
 refine qas rfl ?_
 refine qaa r4 rfl ⟨rfl, rfl, (nl rfl), ?_⟩
 refine qk (sc [1] rfl) ?_
 exact ro (qab r0 rfl (nl rfl) (eE hm))
 refine qah rfl ?_
 refine ro (qab r2 rfl (nl rfl) ?_)
 refine qjh Tryz.call101 Ja.R_ok r3 aY fun aV aW aX => ?_
 refine cb hm fun bA bc hm => cgx (JcO bc :) ?_
 obtain ⟨bu, aU, hm⟩ := bnd hm
 refine cS aU (fun aS aU => ?_) fun aS aU => ?_
 refine ct aS (ct aS (ct aS (qac rfl (cT ?_))))
 replace hm := ift (si aU).symm hm
 refine qaj rfl rfl ?_
 refine qas rfl ?_
 refine qaa r3 rfl ⟨rfl, rfl, (nl rfl), ?_⟩
 exact ro (qab r0 rfl (nl rfl) (eE hm))
 refine ro (qab r2 rfl (nl rfl) (cf aS ?_))
 refine cb aU fun bB bd aU => cgx (JcC bd :) ?_
 refine cf aS (cf aS (qac rfl ?_))
 refine qae ?_ ?_ <;> intro ba
 replace hm := ift ((si aU).symm.trans ba) hm
 refine qaj rfl rfl ?_
 refine qas rfl ?_
 refine qaa r3 rfl ⟨rfl, rfl, (nl rfl), ?_⟩
 exact ro (qab r0 rfl (nl rfl) (eE hm))
 replace hm := qa7 ((si aU).symm.trans ba) hm
 refine ro (qab r2 rfl (nl rfl) ?_)
 refine qaa r3 rfl ⟨rfl, rfl, (nl rfl), ?_⟩
 exact ro (qab r0 rfl (nl rfl) (eE hm))
 refine cf aT (cf aT (cf aT (cf aT (qac rfl (cF ?_)))))
 replace hm := qa7 (si aZ).symm hm
 refine cb hm fun bo bb hm => cgx (Js bb :) ?_
 refine qaw ?_
 refine cs rfl rfl hm ?_ ?_ <;> intro bp hm
 refine qa3 ⟨⟨[], false⟩, _, [(_, _)], []⟩ (by kernel_rfl) ⟨Hp.Le.refl _, (pf rfl), ci0⟩ ?_
 refine qaj rfl rfl (qag (fa rfl (qap m0 rfl rfl ?_)))
 refine qas rfl ?_
 refine qaa r4 rfl ⟨rfl, rfl, (nl rfl), ?_⟩
 refine qk (sc [1] rfl) ?_
 exact ro (qab r0 rfl (nl rfl) (eE hm))
 refine qah rfl ?_
 refine ro (qab r2 rfl (nl rfl) ?_)
 refine qjh Tryz.call101 Ja.R_ok r3 aY fun aV aW aX => ?_
 refine cb hm fun bA bc hm => cgx (JcO bc :) ?_
 obtain ⟨bu, aU, hm⟩ := bnd hm
 refine cS aU (fun aS aU => ?_) fun aS aU => ?_
 refine ct aS (ct aS (ct aS (qac rfl (cT ?_))))
 replace hm := ift (si aU).symm hm
 refine qaj rfl rfl ?_
 refine qas rfl ?_
 refine qaa r3 rfl ⟨rfl, rfl, (nl rfl), ?_⟩
 exact ro (qab r0 rfl (nl rfl) (eE hm))
 refine ro (qab r2 rfl (nl rfl) (cf aS ?_))
 refine cb aU fun bB bd aU => cgx (JcC bd :) ?_
 refine cf aS (cf aS (qac rfl ?_))
 refine qae ?_ ?_ <;> intro ba
 replace hm := ift ((si aU).symm.trans ba) hm
 refine qaj rfl rfl ?_
 refine qas rfl ?_
 refine qaa r3 rfl ⟨rfl, rfl, (nl rfl), ?_⟩
 exact ro (qab r0 rfl (nl rfl) (eE hm))
 replace hm := qa7 ((si aU).symm.trans ba) hm
 refine ro (qab r2 rfl (nl rfl) ?_)
 refine qaa r3 rfl ⟨rfl, rfl, (nl rfl), ?_⟩
 exact ro (qab r0 rfl (nl rfl) (eE hm))

def Jbv (depth : Int) (rec_ : (Ja → Int → Int → Option (Bool × Int))) : List Ja → Nat → Int → Option (Fl (Bool × Int) (Int))
  | [], _, ac => some (Fl.go ac)
  | e0 :: aT, i0, ac =>
    (chk (InI (depth - 1))).bind fun _ =>
    (rec_ e0 ac (depth - 1)).bind fun aS =>
    if (!aS.1) then
    some (Fl.ret (false, aS.2))
    else
    Jbv depth rec_ aT (i0 + 1) aS.2
def JbN : Nat → Ja → Int → Int → Option (Bool × Int)
  | 0, _, _, _ => none
  | n + 1, n', nodes, depth =>
    (chk (InI (nodes - 1))).bind fun _ =>
    if (decide ((nodes - 1) < 0) || decide (depth < 1)) then
    some (false, (nodes - 1))
    else
    (chk (n'.Aa.length ≤ qbg)).bind fun _ =>
    (Jbv depth (JbN n) n'.Aa 0 (nodes - 1)).bind fun s0 => s0.el some fun t0 =>
    some (true, t0)
theorem JdZ : ∀ {n : Nat} {n' : Ja} {nodes : Int} {depth : Int} {aa : Option Addr} {ab : Nat} {b1 : Nat} {K : Hp} {r : Bool × Int}
    (hm : JbN n n' nodes depth = some r) (ae : LiC Ja.R K aa ab 4 n'.Aa),
    Fn Tryz.prog 189 [.agg #[.int .i64 n'.Ab, str n'.Ac, .slice aa n'.Aa.length ab, .int .i64 n'.Ad], .pointer (some ⟨b1, 0, none⟩), .int .i64 depth] K [Cells b1 3 [.int .i64 nodes]] (fun v K' H' => v = .bool r.1 ∧ H' = [Cells b1 3 [.int .i64 r.2]]) := by
 intro n
 induction n with
 | zero =>
   intro n' nodes depth aa ab b1 K r hm ae
   rw [JbN.eq_1] at hm; cases hm
 | succ n ih =>
   intro n' nodes depth aa ab b1 K r hm ae
   refine Fn.enter Tryz.func189 Tryz.call189 rfl fun F => ?_
   rw [JbN.eq_2] at hm
   refine qar ?_
   intro b3
   refine qag (ro (ld r1 rfl rfl ?_))
   obtain ⟨bd, hm⟩ := qax hm
   refine qam bd (qag ?_)
   refine qaa r1 rfl ⟨rfl, rfl, (nl rfl), ?_⟩
   refine jR (σ := Unit) (rg 14 8) (fun _ => [(21, .bool (decide ((nodes - 1) < 0) || decide (depth < 1)))]) (fun bf => True) ?_ ?_
   refine qah rfl ?_
   refine qag (ro (ld r0 rfl rfl ?_))
   refine qae ?_ ?_ <;> intro aS
   refine ct aS (ct aS ?_)
   exact eMt () ⟨bq (((qcj aS)).symm), trivial⟩
   refine cf aS (cf aS ?_)
   exact eMt () ⟨bq (qg2 (b := decide (depth < 1)) aS), trivial⟩
   rintro _ _ bj
   refine cs rfl rfl hm ?_ ?_ <;> intro bn hm
   exact eE hm
   refine fa rfl (ro (ld r1 rfl rfl (ro (qak rfl ?_))))
   obtain ⟨bc, hm⟩ := qax hm
   obtain ⟨s0, aT, hm⟩ := bnd hm
   refine lD (σ := (Int)) ([6,8] ++ rg 25 11) [1, 2] (fun i0 => [(25, .int .i64 (i0 : Int))]) (fun _ => []) (fun t0 => [Cells b1 3 [.int .i64 t0]]) (fun _ => True) (fun i0 t0 => Jbv depth (JbN n) (n'.Aa.drop i0) i0 t0 = some s0) (fun t0 => s0 = Fl.go t0) (fun i0 => n'.Aa.length - i0) 0 _ aT (And.intro qe (And.intro ?_ ?_))
   clear aT
   rintro i0 ac _ aT j0
   conv at aT => whnf
   refine qac rfl ?_
   refine qae ?_ ?_ <;> intro w0
   obtain ⟨e0, aU, bh⟩ := ltx w0
   rw [bh, Jbv.eq_2] at aT
   refine qal rfl ?_
   refine RStep.ofN (qad rfl rfl (qc0 ae.rd aU) (nn _) (qbm aU) ?_)
   obtain ⟨bg, bb, aV, aW, aX⟩ := LiR.get ae.rd aU
   obtain ⟨aZ, aY, rfl, ba⟩ := Ja.out aX
   refine ro (qan i0 _ aV rfl aW rfl ?_)
   refine qai rfl fun b8 => ?_
   refine qaa r0 rfl ⟨rfl, rfl, (nl rfl), ?_⟩
   refine ro (qab r0 rfl (nl rfl) ?_)
   refine ci aT fun aT => ?_
   refine cb aT fun bm bl aT => cgx (ih bl :) ?_
   refine qaw ?_
   refine cs rfl rfl aT ?_ ?_ <;> intro bo aT
   exact eE (er aT hm)
   refine qam (qbj aU bc) ?_
   exact eR aT (_, _)
   rw [lty w0, Jbv.eq_1] at aT
   refine cT ?_
   exact eM aT _
   rintro t0 _ rfl j0
   replace hm := elg hm
   exact eE hm

def Jbd : List UInt8 → Nat → Option (Fl (Bool) (Unit))
  | [], _ => some (Fl.go ())
  | e0 :: aT, i0 =>
    (if decide ((e0.toNat : Int) < 48) then some true else some (decide ((e0.toNat : Int) > 57))).bind fun aS =>
    if aS then
    some (Fl.ret false)
    else
    Jbd aT (i0 + 1)
def Jc0 (s : Str) : Option (Bool) :=
  (chk (s.length ≤ qbg)).bind fun _ =>
  (Jbd s 0).bind fun s0 => s0.el some fun t0 =>
  some (decide ((s.length : Int) ≥ 1) && decide ((s.length : Int) ≤ 9))
theorem JdT {s : Str} {K : Hp} {r : Bool}
    (hm : Jc0 s = some r)  :
    Fn Tryz.prog 258 [str s] K [] (fun v K' H' => v = .bool r ∧ H' = []) := by
 refine Fn.enter Tryz.func258 Tryz.call258 rfl fun F => ?_
 unfold Jc0 at hm
 refine ro (qa0 rfl ?_)
 obtain ⟨aY, hm⟩ := qax hm
 obtain ⟨s0, aU, hm⟩ := bnd hm
 refine lD (σ := (Unit)) ([2,3] ++ rg 6 14) [0] (fun i0 => [(6, .int .i64 (i0 : Int))]) (fun _ => []) (fun _ => []) (fun _ => True) (fun i0 _ => Jbd (s.drop i0) i0 = some s0) (fun t0 => s0 = Fl.go t0) (fun i0 => s.length - i0) 0 () aU (And.intro qe (And.intro ?_ ?_))
 clear aU
 rintro i0 _ _ aU j0
 conv at aU => whnf
 refine qac rfl ?_
 refine qae ?_ ?_ <;> intro w0
 obtain ⟨e0, aW, aZ⟩ := ltx w0
 rw [aZ, Jbd.eq_2] at aU
 refine qal rfl ?_
 refine qah rfl ?_
 refine qay rfl (nn _) aW ?_
 obtain ⟨ba, aV, aU⟩ := bnd aU
 refine cS aV (fun aS aV => ?_) fun aS aV => ?_
 refine ct aS (ct aS (ct aS (ct aS (qac rfl (cT ?_)))))
 replace aU := ift (si aV).symm aU
 exact eE (er aU hm)
 refine cf aS (cf aS (qay rfl (nn _) aW (cf aS (cf aS (qac rfl ?_)))))
 refine qae ?_ ?_ <;> intro aX
 replace aU := ift ((si aV).symm.trans aX) aU
 exact eE (er aU hm)
 replace aU := qa7 ((si aV).symm.trans aX) aU
 refine qam (qbj aW aY) ?_
 exact eR aU (_, ())
 rw [lty w0, Jbd.eq_1] at aU
 refine cT ?_
 exact eM aU _
 rintro t0 _ rfl j0
 replace hm := elg hm
 refine qah rfl ?_
 refine ro (qa0 rfl ?_)
 refine qae ?_ ?_ <;> intro aT
 refine ct aT (ro (qa0 rfl (ct aT (ct aT ?_))))
 exact bE (qcr (b := decide ((s.length : Int) ≤ 9)) aT) (eE hm)
 refine cf aT (cf aT (cf aT ?_))
 exact bE (((qa9 aT)).symm) (eE hm)

def Ja8 : List UInt8 → Nat → Str → Option (Fl (Str × Err) (Str))
  | [], _, ac => some (Fl.go ac)
  | e0 :: aT, i0, ac =>
    (if decide ((e0.toNat : Int) < 32) then some true else some (decide ((e0.toNat : Int) > 126))).bind fun aS =>
    if aS then
    some (Fl.ret (([] : Str), (some 2)))
    else
    (if decide ((e0.toNat : Int) = 34) then some true else some (decide ((e0.toNat : Int) = 92))).bind fun aU =>
    if aU then
    (chk (ac.length + ([(92 : UInt8)] : Str).length ≤ lim)).bind fun _ =>
    (chk ((ac ++ ([(92 : UInt8)] : Str)).length + ([e0] : Str).length ≤ lim)).bind fun _ =>
    Ja8 aT (i0 + 1) ((ac ++ ([(92 : UInt8)] : Str)) ++ ([e0] : Str))
    else
    (chk (ac.length + ([e0] : Str).length ≤ lim)).bind fun _ =>
    Ja8 aT (i0 + 1) (ac ++ ([e0] : Str))
def JcZ (s : Str) : Option (Str × Err) :=
  (chk (s.length ≤ qbg)).bind fun _ =>
  (Ja8 s 0 ([(34 : UInt8)] : Str)).bind fun s0 => s0.el some fun t0 =>
  (chk (t0.length + ([(34 : UInt8)] : Str).length ≤ lim)).bind fun _ =>
  some ((t0 ++ ([(34 : UInt8)] : Str)), none)
theorem Jdv {s : Str} {K : Hp} {r : Str × Err}
    (hm : JcZ s = some r)  :
    Fn Tryz.prog 238 [str s] K [] (fun v K' H' => v = .tuple #[str r.1, qcy 48 r.2] ∧ H' = []) := by
 refine Fn.enter Tryz.func238 Tryz.call238 rfl fun F => ?_
 unfold JcZ at hm
 refine bsO (len := 1) (enc := eU) (l := ([(34 : UInt8)] : Str)) (cl := [.int .u8 34]) qbe rfl rfl (fun _ _ => rfl) rfl rfl rfl ?_ fun b6 => ?_
 · conv => whnf
   refine cT ?_
   first | done | rfl
 refine ro (qa0 rfl ?_)
 obtain ⟨bg, hm⟩ := qax hm
 obtain ⟨s0, aS, hm⟩ := bnd hm
 refine lD (σ := (Str) × Option Addr × Nat) ([2,3,4,5] ++ rg 9 34) [1] (fun i0 => [(9, .int .i64 (i0 : Int))]) (fun (t0, aV, aW) => [(4, .slice aV t0.length aW)]) (fun (t0, aV, aW) => [qau eU aV 5 1 aW t0]) (fun (t0, aV, aW) => (0 < t0.length → Has aV) ∧ True) (fun i0 (t0, aV, aW) => Ja8 (s.drop i0) i0 t0 = some s0) (fun (t0, aV, aW) => s0 = Fl.go t0) (fun i0 => s.length - i0) 0 (_, _, _) aS (And.intro qe (And.intro ?_ ?_))
 clear aS
 rintro i0 ⟨ac, bt, bm⟩ ⟨bh, _⟩ aS j0
 conv at aS => whnf
 refine qac rfl ?_
 refine qae ?_ ?_ <;> intro w0
 obtain ⟨e0, aY, bB⟩ := ltx w0
 rw [bB, Ja8.eq_2] at aS
 refine qal rfl ?_
 obtain ⟨bf, aX, aS⟩ := bnd aS
 refine jR (σ := Bool) (rg 12 10) (fun aZ => [(21, .bool aZ)]) (fun aZ => aZ = bf) ?_ ?_
 replace aX := bsm aX
 refine qah rfl ?_
 refine qay rfl (nn _) aY ?_
 obtain ⟨bH, bc, aX⟩ := bnd aX
 refine cS bc (fun aU bc => ?_) fun aU bc => ?_
 refine ct aU (ct aU (ct aU (ct aU ?_)))
 exact eMq aX _ ⟨bq (si bc), trivial⟩
 refine cf aU (cf aU (qay rfl (nn _) aY (cf aU (cf aU ?_))))
 exact eMq aX _ ⟨bq (si bc), trivial⟩
 rintro aZ rfl bC
 refine cs rfl rfl aS ?_ ?_ <;> intro bF aS
 refine qas rfl ?_
 exact eE (er aS hm)
 refine qah rfl ?_
 refine qay rfl (nn _) aY (qaf ?_)
 obtain ⟨bI, ba, aS⟩ := bnd aS
 refine cS ba (fun aT ba => ?_) fun aT ba => ?_
 refine ct aT (ct aT (ct aT (ct aT (qac rfl (cT ?_)))))
 replace aS := ift (si ba).symm aS
 refine bsO (len := 1) (enc := eU) (l := ([(92 : UInt8)] : Str)) (cl := [.int .u8 92]) qbe rfl rfl (fun _ _ => rfl) rfl rfl rfl ?_ fun bA => ?_
 · conv => whnf
   refine cT ?_
   first | done | rfl
 obtain ⟨bd, aS⟩ := qax aS
 refine apE rfl r1 qbe (qat rfl r0 rfl (fun _ => rfl) (fun _ => rfl)) bd ?_
 intro bz bv bw
 refine qay rfl (nn _) aY ?_
 refine bsO (len := 1) (enc := eU) (l := ([e0] : Str)) (cl := [.int .u8 (e0.toNat : Int)]) qbe rfl rfl (fun _ _ => rfl) rfl rfl rfl ?_ fun bp => ?_
 · conv => whnf
   refine cT ?_
   first | done | rfl
 obtain ⟨bb, aS⟩ := qax aS
 refine apE rfl r1 qbe (qat rfl r0 rfl (fun _ => rfl) (fun _ => rfl)) bb ?_
 intro bl bn br
 refine qam (qbj aY bg) ?_
 exact eR aS (_, _, _, _)
 refine cf aT (cf aT (qay rfl (nn _) aY (cf aT (qaf (cf aT (qac rfl ?_))))))
 refine qae ?_ ?_ <;> intro bo
 replace aS := ift ((si ba).symm.trans bo) aS
 refine bsO (len := 1) (enc := eU) (l := ([(92 : UInt8)] : Str)) (cl := [.int .u8 92]) qbe rfl rfl (fun _ _ => rfl) rfl rfl rfl ?_ fun bA => ?_
 · conv => whnf
   refine cT ?_
   first | done | rfl
 obtain ⟨bd, aS⟩ := qax aS
 refine apE rfl r1 qbe (qat rfl r0 rfl (fun _ => rfl) (fun _ => rfl)) bd ?_
 intro bz bv bw
 refine qay rfl (nn _) aY ?_
 refine bsO (len := 1) (enc := eU) (l := ([e0] : Str)) (cl := [.int .u8 (e0.toNat : Int)]) qbe rfl rfl (fun _ _ => rfl) rfl rfl rfl ?_ fun bp => ?_
 · conv => whnf
   refine cT ?_
   first | done | rfl
 obtain ⟨bb, aS⟩ := qax aS
 refine apE rfl r1 qbe (qat rfl r0 rfl (fun _ => rfl) (fun _ => rfl)) bb ?_
 intro bl bn br
 refine qam (qbj aY bg) ?_
 exact eR aS (_, _, _, _)
 replace aS := qa7 ((si ba).symm.trans bo) aS
 refine qay rfl (nn _) aY ?_
 refine bsO (len := 1) (enc := eU) (l := ([e0] : Str)) (cl := [.int .u8 (e0.toNat : Int)]) qbe rfl rfl (fun _ _ => rfl) rfl rfl rfl ?_ fun bp => ?_
 · conv => whnf
   refine cT ?_
   first | done | rfl
 obtain ⟨bb, aS⟩ := qax aS
 refine apE rfl r1 qbe (qat rfl r0 rfl (fun _ => rfl) (fun _ => rfl)) bb ?_
 intro bl bn br
 refine qam (qbj aY bg) ?_
 exact eR aS (_, _, _, _)
 rw [lty w0, Ja8.eq_1] at aS
 refine cT ?_
 exact eM aS (_, _, _)
 rintro ⟨t0, aV, aW⟩ ⟨bj, _⟩ rfl j0
 replace hm := elg hm
 refine bsO (len := 1) (enc := eU) (l := ([(34 : UInt8)] : Str)) (cl := [.int .u8 34]) qbe rfl rfl (fun _ _ => rfl) rfl rfl rfl ?_ fun bG => ?_
 · conv => whnf
   refine cT ?_
   first | done | rfl
 obtain ⟨bu, hm⟩ := qax hm
 refine apE rfl r1 qbe (qat rfl r0 rfl (fun _ => rfl) (fun _ => rfl)) bu ?_
 intro bD bK bJ
 refine ro (qdm rfl r0 rfl rfl rfl ?_)
 exact eE hm

def Jbe (s : Str) : Option (Bool) :=
  (JcZ s).bind fun x7 =>
  some x7.2.isNone
theorem JbX {s : Str} {K : Hp} {r : Bool}
    (hm : Jbe s = some r)  :
    Fn Tryz.prog 225 [str s] K [] (fun v K' H' => v = .bool r ∧ H' = []) := by
 refine Fn.enter Tryz.func225 Tryz.call225 rfl fun F => ?_
 unfold Jbe at hm
 refine cb hm fun x7 q7 hm => cg0 (Jdv q7 :) ?_
 refine qew rfl ?_
 exact eE hm

def Jb9 (n : Nat) (s : Str) : Option (Bool) :=
  (JcW n s).bind fun x7 =>
  (if (x7.2.isNone && decide ((x7.1.length : Int) = 2)) then (ix x7.1 0).bind fun aV =>
  some (decide (aV.Ab = 1)) else some false).bind fun aS =>
  (if aS then (ix x7.1 0).bind fun aU =>
  some (decide (aU.Ac = s)) else some false).bind fun aX =>
  (if aX then (JbW s).bind fun aW =>
  some (!aW) else some false).bind fun aT =>
  some aT
theorem JcD {n : Nat} {s : Str} {K : Hp} {r : Bool}
    (hm : Jb9 n s = some r) (hG : GG K) :
    Fn Tryz.prog 226 [str s] K [] (fun v K' H' => v = .bool r ∧ H' = []) := by
 refine Fn.enter Tryz.func226 Tryz.call226 rfl fun F => ?_
 unfold Jb9 at hm
 refine cb hm fun x7 q7 hm => ck0 (Jdu q7 :) ?_
 rintro _ _ _ ⟨bj, bl, rfl, aZ, rfl⟩
 refine qah rfl ?_
 refine qew rfl ?_
 refine qae ?_ ?_ <;> intro aU
 refine ct aU (ro (qak rfl (ct aU (qaf (ct aU ?_)))))
 obtain ⟨bh, aY, hm⟩ := bnd hm
 refine qae ?_ ?_ <;> intro aT
 replace aY := ift (qct aU aT) aY
 refine ct aT ?_
 obtain ⟨bn, bf, ba, aY⟩ := ixb aY
 refine RStep.ofN (qad rfl rfl (qcm aZ ba) bf (qaz rfl bf ba) (ct aT (qa8 rfl (qcm aZ ba) (ct aT (ro (qby (i := (0 : Int).toNat) (o := 0) r0 rfl ba rfl rfl (ct aT (qaf (ct aT ?_)))))))))
 obtain ⟨bd, aX, hm⟩ := bnd hm
 refine qae ?_ ?_ <;> intro aS
 replace aX := ift ((si aY).symm.trans aS) aX
 refine ct aS ?_
 obtain ⟨bp, bg, bb, aX⟩ := ixb aX
 refine RStep.ofN (qad rfl rfl (qcm aZ bb) bg (qaz rfl bg bb) (ct aS (qa8 rfl (qcm aZ bb) (ct aS (ro (qby (i := (0 : Int).toNat) (o := 1) r0 rfl bb rfl rfl (ct aS (ct aS (qaq ?_)))))))))
 refine ct aS ?_
 obtain ⟨bc, aW, hm⟩ := bnd hm
 refine qae ?_ ?_ <;> intro aV
 replace aW := ift ((si aX).symm.trans aV) aW
 refine ct aV ?_
 refine cb aW fun bo bm aW => cgx (Jcp bm :) ?_
 refine ct aV (qaw (ct aV ?_))
 exact bE (si aW) (eE hm)
 replace aW := qa7 ((si aX).symm.trans aV) aW
 refine cf aV (cf aV (cf aV ?_))
 exact bE (si aW) (eE hm)
 replace aX := qa7 ((si aY).symm.trans aS) aX
 refine cf aS (cf aS (cf aS (cf aS (cf aS (cf aS ?_)))))
 obtain ⟨bc, aW, hm⟩ := bnd hm
 replace aW := qa7 (si aX).symm aW
 refine cF (cF (cF (cF ?_)))
 exact bE (si aW) (eE hm)
 replace aY := qa7 (qcu aU aT) aY
 refine cf aT (cf aT (cf aT (cf aT (cf aT ?_))))
 obtain ⟨bd, aX, hm⟩ := bnd hm
 replace aX := qa7 (si aY).symm aX
 refine cF (cF (cF (cF (cF (cF (cF ?_))))))
 obtain ⟨bc, aW, hm⟩ := bnd hm
 replace aW := qa7 (si aX).symm aW
 refine cF (cF (cF (cF ?_)))
 exact bE (si aW) (eE hm)
 refine cf aU (cf aU (cf aU ?_))
 obtain ⟨bh, aY, hm⟩ := bnd hm
 replace aY := qa7 (qa9 aU) aY
 refine cF (cF (cF (cF (cF (cF ?_)))))
 obtain ⟨bd, aX, hm⟩ := bnd hm
 replace aX := qa7 (si aY).symm aX
 refine cF (cF (cF (cF (cF (cF (cF ?_))))))
 obtain ⟨bc, aW, hm⟩ := bnd hm
 replace aW := qa7 (si aX).symm aW
 refine cF (cF (cF (cF ?_)))
 exact bE (si aW) (eE hm)

def JcE (n : Nat) (n' : Ja) : Option (Int) :=
  if decide (n'.Ab = 13) then
  if (!decide (n'.Ac = ([] : Str))) then
  some (-2)
  else
  some 2
  else
  if decide (n'.Ab = 14) then
  if (!decide (n'.Ac = ([] : Str))) then
  some (-2)
  else
  some 2
  else
  if decide (n'.Ab = 17) then
  if (!decide (n'.Ac = ([] : Str))) then
  some (-2)
  else
  some 2
  else
  if decide (n'.Ab = 18) then
  if (!decide (n'.Ac = ([] : Str))) then
  some (-2)
  else
  some 2
  else
  if decide (n'.Ab = 19) then
  if (!decide (n'.Ac = ([] : Str))) then
  some (-2)
  else
  some 2
  else
  if decide (n'.Ab = 15) then
  if (!decide (n'.Ac = ([] : Str))) then
  some (-2)
  else
  some 1
  else
  if decide (n'.Ab = 16) then
  (Jbs 4 n'.Ac).bind fun aW =>
  (if aW then some true else (Jbs 1 n'.Ac).bind fun aY =>
  some aY).bind fun aV =>
  if (!aV) then
  some (-2)
  else
  some 2
  else
  if decide (n'.Ab = 20) then
  (Jc0 n'.Ac).bind fun aX =>
  if (!aX) then
  some (-2)
  else
  some 0
  else
  if decide (n'.Ab = 21) then
  (Jbe n'.Ac).bind fun aS =>
  if (!aS) then
  some (-2)
  else
  some 0
  else
  if decide (n'.Ab = 22) then
  if (!(decide (n'.Ac = ([116, 114, 117, 101] : Str)) || decide (n'.Ac = ([102, 97, 108, 115, 101] : Str)))) then
  some (-2)
  else
  some 0
  else
  if decide (n'.Ab = 23) then
  (Jb9 n n'.Ac).bind fun aT =>
  if (!aT) then
  some (-2)
  else
  some 0
  else
  if decide (n'.Ab = 24) then
  (Jb9 n n'.Ac).bind fun aU =>
  if (!aU) then
  some (-2)
  else
  some (-1)
  else
  some (-2)
theorem JdI {n : Nat} {n' : Ja} {aa : Option Addr} {ab : Nat} {K : Hp} {r : Int}
    (hm : JcE n n' = some r) (hX : LiC Ja.R K aa ab 4 n'.Aa ∧ GG K) :
    Fn Tryz.prog 242 [.agg #[.int .i64 n'.Ab, str n'.Ac, .slice aa n'.Aa.length ab, .int .i64 n'.Ad]] K [] (fun v K' H' => v = .int .i64 r ∧ H' = []) := by
 obtain ⟨ae, hG⟩ := hX
 refine Fn.enter Tryz.func242 Tryz.call242 rfl fun F => ?_
 unfold JcE at hm
 refine qar ?_
 intro b1
 refine fa rfl (ro (ld r0 rfl rfl (qaq (fa rfl (ro (ld r0 rfl rfl ?_))))))
 refine qal rfl ?_
 refine qaf (cs rfl rfl hm ?_ ?_) <;> intro aW hm
 refine qac rfl (ct aW (qaw ?_))
 refine cs rfl rfl hm ?_ ?_ <;> intro aU hm
 exact eE hm
 exact eE hm
 refine qaf (cs rfl rfl hm ?_ ?_) <;> intro aW hm
 refine qac rfl (ct aW (qaw ?_))
 refine cs rfl rfl hm ?_ ?_ <;> intro aU hm
 exact eE hm
 exact eE hm
 refine qaf (cs rfl rfl hm ?_ ?_) <;> intro aW hm
 refine qac rfl (ct aW (qaw ?_))
 refine cs rfl rfl hm ?_ ?_ <;> intro aU hm
 exact eE hm
 exact eE hm
 refine qaf (cs rfl rfl hm ?_ ?_) <;> intro aW hm
 refine qac rfl (ct aW (qaw ?_))
 refine cs rfl rfl hm ?_ ?_ <;> intro aU hm
 exact eE hm
 exact eE hm
 refine qaf (cs rfl rfl hm ?_ ?_) <;> intro aW hm
 refine qaw ?_
 refine cs rfl rfl hm ?_ ?_ <;> intro aU hm
 exact eE hm
 exact eE hm
 refine qaf (cs rfl rfl hm ?_ ?_) <;> intro bd hm
 refine qaw ?_
 refine cs rfl rfl hm ?_ ?_ <;> intro aU hm
 exact eE hm
 exact eE hm
 refine qaf (cs rfl rfl hm ?_ ?_) <;> intro bu hm
 refine qah rfl ?_
 refine fa rfl (ro (ld r0 rfl rfl ?_))
 refine cb hm fun bf ba hm => cg0 (Jb6 ba :) ?_
 obtain ⟨bl, aV, hm⟩ := bnd hm
 refine cS aV (fun aT aV => ?_) fun aT aV => ?_
 refine ct aT (ct aT (ct aT (qaw (qac rfl (cF ?_)))))
 replace hm := qa7 (qdg (si aV).symm) hm
 exact eE hm
 refine fa rfl (cf aT (ro (ld r0 rfl rfl (cf aT ?_))))
 refine cb aV fun bt aY aV => cg0 (Jb6 aY :) ?_
 refine cf aT (qaw (qac rfl ?_))
 refine qae ?_ ?_ <;> intro aU
 replace hm := ift (qfh ((si aV).symm.trans (qla aU))) hm
 exact eE hm
 replace hm := qa7 (qdg ((si aV).symm.trans (qib aU))) hm
 exact eE hm
 refine qaf (cs rfl rfl hm ?_ ?_) <;> intro bv hm
 refine fa rfl (ro (ld r0 rfl rfl ?_))
 refine cb hm fun bh aZ hm => cg0 (JdT aZ :) ?_
 refine qaw ?_
 refine cs rfl rfl hm ?_ ?_ <;> intro aU hm
 exact eE hm
 exact eE hm
 refine qaf (cs rfl rfl hm ?_ ?_) <;> intro bn hm
 refine fa rfl (ro (ld r0 rfl rfl ?_))
 refine cb hm fun bj bc hm => cg0 (JbX bc :) ?_
 refine qaw ?_
 refine cs rfl rfl hm ?_ ?_ <;> intro aU hm
 exact eE hm
 exact eE hm
 refine qaf (cs rfl rfl hm ?_ ?_) <;> intro bo hm
 refine qah rfl ?_
 refine fa rfl (ro (ld r0 rfl rfl (qaq ?_)))
 refine qae ?_ ?_ <;> intro aS
 refine ct aS (ct aS (ct aS (qaw (qac rfl (cF ?_)))))
 replace hm := qa7 (qdg (qcj aS)) hm
 exact eE hm
 refine fa rfl (cf aS (ro (ld r0 rfl rfl (cf aS (qaq (cf aS (qaw (qac rfl ?_))))))))
 refine qae ?_ ?_ <;> intro aU
 replace hm := ift (qfh (qeh aS (qla aU))) hm
 exact eE hm
 replace hm := qa7 (qdg (qgx aS (qib aU))) hm
 exact eE hm
 refine qaf (cs rfl rfl hm ?_ ?_) <;> intro bg hm
 refine fa rfl (ro (ld r0 rfl rfl ?_))
 refine cb hm fun bp bb hm => cgx (JcD bb :) ?_
 refine qaw ?_
 refine cs rfl rfl hm ?_ ?_ <;> intro aU hm
 exact eE hm
 exact eE hm
 refine qaf (cs rfl rfl hm ?_ ?_) <;> intro bm hm
 refine fa rfl (ro (ld r0 rfl rfl ?_))
 refine cb hm fun br aX hm => cgx (JcD aX :) ?_
 refine qaw ?_
 refine cs rfl rfl hm ?_ ?_ <;> intro aU hm
 exact eE hm
 exact eE hm
 exact eE hm

def JV (rec_ : (Ja → Option (Bool))) : List Ja → Nat → Option (Fl (Bool) (Unit))
  | [], _ => some (Fl.go ())
  | e0 :: aT, i0 =>
    (rec_ e0).bind fun aS =>
    if (!aS) then
    some (Fl.ret false)
    else
    JV rec_ aT (i0 + 1)
def JL : Nat → Ja → Option (Bool)
  | 0, _ => none
  | n + 1, n' =>
    (JcE n n').bind fun x7 =>
    if decide (x7 = (-2)) then
    some false
    else
    if (decide (x7 ≥ 0) && decide ((n'.Aa.length : Int) ≠ x7)) then
    some false
    else
    (chk (n'.Aa.length ≤ qbg)).bind fun _ =>
    (JV (JL n) n'.Aa 0).bind fun s0 => s0.el some fun t0 =>
    some true
theorem JW : ∀ {n : Nat} {n' : Ja} {aa : Option Addr} {ab : Nat} {K : Hp} {r : Bool}
    (hm : JL n n' = some r) (hX : LiC Ja.R K aa ab 4 n'.Aa ∧ GG K),
    Fn Tryz.prog 223 [.agg #[.int .i64 n'.Ab, str n'.Ac, .slice aa n'.Aa.length ab, .int .i64 n'.Ad]] K [] (fun v K' H' => v = .bool r ∧ H' = []) := by
 intro n
 induction n with
 | zero =>
   intro n' aa ab K r hm hX
   rw [JL.eq_1] at hm; cases hm
 | succ n ih =>
   intro n' aa ab K r hm hX
   obtain ⟨ae, hG⟩ := hX
   refine Fn.enter Tryz.func223 Tryz.call223 rfl fun F => ?_
   rw [JL.eq_2] at hm
   refine qar ?_
   intro b1
   refine ro (qab r0 rfl (nl rfl) ?_)
   refine cb hm fun x7 q7 hm => cgx (JdI q7 :) ?_
   refine qah rfl ?_
   refine qaf ?_
   refine cS hm (fun aT hm => ?_) fun aT hm => ?_
   refine ct aT (ct aT (ct aT (ct aT (qac rfl (cT ?_)))))
   exact eE hm
   refine cf aT (cf aT ?_)
   refine qae ?_ ?_ <;> intro aS
   refine fa rfl (ct aS (ro (ld r0 rfl rfl (ct aS (ro (qak rfl (ct aS (ct aS (qa6 ?_)))))))))
   refine cf aT (ct aS (cf aT (qac rfl ?_)))
   refine qae ?_ ?_ <;> intro bj
   replace hm := ift (qct aS bj) hm
   exact eE hm
   replace hm := qa7 (qcu aS bj) hm
   refine fa rfl (ro (ld r0 rfl rfl (ro (qak rfl ?_))))
   obtain ⟨bd, hm⟩ := qax hm
   obtain ⟨s0, aU, hm⟩ := bnd hm
   refine lD (σ := (Unit)) ([2,5] ++ rg 24 8) [0, 1] (fun i0 => [(24, .int .i64 (i0 : Int))]) (fun _ => []) (fun _ => []) (fun _ => True) (fun i0 _ => JV (JL n) (n'.Aa.drop i0) i0 = some s0) (fun t0 => s0 = Fl.go t0) (fun i0 => n'.Aa.length - i0) 0 () aU (And.intro qe (And.intro ?_ ?_))
   clear aU
   rintro i0 _ _ aU j0
   conv at aU => whnf
   refine qac rfl ?_
   refine qae ?_ ?_ <;> intro w0
   obtain ⟨e0, aV, bh⟩ := ltx w0
   rw [bh, JV.eq_2] at aU
   refine qal rfl ?_
   refine RStep.ofN (qad rfl rfl (qc0 ae.rd aV) (nn _) (qbm aV) ?_)
   obtain ⟨bf, bc, aW, aY, aX⟩ := LiR.get ae.rd aV
   obtain ⟨ba, bb, rfl, aZ⟩ := Ja.out aX
   refine ro (qan i0 _ aW rfl aY rfl ?_)
   refine qai rfl fun b5 => ?_
   refine qaa r0 rfl ⟨rfl, rfl, (nl rfl), ?_⟩
   refine ro (qab r0 rfl (nl rfl) ?_)
   refine cb aU fun bm bg aU => cgx (ih bg :) ?_
   refine qaw ?_
   refine cs rfl rfl aU ?_ ?_ <;> intro bl aU
   exact eE (er aU hm)
   refine qam (qbj aV bd) ?_
   exact eR aU (_, ())
   rw [lty w0, JV.eq_1] at aU
   refine cT ?_
   exact eM aU _
   rintro t0 _ rfl j0
   replace hm := elg hm
   exact eE hm
   refine cf aS (cf aS (cf aS (cf aS (cf aT (cf aS (cf aT (qac rfl ?_)))))))
   refine cF ?_
   replace hm := qa7 (qa9 aS) hm
   refine fa rfl (ro (ld r0 rfl rfl (ro (qak rfl ?_))))
   obtain ⟨bd, hm⟩ := qax hm
   obtain ⟨s0, aU, hm⟩ := bnd hm
   refine lD (σ := (Unit)) ([2,5] ++ rg 24 8) [0, 1] (fun i0 => [(24, .int .i64 (i0 : Int))]) (fun _ => []) (fun _ => []) (fun _ => True) (fun i0 _ => JV (JL n) (n'.Aa.drop i0) i0 = some s0) (fun t0 => s0 = Fl.go t0) (fun i0 => n'.Aa.length - i0) 0 () aU (And.intro qe (And.intro ?_ ?_))
   clear aU
   rintro i0 _ _ aU j0
   conv at aU => whnf
   refine qac rfl ?_
   refine qae ?_ ?_ <;> intro w0
   obtain ⟨e0, aV, bh⟩ := ltx w0
   rw [bh, JV.eq_2] at aU
   refine qal rfl ?_
   refine RStep.ofN (qad rfl rfl (qc0 ae.rd aV) (nn _) (qbm aV) ?_)
   obtain ⟨bf, bc, aW, aY, aX⟩ := LiR.get ae.rd aV
   obtain ⟨ba, bb, rfl, aZ⟩ := Ja.out aX
   refine ro (qan i0 _ aW rfl aY rfl ?_)
   refine qai rfl fun b5 => ?_
   refine qaa r0 rfl ⟨rfl, rfl, (nl rfl), ?_⟩
   refine ro (qab r0 rfl (nl rfl) ?_)
   refine cb aU fun bm bg aU => cgx (ih bg :) ?_
   refine qaw ?_
   refine cs rfl rfl aU ?_ ?_ <;> intro bl aU
   exact eE (er aU hm)
   refine qam (qbj aV bd) ?_
   exact eR aU (_, ())
   rw [lty w0, JV.eq_1] at aU
   refine cT ?_
   exact eM aU _
   rintro t0 _ rfl j0
   replace hm := elg hm
   exact eE hm

def Ja3 (aB : (Ja → Option (Bool))) : List Ja → Nat → Option (Fl (Bool) (Unit))
  | [], _ => some (Fl.go ())
  | e0 :: aS, i0 =>
    (aB e0).bind fun aT =>
    if (!aT) then
    some (Fl.ret false)
    else
    Ja3 aB aS (i0 + 1)
def Jce (aB : (Ja → Option (Bool))) (n : Nat) (n' : Ja) : Option (Bool) :=
  if (decide (n'.Ab ≠ 12) || decide (n'.Ac ≠ ([] : Str))) then
  some false
  else
  (chk (n'.Aa.length ≤ qbg)).bind fun _ =>
  (Ja3 aB n'.Aa 0).bind fun s0 => s0.el some fun t0 =>
  some true
theorem Jc1 {aB : (Ja → Option (Bool))} (ihrec2_0 : ∀ {n' : Ja} {aa : Option Addr} {ab : Nat} {K : Hp} {r : Bool} (hm : aB n' = some r) (hX : LiC Ja.R K aa ab 4 n'.Aa ∧ GG K), Fn Tryz.prog 190 [.agg #[.int .i64 n'.Ab, str n'.Ac, .slice aa n'.Aa.length ab, .int .i64 n'.Ad]] K [] (fun v K' H' => v = .bool r ∧ H' = [])) {n : Nat} {n' : Ja} {aa : Option Addr} {ab : Nat} {K : Hp} {r : Bool}
    (hm : Jce aB n n' = some r) (hX : LiC Ja.R K aa ab 4 n'.Aa ∧ GG K) :
    Fn Tryz.prog 224 [.agg #[.int .i64 n'.Ab, str n'.Ac, .slice aa n'.Aa.length ab, .int .i64 n'.Ad]] K [] (fun v K' H' => v = .bool r ∧ H' = []) := by
 obtain ⟨ae, hG⟩ := hX
 refine Fn.enter Tryz.func224 Tryz.call224 rfl fun F => ?_
 unfold Jce at hm
 refine qar ?_
 intro b1
 refine jR (σ := Unit) (rg 5 8) (fun _ => [(12, .bool (decide (n'.Ab ≠ 12) || decide (n'.Ac ≠ ([] : Str))))]) (fun bf => True) ?_ ?_
 refine qah rfl ?_
 refine fa rfl (ro (ld r0 rfl rfl (qa6 ?_)))
 refine qae ?_ ?_ <;> intro aS
 refine ct aS (ct aS (ct aS ?_))
 exact eMt () ⟨bq (((qcj aS)).symm), trivial⟩
 refine fa rfl (cf aS (ro (ld r0 rfl rfl (cf aS (qbp (cf aS ?_))))))
 exact eMt () ⟨bq (qg2 (b := decide (n'.Ac ≠ ([] : Str))) aS), trivial⟩
 rintro _ _ bj
 refine cs rfl rfl hm ?_ ?_ <;> intro bn hm
 exact eE hm
 refine fa rfl (ro (ld r0 rfl rfl (ro (qak rfl ?_))))
 obtain ⟨bb, hm⟩ := qax hm
 obtain ⟨s0, aT, hm⟩ := bnd hm
 refine lD (σ := (Unit)) ([2,4] ++ rg 16 8) [0, 1] (fun i0 => [(16, .int .i64 (i0 : Int))]) (fun _ => []) (fun _ => []) (fun _ => True) (fun i0 _ => Ja3 aB (n'.Aa.drop i0) i0 = some s0) (fun t0 => s0 = Fl.go t0) (fun i0 => n'.Aa.length - i0) 0 () aT (And.intro qe (And.intro ?_ ?_))
 clear aT
 rintro i0 _ _ aT j0
 conv at aT => whnf
 refine qac rfl ?_
 refine qae ?_ ?_ <;> intro w0
 obtain ⟨e0, aU, bh⟩ := ltx w0
 rw [bh, Ja3.eq_2] at aT
 refine qal rfl ?_
 refine RStep.ofN (qad rfl rfl (qc0 ae.rd aU) (nn _) (qbm aU) ?_)
 obtain ⟨bc, bd, aX, aW, aV⟩ := LiR.get ae.rd aU
 obtain ⟨aY, ba, rfl, aZ⟩ := Ja.out aV
 refine ro (qan i0 _ aX rfl aW rfl ?_)
 refine qai rfl fun b4 => ?_
 refine qaa r0 rfl ⟨rfl, rfl, (nl rfl), ?_⟩
 refine ro (qab r0 rfl (nl rfl) ?_)
 refine cb aT fun bl bg aT => cgx (ihrec2_0 bg :) ?_
 refine qaw ?_
 refine cs rfl rfl aT ?_ ?_ <;> intro bm aT
 exact eE (er aT hm)
 refine qam (qbj aU bb) ?_
 exact eR aT (_, ())
 rw [lty w0, Ja3.eq_1] at aT
 refine cT ?_
 exact eM aT _
 rintro t0 _ rfl j0
 replace hm := elg hm
 exact eE hm
