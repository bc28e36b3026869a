/- Functions of the program: mirrors, and that a call returns what the mirror says. Printed by gen.py. -/
import Derived.Test.YtiaaooopklhobaaGreatDoorG1
set_option linter.unusedVariables false
set_option linter.unusedSimpArgs false
open Go Go.SL Go.Proofs
noncomputable section
set_option maxRecDepth 1000000
set_option maxHeartbeats 8000000
def Jw (n : Nat) (p : Jb) (sign : Str) : Option ((List Ja) × Jb) :=
  if decide (sign ≠ ([] : Str)) then
  (JF p sign).bind fun aW =>
  (Jr aW).bind fun aX =>
  if (!aX) then
  some ([], aW)
  else
  (JT n aW).bind fun aV =>
  (Jr aV.2).bind fun aZ =>
  if aZ then
  (JF aV.2 ([59] : Str)).bind fun aY =>
  some ([aV.1], aY)
  else
  some ([aV.1], aV.2)
  else
  (Jr p).bind fun aX =>
  if (!aX) then
  some ([], p)
  else
  (JT n p).bind fun aV =>
  (Jr aV.2).bind fun aZ =>
  if aZ then
  (JF aV.2 ([59] : Str)).bind fun aY =>
  some ([aV.1], aY)
  else
  some ([aV.1], aV.2)
theorem JG {n : Nat} {p : Jb} {sign : Str} {b0 : Nat} {aa : Option Addr} {ab : Nat} {K : Hp} {r : (List Ja) × Jb}
    (hm : Jw n p sign = some r) (hX : (0 < p.list.length → Has aa) ∧ GG K) :
    Fn Tryz.prog 209 [.pointer (some ⟨b0, 0, none⟩), str sign] K [Cells b0 163 [.slice aa p.list.length ab, .int .i64 p.atZ, .int .i64 p.line], OwnL Je.enc aa 166 4 ab p.list] (fun v K' H' => ∃ ar_0 : Option Addr, ∃ cr_0 : Nat, ∃ sr_0 : List (List Value), ∃ ar_1 : Option Addr, ∃ cr_1 : Nat, v = .slice ar_0 r.1.length cr_0 ∧ (0 < r.1.length → Has ar_0) ∧ LR Ja.R K' sr_0 r.1 ∧ (0 < r.2.list.length → Has ar_1) ∧ H' = [OwnA ar_0 117 4 cr_0 sr_0, Cells b0 163 [.slice ar_1 r.2.list.length cr_1, .int .i64 r.2.atZ, .int .i64 r.2.line], OwnL Je.enc ar_1 166 4 cr_1 r.2.list]) := by
 obtain ⟨ae, hG⟩ := hX
 refine Fn.enter Tryz.func209 Tryz.call209 rfl fun F => ?_
 unfold Jw at hm
 refine qbq (cs rfl rfl hm ?_ ?_) <;> intro w7 hm
 refine cb hm fun bJ bD hm => ckx (JN bD :) ?_
 rintro _ _ _ ⟨bA, bw, rfl, bz, rfl⟩
 refine cb hm fun bF bt hm => cgx (Jx bt :) ?_
 refine qav ?_
 refine cs rfl rfl hm ?_ ?_ <;> intro bH hm
 refine qcp (fun _ : Ja => []) 117 4 ?_
 exact eE hm
 refine cb hm fun aV bp hm => cfx (Jb6 bp :) ?_
 rintro _ bB _ bm ⟨aX, aW, bn, bb, bc, rfl, bo, a8, bg, rfl⟩
 refine qai rfl fun b5 => ?_
 refine qaa r0 rfl ⟨rfl, rfl, (nl rfl), ?_⟩
 refine cb hm fun bI bu hm => cgx (Jx bu :) ?_
 refine cs rfl rfl hm ?_ ?_ <;> intro bG hm
 refine cb hm fun bC bv hm => ckx (JN bv :) ?_
 rintro _ _ _ ⟨ba, bh, rfl, bf, rfl⟩
 refine ro (qab r2 rfl (nl rfl) ?_)
 refine qoc Ja.R_ok r3 a8 fun a6 aZ aY => ?_
 refine qmg (R := Ja.R) (len := 1) (l := [aV.1]) (css := [[.int .i64 aV.1.Ab, str aV.1.Ac, .slice aX aV.1.Aa.length aW, .int .i64 aV.1.Ad]]) (cl := [.int .i64 aV.1.Ab, str aV.1.Ac, .slice aX aV.1.Aa.length aW, .int .i64 aV.1.Ad]) Ja.R_ok qb3 rfl rfl (LR.snoc LR.nil (Ja.of (x := aV.1) ⟨aX, aW, rfl, aY⟩)) rfl rfl rfl ?_ fun bj => ?_
 · conv => whnf
   refine cT ?_
   first | done | rfl
 cases hm
 exact en (bm.trans aZ) ⟨(some ⟨bj, 0, none⟩), 1, ([[.int .i64 aV.1.Ab, str aV.1.Ac, .slice aX aV.1.Aa.length aW, .int .i64 aV.1.Ad]]), ba, bh, rfl, (fun _ => ⟨_, _, rfl⟩), (show LR Ja.R _ [[.int .i64 aV.1.Ab, str aV.1.Ac, .slice aX aV.1.Aa.length aW, .int .i64 aV.1.Ad]] [aV.1] from (LR.snoc LR.nil (Ja.of (x := aV.1) ⟨aX, aW, rfl, aY⟩))), bf, rfl⟩ (sc [0,0,0,1] rfl)
 refine ro (qab r2 rfl (nl rfl) ?_)
 refine qoc Ja.R_ok r3 a8 fun a6 aZ aY => ?_
 refine qmg (R := Ja.R) (len := 1) (l := [aV.1]) (css := [[.int .i64 aV.1.Ab, str aV.1.Ac, .slice aX aV.1.Aa.length aW, .int .i64 aV.1.Ad]]) (cl := [.int .i64 aV.1.Ab, str aV.1.Ac, .slice aX aV.1.Aa.length aW, .int .i64 aV.1.Ad]) Ja.R_ok qb3 rfl rfl (LR.snoc LR.nil (Ja.of (x := aV.1) ⟨aX, aW, rfl, aY⟩)) rfl rfl rfl ?_ fun bj => ?_
 · conv => whnf
   refine cT ?_
   first | done | rfl
 cases hm
 exact en (bm.trans aZ) ⟨(some ⟨bj, 0, none⟩), 1, ([[.int .i64 aV.1.Ab, str aV.1.Ac, .slice aX aV.1.Aa.length aW, .int .i64 aV.1.Ad]]), bb, bc, rfl, (fun _ => ⟨_, _, rfl⟩), (show LR Ja.R _ [[.int .i64 aV.1.Ab, str aV.1.Ac, .slice aX aV.1.Aa.length aW, .int .i64 aV.1.Ad]] [aV.1] from (LR.snoc LR.nil (Ja.of (x := aV.1) ⟨aX, aW, rfl, aY⟩))), bg, rfl⟩ (sc [0,0,0,1] rfl)
 refine cb hm fun bF bt hm => cgx (Jx bt :) ?_
 refine qav ?_
 refine cs rfl rfl hm ?_ ?_ <;> intro bH hm
 refine qcp (fun _ : Ja => []) 117 4 ?_
 exact eE hm
 refine cb hm fun aV bp hm => cfx (Jb6 bp :) ?_
 rintro _ bB _ bm ⟨aX, aW, bn, bb, bc, rfl, bo, a8, bg, rfl⟩
 refine qai rfl fun b5 => ?_
 refine qaa r0 rfl ⟨rfl, rfl, (nl rfl), ?_⟩
 refine cb hm fun bI bu hm => cgx (Jx bu :) ?_
 refine cs rfl rfl hm ?_ ?_ <;> intro bG hm
 refine cb hm fun bC bv hm => ckx (JN bv :) ?_
 rintro _ _ _ ⟨ba, bh, rfl, bf, rfl⟩
 refine ro (qab r2 rfl (nl rfl) ?_)
 refine qoc Ja.R_ok r3 a8 fun a6 aZ aY => ?_
 refine qmg (R := Ja.R) (len := 1) (l := [aV.1]) (css := [[.int .i64 aV.1.Ab, str aV.1.Ac, .slice aX aV.1.Aa.length aW, .int .i64 aV.1.Ad]]) (cl := [.int .i64 aV.1.Ab, str aV.1.Ac, .slice aX aV.1.Aa.length aW, .int .i64 aV.1.Ad]) Ja.R_ok qb3 rfl rfl (LR.snoc LR.nil (Ja.of (x := aV.1) ⟨aX, aW, rfl, aY⟩)) rfl rfl rfl ?_ fun bj => ?_
 · conv => whnf
   refine cT ?_
   first | done | rfl
 cases hm
 exact en (bm.trans aZ) ⟨(some ⟨bj, 0, none⟩), 1, ([[.int .i64 aV.1.Ab, str aV.1.Ac, .slice aX aV.1.Aa.length aW, .int .i64 aV.1.Ad]]), ba, bh, rfl, (fun _ => ⟨_, _, rfl⟩), (show LR Ja.R _ [[.int .i64 aV.1.Ab, str aV.1.Ac, .slice aX aV.1.Aa.length aW, .int .i64 aV.1.Ad]] [aV.1] from (LR.snoc LR.nil (Ja.of (x := aV.1) ⟨aX, aW, rfl, aY⟩))), bf, rfl⟩ (sc [0,0,0,1] rfl)
 refine ro (qab r2 rfl (nl rfl) ?_)
 refine qoc Ja.R_ok r3 a8 fun a6 aZ aY => ?_
 refine qmg (R := Ja.R) (len := 1) (l := [aV.1]) (css := [[.int .i64 aV.1.Ab, str aV.1.Ac, .slice aX aV.1.Aa.length aW, .int .i64 aV.1.Ad]]) (cl := [.int .i64 aV.1.Ab, str aV.1.Ac, .slice aX aV.1.Aa.length aW, .int .i64 aV.1.Ad]) Ja.R_ok qb3 rfl rfl (LR.snoc LR.nil (Ja.of (x := aV.1) ⟨aX, aW, rfl, aY⟩)) rfl rfl rfl ?_ fun bj => ?_
 · conv => whnf
   refine cT ?_
   first | done | rfl
 cases hm
 exact en (bm.trans aZ) ⟨(some ⟨bj, 0, none⟩), 1, ([[.int .i64 aV.1.Ab, str aV.1.Ac, .slice aX aV.1.Aa.length aW, .int .i64 aV.1.Ad]]), bb, bc, rfl, (fun _ => ⟨_, _, rfl⟩), (show LR Ja.R _ [[.int .i64 aV.1.Ab, str aV.1.Ac, .slice aX aV.1.Aa.length aW, .int .i64 aV.1.Ad]] [aV.1] from (LR.snoc LR.nil (Ja.of (x := aV.1) ⟨aX, aW, rfl, aY⟩))), bg, rfl⟩ (sc [0,0,0,1] rfl)

def Jbk (p : Jb) : Option (Str × Jb) :=
  (JE p).bind fun x4 =>
  if decide (x4.Ab ≠ 3) then
  (J2 p).bind fun x8 =>
  some (([] : Str), x8)
  else
  (Jm p).bind fun aV =>
  some (aV.1.Ac, aV.2)
theorem JcK {p : Jb} {b0 : Nat} {aa : Option Addr} {ab : Nat} {K : Hp} {r : Str × Jb}
    (hm : Jbk p = some r) (ae : (0 < p.list.length → Has aa)) :
    Fn Tryz.prog 210 [.pointer (some ⟨b0, 0, none⟩)] K [Cells b0 163 [.slice aa p.list.length ab, .int .i64 p.atZ, .int .i64 p.line], OwnL Je.enc aa 166 4 ab p.list] (fun v K' H' => ∃ ar_0 : Option Addr, ∃ cr_0 : Nat, v = str r.1 ∧ (0 < r.2.list.length → Has ar_0) ∧ H' = [Cells b0 163 [.slice ar_0 r.2.list.length cr_0, .int .i64 r.2.atZ, .int .i64 r.2.line], OwnL Je.enc ar_0 166 4 cr_0 r.2.list]) := by
 refine Fn.enter Tryz.func210 Tryz.call210 rfl fun F => ?_
 unfold Jbk at hm
 refine cb hm fun x4 q4 hm => cgx (JS q4 :) ?_
 refine Jdt rfl rfl rfl rfl ?_
 refine qbb (cs rfl rfl hm ?_ ?_) <;> intro w6 hm
 refine cb hm fun x8 q8 hm => ckx (Jat q8 :) ?_
 rintro _ _ _ ⟨aZ, a6, rfl, aY, rfl⟩
 exact eE hm
 refine cb hm fun ba a8 hm => ckx (Jo a8 :) ?_
 rintro _ _ _ ⟨aX, aW, rfl, aV, rfl⟩
 refine Jdt rfl rfl rfl rfl ?_
 exact eE hm

def JaM (aq : (Jb → Option ((List Ja) × Jb))) (n : Nat) (p : Jb) : Option (Ja × Jb) :=
  (JE p).bind fun x5 =>
  (JF p ([123] : Str)).bind fun x9 =>
  (Jr x9).bind fun aX =>
  if aX then
  (aq x9).bind fun aV =>
  (JF aV.2 ([125] : Str)).bind fun aW =>
  some ((⟨12, ([] : Str), aV.1, x5.Ad⟩ : Ja), aW)
  else
  some ((⟨12, ([] : Str), [], x5.Ad⟩ : Ja), x9)
theorem JbY {aq : (Jb → Option ((List Ja) × Jb))} (ihrec1_0 : ∀ {p : Jb} {b0 : Nat} {aa : Option Addr} {ab : Nat} {K : Hp} {r : (List Ja) × Jb} (hm : aq p = some r) (hX : (0 < p.list.length → Has aa) ∧ GG K), Fn Tryz.prog 97 [.pointer (some ⟨b0, 0, none⟩)] K [Cells b0 163 [.slice aa p.list.length ab, .int .i64 p.atZ, .int .i64 p.line], OwnL Je.enc aa 166 4 ab p.list] (fun v K' H' => ∃ ar_0 : Option Addr, ∃ cr_0 : Nat, ∃ sr_0 : List (List Value), ∃ ar_1 : Option Addr, ∃ cr_1 : Nat, v = .slice ar_0 r.1.length cr_0 ∧ (0 < r.1.length → Has ar_0) ∧ LR Ja.R K' sr_0 r.1 ∧ (0 < r.2.list.length → Has ar_1) ∧ H' = [OwnA ar_0 117 4 cr_0 sr_0, Cells b0 163 [.slice ar_1 r.2.list.length cr_1, .int .i64 r.2.atZ, .int .i64 r.2.line], OwnL Je.enc ar_1 166 4 cr_1 r.2.list])) {n : Nat} {p : Jb} {b0 : Nat} {aa : Option Addr} {ab : Nat} {K : Hp} {r : Ja × Jb}
    (hm : JaM aq n p = some r) (hX : (0 < p.list.length → Has aa) ∧ GG K) :
    Fn Tryz.prog 237 [.pointer (some ⟨b0, 0, none⟩)] K [Cells b0 163 [.slice aa p.list.length ab, .int .i64 p.atZ, .int .i64 p.line], OwnL Je.enc aa 166 4 ab p.list] (fun v K' H' => ∃ ar_0 : Option Addr, ∃ cr_0 : Nat, ∃ sr_0 : List (List Value), ∃ ar_1 : Option Addr, ∃ cr_1 : Nat, v = .agg #[.int .i64 r.1.Ab, str r.1.Ac, .slice ar_0 r.1.Aa.length cr_0, .int .i64 r.1.Ad] ∧ (0 < r.1.Aa.length → Has ar_0) ∧ LR Ja.R K' sr_0 r.1.Aa ∧ (0 < r.2.list.length → Has ar_1) ∧ H' = [OwnA ar_0 117 4 cr_0 sr_0, Cells b0 163 [.slice ar_1 r.2.list.length cr_1, .int .i64 r.2.atZ, .int .i64 r.2.line], OwnL Je.enc ar_1 166 4 cr_1 r.2.list]) := by
 obtain ⟨ae, hG⟩ := hX
 refine Fn.enter Tryz.func237 Tryz.call237 rfl fun F => ?_
 unfold JaM at hm
 refine qai rfl fun b2 => ?_
 refine cb hm fun x5 q5 hm => cgx (JS q5 :) ?_
 refine Jdt rfl rfl rfl rfl ?_
 refine qak rfl rfl (cT (cT ?_))
 refine qai rfl fun b3 => ?_
 refine qaa r0 rfl ⟨rfl, rfl, (nl rfl), ?_⟩
 refine cb hm fun x9 q9 hm => ckx (JN q9 :) ?_
 rintro _ _ _ ⟨bj, bg, rfl, bn, rfl⟩
 refine cb hm fun bt bh hm => cgx (Jx bh :) ?_
 refine cs rfl rfl hm ?_ ?_ <;> intro bu hm
 refine cb hm fun bv bm hm => cfx (ihrec1_0 bm :) ?_
 rintro _ bp _ bw ⟨bf, bb, aV, aY, aX, rfl, aZ, ba, aW, rfl⟩
 refine fa rfl ?_
 refine qaa r3 rfl ⟨rfl, rfl, (nl rfl), ?_⟩
 refine cb hm fun bz bo hm => ckx (JN bo :) ?_
 rintro _ _ _ ⟨a6, a8, rfl, bc, rfl⟩
 refine ro (qab r2 rfl (nl rfl) ?_)
 refine qaa r4 rfl ⟨rfl, rfl, (nl rfl), ?_⟩
 exact ro (qab r0 rfl (nl rfl) (eE hm))
 refine ro (qab r2 rfl (nl rfl) ?_)
 refine qaa r3 rfl ⟨rfl, rfl, (nl rfl), ?_⟩
 refine ro (qab r0 rfl (nl rfl) ?_)
 refine qcp (fun _ : Ja => []) 117 4 ?_
 exact eE hm

def Jam (aq : (Jb → Option ((List Ja) × Jb))) : Nat → Jb → Int → Option (Ja × Jb)
  | 0, _, _ => none
  | n + 1, p, line =>
    (JT n p).bind fun aV =>
    (chk ([aV.1].length ≤ lim)).bind fun _ =>
    (Jr aV.2).bind fun bc =>
    if bc then
    (JaM aq n aV.2).bind fun am =>
    (chk ([aV.1].length + [am.1].length ≤ lim)).bind fun _ =>
    (Jr am.2).bind fun a6 =>
    (if (!a6) then some true else (Jy am.2 1 ([101, 108, 115, 101] : Str)).bind fun bb =>
    some (!bb)).bind fun a8 =>
    if a8 then
    some ((⟨2, ([] : Str), ([aV.1] ++ [am.1]), line⟩ : Ja), am.2)
    else
    (Jm am.2).bind fun aX =>
    (Jy aX.2 1 ([105, 102] : Str)).bind fun ba =>
    if ba then
    (Jm aX.2).bind fun aZ =>
    ((Jam aq n) aZ.2 aZ.1.Ad).bind fun aW =>
    (chk (([aV.1] ++ [am.1]).length + [aW.1].length ≤ lim)).bind fun _ =>
    some ((⟨2, ([] : Str), (([aV.1] ++ [am.1]) ++ [aW.1]), line⟩ : Ja), aW.2)
    else
    (JaM aq n aX.2).bind fun aY =>
    (chk (([aV.1] ++ [am.1]).length + [aY.1].length ≤ lim)).bind fun _ =>
    some ((⟨2, ([] : Str), (([aV.1] ++ [am.1]) ++ [aY.1]), line⟩ : Ja), aY.2)
    else
    (Jr aV.2).bind fun a6 =>
    (if (!a6) then some true else (Jy aV.2 1 ([101, 108, 115, 101] : Str)).bind fun bb =>
    some (!bb)).bind fun a8 =>
    if a8 then
    some ((⟨2, ([] : Str), [aV.1], line⟩ : Ja), aV.2)
    else
    (Jm aV.2).bind fun aX =>
    (Jy aX.2 1 ([105, 102] : Str)).bind fun ba =>
    if ba then
    (Jm aX.2).bind fun aZ =>
    ((Jam aq n) aZ.2 aZ.1.Ad).bind fun aW =>
    (chk ([aV.1].length + [aW.1].length ≤ lim)).bind fun _ =>
    some ((⟨2, ([] : Str), ([aV.1] ++ [aW.1]), line⟩ : Ja), aW.2)
    else
    (JaM aq n aX.2).bind fun aY =>
    (chk ([aV.1].length + [aY.1].length ≤ lim)).bind fun _ =>
    some ((⟨2, ([] : Str), ([aV.1] ++ [aY.1]), line⟩ : Ja), aY.2)
theorem Jdk {aq : (Jb → Option ((List Ja) × Jb))} (ihrec1_0 : ∀ {p : Jb} {b0 : Nat} {aa : Option Addr} {ab : Nat} {K : Hp} {r : (List Ja) × Jb} (hm : aq p = some r) (hX : (0 < p.list.length → Has aa) ∧ GG K), Fn Tryz.prog 97 [.pointer (some ⟨b0, 0, none⟩)] K [Cells b0 163 [.slice aa p.list.length ab, .int .i64 p.atZ, .int .i64 p.line], OwnL Je.enc aa 166 4 ab p.list] (fun v K' H' => ∃ ar_0 : Option Addr, ∃ cr_0 : Nat, ∃ sr_0 : List (List Value), ∃ ar_1 : Option Addr, ∃ cr_1 : Nat, v = .slice ar_0 r.1.length cr_0 ∧ (0 < r.1.length → Has ar_0) ∧ LR Ja.R K' sr_0 r.1 ∧ (0 < r.2.list.length → Has ar_1) ∧ H' = [OwnA ar_0 117 4 cr_0 sr_0, Cells b0 163 [.slice ar_1 r.2.list.length cr_1, .int .i64 r.2.atZ, .int .i64 r.2.line], OwnL Je.enc ar_1 166 4 cr_1 r.2.list])) : ∀ {n : Nat} {p : Jb} {line : Int} {b0 : Nat} {aa : Option Addr} {ab : Nat} {K : Hp} {r : Ja × Jb}
    (hm : Jam aq n p line = some r) (hX : (0 < p.list.length → Has aa) ∧ GG K),
    Fn Tryz.prog 207 [.pointer (some ⟨b0, 0, none⟩), .int .i64 line] K [Cells b0 163 [.slice aa p.list.length ab, .int .i64 p.atZ, .int .i64 p.line], OwnL Je.enc aa 166 4 ab p.list] (fun v K' H' => ∃ ar_0 : Option Addr, ∃ cr_0 : Nat, ∃ sr_0 : List (List Value), ∃ ar_1 : Option Addr, ∃ cr_1 : Nat, v = .agg #[.int .i64 r.1.Ab, str r.1.Ac, .slice ar_0 r.1.Aa.length cr_0, .int .i64 r.1.Ad] ∧ (0 < r.1.Aa.length → Has ar_0) ∧ LR Ja.R K' sr_0 r.1.Aa ∧ (0 < r.2.list.length → Has ar_1) ∧ H' = [OwnA ar_0 117 4 cr_0 sr_0, Cells b0 163 [.slice ar_1 r.2.list.length cr_1, .int .i64 r.2.atZ, .int .i64 r.2.line], OwnL Je.enc ar_1 166 4 cr_1 r.2.list]) := by
 intro n
 induction n with
 | zero =>
   intro p line b0 aa ab K r hm hX
   rw [Jam.eq_1] at hm; cases hm
 | succ n ih =>
   intro p line b0 aa ab K r hm hX
   obtain ⟨ae, hG⟩ := hX
   refine Fn.enter Tryz.func207 Tryz.call207 rfl fun F => ?_
   rw [Jam.eq_2] at hm
   refine qai rfl fun b4 => ?_
   refine qak rfl rfl (cT (cT ?_))
   refine qai rfl fun b5 => ?_
   refine qaa r0 rfl ⟨rfl, rfl, (nl rfl), ?_⟩
   refine qa6 ⟨⟨[], false⟩, _, [(_, _)], []⟩ 5 rfl (by kernel_rfl) ⟨Hp.Le.refl _, (pf rfl), ci0⟩ ?_
   refine fa rfl (qap m0 rfl rfl ?_)
   refine cb hm fun bp cP hm => cfx (Jb6 cP :) ?_
   rintro _ dh _ c4 ⟨bj, bg, cD, cu, cz, rfl, cw, bS, cI, rfl⟩
   refine qk (sc [3] rfl) ?_
   refine qoc Ja.R_ok r0 bS fun bY bw bm => ?_
   refine qmg (R := Ja.R) (len := 1) (l := [bp.1]) (css := [[.int .i64 bp.1.Ab, str bp.1.Ac, .slice bj bp.1.Aa.length bg, .int .i64 bp.1.Ad]]) (cl := [.int .i64 bp.1.Ab, str bp.1.Ac, .slice bj bp.1.Aa.length bg, .int .i64 bp.1.Ad]) Ja.R_ok qb3 rfl rfl (LR.snoc LR.nil (Ja.of (x := bp.1) ⟨bj, bg, rfl, bm⟩)) rfl rfl rfl ?_ fun di => ?_
   · conv => whnf
     refine cT ?_
     first | done | rfl
   refine ⟨⟨(c4.trans bw), (sc [3] rfl), ci0⟩, ?_⟩
   obtain ⟨cJ, hm⟩ := qax hm
   refine qwg (R := Ja.R) qb3 (qdj rfl r0 rfl Ja.R_ok (show LR Ja.R _ [[.int .i64 bp.1.Ab, str bp.1.Ac, .slice bj bp.1.Aa.length bg, .int .i64 bp.1.Ad]] [bp.1] from (LR.snoc LR.nil (Ja.of (x := bp.1) ⟨bj, bg, rfl, bm⟩)))) (show LR Ja.R _ [[.int .i64 bp.1.Ab, str bp.1.Ac, .slice bj bp.1.Aa.length bg, .int .i64 bp.1.Ad]] [bp.1] from (LR.snoc LR.nil (Ja.of (x := bp.1) ⟨bj, bg, rfl, bm⟩))) cJ ?_
   intro dk dj du r_14 dp
   refine ⟨⟨Hp.emp_le _, (pf rfl), ci0⟩, ?_⟩
   refine fa rfl ?_
   refine qaa r4 rfl ⟨rfl, rfl, (nl rfl), ?_⟩
   refine ⟨⟨Hp.emp_le _, (pf rfl), ci0⟩, ?_⟩
   refine cb hm fun dm c9 hm => cgx (Jx c9 :) ?_
   refine cs rfl rfl hm ?_ ?_ <;> intro dt hm
   refine qa6 ⟨⟨[], false⟩, _, [(_, _)], []⟩ 5 rfl (by kernel_rfl) ⟨Hp.Le.refl _, (sc [2] rfl), ci0⟩ ?_
   refine fa rfl (qap m0 rfl rfl ?_)
   refine cb hm fun am cQ hm => cfx (JbY ihrec1_0 cQ :) ?_
   rintro _ dn _ cH ⟨bh, bo, cG, cA, cC, rfl, cB, bG, cy, rfl⟩
   refine qk (sc [3] rfl) ?_
   refine qoc Ja.R_ok r0 bG fun bM bt bn => ?_
   refine qmg (R := Ja.R) (len := 1) (l := [am.1]) (css := [[.int .i64 am.1.Ab, str am.1.Ac, .slice bh am.1.Aa.length bo, .int .i64 am.1.Ad]]) (cl := [.int .i64 am.1.Ab, str am.1.Ac, .slice bh am.1.Aa.length bo, .int .i64 am.1.Ad]) Ja.R_ok qb3 rfl rfl (LR.snoc LR.nil (Ja.of (x := am.1) ⟨bh, bo, rfl, bn⟩)) rfl rfl rfl ?_ fun dg => ?_
   · conv => whnf
     refine cT ?_
     first | done | rfl
   refine ⟨⟨(cH.trans bt), (sc [3] rfl), ci0⟩, ?_⟩
   obtain ⟨cV, hm⟩ := qax hm
   refine qtp r4 (LR.mono Ja.R_ok (cH.trans bt) r_14) rfl qb3 (qdj rfl r0 rfl Ja.R_ok (show LR Ja.R _ [[.int .i64 am.1.Ab, str am.1.Ac, .slice bh am.1.Aa.length bo, .int .i64 am.1.Ad]] [am.1] from (LR.snoc LR.nil (Ja.of (x := am.1) ⟨bh, bo, rfl, bn⟩)))) (show LR Ja.R _ [[.int .i64 am.1.Ab, str am.1.Ac, .slice bh am.1.Aa.length bo, .int .i64 am.1.Ad]] [am.1] from (LR.snoc LR.nil (Ja.of (x := am.1) ⟨bh, bo, rfl, bn⟩))) cV ?_
   intro dq dv dw r_23 dl
   refine ⟨⟨Hp.emp_le _, (pf rfl), ci0⟩, ?_⟩
   refine fa rfl ?_
   refine qaa r4 rfl ⟨rfl, rfl, (nl rfl), ?_⟩
   refine ⟨⟨Hp.emp_le _, (pf rfl), ci0⟩, ?_⟩
   refine qaj rfl ?_
   refine cb hm fun cN cq hm => cgx (Jx cq :) ?_
   refine qav ?_
   obtain ⟨c8, bu, hm⟩ := bnd hm
   refine cS bu (fun aZ bu => ?_) fun aZ bu => ?_
   refine ct aZ (ct aZ (ct aZ (qac rfl (cT ?_))))
   replace hm := ift (si bu).symm hm
   refine ro (qab r2 rfl (nl rfl) ?_)
   refine qaa r6 rfl ⟨rfl, rfl, (nl rfl), ?_⟩
   exact ro (qab r0 rfl (nl rfl) (eE hm))
   refine cf aZ ?_
   refine cb bu fun c5 cd bu => cgx (JI cd :) ?_
   refine cf aZ (qav (cf aZ (qac rfl ?_)))
   refine qaf ?_ ?_ <;> intro bX
   replace hm := ift ((si bu).symm.trans (qgu (qob bX))) hm
   refine ro (qab r2 rfl (nl rfl) ?_)
   refine qaa r6 rfl ⟨rfl, rfl, (nl rfl), ?_⟩
   exact ro (qab r0 rfl (nl rfl) (eE hm))
   replace hm := qbd ((si bu).symm.trans (qdx (qkr bX))) hm
   refine cb hm fun cO ca hm => ckx (Jo ca :) ?_
   rintro _ _ _ ⟨bV, bO, rfl, bI, rfl⟩
   refine cb hm fun da cr hm => cgx (JI cr :) ?_
   refine cs rfl rfl hm ?_ ?_ <;> intro c6 hm
   refine cb hm fun cY cm hm => ckx (Jo cm :) ?_
   rintro _ _ _ ⟨bZ, bH, rfl, bR, rfl⟩
   refine qai rfl fun b6 => ?_
   refine qaa r0 rfl ⟨rfl, rfl, (nl rfl), ?_⟩
   refine qa6 ⟨⟨[], false⟩, _, [(_, _), (_, _)], []⟩ 7 rfl (by kernel_rfl) ⟨Hp.Le.refl _, (sc [3,0] rfl), ci0⟩ ?_
   refine fa rfl (qap m0 rfl rfl (fa rfl (qap m1 rfl rfl ?_)))
   refine cb hm fun bb cn hm => cfx (ih cn :) ?_
   rintro _ cZ _ bU ⟨aV, aX, bW, bP, bD, rfl, bQ, bv, bL, rfl⟩
   refine qk (sc [4,3] rfl) ?_
   refine qoc Ja.R_ok r0 bv fun bB bf aW => ?_
   refine qmg (R := Ja.R) (len := 1) (l := [bb.1]) (css := [[.int .i64 bb.1.Ab, str bb.1.Ac, .slice aV bb.1.Aa.length aX, .int .i64 bb.1.Ad]]) (cl := [.int .i64 bb.1.Ab, str bb.1.Ac, .slice aV bb.1.Aa.length aX, .int .i64 bb.1.Ad]) Ja.R_ok qb3 rfl rfl (LR.snoc LR.nil (Ja.of (x := bb.1) ⟨aV, aX, rfl, aW⟩)) rfl rfl rfl ?_ fun db => ?_
   · conv => whnf
     refine cT ?_
     first | done | rfl
   refine ⟨⟨(bU.trans bf), (sc [4,3] rfl), ci0⟩, ?_⟩
   obtain ⟨ce, hm⟩ := qax hm
   refine qtp r5 (LR.mono Ja.R_ok (bU.trans bf) r_23) rfl qb3 (qdj rfl r0 rfl Ja.R_ok (show LR Ja.R _ [[.int .i64 bb.1.Ab, str bb.1.Ac, .slice aV bb.1.Aa.length aX, .int .i64 bb.1.Ad]] [bb.1] from (LR.snoc LR.nil (Ja.of (x := bb.1) ⟨aV, aX, rfl, aW⟩)))) (show LR Ja.R _ [[.int .i64 bb.1.Ab, str bb.1.Ac, .slice aV bb.1.Aa.length aX, .int .i64 bb.1.Ad]] [bb.1] from (LR.snoc LR.nil (Ja.of (x := bb.1) ⟨aV, aX, rfl, aW⟩))) ce ?_
   intro cU cL dc r_47 cM
   refine ⟨⟨Hp.emp_le _, (pf rfl), ci0⟩, ?_⟩
   refine fa rfl ?_
   refine qaa r5 rfl ⟨rfl, rfl, (nl rfl), ?_⟩
   refine ⟨⟨Hp.emp_le _, (pf rfl), ci0⟩, ?_⟩
   refine ro (qab r0 rfl (nl rfl) ?_)
   refine qaa r8 rfl ⟨rfl, rfl, (nl rfl), ?_⟩
   exact ro (qab r0 rfl (nl rfl) (eE hm))
   refine qa6 ⟨⟨[], false⟩, _, [(_, _)], []⟩ 5 rfl (by kernel_rfl) ⟨Hp.Le.refl _, (sc [2] rfl), ci0⟩ ?_
   refine fa rfl (qap m0 rfl rfl ?_)
   refine cb hm fun ba cj hm => cfx (JbY ihrec1_0 cj :) ?_
   rintro _ cR _ bC ⟨aY, a6, bJ, bN, bT, rfl, bF, bz, bK, rfl⟩
   refine qk (sc [3] rfl) ?_
   refine qoc Ja.R_ok r0 bz fun bA bc a8 => ?_
   refine qmg (R := Ja.R) (len := 1) (l := [ba.1]) (css := [[.int .i64 ba.1.Ab, str ba.1.Ac, .slice aY ba.1.Aa.length a6, .int .i64 ba.1.Ad]]) (cl := [.int .i64 ba.1.Ab, str ba.1.Ac, .slice aY ba.1.Aa.length a6, .int .i64 ba.1.Ad]) Ja.R_ok qb3 rfl rfl (LR.snoc LR.nil (Ja.of (x := ba.1) ⟨aY, a6, rfl, a8⟩)) rfl rfl rfl ?_ fun df => ?_
   · conv => whnf
     refine cT ?_
     first | done | rfl
   refine ⟨⟨(bC.trans bc), (sc [3] rfl), ci0⟩, ?_⟩
   obtain ⟨cp, hm⟩ := qax hm
   refine qtp r4 (LR.mono Ja.R_ok (bC.trans bc) r_23) rfl qb3 (qdj rfl r0 rfl Ja.R_ok (show LR Ja.R _ [[.int .i64 ba.1.Ab, str ba.1.Ac, .slice aY ba.1.Aa.length a6, .int .i64 ba.1.Ad]] [ba.1] from (LR.snoc LR.nil (Ja.of (x := ba.1) ⟨aY, a6, rfl, a8⟩)))) (show LR Ja.R _ [[.int .i64 ba.1.Ab, str ba.1.Ac, .slice aY ba.1.Aa.length a6, .int .i64 ba.1.Ad]] [ba.1] from (LR.snoc LR.nil (Ja.of (x := ba.1) ⟨aY, a6, rfl, a8⟩))) cp ?_
   intro cX cW de r_55 cK
   refine ⟨⟨Hp.emp_le _, (pf rfl), ci0⟩, ?_⟩
   refine fa rfl ?_
   refine qaa r4 rfl ⟨rfl, rfl, (nl rfl), ?_⟩
   refine ⟨⟨Hp.emp_le _, (pf rfl), ci0⟩, ?_⟩
   refine ro (qab r0 rfl (nl rfl) ?_)
   refine qaa r7 rfl ⟨rfl, rfl, (nl rfl), ?_⟩
   exact ro (qab r0 rfl (nl rfl) (eE hm))
   refine qaj rfl ?_
   refine cb hm fun cN cq hm => cgx (Jx cq :) ?_
   refine qav ?_
   obtain ⟨c8, bu, hm⟩ := bnd hm
   refine cS bu (fun aZ bu => ?_) fun aZ bu => ?_
   refine ct aZ (ct aZ (ct aZ (qac rfl (cT ?_))))
   replace hm := ift (si bu).symm hm
   refine ro (qab r2 rfl (nl rfl) ?_)
   refine qaa r5 rfl ⟨rfl, rfl, (nl rfl), ?_⟩
   exact ro (qab r0 rfl (nl rfl) (eE hm))
   refine cf aZ ?_
   refine cb bu fun c5 cd bu => cgx (JI cd :) ?_
   refine cf aZ (qav (cf aZ (qac rfl ?_)))
   refine qaf ?_ ?_ <;> intro bX
   replace hm := ift ((si bu).symm.trans (qgu (qob bX))) hm
   refine ro (qab r2 rfl (nl rfl) ?_)
   refine qaa r5 rfl ⟨rfl, rfl, (nl rfl), ?_⟩
   exact ro (qab r0 rfl (nl rfl) (eE hm))
   replace hm := qbd ((si bu).symm.trans (qdx (qkr bX))) hm
   refine cb hm fun cO ca hm => ckx (Jo ca :) ?_
   rintro _ _ _ ⟨bV, bO, rfl, bI, rfl⟩
   refine cb hm fun da cr hm => cgx (JI cr :) ?_
   refine cs rfl rfl hm ?_ ?_ <;> intro c6 hm
   refine cb hm fun cY cm hm => ckx (Jo cm :) ?_
   rintro _ _ _ ⟨bZ, bH, rfl, bR, rfl⟩
   refine qai rfl fun b6 => ?_
   refine qaa r0 rfl ⟨rfl, rfl, (nl rfl), ?_⟩
   refine qa6 ⟨⟨[], false⟩, _, [(_, _), (_, _)], []⟩ 7 rfl (by kernel_rfl) ⟨Hp.Le.refl _, (sc [3,0] rfl), ci0⟩ ?_
   refine fa rfl (qap m0 rfl rfl (fa rfl (qap m1 rfl rfl ?_)))
   refine cb hm fun bb cn hm => cfx (ih cn :) ?_
   rintro _ cZ _ bU ⟨aV, aX, bW, bP, bD, rfl, bQ, bv, bL, rfl⟩
   refine qk (sc [4,3] rfl) ?_
   refine qoc Ja.R_ok r0 bv fun bB bf aW => ?_
   refine qmg (R := Ja.R) (len := 1) (l := [bb.1]) (css := [[.int .i64 bb.1.Ab, str bb.1.Ac, .slice aV bb.1.Aa.length aX, .int .i64 bb.1.Ad]]) (cl := [.int .i64 bb.1.Ab, str bb.1.Ac, .slice aV bb.1.Aa.length aX, .int .i64 bb.1.Ad]) Ja.R_ok qb3 rfl rfl (LR.snoc LR.nil (Ja.of (x := bb.1) ⟨aV, aX, rfl, aW⟩)) rfl rfl rfl ?_ fun db => ?_
   · conv => whnf
     refine cT ?_
     first | done | rfl
   refine ⟨⟨(bU.trans bf), (sc [4,3] rfl), ci0⟩, ?_⟩
   obtain ⟨ce, hm⟩ := qax hm
   refine qtp r5 (LR.mono Ja.R_ok (bU.trans bf) r_14) rfl qb3 (qdj rfl r0 rfl Ja.R_ok (show LR Ja.R _ [[.int .i64 bb.1.Ab, str bb.1.Ac, .slice aV bb.1.Aa.length aX, .int .i64 bb.1.Ad]] [bb.1] from (LR.snoc LR.nil (Ja.of (x := bb.1) ⟨aV, aX, rfl, aW⟩)))) (show LR Ja.R _ [[.int .i64 bb.1.Ab, str bb.1.Ac, .slice aV bb.1.Aa.length aX, .int .i64 bb.1.Ad]] [bb.1] from (LR.snoc LR.nil (Ja.of (x := bb.1) ⟨aV, aX, rfl, aW⟩))) ce ?_
   intro cU cL dc r_47 cM
   refine ⟨⟨Hp.emp_le _, (pf rfl), ci0⟩, ?_⟩
   refine fa rfl ?_
   refine qaa r5 rfl ⟨rfl, rfl, (nl rfl), ?_⟩
   refine ⟨⟨Hp.emp_le _, (pf rfl), ci0⟩, ?_⟩
   refine ro (qab r0 rfl (nl rfl) ?_)
   refine qaa r7 rfl ⟨rfl, rfl, (nl rfl), ?_⟩
   exact ro (qab r0 rfl (nl rfl) (eE hm))
   refine qa6 ⟨⟨[], false⟩, _, [(_, _)], []⟩ 5 rfl (by kernel_rfl) ⟨Hp.Le.refl _, (sc [2] rfl), ci0⟩ ?_
   refine fa rfl (qap m0 rfl rfl ?_)
   refine cb hm fun ba cj hm => cfx (JbY ihrec1_0 cj :) ?_
   rintro _ cR _ bC ⟨aY, a6, bJ, bN, bT, rfl, bF, bz, bK, rfl⟩
   refine qk (sc [3] rfl) ?_
   refine qoc Ja.R_ok r0 bz fun bA bc a8 => ?_
   refine qmg (R := Ja.R) (len := 1) (l := [ba.1]) (css := [[.int .i64 ba.1.Ab, str ba.1.Ac, .slice aY ba.1.Aa.length a6, .int .i64 ba.1.Ad]]) (cl := [.int .i64 ba.1.Ab, str ba.1.Ac, .slice aY ba.1.Aa.length a6, .int .i64 ba.1.Ad]) Ja.R_ok qb3 rfl rfl (LR.snoc LR.nil (Ja.of (x := ba.1) ⟨aY, a6, rfl, a8⟩)) rfl rfl rfl ?_ fun df => ?_
   · conv => whnf
     refine cT ?_
     first | done | rfl
   refine ⟨⟨(bC.trans bc), (sc [3] rfl), ci0⟩, ?_⟩
   obtain ⟨cp, hm⟩ := qax hm
   refine qtp r4 (LR.mono Ja.R_ok (bC.trans bc) r_14) rfl qb3 (qdj rfl r0 rfl Ja.R_ok (show LR Ja.R _ [[.int .i64 ba.1.Ab, str ba.1.Ac, .slice aY ba.1.Aa.length a6, .int .i64 ba.1.Ad]] [ba.1] from (LR.snoc LR.nil (Ja.of (x := ba.1) ⟨aY, a6, rfl, a8⟩)))) (show LR Ja.R _ [[.int .i64 ba.1.Ab, str ba.1.Ac, .slice aY ba.1.Aa.length a6, .int .i64 ba.1.Ad]] [ba.1] from (LR.snoc LR.nil (Ja.of (x := ba.1) ⟨aY, a6, rfl, a8⟩))) cp ?_
   intro cX cW de r_55 cK
   refine ⟨⟨Hp.emp_le _, (pf rfl), ci0⟩, ?_⟩
   refine fa rfl ?_
   refine qaa r4 rfl ⟨rfl, rfl, (nl rfl), ?_⟩
   refine ⟨⟨Hp.emp_le _, (pf rfl), ci0⟩, ?_⟩
   refine ro (qab r0 rfl (nl rfl) ?_)
   refine qaa r6 rfl ⟨rfl, rfl, (nl rfl), ?_⟩
   exact ro (qab r0 rfl (nl rfl) (eE hm))

def Ja2 (aq : (Jb → Option ((List Ja) × Jb))) (n : Nat) (p : Jb) : Option (Ja × Jb) :=
  (JE p).bind fun x7 =>
  if decide (x7.Ab ≠ 1) then
  (J2 p).bind fun bo =>
  some ((⟨0, ([] : Str), [], x7.Ad⟩ : Ja), bo)
  else
  if decide (x7.Ac = ([105, 102] : Str)) then
  (Jm p).bind fun bA =>
  (Jam aq n bA.2 x7.Ad).bind fun bg =>
  some (bg.1, bg.2)
  else
  if decide (x7.Ac = ([108, 101, 116] : Str)) then
  (Jm p).bind fun ba =>
  (JE ba.2).bind fun bb =>
  (if decide (bb.Ab ≠ 1) then some true else (Jbc bb.Ac).bind fun bm =>
  some bm).bind fun bc =>
  if bc then
  (J2 ba.2).bind fun bt =>
  some ((⟨3, ([] : Str), [], x7.Ad⟩ : Ja), bt)
  else
  (Jm ba.2).bind fun bw =>
  (Jw n bw.2 ([61] : Str)).bind fun bf =>
  some ((⟨3, bb.Ac, bf.1, x7.Ad⟩ : Ja), bf.2)
  else
  if decide (x7.Ac = ([112, 97, 116, 104] : Str)) then
  (Jm p).bind fun aH =>
  (Jw n aH.2 ([61] : Str)).bind fun aZ =>
  some ((⟨4, x7.Ac, aZ.1, x7.Ad⟩ : Ja), aZ.2)
  else
  if decide (x7.Ac = ([113, 117, 101, 114, 121] : Str)) then
  (Jm p).bind fun aH =>
  (Jw n aH.2 ([61] : Str)).bind fun aZ =>
  some ((⟨4, x7.Ac, aZ.1, x7.Ad⟩ : Ja), aZ.2)
  else
  if decide (x7.Ac = ([104, 101, 97, 100, 101, 114] : Str)) then
  (Jm p).bind fun bu =>
  (Jbk bu.2).bind fun a8 =>
  (Jr a8.2).bind fun bn =>
  if bn then
  (Jw n a8.2 ([61] : Str)).bind fun bh =>
  some ((⟨5, a8.1, bh.1, x7.Ad⟩ : Ja), bh.2)
  else
  some ((⟨5, a8.1, [], x7.Ad⟩ : Ja), a8.2)
  else
  if decide (x7.Ac = ([118, 97, 114, 121] : Str)) then
  (Jm p).bind fun bz =>
  (Jbk bz.2).bind fun a6 =>
  (Jr a6.2).bind fun bj =>
  if bj then
  (JF a6.2 ([59] : Str)).bind fun bp =>
  some ((⟨6, a6.1, [], x7.Ad⟩ : Ja), bp)
  else
  some ((⟨6, a6.1, [], x7.Ad⟩ : Ja), a6.2)
  else
  if decide (x7.Ac = ([116, 97, 103] : Str)) then
  (Jm p).bind fun aX =>
  if decide (x7.Ac = ([116, 116, 108] : Str)) then
  if decide (x7.Ac = ([100, 101, 110, 121] : Str)) then
  (Jw n aX.2 ([] : Str)).bind fun aV =>
  some ((⟨9, ([] : Str), aV.1, x7.Ad⟩ : Ja), aV.2)
  else
  (Jw n aX.2 ([] : Str)).bind fun aV =>
  some ((⟨8, ([] : Str), aV.1, x7.Ad⟩ : Ja), aV.2)
  else
  if decide (x7.Ac = ([100, 101, 110, 121] : Str)) then
  (Jw n aX.2 ([] : Str)).bind fun aV =>
  some ((⟨9, ([] : Str), aV.1, x7.Ad⟩ : Ja), aV.2)
  else
  (Jw n aX.2 ([] : Str)).bind fun aV =>
  some ((⟨7, ([] : Str), aV.1, x7.Ad⟩ : Ja), aV.2)
  else
  if decide (x7.Ac = ([116, 116, 108] : Str)) then
  (Jm p).bind fun aX =>
  if decide (x7.Ac = ([116, 116, 108] : Str)) then
  if decide (x7.Ac = ([100, 101, 110, 121] : Str)) then
  (Jw n aX.2 ([] : Str)).bind fun aV =>
  some ((⟨9, ([] : Str), aV.1, x7.Ad⟩ : Ja), aV.2)
  else
  (Jw n aX.2 ([] : Str)).bind fun aV =>
  some ((⟨8, ([] : Str), aV.1, x7.Ad⟩ : Ja), aV.2)
  else
  if decide (x7.Ac = ([100, 101, 110, 121] : Str)) then
  (Jw n aX.2 ([] : Str)).bind fun aV =>
  some ((⟨9, ([] : Str), aV.1, x7.Ad⟩ : Ja), aV.2)
  else
  (Jw n aX.2 ([] : Str)).bind fun aV =>
  some ((⟨7, ([] : Str), aV.1, x7.Ad⟩ : Ja), aV.2)
  else
  if decide (x7.Ac = ([100, 101, 110, 121] : Str)) then
  (Jm p).bind fun aX =>
  if decide (x7.Ac = ([116, 116, 108] : Str)) then
  if decide (x7.Ac = ([100, 101, 110, 121] : Str)) then
  (Jw n aX.2 ([] : Str)).bind fun aV =>
  some ((⟨9, ([] : Str), aV.1, x7.Ad⟩ : Ja), aV.2)
  else
  (Jw n aX.2 ([] : Str)).bind fun aV =>
  some ((⟨8, ([] : Str), aV.1, x7.Ad⟩ : Ja), aV.2)
  else
  if decide (x7.Ac = ([100, 101, 110, 121] : Str)) then
  (Jw n aX.2 ([] : Str)).bind fun aV =>
  some ((⟨9, ([] : Str), aV.1, x7.Ad⟩ : Ja), aV.2)
  else
  (Jw n aX.2 ([] : Str)).bind fun aV =>
  some ((⟨7, ([] : Str), aV.1, x7.Ad⟩ : Ja), aV.2)
  else
  if decide (x7.Ac = ([112, 97, 115, 115] : Str)) then
  (Jm p).bind fun aY =>
  if decide (x7.Ac = ([116, 111, 107, 101, 110] : Str)) then
  (JF aY.2 ([59] : Str)).bind fun aW =>
  some ((⟨11, ([] : Str), [], x7.Ad⟩ : Ja), aW)
  else
  (JF aY.2 ([59] : Str)).bind fun aW =>
  some ((⟨10, ([] : Str), [], x7.Ad⟩ : Ja), aW)
  else
  if decide (x7.Ac = ([116, 111, 107, 101, 110] : Str)) then
  (Jm p).bind fun aY =>
  if decide (x7.Ac = ([116, 111, 107, 101, 110] : Str)) then
  (JF aY.2 ([59] : Str)).bind fun aW =>
  some ((⟨11, ([] : Str), [], x7.Ad⟩ : Ja), aW)
  else
  (JF aY.2 ([59] : Str)).bind fun aW =>
  some ((⟨10, ([] : Str), [], x7.Ad⟩ : Ja), aW)
  else
  (J2 p).bind fun bv =>
  some ((⟨0, ([] : Str), [], x7.Ad⟩ : Ja), bv)
theorem Jc8 {aq : (Jb → Option ((List Ja) × Jb))} (ihrec1_0 : ∀ {p : Jb} {b0 : Nat} {aa : Option Addr} {ab : Nat} {K : Hp} {r : (List Ja) × Jb} (hm : aq p = some r) (hX : (0 < p.list.length → Has aa) ∧ GG K), Fn Tryz.prog 97 [.pointer (some ⟨b0, 0, none⟩)] K [Cells b0 163 [.slice aa p.list.length ab, .int .i64 p.atZ, .int .i64 p.line], OwnL Je.enc aa 166 4 ab p.list] (fun v K' H' => ∃ ar_0 : Option Addr, ∃ cr_0 : Nat, ∃ sr_0 : List (List Value), ∃ ar_1 : Option Addr, ∃ cr_1 : Nat, v = .slice ar_0 r.1.length cr_0 ∧ (0 < r.1.length → Has ar_0) ∧ LR Ja.R K' sr_0 r.1 ∧ (0 < r.2.list.length → Has ar_1) ∧ H' = [OwnA ar_0 117 4 cr_0 sr_0, Cells b0 163 [.slice ar_1 r.2.list.length cr_1, .int .i64 r.2.atZ, .int .i64 r.2.line], OwnL Je.enc ar_1 166 4 cr_1 r.2.list])) {n : Nat} {p : Jb} {b0 : Nat} {aa : Option Addr} {ab : Nat} {K : Hp} {r : Ja × Jb}
    (hm : Ja2 aq n p = some r) (hX : (0 < p.list.length → Has aa) ∧ GG K) :
    Fn Tryz.prog 150 [.pointer (some ⟨b0, 0, none⟩)] K [Cells b0 163 [.slice aa p.list.length ab, .int .i64 p.atZ, .int .i64 p.line], OwnL Je.enc aa 166 4 ab p.list] (fun v K' H' => ∃ ar_0 : Option Addr, ∃ cr_0 : Nat, ∃ sr_0 : List (List Value), ∃ ar_1 : Option Addr, ∃ cr_1 : Nat, v = .agg #[.int .i64 r.1.Ab, str r.1.Ac, .slice ar_0 r.1.Aa.length cr_0, .int .i64 r.1.Ad] ∧ (0 < r.1.Aa.length → Has ar_0) ∧ LR Ja.R K' sr_0 r.1.Aa ∧ (0 < r.2.list.length → Has ar_1) ∧ H' = [OwnA ar_0 117 4 cr_0 sr_0, Cells b0 163 [.slice ar_1 r.2.list.length cr_1, .int .i64 r.2.atZ, .int .i64 r.2.line], OwnL Je.enc ar_1 166 4 cr_1 r.2.list]) := by
 obtain ⟨ae, hG⟩ := hX
 refine Fn.enter Tryz.func150 Tryz.call150 rfl fun F => ?_
 unfold Ja2 at hm
 refine qai rfl fun b2 => ?_
 refine cb hm fun x7 q7 hm => cgx (JS q7 :) ?_
 refine qai rfl fun b3 => ?_
 refine qaa r0 rfl ⟨rfl, rfl, (nl rfl), ?_⟩
 refine fa rfl (ro (ld r0 rfl rfl (qak rfl rfl (cT ?_))))
 refine qai rfl fun b4 => ?_
 refine qaa r0 rfl ⟨rfl, rfl, (nl rfl), ?_⟩
 refine fa rfl (ro (ld r1 rfl rfl (qbb ?_)))
 refine cs rfl rfl hm ?_ ?_ <;> intro eC hm
 refine cb hm fun ej dM hm => ckx (Jat dM :) ?_
 rintro _ _ _ ⟨dc, dh, rfl, cN, rfl⟩
 refine ro (qab r2 rfl (nl rfl) ?_)
 refine qaa r4 rfl ⟨rfl, rfl, (nl rfl), ?_⟩
 refine ro (qab r0 rfl (nl rfl) ?_)
 refine qcp (fun _ : Ja => []) 117 4 ?_
 exact eE hm
 refine fa rfl (ro (ld r1 rfl rfl ?_))
 refine qam rfl ?_
 refine qaq (cs rfl rfl hm ?_ ?_) <;> intro eu hm
 refine cb hm fun d3 dA hm => ckx (Jo dA :) ?_
 rintro _ _ _ ⟨ce, cp, rfl, dg, rfl⟩
 refine fa rfl (ro (ld r3 rfl rfl ?_))
 refine cb hm fun dY dD hm => cfx (Jdk ihrec1_0 dD :) ?_
 rintro _ eL _ d4 ⟨cO, dn, cW, cd, c9, rfl, cU, da, cm, rfl⟩
 refine qaa r5 rfl ⟨rfl, rfl, (nl rfl), ?_⟩
 exact ro (qab r0 rfl (nl rfl) (eE hm))
 refine qaq (cs rfl rfl hm ?_ ?_) <;> intro d6 hm
 refine cb hm fun eJ dG hm => ckx (Jo dG :) ?_
 rintro _ _ _ ⟨cu, cG, rfl, dv, rfl⟩
 refine fa rfl ?_
 refine qaa r2 rfl ⟨rfl, rfl, (nl rfl), ?_⟩
 refine cb hm fun ek dB hm => cgx (JS dB :) ?_
 refine qai rfl fun b5 => ?_
 refine qaa r0 rfl ⟨rfl, rfl, (nl rfl), ?_⟩
 obtain ⟨bW, bj, hm⟩ := bnd hm
 refine jR (σ := Bool) (rg 36 8) (fun bu => [(43, .bool bu)]) (fun bu => bu = bW) ?_ ?_
 replace bj := bsm bj
 refine qaj rfl ?_
 refine fa rfl (ro (ld r0 rfl rfl (qbb ?_)))
 obtain ⟨ee, bF, bj⟩ := bnd bj
 refine cS bF (fun bc bF => ?_) fun bc bF => ?_
 refine ct bc (ct bc (ct bc ?_))
 exact eMq bj _ ⟨bq (si bF), trivial⟩
 refine fa rfl (cf bc (ro (ld r0 rfl rfl (cf bc ?_))))
 refine cb bF fun dU dE bF => cgx (JcH dE :) ?_
 refine cf bc ?_
 exact eMq bj _ ⟨bq (si bF), trivial⟩
 rintro bu rfl dP
 refine cs rfl rfl hm ?_ ?_ <;> intro dV hm
 refine cb hm fun eG dI hm => ckx (Jat dI :) ?_
 rintro _ _ _ ⟨c6, dp, rfl, dm, rfl⟩
 refine ro (qab r3 rfl (nl rfl) ?_)
 refine qaa r5 rfl ⟨rfl, rfl, (nl rfl), ?_⟩
 refine ro (qab r0 rfl (nl rfl) ?_)
 refine qcp (fun _ : Ja => []) 117 4 ?_
 exact eE hm
 refine cb hm fun eK dJ hm => ckx (Jo dJ :) ?_
 rintro _ _ _ ⟨cH, c8, rfl, cj, rfl⟩
 refine fa rfl (ro (ld r2 rfl rfl (fa rfl ?_)))
 refine qaa r3 rfl ⟨rfl, rfl, (nl rfl), ?_⟩
 refine cb hm fun eo dF hm => cfx (JG dF :) ?_
 rintro _ d1 _ eh ⟨cD, cQ, de, di, cB, rfl, cX, db, df, rfl⟩
 refine fa rfl ?_
 refine qaa r3 rfl ⟨rfl, rfl, (nl rfl), ?_⟩
 refine ro (qab r0 rfl (nl rfl) ?_)
 refine qaa r6 rfl ⟨rfl, rfl, (nl rfl), ?_⟩
 exact ro (qab r0 rfl (nl rfl) (eE hm))
 refine qaq (cs rfl rfl hm ?_ ?_) <;> intro cz hm
 refine qac rfl (ct cz ?_)
 refine cb hm fun aH bX hm => ckx (Jo bX :) ?_
 rintro _ _ _ ⟨bK, bQ, rfl, bO, rfl⟩
 refine qba ⟨⟨[], false⟩, _, [(_, _)], []⟩ (by kernel_rfl) ⟨Hp.Le.refl _, (sc [3] rfl), ci0⟩ ?_
 refine fa rfl (qap m0 rfl rfl (fa rfl ?_))
 refine qaa r2 rfl ⟨rfl, rfl, (nl rfl), ?_⟩
 refine qk (sc [3] rfl) ?_
 refine fa rfl ?_
 refine qaa r0 rfl ⟨rfl, rfl, (nl rfl), ?_⟩
 refine qk (sc [3] rfl) ?_
 refine cb hm fun dT bY hm => cfx (JG bY :) ?_
 rintro _ dS _ dL ⟨bH, bP, bS, bT, bU, rfl, bR, bL, bI, rfl⟩
 refine fa rfl ?_
 refine qaa r3 rfl ⟨rfl, rfl, (nl rfl), ?_⟩
 refine ro (qab r0 rfl (nl rfl) ?_)
 refine qaa r5 rfl ⟨rfl, rfl, (nl rfl), ?_⟩
 exact ro (qab r0 rfl (nl rfl) (eE hm))
 refine qaq (cs rfl rfl hm ?_ ?_) <;> intro cz hm
 refine cb hm fun aH bX hm => ckx (Jo bX :) ?_
 rintro _ _ _ ⟨bK, bQ, rfl, bO, rfl⟩
 refine qba ⟨⟨[], false⟩, _, [(_, _)], []⟩ (by kernel_rfl) ⟨Hp.Le.refl _, (sc [3] rfl), ci0⟩ ?_
 refine fa rfl (qap m0 rfl rfl (fa rfl ?_))
 refine qaa r2 rfl ⟨rfl, rfl, (nl rfl), ?_⟩
 refine qk (sc [3] rfl) ?_
 refine fa rfl ?_
 refine qaa r0 rfl ⟨rfl, rfl, (nl rfl), ?_⟩
 refine qk (sc [3] rfl) ?_
 refine cb hm fun dT bY hm => cfx (JG bY :) ?_
 rintro _ dS _ dL ⟨bH, bP, bS, bT, bU, rfl, bR, bL, bI, rfl⟩
 refine fa rfl ?_
 refine qaa r3 rfl ⟨rfl, rfl, (nl rfl), ?_⟩
 refine ro (qab r0 rfl (nl rfl) ?_)
 refine qaa r5 rfl ⟨rfl, rfl, (nl rfl), ?_⟩
 exact ro (qab r0 rfl (nl rfl) (eE hm))
 refine qaq (cs rfl rfl hm ?_ ?_) <;> intro eg hm
 refine cb hm fun dW dH hm => ckx (Jo dH :) ?_
 rintro _ _ _ ⟨cw, cZ, rfl, dw, rfl⟩
 refine fa rfl ?_
 refine qaa r2 rfl ⟨rfl, rfl, (nl rfl), ?_⟩
 refine cb hm fun d9 dO hm => ckx (JcK dO :) ?_
 rintro _ _ _ ⟨cI, cn, rfl, cr, rfl⟩
 refine fa rfl ?_
 refine qaa r2 rfl ⟨rfl, rfl, (nl rfl), ?_⟩
 refine cb hm fun eH dQ hm => cgx (Jx dQ :) ?_
 refine cs rfl rfl hm ?_ ?_ <;> intro eD hm
 refine cb hm fun dZ dz hm => cfx (JG dz :) ?_
 rintro _ ei _ d2 ⟨c4, dx, cA, cY, cJ, rfl, cV, dj, cC, rfl⟩
 refine fa rfl ?_
 refine qaa r3 rfl ⟨rfl, rfl, (nl rfl), ?_⟩
 refine ro (qab r0 rfl (nl rfl) ?_)
 refine qaa r5 rfl ⟨rfl, rfl, (nl rfl), ?_⟩
 exact ro (qab r0 rfl (nl rfl) (eE hm))
 refine ro (qab r2 rfl (nl rfl) ?_)
 refine qaa r4 rfl ⟨rfl, rfl, (nl rfl), ?_⟩
 refine ro (qab r0 rfl (nl rfl) ?_)
 refine qcp (fun _ : Ja => []) 117 4 ?_
 exact eE hm
 refine qaq (cs rfl rfl hm ?_ ?_) <;> intro ed hm
 refine cb hm fun d8 dR hm => ckx (Jo dR :) ?_
 rintro _ _ _ ⟨du, cK, rfl, cq, rfl⟩
 refine fa rfl ?_
 refine qaa r2 rfl ⟨rfl, rfl, (nl rfl), ?_⟩
 refine cb hm fun d5 dC hm => ckx (JcK dC :) ?_
 rintro _ _ _ ⟨cR, dk, rfl, dt, rfl⟩
 refine fa rfl ?_
 refine qaa r2 rfl ⟨rfl, rfl, (nl rfl), ?_⟩
 refine cb hm fun eF dK hm => cgx (Jx dK :) ?_
 refine cs rfl rfl hm ?_ ?_ <;> intro dX hm
 refine cb hm fun ey dN hm => ckx (JN dN :) ?_
 rintro _ _ _ ⟨dq, cM, rfl, c5, rfl⟩
 refine ro (qab r2 rfl (nl rfl) ?_)
 refine qaa r4 rfl ⟨rfl, rfl, (nl rfl), ?_⟩
 refine ro (qab r0 rfl (nl rfl) ?_)
 refine qcp (fun _ : Ja => []) 117 4 ?_
 exact eE hm
 refine ro (qab r2 rfl (nl rfl) ?_)
 refine qaa r4 rfl ⟨rfl, rfl, (nl rfl), ?_⟩
 refine ro (qab r0 rfl (nl rfl) ?_)
 refine qcp (fun _ : Ja => []) 117 4 ?_
 exact eE hm
 refine qaq (cs rfl rfl hm ?_ ?_) <;> intro bV hm
 refine qac rfl (ct bV ?_)
 refine cb hm fun cy bM hm => ckx (Jo bM :) ?_
 rintro _ _ _ ⟨bw, bz, rfl, bv, rfl⟩
 refine fa rfl ?_
 refine qaa r2 rfl ⟨rfl, rfl, (nl rfl), ?_⟩
 refine fa rfl (ro (ld r3 rfl rfl (qaq ?_)))
 refine cs rfl rfl hm ?_ ?_ <;> intro bJ hm
 refine fa rfl ?_
 refine qaa r0 rfl ⟨rfl, rfl, (nl rfl), ?_⟩
 refine fa rfl (ro (ld r3 rfl rfl (qaq ?_)))
 refine cs rfl rfl hm ?_ ?_ <;> intro bt hm
 refine fa rfl ?_
 refine qaa r0 rfl ⟨rfl, rfl, (nl rfl), ?_⟩
 refine cb hm fun bh aY hm => cfx (JG aY :) ?_
 rintro _ bf _ bg ⟨aW, aZ, bb, aX, a6, rfl, ba, aV, a8, rfl⟩
 refine fa rfl ?_
 refine qaa r3 rfl ⟨rfl, rfl, (nl rfl), ?_⟩
 refine ro (qab r0 rfl (nl rfl) ?_)
 refine qaa r5 rfl ⟨rfl, rfl, (nl rfl), ?_⟩
 exact ro (qab r0 rfl (nl rfl) (eE hm))
 refine cb hm fun bh aY hm => cfx (JG aY :) ?_
 rintro _ bf _ bg ⟨aW, aZ, bb, aX, a6, rfl, ba, aV, a8, rfl⟩
 refine fa rfl ?_
 refine qaa r3 rfl ⟨rfl, rfl, (nl rfl), ?_⟩
 refine ro (qab r0 rfl (nl rfl) ?_)
 refine qaa r5 rfl ⟨rfl, rfl, (nl rfl), ?_⟩
 exact ro (qab r0 rfl (nl rfl) (eE hm))
 refine fa rfl (ro (ld r3 rfl rfl (qaq ?_)))
 refine cs rfl rfl hm ?_ ?_ <;> intro bt hm
 refine fa rfl ?_
 refine qaa r0 rfl ⟨rfl, rfl, (nl rfl), ?_⟩
 refine cb hm fun bh aY hm => cfx (JG aY :) ?_
 rintro _ bf _ bg ⟨aW, aZ, bb, aX, a6, rfl, ba, aV, a8, rfl⟩
 refine fa rfl ?_
 refine qaa r3 rfl ⟨rfl, rfl, (nl rfl), ?_⟩
 refine ro (qab r0 rfl (nl rfl) ?_)
 refine qaa r5 rfl ⟨rfl, rfl, (nl rfl), ?_⟩
 exact ro (qab r0 rfl (nl rfl) (eE hm))
 refine cb hm fun bh aY hm => cfx (JG aY :) ?_
 rintro _ bf _ bg ⟨aW, aZ, bb, aX, a6, rfl, ba, aV, a8, rfl⟩
 refine fa rfl ?_
 refine qaa r3 rfl ⟨rfl, rfl, (nl rfl), ?_⟩
 refine ro (qab r0 rfl (nl rfl) ?_)
 refine qaa r5 rfl ⟨rfl, rfl, (nl rfl), ?_⟩
 exact ro (qab r0 rfl (nl rfl) (eE hm))
 refine qaq (cs rfl rfl hm ?_ ?_) <;> intro bV hm
 refine qac rfl (ct bV ?_)
 refine cb hm fun cy bM hm => ckx (Jo bM :) ?_
 rintro _ _ _ ⟨bw, bz, rfl, bv, rfl⟩
 refine fa rfl ?_
 refine qaa r2 rfl ⟨rfl, rfl, (nl rfl), ?_⟩
 refine fa rfl (ro (ld r3 rfl rfl (qaq ?_)))
 refine cs rfl rfl hm ?_ ?_ <;> intro bJ hm
 refine fa rfl ?_
 refine qaa r0 rfl ⟨rfl, rfl, (nl rfl), ?_⟩
 refine fa rfl (ro (ld r3 rfl rfl (qaq ?_)))
 refine cs rfl rfl hm ?_ ?_ <;> intro bt hm
 refine fa rfl ?_
 refine qaa r0 rfl ⟨rfl, rfl, (nl rfl), ?_⟩
 refine cb hm fun bh aY hm => cfx (JG aY :) ?_
 rintro _ bf _ bg ⟨aW, aZ, bb, aX, a6, rfl, ba, aV, a8, rfl⟩
 refine fa rfl ?_
 refine qaa r3 rfl ⟨rfl, rfl, (nl rfl), ?_⟩
 refine ro (qab r0 rfl (nl rfl) ?_)
 refine qaa r5 rfl ⟨rfl, rfl, (nl rfl), ?_⟩
 exact ro (qab r0 rfl (nl rfl) (eE hm))
 refine cb hm fun bh aY hm => cfx (JG aY :) ?_
 rintro _ bf _ bg ⟨aW, aZ, bb, aX, a6, rfl, ba, aV, a8, rfl⟩
 refine fa rfl ?_
 refine qaa r3 rfl ⟨rfl, rfl, (nl rfl), ?_⟩
 refine ro (qab r0 rfl (nl rfl) ?_)
 refine qaa r5 rfl ⟨rfl, rfl, (nl rfl), ?_⟩
 exact ro (qab r0 rfl (nl rfl) (eE hm))
 refine fa rfl (ro (ld r3 rfl rfl (qaq ?_)))
 refine cs rfl rfl hm ?_ ?_ <;> intro bt hm
 refine fa rfl ?_
 refine qaa r0 rfl ⟨rfl, rfl, (nl rfl), ?_⟩
 refine cb hm fun bh aY hm => cfx (JG aY :) ?_
 rintro _ bf _ bg ⟨aW, aZ, bb, aX, a6, rfl, ba, aV, a8, rfl⟩
 refine fa rfl ?_
 refine qaa r3 rfl ⟨rfl, rfl, (nl rfl), ?_⟩
 refine ro (qab r0 rfl (nl rfl) ?_)
 refine qaa r5 rfl ⟨rfl, rfl, (nl rfl), ?_⟩
 exact ro (qab r0 rfl (nl rfl) (eE hm))
 refine cb hm fun bh aY hm => cfx (JG aY :) ?_
 rintro _ bf _ bg ⟨aW, aZ, bb, aX, a6, rfl, ba, aV, a8, rfl⟩
 refine fa rfl ?_
 refine qaa r3 rfl ⟨rfl, rfl, (nl rfl), ?_⟩
 refine ro (qab r0 rfl (nl rfl) ?_)
 refine qaa r5 rfl ⟨rfl, rfl, (nl rfl), ?_⟩
 exact ro (qab r0 rfl (nl rfl) (eE hm))
 refine qaq (cs rfl rfl hm ?_ ?_) <;> intro bV hm
 refine cb hm fun cy bM hm => ckx (Jo bM :) ?_
 rintro _ _ _ ⟨bw, bz, rfl, bv, rfl⟩
 refine fa rfl ?_
 refine qaa r2 rfl ⟨rfl, rfl, (nl rfl), ?_⟩
 refine fa rfl (ro (ld r3 rfl rfl (qaq ?_)))
 refine cs rfl rfl hm ?_ ?_ <;> intro bJ hm
 refine fa rfl ?_
 refine qaa r0 rfl ⟨rfl, rfl, (nl rfl), ?_⟩
 refine fa rfl (ro (ld r3 rfl rfl (qaq ?_)))
 refine cs rfl rfl hm ?_ ?_ <;> intro bt hm
 refine fa rfl ?_
 refine qaa r0 rfl ⟨rfl, rfl, (nl rfl), ?_⟩
 refine cb hm fun bh aY hm => cfx (JG aY :) ?_
 rintro _ bf _ bg ⟨aW, aZ, bb, aX, a6, rfl, ba, aV, a8, rfl⟩
 refine fa rfl ?_
 refine qaa r3 rfl ⟨rfl, rfl, (nl rfl), ?_⟩
 refine ro (qab r0 rfl (nl rfl) ?_)
 refine qaa r5 rfl ⟨rfl, rfl, (nl rfl), ?_⟩
 exact ro (qab r0 rfl (nl rfl) (eE hm))
 refine cb hm fun bh aY hm => cfx (JG aY :) ?_
 rintro _ bf _ bg ⟨aW, aZ, bb, aX, a6, rfl, ba, aV, a8, rfl⟩
 refine fa rfl ?_
 refine qaa r3 rfl ⟨rfl, rfl, (nl rfl), ?_⟩
 refine ro (qab r0 rfl (nl rfl) ?_)
 refine qaa r5 rfl ⟨rfl, rfl, (nl rfl), ?_⟩
 exact ro (qab r0 rfl (nl rfl) (eE hm))
 refine fa rfl (ro (ld r3 rfl rfl (qaq ?_)))
 refine cs rfl rfl hm ?_ ?_ <;> intro bt hm
 refine fa rfl ?_
 refine qaa r0 rfl ⟨rfl, rfl, (nl rfl), ?_⟩
 refine cb hm fun bh aY hm => cfx (JG aY :) ?_
 rintro _ bf _ bg ⟨aW, aZ, bb, aX, a6, rfl, ba, aV, a8, rfl⟩
 refine fa rfl ?_
 refine qaa r3 rfl ⟨rfl, rfl, (nl rfl), ?_⟩
 refine ro (qab r0 rfl (nl rfl) ?_)
 refine qaa r5 rfl ⟨rfl, rfl, (nl rfl), ?_⟩
 exact ro (qab r0 rfl (nl rfl) (eE hm))
 refine cb hm fun bh aY hm => cfx (JG aY :) ?_
 rintro _ bf _ bg ⟨aW, aZ, bb, aX, a6, rfl, ba, aV, a8, rfl⟩
 refine fa rfl ?_
 refine qaa r3 rfl ⟨rfl, rfl, (nl rfl), ?_⟩
 refine ro (qab r0 rfl (nl rfl) ?_)
 refine qaa r5 rfl ⟨rfl, rfl, (nl rfl), ?_⟩
 exact ro (qab r0 rfl (nl rfl) (eE hm))
 refine qaq (cs rfl rfl hm ?_ ?_) <;> intro bN hm
 refine qac rfl (ct bN ?_)
 refine cb hm fun ca bC hm => ckx (Jo bC :) ?_
 rintro _ _ _ ⟨bB, bA, rfl, bD, rfl⟩
 refine fa rfl ?_
 refine qaa r2 rfl ⟨rfl, rfl, (nl rfl), ?_⟩
 refine fa rfl (ro (ld r3 rfl rfl (qaq ?_)))
 refine cs rfl rfl hm ?_ ?_ <;> intro bZ hm
 refine fa rfl ?_
 refine qaa r0 rfl ⟨rfl, rfl, (nl rfl), ?_⟩
 refine cb hm fun bG bm hm => ckx (JN bm :) ?_
 rintro _ _ _ ⟨bp, bo, rfl, bn, rfl⟩
 refine ro (qab r2 rfl (nl rfl) ?_)
 refine qaa r4 rfl ⟨rfl, rfl, (nl rfl), ?_⟩
 refine ro (qab r0 rfl (nl rfl) ?_)
 refine qcp (fun _ : Ja => []) 117 4 ?_
 exact eE hm
 refine cb hm fun bG bm hm => ckx (JN bm :) ?_
 rintro _ _ _ ⟨bp, bo, rfl, bn, rfl⟩
 refine ro (qab r2 rfl (nl rfl) ?_)
 refine qaa r4 rfl ⟨rfl, rfl, (nl rfl), ?_⟩
 refine ro (qab r0 rfl (nl rfl) ?_)
 refine qcp (fun _ : Ja => []) 117 4 ?_
 exact eE hm
 refine qaq (cs rfl rfl hm ?_ ?_) <;> intro bN hm
 refine cb hm fun ca bC hm => ckx (Jo bC :) ?_
 rintro _ _ _ ⟨bB, bA, rfl, bD, rfl⟩
 refine fa rfl ?_
 refine qaa r2 rfl ⟨rfl, rfl, (nl rfl), ?_⟩
 refine fa rfl (ro (ld r3 rfl rfl (qaq ?_)))
 refine cs rfl rfl hm ?_ ?_ <;> intro bZ hm
 refine fa rfl ?_
 refine qaa r0 rfl ⟨rfl, rfl, (nl rfl), ?_⟩
 refine cb hm fun bG bm hm => ckx (JN bm :) ?_
 rintro _ _ _ ⟨bp, bo, rfl, bn, rfl⟩
 refine ro (qab r2 rfl (nl rfl) ?_)
 refine qaa r4 rfl ⟨rfl, rfl, (nl rfl), ?_⟩
 refine ro (qab r0 rfl (nl rfl) ?_)
 refine qcp (fun _ : Ja => []) 117 4 ?_
 exact eE hm
 refine cb hm fun bG bm hm => ckx (JN bm :) ?_
 rintro _ _ _ ⟨bp, bo, rfl, bn, rfl⟩
 refine ro (qab r2 rfl (nl rfl) ?_)
 refine qaa r4 rfl ⟨rfl, rfl, (nl rfl), ?_⟩
 refine ro (qab r0 rfl (nl rfl) ?_)
 refine qcp (fun _ : Ja => []) 117 4 ?_
 exact eE hm
 refine cb hm fun d7 dy hm => ckx (Jat dy :) ?_
 rintro _ _ _ ⟨dl, cL, rfl, cP, rfl⟩
 refine ro (qab r2 rfl (nl rfl) ?_)
 refine qaa r4 rfl ⟨rfl, rfl, (nl rfl), ?_⟩
 refine ro (qab r0 rfl (nl rfl) ?_)
 refine qcp (fun _ : Ja => []) 117 4 ?_
 exact eE hm

def JU (rec_ : (Jb → Option ((List Ja) × Jb))) (n : Nat) : Nat → (List Ja) → Jb → Option ((List Ja) × Jb)
  | 0, _, _ => none
  | aX + 1, ac, aV =>
    (Jr aV).bind fun x5 =>
    (if x5 then (JE aV).bind fun x8 =>
    some (decide (x8.Ab ≠ 5)) else some false).bind fun aZ =>
    (if aZ then (Jy aV 4 ([125] : Str)).bind fun a6 =>
    some (!a6) else some false).bind fun aY =>
    if aY then
    (Ja2 rec_ n aV).bind fun aW =>
    (chk (ac.length + [aW.1].length ≤ lim)).bind fun _ =>
    JU rec_ n aX (ac ++ [aW.1]) aW.2
    else
    some (ac, aV)
def JW : Nat → Jb → Option ((List Ja) × Jb)
  | 0, _ => none
  | n + 1, p =>
    (JU (JW n) n n [] p).bind fun t0 =>
    some (t0.1, t0.2)
theorem Jc0 : ∀ {n : Nat} {p : Jb} {b0 : Nat} {aa : Option Addr} {ab : Nat} {K : Hp} {r : (List Ja) × Jb}
    (hm : JW n p = some r) (hX : (0 < p.list.length → Has aa) ∧ GG K),
    Fn Tryz.prog 97 [.pointer (some ⟨b0, 0, none⟩)] K [Cells b0 163 [.slice aa p.list.length ab, .int .i64 p.atZ, .int .i64 p.line], OwnL Je.enc aa 166 4 ab p.list] (fun v K' H' => ∃ ar_0 : Option Addr, ∃ cr_0 : Nat, ∃ sr_0 : List (List Value), ∃ ar_1 : Option Addr, ∃ cr_1 : Nat, v = .slice ar_0 r.1.length cr_0 ∧ (0 < r.1.length → Has ar_0) ∧ LR Ja.R K' sr_0 r.1 ∧ (0 < r.2.list.length → Has ar_1) ∧ H' = [OwnA ar_0 117 4 cr_0 sr_0, Cells b0 163 [.slice ar_1 r.2.list.length cr_1, .int .i64 r.2.atZ, .int .i64 r.2.line], OwnL Je.enc ar_1 166 4 cr_1 r.2.list]) := by
 intro n
 induction n with
 | zero =>
   intro p b0 aa ab K r hm hX
   rw [JW.eq_1] at hm; cases hm
 | succ n ih =>
   intro p b0 aa ab K r hm hX
   obtain ⟨ae, hG⟩ := hX
   refine Fn.enter Tryz.func97 Tryz.call97 rfl fun F => ?_
   rw [JW.eq_2] at hm
   obtain ⟨s0, aX, hm⟩ := bnd hm
   refine qjd (fun _ : Ja => []) 117 4 ?_
   refine lC (σ := ((List Ja) × Jb) × Option Addr × Nat × List (List Value) × Option Addr × Nat) (rg 3 19) [3] (fun _ => []) (fun (t0, aY, bc, a6, aV, aW) => [(3, .slice aY t0.1.length bc)]) (fun (t0, aY, bc, a6, aV, aW) => [OwnA aY 117 4 bc a6, Cells b0 163 [.slice aV t0.2.list.length aW, .int .i64 t0.2.atZ, .int .i64 t0.2.line], OwnL Je.enc aV 166 4 aW t0.2.list]) (fun zz K1 => match zz with | (t0, aY, bc, a6, aV, aW) => LR Ja.R K1 a6 t0.1 ∧ (0 < t0.1.length → Has aY) ∧ (0 < t0.2.list.length → Has aV)) (fun i0 (t0, aY, bc, a6, aV, aW) => JU (JW n) n i0 t0.1 t0.2 = some s0) (fun (t0, aY, bc, a6, aV, aW) => t0 = s0) (fun i0 => i0) n ((_, _), _, _, _, _, _) aX (And.intro qe (And.intro ?_ ?_))
   clear aX
   rintro i0 ⟨⟨ac, bM⟩, bF, bB, bL, bv, bw⟩ bT cd ⟨bp, bz, bt⟩ aX j0
   dsimp only at aX ⊢
   cases i0 with
   | zero => rw [JU.eq_1] at aX; cases aX
   | succ i0 =>
    rw [JU.eq_2] at aX
    refine qaj rfl ?_
    refine cb aX fun x5 q5 aX => cgx (Jx q5 :) ?_
    obtain ⟨bV, bm, aX⟩ := bnd aX
    refine cS bm (fun bg bm => ?_) fun bg bm => ?_
    refine ct bg ?_
    refine cb bm fun x8 q8 bm => cgx (JS q8 :) ?_
    refine ct bg ?_
    refine Jdt rfl rfl rfl rfl ?_
    refine ct bg (qbb (ct bg ?_))
    obtain ⟨bR, bh, aX⟩ := bnd aX
    refine qaf ?_ ?_ <;> intro aZ
    replace bh := ift ((si bm).symm.trans aZ) bh
    refine ct aZ ?_
    refine cb bh fun ce bO bh => cgx (JI bO :) ?_
    refine ct aZ (qav (ct aZ (qac rfl ?_)))
    refine qaf ?_ ?_ <;> intro bG
    replace aX := ift ((si bh).symm.trans (qgu (qob bG))) aX
    refine qam rfl ?_
    refine cb aX fun bf bQ aX => cfx (Jc8 ih bQ :) ?_
    rintro _ bX _ bN ⟨bb, ba, bA, bC, bK, rfl, bI, bo, bD, rfl⟩
    refine qoc Ja.R_ok r0 bo fun bn bj a8 => ?_
    refine qmg (R := Ja.R) (len := 1) (l := [bf.1]) (css := [[.int .i64 bf.1.Ab, str bf.1.Ac, .slice bb bf.1.Aa.length ba, .int .i64 bf.1.Ad]]) (cl := [.int .i64 bf.1.Ab, str bf.1.Ac, .slice bb bf.1.Aa.length ba, .int .i64 bf.1.Ad]) Ja.R_ok qb3 rfl rfl (LR.snoc LR.nil (Ja.of (x := bf.1) ⟨bb, ba, rfl, a8⟩)) rfl rfl rfl ?_ fun bU => ?_
    · conv => whnf
      refine cT ?_
      first | done | rfl
    obtain ⟨bP, aX⟩ := qax aX
    refine qtp r3 (LR.mono Ja.R_ok (bN.trans bj) bp) rfl qb3 (qdj rfl r0 rfl Ja.R_ok (show LR Ja.R _ [[.int .i64 bf.1.Ab, str bf.1.Ac, .slice bb bf.1.Aa.length ba, .int .i64 bf.1.Ad]] [bf.1] from (LR.snoc LR.nil (Ja.of (x := bf.1) ⟨bb, ba, rfl, a8⟩)))) (show LR Ja.R _ [[.int .i64 bf.1.Ab, str bf.1.Ac, .slice bb bf.1.Aa.length ba, .int .i64 bf.1.Ad]] [bf.1] from (LR.snoc LR.nil (Ja.of (x := bf.1) ⟨bb, ba, rfl, a8⟩))) bP ?_
    intro bY bZ ca r_21 cj
    exact eR aX (_, (_, _), _, _, _, _, _)
    replace aX := qbd ((si bh).symm.trans (qdx (qkr bG))) aX
    refine cT ?_
    exact eM aX (_, _, _, _, _, _)
    replace bh := qbd ((si bm).symm.trans aZ) bh
    refine cf aZ (cf aZ (cf aZ (qac rfl (cF ?_))))
    replace aX := qbd (si bh).symm aX
    refine cT ?_
    exact eM aX (_, _, _, _, _, _)
    refine cf bg (cf bg (cf bg (cf bg ?_)))
    obtain ⟨bR, bh, aX⟩ := bnd aX
    replace bh := qbd (si bm).symm bh
    refine cF (cF (cF (cF (qac rfl (cF ?_)))))
    replace aX := qbd (si bh).symm aX
    refine cT ?_
    exact eM aX (_, _, _, _, _, _)
   rintro ⟨t0, aY, bc, a6, aV, aW⟩ bW bS ⟨bJ, bH, bu⟩ rfl j0
   exact eE hm

def Jbl (rec_ : (Ja → Option (Int))) : List Ja → Nat → Int → Option (Int)
  | [], _, ac => some ac
  | e0 :: aW, i0, ac =>
    (rec_ e0).bind fun aV =>
    (chk (InI (ac + aV))).bind fun _ =>
    Jbl rec_ aW (i0 + 1) (ac + aV)
def Jbd : Nat → Ja → Option (Int)
  | 0, _ => none
  | n + 1, n' =>
    (chk (n'.Aa.length ≤ qa1)).bind fun _ =>
    (Jbl (Jbd n) n'.Aa 0 1).bind fun t0 =>
    some t0
theorem Jc1 : ∀ {n : Nat} {n' : Ja} {aa : Option Addr} {ab : Nat} {K : Hp} {r : Int}
    (hm : Jbd n n' = some r) (ae : LiC Ja.R K aa ab 4 n'.Aa),
    Fn Tryz.prog 101 [.agg #[.int .i64 n'.Ab, str n'.Ac, .slice aa n'.Aa.length ab, .int .i64 n'.Ad]] K [] (fun v K' H' => v = .int .i64 r ∧ H' = []) := by
 intro n
 induction n with
 | zero =>
   intro n' aa ab K r hm ae
   rw [Jbd.eq_1] at hm; cases hm
 | succ n ih =>
   intro n' aa ab K r hm ae
   refine Fn.enter Tryz.func101 Tryz.call101 rfl fun F => ?_
   rw [Jbd.eq_2] at hm
   refine qar ?_
   intro b1
   refine fa rfl (ro (ld r0 rfl rfl (ro (qal rfl ?_))))
   obtain ⟨bg, hm⟩ := qax hm
   obtain ⟨s0, aV, hm⟩ := bnd hm
   refine lD (σ := (Int)) ([3,5] ++ rg 9 9) [0, 1] (fun i0 => [(9, .int .i64 (i0 : Int))]) (fun t0 => [(3, .int .i64 t0)]) (fun _ => []) (fun _ => True) (fun i0 t0 => Jbl (Jbd n) (n'.Aa.drop i0) i0 t0 = some s0) (fun t0 => t0 = s0) (fun i0 => n'.Aa.length - i0) 0 _ aV (And.intro qe (And.intro ?_ ?_))
   clear aV
   rintro i0 ac _ aV j0
   conv at aV => whnf
   refine qac rfl ?_
   refine qaf ?_ ?_ <;> intro w0
   obtain ⟨e0, aW, bj⟩ := ltx w0
   rw [bj, Jbl.eq_2] at aV
   refine qam rfl ?_
   refine RStep.ofN (qae rfl rfl (qda ae.rd aW) (nn _) (qbp aW) ?_)
   obtain ⟨bb, bf, aX, aY, aZ⟩ := LiR.get ae.rd aW
   obtain ⟨ba, a8, rfl, a6⟩ := Ja.out aZ
   refine ro (qao i0 _ aX rfl aY rfl ?_)
   refine qai rfl fun b5 => ?_
   refine qaa r0 rfl ⟨rfl, rfl, (nl rfl), ?_⟩
   refine ro (qab r0 rfl (nl rfl) ?_)
   refine cb aV fun bm bc aV => cgx (ih bc :) ?_
   obtain ⟨bh, aV⟩ := qax aV
   refine qan bh (qan (qbu aW bg) ?_)
   exact eR aV (_, _)
   rw [lty w0, Jbl.eq_1] at aV
   refine cT ?_
   exact eM aV _
   rintro t0 _ rfl j0
   exact eE hm

def Ja7 (rec_ : (Ja → Option (Int))) : List Ja → Nat → Int → Option (Int)
  | [], _, ac => some ac
  | e0 :: aV, i0, ac =>
    (rec_ e0).bind fun aW =>
    Ja7 rec_ aV (i0 + 1) (max ac aW)
def Ja3 : Nat → Ja → Option (Int)
  | 0, _ => none
  | n + 1, n' =>
    (chk (n'.Aa.length ≤ qa1)).bind fun _ =>
    (Ja7 (Ja3 n) n'.Aa 0 0).bind fun t0 =>
    (chk (InI (t0 + 1))).bind fun _ =>
    some (t0 + 1)
theorem JcT : ∀ {n : Nat} {n' : Ja} {aa : Option Addr} {ab : Nat} {K : Hp} {r : Int}
    (hm : Ja3 n n' = some r) (ae : LiC Ja.R K aa ab 4 n'.Aa),
    Fn Tryz.prog 102 [.agg #[.int .i64 n'.Ab, str n'.Ac, .slice aa n'.Aa.length ab, .int .i64 n'.Ad]] K [] (fun v K' H' => v = .int .i64 r ∧ H' = []) := by
 intro n
 induction n with
 | zero =>
   intro n' aa ab K r hm ae
   rw [Ja3.eq_1] at hm; cases hm
 | succ n ih =>
   intro n' aa ab K r hm ae
   refine Fn.enter Tryz.func102 Tryz.call102 rfl fun F => ?_
   rw [Ja3.eq_2] at hm
   refine qar ?_
   intro b1
   refine fa rfl (ro (ld r0 rfl rfl (ro (qal rfl ?_))))
   obtain ⟨bg, hm⟩ := qax hm
   obtain ⟨s0, aV, hm⟩ := bnd hm
   refine lD (σ := (Int)) ([3,5] ++ rg 9 9) [0, 1] (fun i0 => [(9, .int .i64 (i0 : Int))]) (fun t0 => [(3, .int .i64 t0)]) (fun _ => []) (fun _ => True) (fun i0 t0 => Ja7 (Ja3 n) (n'.Aa.drop i0) i0 t0 = some s0) (fun t0 => t0 = s0) (fun i0 => n'.Aa.length - i0) 0 _ aV (And.intro qe (And.intro ?_ ?_))
   clear aV
   rintro i0 ac _ aV j0
   conv at aV => whnf
   refine qac rfl ?_
   refine qaf ?_ ?_ <;> intro w0
   obtain ⟨e0, aW, bh⟩ := ltx w0
   rw [bh, Ja7.eq_2] at aV
   refine qam rfl ?_
   refine RStep.ofN (qae rfl rfl (qda ae.rd aW) (nn _) (qbp aW) ?_)
   obtain ⟨bb, bf, aX, aY, aZ⟩ := LiR.get ae.rd aW
   obtain ⟨ba, a8, rfl, a6⟩ := Ja.out aZ
   refine ro (qao i0 _ aX rfl aY rfl ?_)
   refine qai rfl fun b5 => ?_
   refine qaa r0 rfl ⟨rfl, rfl, (nl rfl), ?_⟩
   refine ro (qab r0 rfl (nl rfl) ?_)
   refine cb aV fun bj bc aV => cgx (ih bc :) ?_
   refine ro (qcl (qan (qbu aW bg) ?_))
   exact eR aV (_, _)
   rw [lty w0, Ja7.eq_1] at aV
   refine cT ?_
   exact eM aV _
   rintro t0 _ rfl j0
   refine ci hm fun hm => ?_
   exact eE hm

def JbU (n : Nat) (text : Str) : Option (Ja × Int × Err) :=
  (JbP n text).bind fun aX =>
  if aX.2.isSome then
  some ((⟨0, ([] : Str), [], 0⟩ : Ja), 0, aX.2)
  else
  (JW n (⟨aX.1, 0, 0⟩ : Jb)).bind fun aV =>
  (Jr aV.2).bind fun ba =>
  (if ba then (JE aV.2).bind fun bc =>
  some (decide (bc.Ab ≠ 5)) else some false).bind fun bb =>
  if bb then
  (J2 aV.2).bind fun a8 =>
  (Jr a8).bind fun a6 =>
  if (!a6) then
  some ((⟨0, ([] : Str), [], 0⟩ : Ja), a8.line, (some 2))
  else
  (Jbd n (⟨1, ([] : Str), aV.1, 1⟩ : Ja)).bind fun aW =>
  (if decide (aW > 512) then some true else (Ja3 n (⟨1, ([] : Str), aV.1, 1⟩ : Ja)).bind fun aY =>
  some (decide (aY > 32))).bind fun aZ =>
  if aZ then
  some ((⟨0, ([] : Str), [], 0⟩ : Ja), 0, (some 5))
  else
  some ((⟨1, ([] : Str), aV.1, 1⟩ : Ja), 0, none)
  else
  (Jr aV.2).bind fun a6 =>
  if (!a6) then
  some ((⟨0, ([] : Str), [], 0⟩ : Ja), aV.2.line, (some 2))
  else
  (Jbd n (⟨1, ([] : Str), aV.1, 1⟩ : Ja)).bind fun aW =>
  (if decide (aW > 512) then some true else (Ja3 n (⟨1, ([] : Str), aV.1, 1⟩ : Ja)).bind fun aY =>
  some (decide (aY > 32))).bind fun aZ =>
  if aZ then
  some ((⟨0, ([] : Str), [], 0⟩ : Ja), 0, (some 5))
  else
  some ((⟨1, ([] : Str), aV.1, 1⟩ : Ja), 0, none)
theorem Jdu {n : Nat} {text : Str} {K : Hp} {r : Ja × Int × Err}
    (hm : JbU n text = some r) (hG : GG K) :
    Fn Tryz.prog 62 [str text] K [] (fun v K' H' => ∃ ar_0 : Option Addr, ∃ cr_0 : Nat, v = .tuple #[.agg #[.int .i64 r.1.Ab, str r.1.Ac, .slice ar_0 r.1.Aa.length cr_0, .int .i64 r.1.Ad], .int .i64 r.2.1, qc3 48 r.2.2] ∧ LiC Ja.R K' ar_0 cr_0 4 r.1.Aa ∧ H' = []) := by
 refine Fn.enter Tryz.func62 Tryz.call62 rfl fun F => ?_
 unfold JbU at hm
 refine qai rfl fun b2 => ?_
 refine cb hm fun bO bK hm => ck0 (JdG bK :) ?_
 rintro _ _ _ ⟨bh, bo, rfl, bB, rfl⟩
 refine qa7 rfl ?_
 refine cs rfl rfl hm ?_ ?_ <;> intro bW hm
 refine qak rfl rfl ?_
 refine qaa r1 rfl ⟨rfl, rfl, (nl rfl), ?_⟩
 exact ro (qab r0 rfl (nl rfl) (eE hm))
 refine qak rfl rfl (cT ?_)
 refine qar ?_
 intro bT
 refine cb hm fun bV bJ hm => cfx (Jc0 bJ :) ?_
 rintro _ bX _ bQ ⟨bC, bt, bm, bH, bz, rfl, bD, a8, bI, rfl⟩
 refine qak rfl rfl (cT (cT (cT ?_)))
 refine qai rfl fun b8 => ?_
 refine qaa r0 rfl ⟨rfl, rfl, (nl rfl), ?_⟩
 refine qaj rfl ?_
 refine cb hm fun bU bL hm => cgx (Jx bL :) ?_
 obtain ⟨bP, ba, hm⟩ := bnd hm
 refine cS ba (fun aW ba => ?_) fun aW ba => ?_
 refine ct aW ?_
 refine cb ba fun bR bM ba => cgx (JS bM :) ?_
 refine ct aW ?_
 refine Jdt rfl rfl rfl rfl ?_
 refine ct aW (qbb (ct aW (qac rfl ?_)))
 refine qaf ?_ ?_ <;> intro bj
 replace hm := ift ((si ba).symm.trans bj) hm
 refine cb hm fun bS bN hm => ckx (Jat bN :) ?_
 rintro _ _ _ ⟨bn, bw, rfl, bp, rfl⟩
 refine cb hm fun bu bc hm => cgx (Jx bc :) ?_
 refine qav ?_
 refine cs rfl rfl hm ?_ ?_ <;> intro bv hm
 refine qba ⟨⟨[], false⟩, _, [(_, _)], []⟩ (by kernel_rfl) ⟨Hp.Le.refl _, (pf rfl), ci0⟩ ?_
 refine qak rfl rfl (qah (fa rfl (qap m0 rfl rfl ?_)))
 refine qas rfl ?_
 refine qaa r4 rfl ⟨rfl, rfl, (nl rfl), ?_⟩
 refine qk (sc [1] rfl) ?_
 exact ro (qab r0 rfl (nl rfl) (eE hm))
 refine qaj rfl ?_
 refine ro (qab r2 rfl (nl rfl) ?_)
 refine qmf Tryz.call101 Ja.R_ok r3 a8 fun aY aZ a6 => ?_
 refine cb hm fun bF bf hm => cgx (Jc1 bf :) ?_
 obtain ⟨bA, aX, hm⟩ := bnd hm
 refine cS aX (fun aV aX => ?_) fun aV aX => ?_
 refine ct aV (ct aV (ct aV (qac rfl (cT ?_))))
 replace hm := ift (si aX).symm hm
 refine qak rfl rfl ?_
 refine qas rfl ?_
 refine qaa r3 rfl ⟨rfl, rfl, (nl rfl), ?_⟩
 exact ro (qab r0 rfl (nl rfl) (eE hm))
 refine ro (qab r2 rfl (nl rfl) (cf aV ?_))
 refine cb aX fun bG bg aX => cgx (JcT bg :) ?_
 refine cf aV (cf aV (qac rfl ?_))
 refine qaf ?_ ?_ <;> intro bb
 replace hm := ift ((si aX).symm.trans bb) hm
 refine qak rfl rfl ?_
 refine qas rfl ?_
 refine qaa r3 rfl ⟨rfl, rfl, (nl rfl), ?_⟩
 exact ro (qab r0 rfl (nl rfl) (eE hm))
 replace hm := qbd ((si aX).symm.trans bb) hm
 refine ro (qab r2 rfl (nl rfl) ?_)
 refine qaa r3 rfl ⟨rfl, rfl, (nl rfl), ?_⟩
 exact ro (qab r0 rfl (nl rfl) (eE hm))
 replace hm := qbd ((si ba).symm.trans bj) hm
 refine cb hm fun bu bc hm => cgx (Jx bc :) ?_
 refine qav ?_
 refine cs rfl rfl hm ?_ ?_ <;> intro bv hm
 refine qba ⟨⟨[], false⟩, _, [(_, _)], []⟩ (by kernel_rfl) ⟨Hp.Le.refl _, (pf rfl), ci0⟩ ?_
 refine qak rfl rfl (qah (fa rfl (qap m0 rfl rfl ?_)))
 refine qas rfl ?_
 refine qaa r4 rfl ⟨rfl, rfl, (nl rfl), ?_⟩
 refine qk (sc [1] rfl) ?_
 exact ro (qab r0 rfl (nl rfl) (eE hm))
 refine qaj rfl ?_
 refine ro (qab r2 rfl (nl rfl) ?_)
 refine qmf Tryz.call101 Ja.R_ok r3 a8 fun aY aZ a6 => ?_
 refine cb hm fun bF bf hm => cgx (Jc1 bf :) ?_
 obtain ⟨bA, aX, hm⟩ := bnd hm
 refine cS aX (fun aV aX => ?_) fun aV aX => ?_
 refine ct aV (ct aV (ct aV (qac rfl (cT ?_))))
 replace hm := ift (si aX).symm hm
 refine qak rfl rfl ?_
 refine qas rfl ?_
 refine qaa r3 rfl ⟨rfl, rfl, (nl rfl), ?_⟩
 exact ro (qab r0 rfl (nl rfl) (eE hm))
 refine ro (qab r2 rfl (nl rfl) (cf aV ?_))
 refine cb aX fun bG bg aX => cgx (JcT bg :) ?_
 refine cf aV (cf aV (qac rfl ?_))
 refine qaf ?_ ?_ <;> intro bb
 replace hm := ift ((si aX).symm.trans bb) hm
 refine qak rfl rfl ?_
 refine qas rfl ?_
 refine qaa r3 rfl ⟨rfl, rfl, (nl rfl), ?_⟩
 exact ro (qab r0 rfl (nl rfl) (eE hm))
 replace hm := qbd ((si aX).symm.trans bb) hm
 refine ro (qab r2 rfl (nl rfl) ?_)
 refine qaa r3 rfl ⟨rfl, rfl, (nl rfl), ?_⟩
 exact ro (qab r0 rfl (nl rfl) (eE hm))
 refine cf aW (cf aW (cf aW (cf aW (qac rfl (cF ?_)))))
 replace hm := qbd (si ba).symm hm
 refine cb hm fun bu bc hm => cgx (Jx bc :) ?_
 refine qav ?_
 refine cs rfl rfl hm ?_ ?_ <;> intro bv hm
 refine qba ⟨⟨[], false⟩, _, [(_, _)], []⟩ (by kernel_rfl) ⟨Hp.Le.refl _, (pf rfl), ci0⟩ ?_
 refine qak rfl rfl (qah (fa rfl (qap m0 rfl rfl ?_)))
 refine qas rfl ?_
 refine qaa r4 rfl ⟨rfl, rfl, (nl rfl), ?_⟩
 refine qk (sc [1] rfl) ?_
 exact ro (qab r0 rfl (nl rfl) (eE hm))
 refine qaj rfl ?_
 refine ro (qab r2 rfl (nl rfl) ?_)
 refine qmf Tryz.call101 Ja.R_ok r3 a8 fun aY aZ a6 => ?_
 refine cb hm fun bF bf hm => cgx (Jc1 bf :) ?_
 obtain ⟨bA, aX, hm⟩ := bnd hm
 refine cS aX (fun aV aX => ?_) fun aV aX => ?_
 refine ct aV (ct aV (ct aV (qac rfl (cT ?_))))
 replace hm := ift (si aX).symm hm
 refine qak rfl rfl ?_
 refine qas rfl ?_
 refine qaa r3 rfl ⟨rfl, rfl, (nl rfl), ?_⟩
 exact ro (qab r0 rfl (nl rfl) (eE hm))
 refine ro (qab r2 rfl (nl rfl) (cf aV ?_))
 refine cb aX fun bG bg aX => cgx (JcT bg :) ?_
 refine cf aV (cf aV (qac rfl ?_))
 refine qaf ?_ ?_ <;> intro bb
 replace hm := ift ((si aX).symm.trans bb) hm
 refine qak rfl rfl ?_
 refine qas rfl ?_
 refine qaa r3 rfl ⟨rfl, rfl, (nl rfl), ?_⟩
 exact ro (qab r0 rfl (nl rfl) (eE hm))
 replace hm := qbd ((si aX).symm.trans bb) hm
 refine ro (qab r2 rfl (nl rfl) ?_)
 refine qaa r3 rfl ⟨rfl, rfl, (nl rfl), ?_⟩
 exact ro (qab r0 rfl (nl rfl) (eE hm))

def JaW (depth : Int) (rec_ : (Ja → Int → Int → Option (Bool × Int))) : List Ja → Nat → Int → Option (Fl (Bool × Int) (Int))
  | [], _, ac => some (Fl.go ac)
  | e0 :: aW, i0, ac =>
    (chk (InI (depth - 1))).bind fun _ =>
    (rec_ e0 ac (depth - 1)).bind fun aV =>
    if (!aV.1) then
    some (Fl.ret (false, aV.2))
    else
    JaW depth rec_ aW (i0 + 1) aV.2
def JaR : Nat → Ja → Int → Int → Option (Bool × Int)
  | 0, _, _, _ => none
  | n + 1, n', nodes, depth =>
    (chk (InI (nodes - 1))).bind fun _ =>
    if (decide ((nodes - 1) < 0) || decide (depth < 1)) then
    some (false, (nodes - 1))
    else
    (chk (n'.Aa.length ≤ qa1)).bind fun _ =>
    (JaW depth (JaR n) n'.Aa 0 (nodes - 1)).bind fun s0 => s0.el some fun t0 =>
    some (true, t0)
theorem Jd9 : ∀ {n : Nat} {n' : Ja} {nodes : Int} {depth : Int} {aa : Option Addr} {ab : Nat} {b1 : Nat} {K : Hp} {r : Bool × Int}
    (hm : JaR n n' nodes depth = some r) (ae : LiC Ja.R K aa ab 4 n'.Aa),
    Fn Tryz.prog 189 [.agg #[.int .i64 n'.Ab, str n'.Ac, .slice aa n'.Aa.length ab, .int .i64 n'.Ad], .pointer (some ⟨b1, 0, none⟩), .int .i64 depth] K [Cells b1 3 [.int .i64 nodes]] (fun v K' H' => v = .bool r.1 ∧ H' = [Cells b1 3 [.int .i64 r.2]]) := by
 intro n
 induction n with
 | zero =>
   intro n' nodes depth aa ab b1 K r hm ae
   rw [JaR.eq_1] at hm; cases hm
 | succ n ih =>
   intro n' nodes depth aa ab b1 K r hm ae
   refine Fn.enter Tryz.func189 Tryz.call189 rfl fun F => ?_
   rw [JaR.eq_2] at hm
   refine qar ?_
   intro b3
   refine qah (ro (ld r1 rfl rfl ?_))
   obtain ⟨bg, hm⟩ := qax hm
   refine qan bg (qah ?_)
   refine qaa r1 rfl ⟨rfl, rfl, (nl rfl), ?_⟩
   refine jR (σ := Unit) (rg 14 8) (fun _ => [(21, .bool (decide ((nodes - 1) < 0) || decide (depth < 1)))]) (fun bh => True) ?_ ?_
   refine qaj rfl ?_
   refine qah (ro (ld r0 rfl rfl ?_))
   refine qaf ?_ ?_ <;> intro aV
   refine ct aV (ct aV ?_)
   exact eMt () ⟨bq (((qco aV)).symm), trivial⟩
   refine cf aV (cf aV ?_)
   exact eMt () ⟨bq (qid (b := decide (depth < 1)) aV), trivial⟩
   rintro _ _ bn
   refine cs rfl rfl hm ?_ ?_ <;> intro bt hm
   exact eE hm
   refine fa rfl (ro (ld r1 rfl rfl (ro (qal rfl ?_))))
   obtain ⟨bf, hm⟩ := qax hm
   obtain ⟨s0, aW, hm⟩ := bnd hm
   refine lD (σ := (Int)) ([6,8] ++ rg 25 11) [1, 2] (fun i0 => [(25, .int .i64 (i0 : Int))]) (fun _ => []) (fun t0 => [Cells b1 3 [.int .i64 t0]]) (fun _ => True) (fun i0 t0 => JaW depth (JaR n) (n'.Aa.drop i0) i0 t0 = some s0) (fun t0 => s0 = Fl.go t0) (fun i0 => n'.Aa.length - i0) 0 _ aW (And.intro qe (And.intro ?_ ?_))
   clear aW
   rintro i0 ac _ aW j0
   conv at aW => whnf
   refine qac rfl ?_
   refine qaf ?_ ?_ <;> intro w0
   obtain ⟨e0, aX, bm⟩ := ltx w0
   rw [bm, JaW.eq_2] at aW
   refine qam rfl ?_
   refine RStep.ofN (qae rfl rfl (qda ae.rd aX) (nn _) (qbp aX) ?_)
   obtain ⟨bj, bc, aY, aZ, a6⟩ := LiR.get ae.rd aX
   obtain ⟨ba, a8, rfl, bb⟩ := Ja.out a6
   refine ro (qao i0 _ aY rfl aZ rfl ?_)
   refine qai rfl fun b8 => ?_
   refine qaa r0 rfl ⟨rfl, rfl, (nl rfl), ?_⟩
   refine ro (qab r0 rfl (nl rfl) ?_)
   refine ci aW fun aW => ?_
   refine cb aW fun bp bo aW => cgx (ih bo :) ?_
   refine qav ?_
   refine cs rfl rfl aW ?_ ?_ <;> intro bu aW
   exact eE (er aW hm)
   refine qan (qbu aX bf) ?_
   exact eR aW (_, _)
   rw [lty w0, JaW.eq_1] at aW
   refine cT ?_
   exact eM aW _
   rintro t0 _ rfl j0
   replace hm := elg hm
   exact eE hm

def JaI : List UInt8 → Nat → Option (Fl (Bool) (Unit))
  | [], _ => some (Fl.go ())
  | e0 :: aW, i0 =>
    (if decide ((e0.toNat : Int) < 48) then some true else some (decide ((e0.toNat : Int) > 57))).bind fun aV =>
    if aV then
    some (Fl.ret false)
    else
    JaI aW (i0 + 1)
def JbJ (s : Str) : Option (Bool) :=
  (chk (s.length ≤ qa1)).bind fun _ =>
  (JaI s 0).bind fun s0 => s0.el some fun t0 =>
  some (decide ((s.length : Int) ≥ 1) && decide ((s.length : Int) ≤ 9))
theorem Jd3 {s : Str} {K : Hp} {r : Bool}
    (hm : JbJ s = some r)  :
    Fn Tryz.prog 258 [str s] K [] (fun v K' H' => v = .bool r ∧ H' = []) := by
 refine Fn.enter Tryz.func258 Tryz.call258 rfl fun F => ?_
 unfold JbJ at hm
 refine ro (qa4 rfl ?_)
 obtain ⟨a8, hm⟩ := qax hm
 obtain ⟨s0, aX, hm⟩ := bnd hm
 refine lD (σ := (Unit)) ([2,3] ++ rg 6 14) [0] (fun i0 => [(6, .int .i64 (i0 : Int))]) (fun _ => []) (fun _ => []) (fun _ => True) (fun i0 _ => JaI (s.drop i0) i0 = some s0) (fun t0 => s0 = Fl.go t0) (fun i0 => s.length - i0) 0 () aX (And.intro qe (And.intro ?_ ?_))
 clear aX
 rintro i0 _ _ aX j0
 conv at aX => whnf
 refine qac rfl ?_
 refine qaf ?_ ?_ <;> intro w0
 obtain ⟨e0, aZ, ba⟩ := ltx w0
 rw [ba, JaI.eq_2] at aX
 refine qam rfl ?_
 refine qaj rfl ?_
 refine qa0 rfl (nn _) aZ ?_
 obtain ⟨bb, aY, aX⟩ := bnd aX
 refine cS aY (fun aV aY => ?_) fun aV aY => ?_
 refine ct aV (ct aV (ct aV (ct aV (qac rfl (cT ?_)))))
 replace aX := ift (si aY).symm aX
 exact eE (er aX hm)
 refine cf aV (cf aV (qa0 rfl (nn _) aZ (cf aV (cf aV (qac rfl ?_)))))
 refine qaf ?_ ?_ <;> intro a6
 replace aX := ift ((si aY).symm.trans a6) aX
 exact eE (er aX hm)
 replace aX := qbd ((si aY).symm.trans a6) aX
 refine qan (qbu aZ a8) ?_
 exact eR aX (_, ())
 rw [lty w0, JaI.eq_1] at aX
 refine cT ?_
 exact eM aX _
 rintro t0 _ rfl j0
 replace hm := elg hm
 refine qaj rfl ?_
 refine ro (qa4 rfl ?_)
 refine qaf ?_ ?_ <;> intro aW
 refine ct aW (ro (qa4 rfl (ct aW (ct aW ?_))))
 exact bE (qc8 (b := decide ((s.length : Int) ≤ 9)) aW) (eE hm)
 refine cf aW (cf aW (cf aW ?_))
 exact bE (((qbh aW)).symm) (eE hm)

def JaS : List UInt8 → Nat → Str → Option (Fl (Str × Err) (Str))
  | [], _, ac => some (Fl.go ac)
  | e0 :: aW, i0, ac =>
    (if decide ((e0.toNat : Int) < 32) then some true else some (decide ((e0.toNat : Int) > 126))).bind fun aV =>
    if aV then
    some (Fl.ret (([] : Str), (some 2)))
    else
    (if decide ((e0.toNat : Int) = 34) then some true else some (decide ((e0.toNat : Int) = 92))).bind fun aX =>
    if aX then
    (chk (ac.length + ([(92 : UInt8)] : Str).length ≤ lim)).bind fun _ =>
    (chk ((ac ++ ([(92 : UInt8)] : Str)).length + ([e0] : Str).length ≤ lim)).bind fun _ =>
    JaS aW (i0 + 1) ((ac ++ ([(92 : UInt8)] : Str)) ++ ([e0] : Str))
    else
    (chk (ac.length + ([e0] : Str).length ≤ lim)).bind fun _ =>
    JaS aW (i0 + 1) (ac ++ ([e0] : Str))
def Jco (s : Str) : Option (Str × Err) :=
  (chk (s.length ≤ qa1)).bind fun _ =>
  (JaS s 0 ([(34 : UInt8)] : Str)).bind fun s0 => s0.el some fun t0 =>
  (chk (t0.length + ([(34 : UInt8)] : Str).length ≤ lim)).bind fun _ =>
  some ((t0 ++ ([(34 : UInt8)] : Str)), none)
theorem JdH {s : Str} {K : Hp} {r : Str × Err}
    (hm : Jco s = some r)  :
    Fn Tryz.prog 238 [str s] K [] (fun v K' H' => v = .tuple #[str r.1, qc3 48 r.2] ∧ H' = []) := by
 refine Fn.enter Tryz.func238 Tryz.call238 rfl fun F => ?_
 unfold Jco at hm
 refine bsO (len := 1) (enc := eU) (l := ([(34 : UInt8)] : Str)) (cl := [.int .u8 34]) qcr rfl rfl (fun _ _ => rfl) rfl rfl rfl ?_ fun b6 => ?_
 · conv => whnf
   refine cT ?_
   first | done | rfl
 refine ro (qa4 rfl ?_)
 obtain ⟨bj, hm⟩ := qax hm
 obtain ⟨s0, aV, hm⟩ := bnd hm
 refine lD (σ := (Str) × Option Addr × Nat) ([2,3,4,5] ++ rg 9 34) [1] (fun i0 => [(9, .int .i64 (i0 : Int))]) (fun (t0, aY, aZ) => [(4, .slice aY t0.length aZ)]) (fun (t0, aY, aZ) => [OwnL eU aY 5 1 aZ t0]) (fun (t0, aY, aZ) => (0 < t0.length → Has aY) ∧ True) (fun i0 (t0, aY, aZ) => JaS (s.drop i0) i0 t0 = some s0) (fun (t0, aY, aZ) => s0 = Fl.go t0) (fun i0 => s.length - i0) 0 (_, _, _) aV (And.intro qe (And.intro ?_ ?_))
 clear aV
 rintro i0 ⟨ac, bz, bp⟩ ⟨bm, _⟩ aV j0
 conv at aV => whnf
 refine qac rfl ?_
 refine qaf ?_ ?_ <;> intro w0
 obtain ⟨e0, a8, bG⟩ := ltx w0
 rw [bG, JaS.eq_2] at aV
 refine qam rfl ?_
 obtain ⟨bh, a6, aV⟩ := bnd aV
 refine jR (σ := Bool) (rg 12 10) (fun ba => [(21, .bool ba)]) (fun ba => ba = bh) ?_ ?_
 replace a6 := bsm a6
 refine qaj rfl ?_
 refine qa0 rfl (nn _) a8 ?_
 obtain ⟨am, bf, a6⟩ := bnd a6
 refine cS bf (fun aX bf => ?_) fun aX bf => ?_
 refine ct aX (ct aX (ct aX (ct aX ?_)))
 exact eMq a6 _ ⟨bq (si bf), trivial⟩
 refine cf aX (cf aX (qa0 rfl (nn _) a8 (cf aX (cf aX ?_))))
 exact eMq a6 _ ⟨bq (si bf), trivial⟩
 rintro ba rfl bH
 refine cs rfl rfl aV ?_ ?_ <;> intro bJ aV
 refine qas rfl ?_
 exact eE (er aV hm)
 refine qaj rfl ?_
 refine qa0 rfl (nn _) a8 (qag ?_)
 obtain ⟨bL, bb, aV⟩ := bnd aV
 refine cS bb (fun aW bb => ?_) fun aW bb => ?_
 refine ct aW (ct aW (ct aW (ct aW (qac rfl (cT ?_)))))
 replace aV := ift (si bb).symm aV
 refine bsO (len := 1) (enc := eU) (l := ([(92 : UInt8)] : Str)) (cl := [.int .u8 92]) qcr rfl rfl (fun _ _ => rfl) rfl rfl rfl ?_ fun bF => ?_
 · conv => whnf
   refine cT ?_
   first | done | rfl
 obtain ⟨bg, aV⟩ := qax aV
 refine apE rfl r1 qcr (qaz rfl r0 rfl (fun _ => rfl) (fun _ => rfl)) bg ?_
 intro bD bB bC
 refine qa0 rfl (nn _) a8 ?_
 refine bsO (len := 1) (enc := eU) (l := ([e0] : Str)) (cl := [.int .u8 (e0.toNat : Int)]) qcr rfl rfl (fun _ _ => rfl) rfl rfl rfl ?_ fun bv => ?_
 · conv => whnf
   refine cT ?_
   first | done | rfl
 obtain ⟨bc, aV⟩ := qax aV
 refine apE rfl r1 qcr (qaz rfl r0 rfl (fun _ => rfl) (fun _ => rfl)) bc ?_
 intro bo bt bw
 refine qan (qbu a8 bj) ?_
 exact eR aV (_, _, _, _)
 refine cf aW (cf aW (qa0 rfl (nn _) a8 (cf aW (qag (cf aW (qac rfl ?_))))))
 refine qaf ?_ ?_ <;> intro bu
 replace aV := ift ((si bb).symm.trans bu) aV
 refine bsO (len := 1) (enc := eU) (l := ([(92 : UInt8)] : Str)) (cl := [.int .u8 92]) qcr rfl rfl (fun _ _ => rfl) rfl rfl rfl ?_ fun bF => ?_
 · conv => whnf
   refine cT ?_
   first | done | rfl
 obtain ⟨bg, aV⟩ := qax aV
 refine apE rfl r1 qcr (qaz rfl r0 rfl (fun _ => rfl) (fun _ => rfl)) bg ?_
 intro bD bB bC
 refine qa0 rfl (nn _) a8 ?_
 refine bsO (len := 1) (enc := eU) (l := ([e0] : Str)) (cl := [.int .u8 (e0.toNat : Int)]) qcr rfl rfl (fun _ _ => rfl) rfl rfl rfl ?_ fun bv => ?_
 · conv => whnf
   refine cT ?_
   first | done | rfl
 obtain ⟨bc, aV⟩ := qax aV
 refine apE rfl r1 qcr (qaz rfl r0 rfl (fun _ => rfl) (fun _ => rfl)) bc ?_
 intro bo bt bw
 refine qan (qbu a8 bj) ?_
 exact eR aV (_, _, _, _)
 replace aV := qbd ((si bb).symm.trans bu) aV
 refine qa0 rfl (nn _) a8 ?_
 refine bsO (len := 1) (enc := eU) (l := ([e0] : Str)) (cl := [.int .u8 (e0.toNat : Int)]) qcr rfl rfl (fun _ _ => rfl) rfl rfl rfl ?_ fun bv => ?_
 · conv => whnf
   refine cT ?_
   first | done | rfl
 obtain ⟨bc, aV⟩ := qax aV
 refine apE rfl r1 qcr (qaz rfl r0 rfl (fun _ => rfl) (fun _ => rfl)) bc ?_
 intro bo bt bw
 refine qan (qbu a8 bj) ?_
 exact eR aV (_, _, _, _)
 rw [lty w0, JaS.eq_1] at aV
 refine cT ?_
 exact eM aV (_, _, _)
 rintro ⟨t0, aY, aZ⟩ ⟨bn, _⟩ rfl j0
 replace hm := elg hm
 refine bsO (len := 1) (enc := eU) (l := ([(34 : UInt8)] : Str)) (cl := [.int .u8 34]) qcr rfl rfl (fun _ _ => rfl) rfl rfl rfl ?_ fun bK => ?_
 · conv => whnf
   refine cT ?_
   first | done | rfl
 obtain ⟨bA, hm⟩ := qax hm
 refine apE rfl r1 qcr (qaz rfl r0 rfl (fun _ => rfl) (fun _ => rfl)) bA ?_
 intro bI bN bM
 refine ro (qfi rfl r0 rfl rfl rfl ?_)
 exact eE hm

def JaJ (s : Str) : Option (Bool) :=
  (Jco s).bind fun x7 =>
  some x7.2.isNone
theorem Jck {s : Str} {K : Hp} {r : Bool}
    (hm : JaJ s = some r)  :
    Fn Tryz.prog 225 [str s] K [] (fun v K' H' => v = .bool r ∧ H' = []) := by
 refine Fn.enter Tryz.func225 Tryz.call225 rfl fun F => ?_
 unfold JaJ at hm
 refine cb hm fun x7 q7 hm => cg0 (JdH q7 :) ?_
 refine qe7 rfl ?_
 exact eE hm

def JbV (n : Nat) (s : Str) : Option (Bool) :=
  (JbP n s).bind fun x7 =>
  (if (x7.2.isNone && decide ((x7.1.length : Int) = 2)) then (ix x7.1 0).bind fun aY =>
  some (decide (aY.Ab = 1)) else some false).bind fun aV =>
  (if aV then (ix x7.1 0).bind fun aX =>
  some (decide (aX.Ac = s)) else some false).bind fun a6 =>
  (if a6 then (Jbc s).bind fun aZ =>
  some (!aZ) else some false).bind fun aW =>
  some aW
theorem JcU {n : Nat} {s : Str} {K : Hp} {r : Bool}
    (hm : JbV n s = some r) (hG : GG K) :
    Fn Tryz.prog 226 [str s] K [] (fun v K' H' => v = .bool r ∧ H' = []) := by
 refine Fn.enter Tryz.func226 Tryz.call226 rfl fun F => ?_
 unfold JbV at hm
 refine cb hm fun x7 q7 hm => ck0 (JdG q7 :) ?_
 rintro _ _ _ ⟨bn, bo, rfl, ba, rfl⟩
 refine qaj rfl ?_
 refine qe7 rfl ?_
 refine qaf ?_ ?_ <;> intro aX
 refine ct aX (ro (qal rfl (ct aX (qag (ct aX ?_)))))
 obtain ⟨bm, a8, hm⟩ := bnd hm
 refine qaf ?_ ?_ <;> intro aW
 replace a8 := ift (qc1 aX aW) a8
 refine ct aW ?_
 obtain ⟨bt, bh, bb, a8⟩ := ixb a8
 refine RStep.ofN (qae rfl rfl (qcz ba bb) bh (qaw rfl bh bb) (ct aW (qa8 rfl (qcz ba bb) (ct aW (ro (qb2 (i := (0 : Int).toNat) (o := 0) r0 rfl bb rfl rfl (ct aW (qag (ct aW ?_)))))))))
 obtain ⟨bg, a6, hm⟩ := bnd hm
 refine qaf ?_ ?_ <;> intro aV
 replace a6 := ift ((si a8).symm.trans aV) a6
 refine ct aV ?_
 obtain ⟨bv, bj, bc, a6⟩ := ixb a6
 refine RStep.ofN (qae rfl rfl (qcz ba bc) bj (qaw rfl bj bc) (ct aV (qa8 rfl (qcz ba bc) (ct aV (ro (qb2 (i := (0 : Int).toNat) (o := 1) r0 rfl bc rfl rfl (ct aV (ct aV (qaq ?_)))))))))
 refine ct aV ?_
 obtain ⟨bf, aZ, hm⟩ := bnd hm
 refine qaf ?_ ?_ <;> intro aY
 replace aZ := ift ((si a6).symm.trans aY) aZ
 refine ct aY ?_
 refine cb aZ fun bu bp aZ => cgx (JcH bp :) ?_
 refine ct aY (qav (ct aY ?_))
 exact bE (si aZ) (eE hm)
 replace aZ := qbd ((si a6).symm.trans aY) aZ
 refine cf aY (cf aY (cf aY ?_))
 exact bE (si aZ) (eE hm)
 replace a6 := qbd ((si a8).symm.trans aV) a6
 refine cf aV (cf aV (cf aV (cf aV (cf aV (cf aV ?_)))))
 obtain ⟨bf, aZ, hm⟩ := bnd hm
 replace aZ := qbd (si a6).symm aZ
 refine cF (cF (cF (cF ?_)))
 exact bE (si aZ) (eE hm)
 replace a8 := qbd (qc2 aX aW) a8
 refine cf aW (cf aW (cf aW (cf aW (cf aW ?_))))
 obtain ⟨bg, a6, hm⟩ := bnd hm
 replace a6 := qbd (si a8).symm a6
 refine cF (cF (cF (cF (cF (cF (cF ?_))))))
 obtain ⟨bf, aZ, hm⟩ := bnd hm
 replace aZ := qbd (si a6).symm aZ
 refine cF (cF (cF (cF ?_)))
 exact bE (si aZ) (eE hm)
 refine cf aX (cf aX (cf aX ?_))
 obtain ⟨bm, a8, hm⟩ := bnd hm
 replace a8 := qbd (qbh aX) a8
 refine cF (cF (cF (cF (cF (cF ?_)))))
 obtain ⟨bg, a6, hm⟩ := bnd hm
 replace a6 := qbd (si a8).symm a6
 refine cF (cF (cF (cF (cF (cF (cF ?_))))))
 obtain ⟨bf, aZ, hm⟩ := bnd hm
 replace aZ := qbd (si a6).symm aZ
 refine cF (cF (cF (cF ?_)))
 exact bE (si aZ) (eE hm)

def J0 (n : Nat) (n' : Ja) : Option (Int) :=
  if decide (n'.Ab = 13) then
  if (!decide (n'.Ac = ([] : Str))) then
  some (-2)
  else
  some 2
  else
  if decide (n'.Ab = 14) then
  if (!decide (n'.Ac = ([] : Str))) then
  some (-2)
  else
  some 2
  else
  if decide (n'.Ab = 17) then
  if (!decide (n'.Ac = ([] : Str))) then
  some (-2)
  else
  some 2
  else
  if decide (n'.Ab = 18) then
  if (!decide (n'.Ac = ([] : Str))) then
  some (-2)
  else
  some 2
  else
  if decide (n'.Ab = 19) then
  if (!decide (n'.Ac = ([] : Str))) then
  some (-2)
  else
  some 2
  else
  if decide (n'.Ab = 15) then
  if (!decide (n'.Ac = ([] : Str))) then
  some (-2)
  else
  some 1
  else
  if decide (n'.Ab = 16) then
  (J9 4 n'.Ac).bind fun aZ =>
  (if aZ then some true else (J9 1 n'.Ac).bind fun a8 =>
  some a8).bind fun aY =>
  if (!aY) then
  some (-2)
  else
  some 2
  else
  if decide (n'.Ab = 20) then
  (JbJ n'.Ac).bind fun a6 =>
  if (!a6) then
  some (-2)
  else
  some 0
  else
  if decide (n'.Ab = 21) then
  (JaJ n'.Ac).bind fun aV =>
  if (!aV) then
  some (-2)
  else
  some 0
  else
  if decide (n'.Ab = 22) then
  if (!(decide (n'.Ac = ([116, 114, 117, 101] : Str)) || decide (n'.Ac = ([102, 97, 108, 115, 101] : Str)))) then
  some (-2)
  else
  some 0
  else
  if decide (n'.Ab = 23) then
  (JbV n n'.Ac).bind fun aW =>
  if (!aW) then
  some (-2)
  else
  some 0
  else
  if decide (n'.Ab = 24) then
  (JbV n n'.Ac).bind fun aX =>
  if (!aX) then
  some (-2)
  else
  some (-1)
  else
  some (-2)
theorem JdU {n : Nat} {n' : Ja} {aa : Option Addr} {ab : Nat} {K : Hp} {r : Int}
    (hm : J0 n n' = some r) (hX : LiC Ja.R K aa ab 4 n'.Aa ∧ GG K) :
    Fn Tryz.prog 242 [.agg #[.int .i64 n'.Ab, str n'.Ac, .slice aa n'.Aa.length ab, .int .i64 n'.Ad]] K [] (fun v K' H' => v = .int .i64 r ∧ H' = []) := by
 obtain ⟨ae, hG⟩ := hX
 refine Fn.enter Tryz.func242 Tryz.call242 rfl fun F => ?_
 unfold J0 at hm
 refine qar ?_
 intro b1
 refine fa rfl (ro (ld r0 rfl rfl (qaq (fa rfl (ro (ld r0 rfl rfl ?_))))))
 refine qam rfl ?_
 refine qag (cs rfl rfl hm ?_ ?_) <;> intro aZ hm
 refine qac rfl (ct aZ (qav ?_))
 refine cs rfl rfl hm ?_ ?_ <;> intro aX hm
 exact eE hm
 exact eE hm
 refine qag (cs rfl rfl hm ?_ ?_) <;> intro aZ hm
 refine qac rfl (ct aZ (qav ?_))
 refine cs rfl rfl hm ?_ ?_ <;> intro aX hm
 exact eE hm
 exact eE hm
 refine qag (cs rfl rfl hm ?_ ?_) <;> intro aZ hm
 refine qac rfl (ct aZ (qav ?_))
 refine cs rfl rfl hm ?_ ?_ <;> intro aX hm
 exact eE hm
 exact eE hm
 refine qag (cs rfl rfl hm ?_ ?_) <;> intro aZ hm
 refine qac rfl (ct aZ (qav ?_))
 refine cs rfl rfl hm ?_ ?_ <;> intro aX hm
 exact eE hm
 exact eE hm
 refine qag (cs rfl rfl hm ?_ ?_) <;> intro aZ hm
 refine qav ?_
 refine cs rfl rfl hm ?_ ?_ <;> intro aX hm
 exact eE hm
 exact eE hm
 refine qag (cs rfl rfl hm ?_ ?_) <;> intro bg hm
 refine qav ?_
 refine cs rfl rfl hm ?_ ?_ <;> intro aX hm
 exact eE hm
 exact eE hm
 refine qag (cs rfl rfl hm ?_ ?_) <;> intro bA hm
 refine qaj rfl ?_
 refine fa rfl (ro (ld r0 rfl rfl ?_))
 refine cb hm fun bh bb hm => cg0 (Jcu bb :) ?_
 obtain ⟨bo, aY, hm⟩ := bnd hm
 refine cS aY (fun aW aY => ?_) fun aW aY => ?_
 refine ct aW (ct aW (ct aW (qav (qac rfl (cF ?_)))))
 replace hm := qbd (qdx (si aY).symm) hm
 exact eE hm
 refine fa rfl (cf aW (ro (ld r0 rfl rfl (cf aW ?_))))
 refine cb aY fun bz a8 aY => cg0 (Jcu a8 :) ?_
 refine cf aW (qav (qac rfl ?_))
 refine qaf ?_ ?_ <;> intro aX
 replace hm := ift (qgu ((si aY).symm.trans (qob aX))) hm
 exact eE hm
 replace hm := qbd (qdx ((si aY).symm.trans (qkr aX))) hm
 exact eE hm
 refine qag (cs rfl rfl hm ?_ ?_) <;> intro bB hm
 refine fa rfl (ro (ld r0 rfl rfl ?_))
 refine cb hm fun bm ba hm => cg0 (Jd3 ba :) ?_
 refine qav ?_
 refine cs rfl rfl hm ?_ ?_ <;> intro aX hm
 exact eE hm
 exact eE hm
 refine qag (cs rfl rfl hm ?_ ?_) <;> intro bt hm
 refine fa rfl (ro (ld r0 rfl rfl ?_))
 refine cb hm fun bn bf hm => cg0 (Jck bf :) ?_
 refine qav ?_
 refine cs rfl rfl hm ?_ ?_ <;> intro aX hm
 exact eE hm
 exact eE hm
 refine qag (cs rfl rfl hm ?_ ?_) <;> intro bu hm
 refine qaj rfl ?_
 refine fa rfl (ro (ld r0 rfl rfl (qaq ?_)))
 refine qaf ?_ ?_ <;> intro aV
 refine ct aV (ct aV (ct aV (qav (qac rfl (cF ?_)))))
 replace hm := qbd (qdx (qco aV)) hm
 exact eE hm
 refine fa rfl (cf aV (ro (ld r0 rfl rfl (cf aV (qaq (cf aV (qav (qac rfl ?_))))))))
 refine qaf ?_ ?_ <;> intro aX
 replace hm := ift (qgu (qf1 aV (qob aX))) hm
 exact eE hm
 replace hm := qbd (qdx (qi2 aV (qkr aX))) hm
 exact eE hm
 refine qag (cs rfl rfl hm ?_ ?_) <;> intro bj hm
 refine fa rfl (ro (ld r0 rfl rfl ?_))
 refine cb hm fun bv bc hm => cgx (JcU bc :) ?_
 refine qav ?_
 refine cs rfl rfl hm ?_ ?_ <;> intro aX hm
 exact eE hm
 exact eE hm
 refine qag (cs rfl rfl hm ?_ ?_) <;> intro bp hm
 refine fa rfl (ro (ld r0 rfl rfl ?_))
 refine cb hm fun bw a6 hm => cgx (JcU a6 :) ?_
 refine qav ?_
 refine cs rfl rfl hm ?_ ?_ <;> intro aX hm
 exact eE hm
 exact eE hm
 exact eE hm

def JR (rec_ : (Ja → Option (Bool))) : List Ja → Nat → Option (Fl (Bool) (Unit))
  | [], _ => some (Fl.go ())
  | e0 :: aW, i0 =>
    (rec_ e0).bind fun aV =>
    if (!aV) then
    some (Fl.ret false)
    else
    JR rec_ aW (i0 + 1)
def Jv : Nat → Ja → Option (Bool)
  | 0, _ => none
  | n + 1, n' =>
    (J0 n n').bind fun x7 =>
    if decide (x7 = (-2)) then
    some false
    else
    if (decide (x7 ≥ 0) && decide ((n'.Aa.length : Int) ≠ x7)) then
    some false
    else
    (chk (n'.Aa.length ≤ qa1)).bind fun _ =>
    (JR (Jv n) n'.Aa 0).bind fun s0 => s0.el some fun t0 =>
    some true
theorem Jan : ∀ {n : Nat} {n' : Ja} {aa : Option Addr} {ab : Nat} {K : Hp} {r : Bool}
    (hm : Jv n n' = some r) (hX : LiC Ja.R K aa ab 4 n'.Aa ∧ GG K),
    Fn Tryz.prog 223 [.agg #[.int .i64 n'.Ab, str n'.Ac, .slice aa n'.Aa.length ab, .int .i64 n'.Ad]] K [] (fun v K' H' => v = .bool r ∧ H' = []) := by
 intro n
 induction n with
 | zero =>
   intro n' aa ab K r hm hX
   rw [Jv.eq_1] at hm; cases hm
 | succ n ih =>
   intro n' aa ab K r hm hX
   obtain ⟨ae, hG⟩ := hX
   refine Fn.enter Tryz.func223 Tryz.call223 rfl fun F => ?_
   rw [Jv.eq_2] at hm
   refine qar ?_
   intro b1
   refine ro (qab r0 rfl (nl rfl) ?_)
   refine cb hm fun x7 q7 hm => cgx (JdU q7 :) ?_
   refine qaj rfl ?_
   refine qag ?_
   refine cS hm (fun aW hm => ?_) fun aW hm => ?_
   refine ct aW (ct aW (ct aW (ct aW (qac rfl (cT ?_)))))
   exact eE hm
   refine cf aW (cf aW ?_)
   refine qaf ?_ ?_ <;> intro aV
   refine fa rfl (ct aV (ro (ld r0 rfl rfl (ct aV (ro (qal rfl (ct aV (ct aV (qbb ?_)))))))))
   refine cf aW (ct aV (cf aW (qac rfl ?_)))
   refine qaf ?_ ?_ <;> intro bn
   replace hm := ift (qc1 aV bn) hm
   exact eE hm
   replace hm := qbd (qc2 aV bn) hm
   refine fa rfl (ro (ld r0 rfl rfl (ro (qal rfl ?_))))
   obtain ⟨bg, hm⟩ := qax hm
   obtain ⟨s0, aX, hm⟩ := bnd hm
   refine lD (σ := (Unit)) ([2,5] ++ rg 24 8) [0, 1] (fun i0 => [(24, .int .i64 (i0 : Int))]) (fun _ => []) (fun _ => []) (fun _ => True) (fun i0 _ => JR (Jv n) (n'.Aa.drop i0) i0 = some s0) (fun t0 => s0 = Fl.go t0) (fun i0 => n'.Aa.length - i0) 0 () aX (And.intro qe (And.intro ?_ ?_))
   clear aX
   rintro i0 _ _ aX j0
   conv at aX => whnf
   refine qac rfl ?_
   refine qaf ?_ ?_ <;> intro w0
   obtain ⟨e0, aY, bm⟩ := ltx w0
   rw [bm, JR.eq_2] at aX
   refine qam rfl ?_
   refine RStep.ofN (qae rfl rfl (qda ae.rd aY) (nn _) (qbp aY) ?_)
   obtain ⟨bh, bf, aZ, a8, a6⟩ := LiR.get ae.rd aY
   obtain ⟨bb, bc, rfl, ba⟩ := Ja.out a6
   refine ro (qao i0 _ aZ rfl a8 rfl ?_)
   refine qai rfl fun b5 => ?_
   refine qaa r0 rfl ⟨rfl, rfl, (nl rfl), ?_⟩
   refine ro (qab r0 rfl (nl rfl) ?_)
   refine cb aX fun bp bj aX => cgx (ih bj :) ?_
   refine qav ?_
   refine cs rfl rfl aX ?_ ?_ <;> intro bo aX
   exact eE (er aX hm)
   refine qan (qbu aY bg) ?_
   exact eR aX (_, ())
   rw [lty w0, JR.eq_1] at aX
   refine cT ?_
   exact eM aX _
   rintro t0 _ rfl j0
   replace hm := elg hm
   exact eE hm
   refine cf aV (cf aV (cf aV (cf aV (cf aW (cf aV (cf aW (qac rfl ?_)))))))
   refine cF ?_
   replace hm := qbd (qbh aV) hm
   refine fa rfl (ro (ld r0 rfl rfl (ro (qal rfl ?_))))
   obtain ⟨bg, hm⟩ := qax hm
   obtain ⟨s0, aX, hm⟩ := bnd hm
   refine lD (σ := (Unit)) ([2,5] ++ rg 24 8) [0, 1] (fun i0 => [(24, .int .i64 (i0 : Int))]) (fun _ => []) (fun _ => []) (fun _ => True) (fun i0 _ => JR (Jv n) (n'.Aa.drop i0) i0 = some s0) (fun t0 => s0 = Fl.go t0) (fun i0 => n'.Aa.length - i0) 0 () aX (And.intro qe (And.intro ?_ ?_))
   clear aX
   rintro i0 _ _ aX j0
   conv at aX => whnf
   refine qac rfl ?_
   refine qaf ?_ ?_ <;> intro w0
   obtain ⟨e0, aY, bm⟩ := ltx w0
   rw [bm, JR.eq_2] at aX
   refine qam rfl ?_
   refine RStep.ofN (qae rfl rfl (qda ae.rd aY) (nn _) (qbp aY) ?_)
   obtain ⟨bh, bf, aZ, a8, a6⟩ := LiR.get ae.rd aY
   obtain ⟨bb, bc, rfl, ba⟩ := Ja.out a6
   refine ro (qao i0 _ aZ rfl a8 rfl ?_)
   refine qai rfl fun b5 => ?_
   refine qaa r0 rfl ⟨rfl, rfl, (nl rfl), ?_⟩
   refine ro (qab r0 rfl (nl rfl) ?_)
   refine cb aX fun bp bj aX => cgx (ih bj :) ?_
   refine qav ?_
   refine cs rfl rfl aX ?_ ?_ <;> intro bo aX
   exact eE (er aX hm)
   refine qan (qbu aY bg) ?_
   exact eR aX (_, ())
   rw [lty w0, JR.eq_1] at aX
   refine cT ?_
   exact eM aX _
   rintro t0 _ rfl j0
   replace hm := elg hm
   exact eE hm

def Jax (aD : (Ja → Option (Bool))) : List Ja → Nat → Option (Fl (Bool) (Unit))
  | [], _ => some (Fl.go ())
  | e0 :: aV, i0 =>
    (aD e0).bind fun am =>
    if (!am) then
    some (Fl.ret false)
    else
    Jax aD aV (i0 + 1)
def Ja6 (aD : (Ja → Option (Bool))) (n : Nat) (n' : Ja) : Option (Bool) :=
  if (decide (n'.Ab ≠ 12) || decide (n'.Ac ≠ ([] : Str))) then
  some false
  else
  (chk (n'.Aa.length ≤ qa1)).bind fun _ =>
  (Jax aD n'.Aa 0).bind fun s0 => s0.el some fun t0 =>
  some true
theorem Jdc {aD : (Ja → Option (Bool))} (ihrec2_0 : ∀ {n' : Ja} {aa : Option Addr} {ab : Nat} {K : Hp} {r : Bool} (hm : aD n' = some r) (hX : LiC Ja.R K aa ab 4 n'.Aa ∧ GG K), Fn Tryz.prog 190 [.agg #[.int .i64 n'.Ab, str n'.Ac, .slice aa n'.Aa.length ab, .int .i64 n'.Ad]] K [] (fun v K' H' => v = .bool r ∧ H' = [])) {n : Nat} {n' : Ja} {aa : Option Addr} {ab : Nat} {K : Hp} {r : Bool}
    (hm : Ja6 aD n n' = some r) (hX : LiC Ja.R K aa ab 4 n'.Aa ∧ GG K) :
    Fn Tryz.prog 224 [.agg #[.int .i64 n'.Ab, str n'.Ac, .slice aa n'.Aa.length ab, .int .i64 n'.Ad]] K [] (fun v K' H' => v = .bool r ∧ H' = []) := by
 obtain ⟨ae, hG⟩ := hX
 refine Fn.enter Tryz.func224 Tryz.call224 rfl fun F => ?_
 unfold Ja6 at hm
 refine qar ?_
 intro b1
 refine jR (σ := Unit) (rg 5 8) (fun _ => [(12, .bool (decide (n'.Ab ≠ 12) || decide (n'.Ac ≠ ([] : Str))))]) (fun bh => True) ?_ ?_
 refine qaj rfl ?_
 refine fa rfl (ro (ld r0 rfl rfl (qbb ?_)))
 refine qaf ?_ ?_ <;> intro aV
 refine ct aV (ct aV (ct aV ?_))
 exact eMt () ⟨bq (((qco aV)).symm), trivial⟩
 refine fa rfl (cf aV (ro (ld r0 rfl rfl (cf aV (qbq (cf aV ?_))))))
 exact eMt () ⟨bq (qid (b := decide (n'.Ac ≠ ([] : Str))) aV), trivial⟩
 rintro _ _ bn
 refine cs rfl rfl hm ?_ ?_ <;> intro bp hm
 exact eE hm
 refine fa rfl (ro (ld r0 rfl rfl (ro (qal rfl ?_))))
 obtain ⟨bc, hm⟩ := qax hm
 obtain ⟨s0, aW, hm⟩ := bnd hm
 refine lD (σ := (Unit)) ([2,4] ++ rg 16 8) [0, 1] (fun i0 => [(16, .int .i64 (i0 : Int))]) (fun _ => []) (fun _ => []) (fun _ => True) (fun i0 _ => Jax aD (n'.Aa.drop i0) i0 = some s0) (fun t0 => s0 = Fl.go t0) (fun i0 => n'.Aa.length - i0) 0 () aW (And.intro qe (And.intro ?_ ?_))
 clear aW
 rintro i0 _ _ aW j0
 conv at aW => whnf
 refine qac rfl ?_
 refine qaf ?_ ?_ <;> intro w0
 obtain ⟨e0, aX, bm⟩ := ltx w0
 rw [bm, Jax.eq_2] at aW
 refine qam rfl ?_
 refine RStep.ofN (qae rfl rfl (qda ae.rd aX) (nn _) (qbp aX) ?_)
 obtain ⟨bf, bg, a6, aZ, aY⟩ := LiR.get ae.rd aX
 obtain ⟨a8, bb, rfl, ba⟩ := Ja.out aY
 refine ro (qao i0 _ a6 rfl aZ rfl ?_)
 refine qai rfl fun b4 => ?_
 refine qaa r0 rfl ⟨rfl, rfl, (nl rfl), ?_⟩
 refine ro (qab r0 rfl (nl rfl) ?_)
 refine cb aW fun am bj aW => cgx (ihrec2_0 bj :) ?_
 refine qav ?_
 refine cs rfl rfl aW ?_ ?_ <;> intro bo aW
 exact eE (er aW hm)
 refine qan (qbu aX bc) ?_
 exact eR aW (_, ())
 rw [lty w0, Jax.eq_1] at aW
 refine cT ?_
 exact eM aW _
 rintro t0 _ rfl j0
 replace hm := elg hm
 exact eE hm
