/- Functions of the program: mirrors, and that a call returns what the mirror says. Printed by gen.py. -/
import Derived.Test.YtiaaooopklhobaaGreatDoorG1
set_option linter.unusedVariables false
set_option linter.unusedSimpArgs false
open Go Go.SL Go.Proofs
noncomputable section
set_option maxRecDepth 1000000
set_option maxHeartbeats 8000000
def JaL (aj : (Jb → Option (Ja × Jb))) : Nat → Jb → Option (Ja × Jb)
  | 0, _ => none
  | n + 1, p =>
    (JB p 1 ([110, 111, 116] : Str)).bind fun x5 =>
    if x5 then
    (Jq p).bind fun x7 =>
    ((JaL aj n) x7.2).bind fun aU =>
    some ((⟨15, ([] : Str), [aU.1], x7.1.Ad⟩ : Ja), aU.2)
    else
    (Jcf aj n p).bind fun aV =>
    some (aV.1, aV.2)
theorem JcH {aj : (Jb → Option (Ja × Jb))} (ihrec0_0 : ∀ {p : Jb} {b0 : Nat} {aa : Option Addr} {ab : Nat} {K : Hp} {r : Ja × Jb} (hm : aj p = some r) (hX : (0 < p.list.length → Has aa) ∧ GG K), Fn Tryz.prog 236 [.pointer (some ⟨b0, 0, none⟩)] K [Cells b0 163 [.slice aa p.list.length ab, .int .i64 p.atZ, .int .i64 p.line], qat Je.enc aa 166 4 ab p.list] (fun v K' H' => ∃ ar_0 : Option Addr, ∃ cr_0 : Nat, ∃ sr_0 : List (List Value), ∃ ar_1 : Option Addr, ∃ cr_1 : Nat, v = .agg #[.int .i64 r.1.Ab, str r.1.Ac, .slice ar_0 r.1.Aa.length cr_0, .int .i64 r.1.Ad] ∧ (0 < r.1.Aa.length → Has ar_0) ∧ LR Ja.R K' sr_0 r.1.Aa ∧ (0 < r.2.list.length → Has ar_1) ∧ H' = [OwnA ar_0 117 4 cr_0 sr_0, Cells b0 163 [.slice ar_1 r.2.list.length cr_1, .int .i64 r.2.atZ, .int .i64 r.2.line], qat Je.enc ar_1 166 4 cr_1 r.2.list])) : ∀ {n : Nat} {p : Jb} {b0 : Nat} {aa : Option Addr} {ab : Nat} {K : Hp} {r : Ja × Jb}
    (hm : JaL aj n p = some r) (hX : (0 < p.list.length → Has aa) ∧ GG K),
    Fn Tryz.prog 261 [.pointer (some ⟨b0, 0, none⟩)] K [Cells b0 163 [.slice aa p.list.length ab, .int .i64 p.atZ, .int .i64 p.line], qat Je.enc aa 166 4 ab p.list] (fun v K' H' => ∃ ar_0 : Option Addr, ∃ cr_0 : Nat, ∃ sr_0 : List (List Value), ∃ ar_1 : Option Addr, ∃ cr_1 : Nat, v = .agg #[.int .i64 r.1.Ab, str r.1.Ac, .slice ar_0 r.1.Aa.length cr_0, .int .i64 r.1.Ad] ∧ (0 < r.1.Aa.length → Has ar_0) ∧ LR Ja.R K' sr_0 r.1.Aa ∧ (0 < r.2.list.length → Has ar_1) ∧ H' = [OwnA ar_0 117 4 cr_0 sr_0, Cells b0 163 [.slice ar_1 r.2.list.length cr_1, .int .i64 r.2.atZ, .int .i64 r.2.line], qat Je.enc ar_1 166 4 cr_1 r.2.list]) := by
 intro n
 induction n with
 | zero =>
   intro p b0 aa ab K r hm hX
   rw [JaL.eq_1] at hm; cases hm
 | succ n ih =>
   intro p b0 aa ab K r hm hX
   obtain ⟨ae, hG⟩ := hX
   refine Fn.enter Tryz.func261 Tryz.call261 rfl fun F => ?_
   rw [JaL.eq_2] at hm
   refine qaf rfl fun b2 => ?_
   refine cb hm fun x5 q5 hm => cgx (Jx q5 :) ?_
   refine cs rfl rfl hm ?_ ?_ <;> intro w5 hm
   refine cb hm fun x7 q7 hm => ckx (Jl q7 :) ?_
   rintro _ _ _ ⟨bv, bw, rfl, bt, rfl⟩
   refine qaf rfl fun b3 => ?_
   refine qaa r0 rfl ⟨rfl, rfl, (nl rfl), ?_⟩
   refine qa6 ⟨⟨[], false⟩, _, [(_, _)], []⟩ (by kernel_rfl) ⟨Hp.Le.refl _, (pf rfl), ci0⟩ ?_
   refine fa rfl (qao m0 rfl rfl ?_)
   refine cb hm fun aV bu hm => cfx (ih bu :) ?_
   rintro _ bD _ bc ⟨aW, aX, bm, a8, a6, rfl, bn, aZ, bb, rfl⟩
   refine qk (sc [3] rfl) ?_
   refine qlf Ja.R_ok r0 aZ fun ba aU aY => ?_
   refine qjs (R := Ja.R) (len := 1) (l := [aV.1]) (css := [[.int .i64 aV.1.Ab, str aV.1.Ac, .slice aW aV.1.Aa.length aX, .int .i64 aV.1.Ad]]) (cl := [.int .i64 aV.1.Ab, str aV.1.Ac, .slice aW aV.1.Aa.length aX, .int .i64 aV.1.Ad]) Ja.R_ok qbx rfl rfl (LR.snoc LR.nil (Ja.of (x := aV.1) ⟨aW, aX, rfl, aY⟩)) rfl rfl rfl ?_ fun bz => ?_
   · conv => whnf
     refine cT ?_
     first | done | rfl
   refine ⟨⟨(bc.trans aU), (sc [3] rfl), ci0⟩, ?_⟩
   refine qai rfl rfl (cT (cT (cT ?_)))
   refine qaa r4 rfl ⟨rfl, rfl, (nl rfl), ?_⟩
   refine ⟨⟨(bc.trans aU), (sc [4] rfl), ci0⟩, ?_⟩
   obtain rfl := si hm
   exact ro (qab r0 rfl (nl rfl) (en (bc.trans aU) ⟨(some ⟨bz, 0, none⟩), 1, ([[.int .i64 aV.1.Ab, str aV.1.Ac, .slice aW aV.1.Aa.length aX, .int .i64 aV.1.Ad]]), a8, a6, rfl, (fun _ => ⟨_, _, rfl⟩), (show LR Ja.R _ [[.int .i64 aV.1.Ab, str aV.1.Ac, .slice aW aV.1.Aa.length aX, .int .i64 aV.1.Ad]] [aV.1] from (LR.snoc LR.nil (Ja.of (x := aV.1) ⟨aW, aX, rfl, aY⟩))), bb, rfl⟩ (sc [1,1,1,2] rfl)))
   refine cb hm fun bC br hm => cfx (JdE ihrec0_0 br :) ?_
   rintro _ bA _ bB ⟨bl, bd, bj, bg, bh, rfl, bo, bf, bp, rfl⟩
   refine qaa r3 rfl ⟨rfl, rfl, (nl rfl), ?_⟩
   exact ro (qab r0 rfl (nl rfl) (eE hm))

def Jaz (aj : (Jb → Option (Ja × Jb))) (n : Nat) : Nat → Ja → Jb → Option (Ja × Jb)
  | 0, _, _ => none
  | aX + 1, ac, aU =>
    (Ju aU).bind fun x7 =>
    (if x7 then (JB aU 1 ([97, 110, 100] : Str)).bind fun aW =>
    some aW else some false).bind fun aY =>
    if aY then
    (Jq aU).bind fun a6 =>
    (JaL aj n a6.2).bind fun aV =>
    (JaS 14 ([] : Str) ac aV.1).bind fun aZ =>
    Jaz aj n aX aZ aV.2
    else
    some (ac, aU)
def Jbx (aj : (Jb → Option (Ja × Jb))) (n : Nat) (p : Jb) : Option (Ja × Jb) :=
  (JaL aj n p).bind fun x5 =>
  (Jaz aj n n x5.1 x5.2).bind fun t0 =>
  some (t0.1, t0.2)
theorem Jcy {aj : (Jb → Option (Ja × Jb))} (ihrec0_0 : ∀ {p : Jb} {b0 : Nat} {aa : Option Addr} {ab : Nat} {K : Hp} {r : Ja × Jb} (hm : aj p = some r) (hX : (0 < p.list.length → Has aa) ∧ GG K), Fn Tryz.prog 236 [.pointer (some ⟨b0, 0, none⟩)] K [Cells b0 163 [.slice aa p.list.length ab, .int .i64 p.atZ, .int .i64 p.line], qat Je.enc aa 166 4 ab p.list] (fun v K' H' => ∃ ar_0 : Option Addr, ∃ cr_0 : Nat, ∃ sr_0 : List (List Value), ∃ ar_1 : Option Addr, ∃ cr_1 : Nat, v = .agg #[.int .i64 r.1.Ab, str r.1.Ac, .slice ar_0 r.1.Aa.length cr_0, .int .i64 r.1.Ad] ∧ (0 < r.1.Aa.length → Has ar_0) ∧ LR Ja.R K' sr_0 r.1.Aa ∧ (0 < r.2.list.length → Has ar_1) ∧ H' = [OwnA ar_0 117 4 cr_0 sr_0, Cells b0 163 [.slice ar_1 r.2.list.length cr_1, .int .i64 r.2.atZ, .int .i64 r.2.line], qat Je.enc ar_1 166 4 cr_1 r.2.list])) {n : Nat} {p : Jb} {b0 : Nat} {aa : Option Addr} {ab : Nat} {K : Hp} {r : Ja × Jb}
    (hm : Jbx aj n p = some r) (hX : (0 < p.list.length → Has aa) ∧ GG K) :
    Fn Tryz.prog 253 [.pointer (some ⟨b0, 0, none⟩)] K [Cells b0 163 [.slice aa p.list.length ab, .int .i64 p.atZ, .int .i64 p.line], qat Je.enc aa 166 4 ab p.list] (fun v K' H' => ∃ ar_0 : Option Addr, ∃ cr_0 : Nat, ∃ sr_0 : List (List Value), ∃ ar_1 : Option Addr, ∃ cr_1 : Nat, v = .agg #[.int .i64 r.1.Ab, str r.1.Ac, .slice ar_0 r.1.Aa.length cr_0, .int .i64 r.1.Ad] ∧ (0 < r.1.Aa.length → Has ar_0) ∧ LR Ja.R K' sr_0 r.1.Aa ∧ (0 < r.2.list.length → Has ar_1) ∧ H' = [OwnA ar_0 117 4 cr_0 sr_0, Cells b0 163 [.slice ar_1 r.2.list.length cr_1, .int .i64 r.2.atZ, .int .i64 r.2.line], qat Je.enc ar_1 166 4 cr_1 r.2.list]) := by
 obtain ⟨ae, hG⟩ := hX
 refine Fn.enter Tryz.func253 Tryz.call253 rfl fun F => ?_
 unfold Jbx at hm
 refine qaf rfl fun b2 => ?_
 refine cb hm fun x5 q5 hm => cfx (JcH ihrec0_0 q5 :) ?_
 rintro _ K5 _ l5 ⟨bW, ca, bR, bY, cj, rfl, ce, bV, bU, rfl⟩
 refine qaf rfl fun b3 => ?_
 refine qaa r0 rfl ⟨rfl, rfl, (nl rfl), ?_⟩
 obtain ⟨s0, aZ, hm⟩ := bnd hm
 refine lC (σ := (Ja × Jb) × Option Addr × Nat × List (List Value) × Option Addr × Nat) (rg 6 12) [4, 5] (fun _ => []) (fun _ => []) (fun (t0, aV, aW, aX, aU, aY) => [Cells b3 117 [.int .i64 t0.1.Ab, str t0.1.Ac, .slice aV t0.1.Aa.length aW, .int .i64 t0.1.Ad], OwnA aV 117 4 aW aX, Cells b0 163 [.slice aU t0.2.list.length aY, .int .i64 t0.2.atZ, .int .i64 t0.2.line], qat Je.enc aU 166 4 aY t0.2.list]) (fun zz K1 => match zz with | (t0, aV, aW, aX, aU, aY) => (0 < t0.1.Aa.length → Has aV) ∧ LR Ja.R K1 aX t0.1.Aa ∧ (0 < t0.2.list.length → Has aU)) (fun i0 (t0, aV, aW, aX, aU, aY) => Jaz aj n i0 t0.1 t0.2 = some s0) (fun (t0, aV, aW, aX, aU, aY) => t0 = s0) (fun i0 => i0) n ((_, _), _, _, _, _, _) aZ (And.intro qe (And.intro ?_ ?_))
 clear aZ
 rintro i0 ⟨⟨ac, bQ⟩, bp, bn, bt, bo, br⟩ co cD ⟨bv, ba, bl⟩ aZ j0
 dsimp only at aZ ⊢
 cases i0 with
 | zero => rw [Jaz.eq_1] at aZ; cases aZ
 | succ i0 =>
  rw [Jaz.eq_2] at aZ
  refine qaj rfl ?_
  refine cb aZ fun x7 q7 aZ => cgx (Js q7 :) ?_
  obtain ⟨cA, bb, aZ⟩ := bnd aZ
  refine cS bb (fun a8 bb => ?_) fun a8 bb => ?_
  refine ct a8 ?_
  refine cb bb fun cC cm bb => cgx (Jx cm :) ?_
  refine ct a8 (qac rfl ?_)
  refine qae ?_ ?_ <;> intro bz
  replace aZ := ift ((si bb).symm.trans bz) aZ
  refine qal rfl ?_
  refine cb aZ fun cu bS aZ => ckx (Jl bS :) ?_
  rintro _ _ _ ⟨bP, bO, rfl, bL, rfl⟩
  refine qa2 ⟨⟨[], false⟩, _, [(_, _)], []⟩ 3 rfl (by kernel_rfl) ⟨Hp.Le.refl _, (sc [2] rfl), ci0⟩ ?_
  refine qcb m0 rfl (nl rfl) ?_
  refine cb aZ fun cE bT aZ => cfx (JcH ihrec0_0 bT :) ?_
  rintro _ cr _ bX ⟨bI, bA, bC, bB, bK, rfl, bH, bc, bD, rfl⟩
  refine qk (sc [3] rfl) ?_
  refine qjr Tryz.call254 Ja.R_ok r4 (LR.mono Ja.R_ok bX ba) fun bj a6 bh => ?_
  refine qjr Tryz.call254 Ja.R_ok r0 (LR.mono Ja.R_ok a6 bc) fun bg bf bd => ?_
  refine cb aZ fun cy bZ aZ => cfx (JaX bZ :) ?_
  rintro _ cB _ cw ⟨bF, bN, bG, rfl, bM, bJ, rfl⟩
  refine ⟨⟨Hp.emp_le _, (pf rfl), ci0⟩, ?_⟩
  refine qaa r3 rfl ⟨rfl, rfl, (nl rfl), ?_⟩
  refine ⟨⟨Hp.emp_le _, (pf rfl), ci0⟩, ?_⟩
  exact eR aZ (_, (_, _), _, _, _, _, _)
  replace aZ := qa9 ((si bb).symm.trans bz) aZ
  refine cT ?_
  exact eM aZ (_, _, _, _, _, _)
  refine cf a8 (cf a8 (qac rfl (cF ?_)))
  replace aZ := qa9 (si bb).symm aZ
  refine cT ?_
  exact eM aZ (_, _, _, _, _, _)
 rintro ⟨t0, aV, aW, aX, aU, aY⟩ cz cn ⟨bw, bu, bm⟩ rfl j0
 refine ro (qab r0 rfl (nl rfl) ?_)
 refine qaa r4 rfl ⟨rfl, rfl, (nl rfl), ?_⟩
 exact ro (qab r0 rfl (nl rfl) (eE hm))

def JaA (rec_ : (Jb → Option (Ja × Jb))) (n : Nat) : Nat → Ja → Jb → Option (Ja × Jb)
  | 0, _, _ => none
  | aX + 1, ac, aU =>
    (Ju aU).bind fun x7 =>
    (if x7 then (JB aU 1 ([111, 114] : Str)).bind fun aW =>
    some aW else some false).bind fun aY =>
    if aY then
    (Jq aU).bind fun a6 =>
    (Jbx rec_ n a6.2).bind fun aV =>
    (JaS 13 ([] : Str) ac aV.1).bind fun aZ =>
    JaA rec_ n aX aZ aV.2
    else
    some (ac, aU)
def J6 : Nat → Jb → Option (Ja × Jb)
  | 0, _ => none
  | n + 1, p =>
    (Jbx (J6 n) n p).bind fun x5 =>
    (JaA (J6 n) n n x5.1 x5.2).bind fun t0 =>
    some (t0.1, t0.2)
theorem JbJ : ∀ {n : Nat} {p : Jb} {b0 : Nat} {aa : Option Addr} {ab : Nat} {K : Hp} {r : Ja × Jb}
    (hm : J6 n p = some r) (hX : (0 < p.list.length → Has aa) ∧ GG K),
    Fn Tryz.prog 236 [.pointer (some ⟨b0, 0, none⟩)] K [Cells b0 163 [.slice aa p.list.length ab, .int .i64 p.atZ, .int .i64 p.line], qat Je.enc aa 166 4 ab p.list] (fun v K' H' => ∃ ar_0 : Option Addr, ∃ cr_0 : Nat, ∃ sr_0 : List (List Value), ∃ ar_1 : Option Addr, ∃ cr_1 : Nat, v = .agg #[.int .i64 r.1.Ab, str r.1.Ac, .slice ar_0 r.1.Aa.length cr_0, .int .i64 r.1.Ad] ∧ (0 < r.1.Aa.length → Has ar_0) ∧ LR Ja.R K' sr_0 r.1.Aa ∧ (0 < r.2.list.length → Has ar_1) ∧ H' = [OwnA ar_0 117 4 cr_0 sr_0, Cells b0 163 [.slice ar_1 r.2.list.length cr_1, .int .i64 r.2.atZ, .int .i64 r.2.line], qat Je.enc ar_1 166 4 cr_1 r.2.list]) := by
 intro n
 induction n with
 | zero =>
   intro p b0 aa ab K r hm hX
   rw [J6.eq_1] at hm; cases hm
 | succ n ih =>
   intro p b0 aa ab K r hm hX
   obtain ⟨ae, hG⟩ := hX
   refine Fn.enter Tryz.func236 Tryz.call236 rfl fun F => ?_
   rw [J6.eq_2] at hm
   refine qaf rfl fun b2 => ?_
   refine cb hm fun x5 q5 hm => cfx (Jcy ih q5 :) ?_
   rintro _ K5 _ l5 ⟨bW, ca, bR, bY, cj, rfl, ce, bV, bU, rfl⟩
   refine qaf rfl fun b3 => ?_
   refine qaa r0 rfl ⟨rfl, rfl, (nl rfl), ?_⟩
   obtain ⟨s0, aZ, hm⟩ := bnd hm
   refine lC (σ := (Ja × Jb) × Option Addr × Nat × List (List Value) × Option Addr × Nat) (rg 6 12) [4, 5] (fun _ => []) (fun _ => []) (fun (t0, aV, aW, aX, aU, aY) => [Cells b3 117 [.int .i64 t0.1.Ab, str t0.1.Ac, .slice aV t0.1.Aa.length aW, .int .i64 t0.1.Ad], OwnA aV 117 4 aW aX, Cells b0 163 [.slice aU t0.2.list.length aY, .int .i64 t0.2.atZ, .int .i64 t0.2.line], qat Je.enc aU 166 4 aY t0.2.list]) (fun zz K1 => match zz with | (t0, aV, aW, aX, aU, aY) => (0 < t0.1.Aa.length → Has aV) ∧ LR Ja.R K1 aX t0.1.Aa ∧ (0 < t0.2.list.length → Has aU)) (fun i0 (t0, aV, aW, aX, aU, aY) => JaA (J6 n) n i0 t0.1 t0.2 = some s0) (fun (t0, aV, aW, aX, aU, aY) => t0 = s0) (fun i0 => i0) n ((_, _), _, _, _, _, _) aZ (And.intro qe (And.intro ?_ ?_))
   clear aZ
   rintro i0 ⟨⟨ac, bQ⟩, bp, bn, bt, bo, br⟩ co cD ⟨bv, ba, bl⟩ aZ j0
   dsimp only at aZ ⊢
   cases i0 with
   | zero => rw [JaA.eq_1] at aZ; cases aZ
   | succ i0 =>
    rw [JaA.eq_2] at aZ
    refine qaj rfl ?_
    refine cb aZ fun x7 q7 aZ => cgx (Js q7 :) ?_
    obtain ⟨cz, bb, aZ⟩ := bnd aZ
    refine cS bb (fun a8 bb => ?_) fun a8 bb => ?_
    refine ct a8 ?_
    refine cb bb fun cC cm bb => cgx (Jx cm :) ?_
    refine ct a8 (qac rfl ?_)
    refine qae ?_ ?_ <;> intro bz
    replace aZ := ift ((si bb).symm.trans bz) aZ
    refine qal rfl ?_
    refine cb aZ fun cu bS aZ => ckx (Jl bS :) ?_
    rintro _ _ _ ⟨bP, bO, rfl, bL, rfl⟩
    refine qa2 ⟨⟨[], false⟩, _, [(_, _)], []⟩ 3 rfl (by kernel_rfl) ⟨Hp.Le.refl _, (sc [2] rfl), ci0⟩ ?_
    refine qcb m0 rfl (nl rfl) ?_
    refine cb aZ fun cE bT aZ => cfx (Jcy ih bT :) ?_
    rintro _ cr _ bX ⟨bI, bA, bC, bB, bK, rfl, bH, bc, bD, rfl⟩
    refine qk (sc [3] rfl) ?_
    refine qjr Tryz.call254 Ja.R_ok r4 (LR.mono Ja.R_ok bX ba) fun bj a6 bh => ?_
    refine qjr Tryz.call254 Ja.R_ok r0 (LR.mono Ja.R_ok a6 bc) fun bg bf bd => ?_
    refine cb aZ fun cy bZ aZ => cfx (JaX bZ :) ?_
    rintro _ cB _ cw ⟨bF, bN, bG, rfl, bM, bJ, rfl⟩
    refine ⟨⟨Hp.emp_le _, (pf rfl), ci0⟩, ?_⟩
    refine qaa r3 rfl ⟨rfl, rfl, (nl rfl), ?_⟩
    refine ⟨⟨Hp.emp_le _, (pf rfl), ci0⟩, ?_⟩
    exact eR aZ (_, (_, _), _, _, _, _, _)
    replace aZ := qa9 ((si bb).symm.trans bz) aZ
    refine cT ?_
    exact eM aZ (_, _, _, _, _, _)
    refine cf a8 (cf a8 (qac rfl (cF ?_)))
    replace aZ := qa9 (si bb).symm aZ
    refine cT ?_
    exact eM aZ (_, _, _, _, _, _)
   rintro ⟨t0, aV, aW, aX, aU, aY⟩ cA cn ⟨bw, bu, bm⟩ rfl j0
   refine ro (qab r0 rfl (nl rfl) ?_)
   refine qaa r4 rfl ⟨rfl, rfl, (nl rfl), ?_⟩
   exact ro (qab r0 rfl (nl rfl) (eE hm))

def Jy (n : Nat) (p : Jb) (sign : Str) : Option ((List Ja) × Jb) :=
  if decide (sign ≠ ([] : Str)) then
  (JI p sign).bind fun aV =>
  (Ju aV).bind fun al =>
  if (!al) then
  some ([], aV)
  else
  (J6 n aV).bind fun aU =>
  (Ju aU.2).bind fun aX =>
  if aX then
  (JI aU.2 ([59] : Str)).bind fun aW =>
  some ([aU.1], aW)
  else
  some ([aU.1], aU.2)
  else
  (Ju p).bind fun al =>
  if (!al) then
  some ([], p)
  else
  (J6 n p).bind fun aU =>
  (Ju aU.2).bind fun aX =>
  if aX then
  (JI aU.2 ([59] : Str)).bind fun aW =>
  some ([aU.1], aW)
  else
  some ([aU.1], aU.2)
theorem Jv {n : Nat} {p : Jb} {sign : Str} {b0 : Nat} {aa : Option Addr} {ab : Nat} {K : Hp} {r : (List Ja) × Jb}
    (hm : Jy n p sign = some r) (hX : (0 < p.list.length → Has aa) ∧ GG K) :
    Fn Tryz.prog 209 [.pointer (some ⟨b0, 0, none⟩), str sign] K [Cells b0 163 [.slice aa p.list.length ab, .int .i64 p.atZ, .int .i64 p.line], qat Je.enc aa 166 4 ab p.list] (fun v K' H' => ∃ ar_0 : Option Addr, ∃ cr_0 : Nat, ∃ sr_0 : List (List Value), ∃ ar_1 : Option Addr, ∃ cr_1 : Nat, v = .slice ar_0 r.1.length cr_0 ∧ (0 < r.1.length → Has ar_0) ∧ LR Ja.R K' sr_0 r.1 ∧ (0 < r.2.list.length → Has ar_1) ∧ H' = [OwnA ar_0 117 4 cr_0 sr_0, Cells b0 163 [.slice ar_1 r.2.list.length cr_1, .int .i64 r.2.atZ, .int .i64 r.2.line], qat Je.enc ar_1 166 4 cr_1 r.2.list]) := by
 obtain ⟨ae, hG⟩ := hX
 refine Fn.enter Tryz.func209 Tryz.call209 rfl fun F => ?_
 unfold Jy at hm
 refine qbk (cs rfl rfl hm ?_ ?_) <;> intro w7 hm
 refine cb hm fun bD bz hm => ckx (JG bz :) ?_
 rintro _ _ _ ⟨bu, br, rfl, bt, rfl⟩
 refine cb hm fun al bn hm => cgx (Js bn :) ?_
 refine qau ?_
 refine cs rfl rfl hm ?_ ?_ <;> intro bB hm
 refine qci (fun _ : Ja => []) 117 4 ?_
 exact eE hm
 refine cb hm fun aU bm hm => cfx (JbJ bm :) ?_
 rintro _ bv _ bh ⟨aW, aV, bj, ba, bb, rfl, bl, a6, bd, rfl⟩
 refine qaf rfl fun b5 => ?_
 refine qaa r0 rfl ⟨rfl, rfl, (nl rfl), ?_⟩
 refine cb hm fun bC bo hm => cgx (Js bo :) ?_
 refine cs rfl rfl hm ?_ ?_ <;> intro bA hm
 refine cb hm fun bw bp hm => ckx (JG bp :) ?_
 rintro _ _ _ ⟨a8, bf, rfl, bc, rfl⟩
 refine ro (qab r2 rfl (nl rfl) ?_)
 refine qlf Ja.R_ok r3 a6 fun aZ aY aX => ?_
 refine qjs (R := Ja.R) (len := 1) (l := [aU.1]) (css := [[.int .i64 aU.1.Ab, str aU.1.Ac, .slice aW aU.1.Aa.length aV, .int .i64 aU.1.Ad]]) (cl := [.int .i64 aU.1.Ab, str aU.1.Ac, .slice aW aU.1.Aa.length aV, .int .i64 aU.1.Ad]) Ja.R_ok qbx rfl rfl (LR.snoc LR.nil (Ja.of (x := aU.1) ⟨aW, aV, rfl, aX⟩)) rfl rfl rfl ?_ fun bg => ?_
 · conv => whnf
   refine cT ?_
   first | done | rfl
 cases hm
 exact en (bh.trans aY) ⟨(some ⟨bg, 0, none⟩), 1, ([[.int .i64 aU.1.Ab, str aU.1.Ac, .slice aW aU.1.Aa.length aV, .int .i64 aU.1.Ad]]), a8, bf, rfl, (fun _ => ⟨_, _, rfl⟩), (show LR Ja.R _ [[.int .i64 aU.1.Ab, str aU.1.Ac, .slice aW aU.1.Aa.length aV, .int .i64 aU.1.Ad]] [aU.1] from (LR.snoc LR.nil (Ja.of (x := aU.1) ⟨aW, aV, rfl, aX⟩))), bc, rfl⟩ (sc [0,0,0,1] rfl)
 refine ro (qab r2 rfl (nl rfl) ?_)
 refine qlf Ja.R_ok r3 a6 fun aZ aY aX => ?_
 refine qjs (R := Ja.R) (len := 1) (l := [aU.1]) (css := [[.int .i64 aU.1.Ab, str aU.1.Ac, .slice aW aU.1.Aa.length aV, .int .i64 aU.1.Ad]]) (cl := [.int .i64 aU.1.Ab, str aU.1.Ac, .slice aW aU.1.Aa.length aV, .int .i64 aU.1.Ad]) Ja.R_ok qbx rfl rfl (LR.snoc LR.nil (Ja.of (x := aU.1) ⟨aW, aV, rfl, aX⟩)) rfl rfl rfl ?_ fun bg => ?_
 · conv => whnf
   refine cT ?_
   first | done | rfl
 cases hm
 exact en (bh.trans aY) ⟨(some ⟨bg, 0, none⟩), 1, ([[.int .i64 aU.1.Ab, str aU.1.Ac, .slice aW aU.1.Aa.length aV, .int .i64 aU.1.Ad]]), ba, bb, rfl, (fun _ => ⟨_, _, rfl⟩), (show LR Ja.R _ [[.int .i64 aU.1.Ab, str aU.1.Ac, .slice aW aU.1.Aa.length aV, .int .i64 aU.1.Ad]] [aU.1] from (LR.snoc LR.nil (Ja.of (x := aU.1) ⟨aW, aV, rfl, aX⟩))), bd, rfl⟩ (sc [0,0,0,1] rfl)
 refine cb hm fun al bn hm => cgx (Js bn :) ?_
 refine qau ?_
 refine cs rfl rfl hm ?_ ?_ <;> intro bB hm
 refine qci (fun _ : Ja => []) 117 4 ?_
 exact eE hm
 refine cb hm fun aU bm hm => cfx (JbJ bm :) ?_
 rintro _ bv _ bh ⟨aW, aV, bj, ba, bb, rfl, bl, a6, bd, rfl⟩
 refine qaf rfl fun b5 => ?_
 refine qaa r0 rfl ⟨rfl, rfl, (nl rfl), ?_⟩
 refine cb hm fun bC bo hm => cgx (Js bo :) ?_
 refine cs rfl rfl hm ?_ ?_ <;> intro bA hm
 refine cb hm fun bw bp hm => ckx (JG bp :) ?_
 rintro _ _ _ ⟨a8, bf, rfl, bc, rfl⟩
 refine ro (qab r2 rfl (nl rfl) ?_)
 refine qlf Ja.R_ok r3 a6 fun aZ aY aX => ?_
 refine qjs (R := Ja.R) (len := 1) (l := [aU.1]) (css := [[.int .i64 aU.1.Ab, str aU.1.Ac, .slice aW aU.1.Aa.length aV, .int .i64 aU.1.Ad]]) (cl := [.int .i64 aU.1.Ab, str aU.1.Ac, .slice aW aU.1.Aa.length aV, .int .i64 aU.1.Ad]) Ja.R_ok qbx rfl rfl (LR.snoc LR.nil (Ja.of (x := aU.1) ⟨aW, aV, rfl, aX⟩)) rfl rfl rfl ?_ fun bg => ?_
 · conv => whnf
   refine cT ?_
   first | done | rfl
 cases hm
 exact en (bh.trans aY) ⟨(some ⟨bg, 0, none⟩), 1, ([[.int .i64 aU.1.Ab, str aU.1.Ac, .slice aW aU.1.Aa.length aV, .int .i64 aU.1.Ad]]), a8, bf, rfl, (fun _ => ⟨_, _, rfl⟩), (show LR Ja.R _ [[.int .i64 aU.1.Ab, str aU.1.Ac, .slice aW aU.1.Aa.length aV, .int .i64 aU.1.Ad]] [aU.1] from (LR.snoc LR.nil (Ja.of (x := aU.1) ⟨aW, aV, rfl, aX⟩))), bc, rfl⟩ (sc [0,0,0,1] rfl)
 refine ro (qab r2 rfl (nl rfl) ?_)
 refine qlf Ja.R_ok r3 a6 fun aZ aY aX => ?_
 refine qjs (R := Ja.R) (len := 1) (l := [aU.1]) (css := [[.int .i64 aU.1.Ab, str aU.1.Ac, .slice aW aU.1.Aa.length aV, .int .i64 aU.1.Ad]]) (cl := [.int .i64 aU.1.Ab, str aU.1.Ac, .slice aW aU.1.Aa.length aV, .int .i64 aU.1.Ad]) Ja.R_ok qbx rfl rfl (LR.snoc LR.nil (Ja.of (x := aU.1) ⟨aW, aV, rfl, aX⟩)) rfl rfl rfl ?_ fun bg => ?_
 · conv => whnf
   refine cT ?_
   first | done | rfl
 cases hm
 exact en (bh.trans aY) ⟨(some ⟨bg, 0, none⟩), 1, ([[.int .i64 aU.1.Ab, str aU.1.Ac, .slice aW aU.1.Aa.length aV, .int .i64 aU.1.Ad]]), ba, bb, rfl, (fun _ => ⟨_, _, rfl⟩), (show LR Ja.R _ [[.int .i64 aU.1.Ab, str aU.1.Ac, .slice aW aU.1.Aa.length aV, .int .i64 aU.1.Ad]] [aU.1] from (LR.snoc LR.nil (Ja.of (x := aU.1) ⟨aW, aV, rfl, aX⟩))), bd, rfl⟩ (sc [0,0,0,1] rfl)

def Jby (p : Jb) : Option (Str × Jb) :=
  (JN p).bind fun x4 =>
  if decide (x4.Ab ≠ 3) then
  (J5 p).bind fun x8 =>
  some (([] : Str), x8)
  else
  (Jq p).bind fun aU =>
  some (aU.1.Ac, aU.2)
theorem Jcz {p : Jb} {b0 : Nat} {aa : Option Addr} {ab : Nat} {K : Hp} {r : Str × Jb}
    (hm : Jby p = some r) (ae : (0 < p.list.length → Has aa)) :
    Fn Tryz.prog 210 [.pointer (some ⟨b0, 0, none⟩)] K [Cells b0 163 [.slice aa p.list.length ab, .int .i64 p.atZ, .int .i64 p.line], qat Je.enc aa 166 4 ab p.list] (fun v K' H' => ∃ ar_0 : Option Addr, ∃ cr_0 : Nat, v = str r.1 ∧ (0 < r.2.list.length → Has ar_0) ∧ H' = [Cells b0 163 [.slice ar_0 r.2.list.length cr_0, .int .i64 r.2.atZ, .int .i64 r.2.line], qat Je.enc ar_0 166 4 cr_0 r.2.list]) := by
 refine Fn.enter Tryz.func210 Tryz.call210 rfl fun F => ?_
 unfold Jby at hm
 refine cb hm fun x4 q4 hm => cgx (JL q4 :) ?_
 refine Jdz rfl rfl rfl rfl ?_
 refine qa8 (cs rfl rfl hm ?_ ?_) <;> intro w6 hm
 refine cb hm fun x8 q8 hm => ckx (Jab q8 :) ?_
 rintro _ _ _ ⟨aY, aZ, rfl, aX, rfl⟩
 exact eE hm
 refine cb hm fun a8 a6 hm => ckx (Jl a6 :) ?_
 rintro _ _ _ ⟨aW, aV, rfl, aU, rfl⟩
 refine Jdz rfl rfl rfl rfl ?_
 exact eE hm

def JaT (aq : (Jb → Option ((List Ja) × Jb))) (n : Nat) (p : Jb) : Option (Ja × Jb) :=
  (JN p).bind fun x5 =>
  (JI p ([123] : Str)).bind fun x9 =>
  (Ju x9).bind fun aW =>
  if aW then
  (aq x9).bind fun aU =>
  (JI aU.2 ([125] : Str)).bind fun aV =>
  some ((⟨12, ([] : Str), aU.1, x5.Ad⟩ : Ja), aV)
  else
  some ((⟨12, ([] : Str), [], x5.Ad⟩ : Ja), x9)
theorem JbB {aq : (Jb → Option ((List Ja) × Jb))} (ihrec1_0 : ∀ {p : Jb} {b0 : Nat} {aa : Option Addr} {ab : Nat} {K : Hp} {r : (List Ja) × Jb} (hm : aq p = some r) (hX : (0 < p.list.length → Has aa) ∧ GG K), Fn Tryz.prog 97 [.pointer (some ⟨b0, 0, none⟩)] K [Cells b0 163 [.slice aa p.list.length ab, .int .i64 p.atZ, .int .i64 p.line], qat Je.enc aa 166 4 ab p.list] (fun v K' H' => ∃ ar_0 : Option Addr, ∃ cr_0 : Nat, ∃ sr_0 : List (List Value), ∃ ar_1 : Option Addr, ∃ cr_1 : Nat, v = .slice ar_0 r.1.length cr_0 ∧ (0 < r.1.length → Has ar_0) ∧ LR Ja.R K' sr_0 r.1 ∧ (0 < r.2.list.length → Has ar_1) ∧ H' = [OwnA ar_0 117 4 cr_0 sr_0, Cells b0 163 [.slice ar_1 r.2.list.length cr_1, .int .i64 r.2.atZ, .int .i64 r.2.line], qat Je.enc ar_1 166 4 cr_1 r.2.list])) {n : Nat} {p : Jb} {b0 : Nat} {aa : Option Addr} {ab : Nat} {K : Hp} {r : Ja × Jb}
    (hm : JaT aq n p = some r) (hX : (0 < p.list.length → Has aa) ∧ GG K) :
    Fn Tryz.prog 237 [.pointer (some ⟨b0, 0, none⟩)] K [Cells b0 163 [.slice aa p.list.length ab, .int .i64 p.atZ, .int .i64 p.line], qat Je.enc aa 166 4 ab p.list] (fun v K' H' => ∃ ar_0 : Option Addr, ∃ cr_0 : Nat, ∃ sr_0 : List (List Value), ∃ ar_1 : Option Addr, ∃ cr_1 : Nat, v = .agg #[.int .i64 r.1.Ab, str r.1.Ac, .slice ar_0 r.1.Aa.length cr_0, .int .i64 r.1.Ad] ∧ (0 < r.1.Aa.length → Has ar_0) ∧ LR Ja.R K' sr_0 r.1.Aa ∧ (0 < r.2.list.length → Has ar_1) ∧ H' = [OwnA ar_0 117 4 cr_0 sr_0, Cells b0 163 [.slice ar_1 r.2.list.length cr_1, .int .i64 r.2.atZ, .int .i64 r.2.line], qat Je.enc ar_1 166 4 cr_1 r.2.list]) := by
 obtain ⟨ae, hG⟩ := hX
 refine Fn.enter Tryz.func237 Tryz.call237 rfl fun F => ?_
 unfold JaT at hm
 refine qaf rfl fun b2 => ?_
 refine cb hm fun x5 q5 hm => cgx (JL q5 :) ?_
 refine Jdz rfl rfl rfl rfl ?_
 refine qai rfl rfl (cT (cT ?_))
 refine qaf rfl fun b3 => ?_
 refine qaa r0 rfl ⟨rfl, rfl, (nl rfl), ?_⟩
 refine cb hm fun x9 q9 hm => ckx (JG q9 :) ?_
 rintro _ _ _ ⟨bg, bd, rfl, bj, rfl⟩
 refine cb hm fun bn bf hm => cgx (Js bf :) ?_
 refine cs rfl rfl hm ?_ ?_ <;> intro bo hm
 refine cb hm fun bp bh hm => cfx (ihrec1_0 bh :) ?_
 rintro _ bm _ br ⟨bc, ba, aU, aX, aW, rfl, aY, a8, aV, rfl⟩
 refine fa rfl ?_
 refine qaa r3 rfl ⟨rfl, rfl, (nl rfl), ?_⟩
 refine cb hm fun bt bl hm => ckx (JG bl :) ?_
 rintro _ _ _ ⟨aZ, a6, rfl, bb, rfl⟩
 refine ro (qab r2 rfl (nl rfl) ?_)
 refine qaa r4 rfl ⟨rfl, rfl, (nl rfl), ?_⟩
 exact ro (qab r0 rfl (nl rfl) (eE hm))
 refine ro (qab r2 rfl (nl rfl) ?_)
 refine qaa r3 rfl ⟨rfl, rfl, (nl rfl), ?_⟩
 refine ro (qab r0 rfl (nl rfl) ?_)
 refine qci (fun _ : Ja => []) 117 4 ?_
 exact eE hm

def Jap (aq : (Jb → Option ((List Ja) × Jb))) : Nat → Jb → Int → Option (Ja × Jb)
  | 0, _, _ => none
  | n + 1, p, line =>
    (J6 n p).bind fun al =>
    (chk ([al.1].length ≤ lim)).bind fun _ =>
    (Ju al.2).bind fun bb =>
    if bb then
    (JaT aq n al.2).bind fun aU =>
    (chk ([al.1].length + [aU.1].length ≤ lim)).bind fun _ =>
    (Ju aU.2).bind fun aZ =>
    (if (!aZ) then some true else (JB aU.2 1 ([101, 108, 115, 101] : Str)).bind fun ba =>
    some (!ba)).bind fun a6 =>
    if a6 then
    some ((⟨2, ([] : Str), ([al.1] ++ [aU.1]), line⟩ : Ja), aU.2)
    else
    (Jq aU.2).bind fun aW =>
    (JB aW.2 1 ([105, 102] : Str)).bind fun a8 =>
    if a8 then
    (Jq aW.2).bind fun aY =>
    ((Jap aq n) aY.2 aY.1.Ad).bind fun aV =>
    (chk (([al.1] ++ [aU.1]).length + [aV.1].length ≤ lim)).bind fun _ =>
    some ((⟨2, ([] : Str), (([al.1] ++ [aU.1]) ++ [aV.1]), line⟩ : Ja), aV.2)
    else
    (JaT aq n aW.2).bind fun aX =>
    (chk (([al.1] ++ [aU.1]).length + [aX.1].length ≤ lim)).bind fun _ =>
    some ((⟨2, ([] : Str), (([al.1] ++ [aU.1]) ++ [aX.1]), line⟩ : Ja), aX.2)
    else
    (Ju al.2).bind fun aZ =>
    (if (!aZ) then some true else (JB al.2 1 ([101, 108, 115, 101] : Str)).bind fun ba =>
    some (!ba)).bind fun a6 =>
    if a6 then
    some ((⟨2, ([] : Str), [al.1], line⟩ : Ja), al.2)
    else
    (Jq al.2).bind fun aW =>
    (JB aW.2 1 ([105, 102] : Str)).bind fun a8 =>
    if a8 then
    (Jq aW.2).bind fun aY =>
    ((Jap aq n) aY.2 aY.1.Ad).bind fun aV =>
    (chk ([al.1].length + [aV.1].length ≤ lim)).bind fun _ =>
    some ((⟨2, ([] : Str), ([al.1] ++ [aV.1]), line⟩ : Ja), aV.2)
    else
    (JaT aq n aW.2).bind fun aX =>
    (chk ([al.1].length + [aX.1].length ≤ lim)).bind fun _ =>
    some ((⟨2, ([] : Str), ([al.1] ++ [aX.1]), line⟩ : Ja), aX.2)
theorem Jdl {aq : (Jb → Option ((List Ja) × Jb))} (ihrec1_0 : ∀ {p : Jb} {b0 : Nat} {aa : Option Addr} {ab : Nat} {K : Hp} {r : (List Ja) × Jb} (hm : aq p = some r) (hX : (0 < p.list.length → Has aa) ∧ GG K), Fn Tryz.prog 97 [.pointer (some ⟨b0, 0, none⟩)] K [Cells b0 163 [.slice aa p.list.length ab, .int .i64 p.atZ, .int .i64 p.line], qat Je.enc aa 166 4 ab p.list] (fun v K' H' => ∃ ar_0 : Option Addr, ∃ cr_0 : Nat, ∃ sr_0 : List (List Value), ∃ ar_1 : Option Addr, ∃ cr_1 : Nat, v = .slice ar_0 r.1.length cr_0 ∧ (0 < r.1.length → Has ar_0) ∧ LR Ja.R K' sr_0 r.1 ∧ (0 < r.2.list.length → Has ar_1) ∧ H' = [OwnA ar_0 117 4 cr_0 sr_0, Cells b0 163 [.slice ar_1 r.2.list.length cr_1, .int .i64 r.2.atZ, .int .i64 r.2.line], qat Je.enc ar_1 166 4 cr_1 r.2.list])) : ∀ {n : Nat} {p : Jb} {line : Int} {b0 : Nat} {aa : Option Addr} {ab : Nat} {K : Hp} {r : Ja × Jb}
    (hm : Jap aq n p line = some r) (hX : (0 < p.list.length → Has aa) ∧ GG K),
    Fn Tryz.prog 207 [.pointer (some ⟨b0, 0, none⟩), .int .i64 line] K [Cells b0 163 [.slice aa p.list.length ab, .int .i64 p.atZ, .int .i64 p.line], qat Je.enc aa 166 4 ab p.list] (fun v K' H' => ∃ ar_0 : Option Addr, ∃ cr_0 : Nat, ∃ sr_0 : List (List Value), ∃ ar_1 : Option Addr, ∃ cr_1 : Nat, v = .agg #[.int .i64 r.1.Ab, str r.1.Ac, .slice ar_0 r.1.Aa.length cr_0, .int .i64 r.1.Ad] ∧ (0 < r.1.Aa.length → Has ar_0) ∧ LR Ja.R K' sr_0 r.1.Aa ∧ (0 < r.2.list.length → Has ar_1) ∧ H' = [OwnA ar_0 117 4 cr_0 sr_0, Cells b0 163 [.slice ar_1 r.2.list.length cr_1, .int .i64 r.2.atZ, .int .i64 r.2.line], qat Je.enc ar_1 166 4 cr_1 r.2.list]) := by
 intro n
 induction n with
 | zero =>
   intro p line b0 aa ab K r hm hX
   rw [Jap.eq_1] at hm; cases hm
 | succ n ih =>
   intro p line b0 aa ab K r hm hX
   obtain ⟨ae, hG⟩ := hX
   refine Fn.enter Tryz.func207 Tryz.call207 rfl fun F => ?_
   rw [Jap.eq_2] at hm
   refine qaf rfl fun b4 => ?_
   refine qai rfl rfl (cT (cT ?_))
   refine qaf rfl fun b5 => ?_
   refine qaa r0 rfl ⟨rfl, rfl, (nl rfl), ?_⟩
   refine qa2 ⟨⟨[], false⟩, _, [(_, _)], []⟩ 5 rfl (by kernel_rfl) ⟨Hp.Le.refl _, (pf rfl), ci0⟩ ?_
   refine fa rfl (qao m0 rfl rfl ?_)
   refine cb hm fun al cM hm => cfx (JbJ cM :) ?_
   rintro _ dg _ cX ⟨bg, bd, cB, co, cw, rfl, cr, bO, cE, rfl⟩
   refine qk (sc [3] rfl) ?_
   refine qlf Ja.R_ok r0 bO fun bU br bh => ?_
   refine qjs (R := Ja.R) (len := 1) (l := [al.1]) (css := [[.int .i64 al.1.Ab, str al.1.Ac, .slice bg al.1.Aa.length bd, .int .i64 al.1.Ad]]) (cl := [.int .i64 al.1.Ab, str al.1.Ac, .slice bg al.1.Aa.length bd, .int .i64 al.1.Ad]) Ja.R_ok qbx rfl rfl (LR.snoc LR.nil (Ja.of (x := al.1) ⟨bg, bd, rfl, bh⟩)) rfl rfl rfl ?_ fun dh => ?_
   · conv => whnf
     refine cT ?_
     first | done | rfl
   refine ⟨⟨(cX.trans br), (sc [3] rfl), ci0⟩, ?_⟩
   obtain ⟨cG, hm⟩ := qaw hm
   refine qr3 (R := Ja.R) qbx (qdd rfl r0 rfl Ja.R_ok (show LR Ja.R _ [[.int .i64 al.1.Ab, str al.1.Ac, .slice bg al.1.Aa.length bd, .int .i64 al.1.Ad]] [al.1] from (LR.snoc LR.nil (Ja.of (x := al.1) ⟨bg, bd, rfl, bh⟩)))) (show LR Ja.R _ [[.int .i64 al.1.Ab, str al.1.Ac, .slice bg al.1.Aa.length bd, .int .i64 al.1.Ad]] [al.1] from (LR.snoc LR.nil (Ja.of (x := al.1) ⟨bg, bd, rfl, bh⟩))) cG ?_
   intro dj di du r_14 dp
   refine ⟨⟨Hp.emp_le _, (pf rfl), ci0⟩, ?_⟩
   refine fa rfl ?_
   refine qaa r4 rfl ⟨rfl, rfl, (nl rfl), ?_⟩
   refine ⟨⟨Hp.emp_le _, (pf rfl), ci0⟩, ?_⟩
   refine cb hm fun dm c5 hm => cgx (Js c5 :) ?_
   refine cs rfl rfl hm ?_ ?_ <;> intro dt hm
   refine qa2 ⟨⟨[], false⟩, _, [(_, _)], []⟩ 5 rfl (by kernel_rfl) ⟨Hp.Le.refl _, (sc [2] rfl), ci0⟩ ?_
   refine fa rfl (qao m0 rfl rfl ?_)
   refine cb hm fun bm cN hm => cfx (JbB ihrec1_0 cN :) ?_
   rintro _ dn _ cD ⟨bf, bl, cC, cy, cA, rfl, cz, bB, cu, rfl⟩
   refine qk (sc [3] rfl) ?_
   refine qlf Ja.R_ok r0 bB fun bI bn bj => ?_
   refine qjs (R := Ja.R) (len := 1) (l := [bm.1]) (css := [[.int .i64 bm.1.Ab, str bm.1.Ac, .slice bf bm.1.Aa.length bl, .int .i64 bm.1.Ad]]) (cl := [.int .i64 bm.1.Ab, str bm.1.Ac, .slice bf bm.1.Aa.length bl, .int .i64 bm.1.Ad]) Ja.R_ok qbx rfl rfl (LR.snoc LR.nil (Ja.of (x := bm.1) ⟨bf, bl, rfl, bj⟩)) rfl rfl rfl ?_ fun df => ?_
   · conv => whnf
     refine cT ?_
     first | done | rfl
   refine ⟨⟨(cD.trans bn), (sc [3] rfl), ci0⟩, ?_⟩
   obtain ⟨cQ, hm⟩ := qaw hm
   refine qpw r4 (LR.mono Ja.R_ok (cD.trans bn) r_14) rfl qbx (qdd rfl r0 rfl Ja.R_ok (show LR Ja.R _ [[.int .i64 bm.1.Ab, str bm.1.Ac, .slice bf bm.1.Aa.length bl, .int .i64 bm.1.Ad]] [bm.1] from (LR.snoc LR.nil (Ja.of (x := bm.1) ⟨bf, bl, rfl, bj⟩)))) (show LR Ja.R _ [[.int .i64 bm.1.Ab, str bm.1.Ac, .slice bf bm.1.Aa.length bl, .int .i64 bm.1.Ad]] [bm.1] from (LR.snoc LR.nil (Ja.of (x := bm.1) ⟨bf, bl, rfl, bj⟩))) cQ ?_
   intro dq dv dw r_23 dk
   refine ⟨⟨Hp.emp_le _, (pf rfl), ci0⟩, ?_⟩
   refine fa rfl ?_
   refine qaa r4 rfl ⟨rfl, rfl, (nl rfl), ?_⟩
   refine ⟨⟨Hp.emp_le _, (pf rfl), ci0⟩, ?_⟩
   refine qaj rfl ?_
   refine cb hm fun cK cm hm => cgx (Js cm :) ?_
   refine qau ?_
   obtain ⟨c4, bo, hm⟩ := bnd hm
   refine cS bo (fun aY bo => ?_) fun aY bo => ?_
   refine ct aY (ct aY (ct aY (qac rfl (cT ?_))))
   replace hm := ift (si bo).symm hm
   refine ro (qab r2 rfl (nl rfl) ?_)
   refine qaa r6 rfl ⟨rfl, rfl, (nl rfl), ?_⟩
   exact ro (qab r0 rfl (nl rfl) (eE hm))
   refine cf aY ?_
   refine cb bo fun cY bX bo => cgx (Jx bX :) ?_
   refine cf aY (qau (cf aY (qac rfl ?_)))
   refine qae ?_ ?_ <;> intro bS
   replace hm := ift ((si bo).symm.trans (qdw (qik bS))) hm
   refine ro (qab r2 rfl (nl rfl) ?_)
   refine qaa r6 rfl ⟨rfl, rfl, (nl rfl), ?_⟩
   exact ro (qab r0 rfl (nl rfl) (eE hm))
   replace hm := qa9 ((si bo).symm.trans (qc0 (qgn bS))) hm
   refine cb hm fun cL bW hm => ckx (Jl bW :) ?_
   rintro _ _ _ ⟨bR, bK, rfl, bD, rfl⟩
   refine cb hm fun c6 cn hm => cgx (Jx cn :) ?_
   refine cs rfl rfl hm ?_ ?_ <;> intro cZ hm
   refine cb hm fun cV ca hm => ckx (Jl ca :) ?_
   rintro _ _ _ ⟨bV, bC, rfl, bN, rfl⟩
   refine qaf rfl fun b6 => ?_
   refine qaa r0 rfl ⟨rfl, rfl, (nl rfl), ?_⟩
   refine qa2 ⟨⟨[], false⟩, _, [(_, _), (_, _)], []⟩ 7 rfl (by kernel_rfl) ⟨Hp.Le.refl _, (sc [3,0] rfl), ci0⟩ ?_
   refine fa rfl (qao m0 rfl rfl (fa rfl (qao m1 rfl rfl ?_)))
   refine cb hm fun ba ce hm => cfx (ih ce :) ?_
   rintro _ cW _ bQ ⟨aU, aW, bT, bL, bz, rfl, bM, bp, bH, rfl⟩
   refine qk (sc [4,3] rfl) ?_
   refine qlf Ja.R_ok r0 bp fun bv bc aV => ?_
   refine qjs (R := Ja.R) (len := 1) (l := [ba.1]) (css := [[.int .i64 ba.1.Ab, str ba.1.Ac, .slice aU ba.1.Aa.length aW, .int .i64 ba.1.Ad]]) (cl := [.int .i64 ba.1.Ab, str ba.1.Ac, .slice aU ba.1.Aa.length aW, .int .i64 ba.1.Ad]) Ja.R_ok qbx rfl rfl (LR.snoc LR.nil (Ja.of (x := ba.1) ⟨aU, aW, rfl, aV⟩)) rfl rfl rfl ?_ fun c8 => ?_
   · conv => whnf
     refine cT ?_
     first | done | rfl
   refine ⟨⟨(bQ.trans bc), (sc [4,3] rfl), ci0⟩, ?_⟩
   obtain ⟨bY, hm⟩ := qaw hm
   refine qpw r5 (LR.mono Ja.R_ok (bQ.trans bc) r_23) rfl qbx (qdd rfl r0 rfl Ja.R_ok (show LR Ja.R _ [[.int .i64 ba.1.Ab, str ba.1.Ac, .slice aU ba.1.Aa.length aW, .int .i64 ba.1.Ad]] [ba.1] from (LR.snoc LR.nil (Ja.of (x := ba.1) ⟨aU, aW, rfl, aV⟩)))) (show LR Ja.R _ [[.int .i64 ba.1.Ab, str ba.1.Ac, .slice aU ba.1.Aa.length aW, .int .i64 ba.1.Ad]] [ba.1] from (LR.snoc LR.nil (Ja.of (x := ba.1) ⟨aU, aW, rfl, aV⟩))) bY ?_
   intro cP cI c9 r_47 cJ
   refine ⟨⟨Hp.emp_le _, (pf rfl), ci0⟩, ?_⟩
   refine fa rfl ?_
   refine qaa r5 rfl ⟨rfl, rfl, (nl rfl), ?_⟩
   refine ⟨⟨Hp.emp_le _, (pf rfl), ci0⟩, ?_⟩
   refine ro (qab r0 rfl (nl rfl) ?_)
   refine qaa r8 rfl ⟨rfl, rfl, (nl rfl), ?_⟩
   exact ro (qab r0 rfl (nl rfl) (eE hm))
   refine qa2 ⟨⟨[], false⟩, _, [(_, _)], []⟩ 5 rfl (by kernel_rfl) ⟨Hp.Le.refl _, (sc [2] rfl), ci0⟩ ?_
   refine fa rfl (qao m0 rfl rfl ?_)
   refine cb hm fun a8 bZ hm => cfx (JbB ihrec1_0 bZ :) ?_
   rintro _ cO _ bw ⟨aX, aZ, bF, bJ, bP, rfl, bA, bt, bG, rfl⟩
   refine qk (sc [3] rfl) ?_
   refine qlf Ja.R_ok r0 bt fun bu bb a6 => ?_
   refine qjs (R := Ja.R) (len := 1) (l := [a8.1]) (css := [[.int .i64 a8.1.Ab, str a8.1.Ac, .slice aX a8.1.Aa.length aZ, .int .i64 a8.1.Ad]]) (cl := [.int .i64 a8.1.Ab, str a8.1.Ac, .slice aX a8.1.Aa.length aZ, .int .i64 a8.1.Ad]) Ja.R_ok qbx rfl rfl (LR.snoc LR.nil (Ja.of (x := a8.1) ⟨aX, aZ, rfl, a6⟩)) rfl rfl rfl ?_ fun de => ?_
   · conv => whnf
     refine cT ?_
     first | done | rfl
   refine ⟨⟨(bw.trans bb), (sc [3] rfl), ci0⟩, ?_⟩
   obtain ⟨cj, hm⟩ := qaw hm
   refine qpw r4 (LR.mono Ja.R_ok (bw.trans bb) r_23) rfl qbx (qdd rfl r0 rfl Ja.R_ok (show LR Ja.R _ [[.int .i64 a8.1.Ab, str a8.1.Ac, .slice aX a8.1.Aa.length aZ, .int .i64 a8.1.Ad]] [a8.1] from (LR.snoc LR.nil (Ja.of (x := a8.1) ⟨aX, aZ, rfl, a6⟩)))) (show LR Ja.R _ [[.int .i64 a8.1.Ab, str a8.1.Ac, .slice aX a8.1.Aa.length aZ, .int .i64 a8.1.Ad]] [a8.1] from (LR.snoc LR.nil (Ja.of (x := a8.1) ⟨aX, aZ, rfl, a6⟩))) cj ?_
   intro cU cR dc r_55 cH
   refine ⟨⟨Hp.emp_le _, (pf rfl), ci0⟩, ?_⟩
   refine fa rfl ?_
   refine qaa r4 rfl ⟨rfl, rfl, (nl rfl), ?_⟩
   refine ⟨⟨Hp.emp_le _, (pf rfl), ci0⟩, ?_⟩
   refine ro (qab r0 rfl (nl rfl) ?_)
   refine qaa r7 rfl ⟨rfl, rfl, (nl rfl), ?_⟩
   exact ro (qab r0 rfl (nl rfl) (eE hm))
   refine qaj rfl ?_
   refine cb hm fun cK cm hm => cgx (Js cm :) ?_
   refine qau ?_
   obtain ⟨c4, bo, hm⟩ := bnd hm
   refine cS bo (fun aY bo => ?_) fun aY bo => ?_
   refine ct aY (ct aY (ct aY (qac rfl (cT ?_))))
   replace hm := ift (si bo).symm hm
   refine ro (qab r2 rfl (nl rfl) ?_)
   refine qaa r5 rfl ⟨rfl, rfl, (nl rfl), ?_⟩
   exact ro (qab r0 rfl (nl rfl) (eE hm))
   refine cf aY ?_
   refine cb bo fun cY bX bo => cgx (Jx bX :) ?_
   refine cf aY (qau (cf aY (qac rfl ?_)))
   refine qae ?_ ?_ <;> intro bS
   replace hm := ift ((si bo).symm.trans (qdw (qik bS))) hm
   refine ro (qab r2 rfl (nl rfl) ?_)
   refine qaa r5 rfl ⟨rfl, rfl, (nl rfl), ?_⟩
   exact ro (qab r0 rfl (nl rfl) (eE hm))
   replace hm := qa9 ((si bo).symm.trans (qc0 (qgn bS))) hm
   refine cb hm fun cL bW hm => ckx (Jl bW :) ?_
   rintro _ _ _ ⟨bR, bK, rfl, bD, rfl⟩
   refine cb hm fun c6 cn hm => cgx (Jx cn :) ?_
   refine cs rfl rfl hm ?_ ?_ <;> intro cZ hm
   refine cb hm fun cV ca hm => ckx (Jl ca :) ?_
   rintro _ _ _ ⟨bV, bC, rfl, bN, rfl⟩
   refine qaf rfl fun b6 => ?_
   refine qaa r0 rfl ⟨rfl, rfl, (nl rfl), ?_⟩
   refine qa2 ⟨⟨[], false⟩, _, [(_, _), (_, _)], []⟩ 7 rfl (by kernel_rfl) ⟨Hp.Le.refl _, (sc [3,0] rfl), ci0⟩ ?_
   refine fa rfl (qao m0 rfl rfl (fa rfl (qao m1 rfl rfl ?_)))
   refine cb hm fun ba ce hm => cfx (ih ce :) ?_
   rintro _ cW _ bQ ⟨aU, aW, bT, bL, bz, rfl, bM, bp, bH, rfl⟩
   refine qk (sc [4,3] rfl) ?_
   refine qlf Ja.R_ok r0 bp fun bv bc aV => ?_
   refine qjs (R := Ja.R) (len := 1) (l := [ba.1]) (css := [[.int .i64 ba.1.Ab, str ba.1.Ac, .slice aU ba.1.Aa.length aW, .int .i64 ba.1.Ad]]) (cl := [.int .i64 ba.1.Ab, str ba.1.Ac, .slice aU ba.1.Aa.length aW, .int .i64 ba.1.Ad]) Ja.R_ok qbx rfl rfl (LR.snoc LR.nil (Ja.of (x := ba.1) ⟨aU, aW, rfl, aV⟩)) rfl rfl rfl ?_ fun c8 => ?_
   · conv => whnf
     refine cT ?_
     first | done | rfl
   refine ⟨⟨(bQ.trans bc), (sc [4,3] rfl), ci0⟩, ?_⟩
   obtain ⟨bY, hm⟩ := qaw hm
   refine qpw r5 (LR.mono Ja.R_ok (bQ.trans bc) r_14) rfl qbx (qdd rfl r0 rfl Ja.R_ok (show LR Ja.R _ [[.int .i64 ba.1.Ab, str ba.1.Ac, .slice aU ba.1.Aa.length aW, .int .i64 ba.1.Ad]] [ba.1] from (LR.snoc LR.nil (Ja.of (x := ba.1) ⟨aU, aW, rfl, aV⟩)))) (show LR Ja.R _ [[.int .i64 ba.1.Ab, str ba.1.Ac, .slice aU ba.1.Aa.length aW, .int .i64 ba.1.Ad]] [ba.1] from (LR.snoc LR.nil (Ja.of (x := ba.1) ⟨aU, aW, rfl, aV⟩))) bY ?_
   intro cP cI c9 r_47 cJ
   refine ⟨⟨Hp.emp_le _, (pf rfl), ci0⟩, ?_⟩
   refine fa rfl ?_
   refine qaa r5 rfl ⟨rfl, rfl, (nl rfl), ?_⟩
   refine ⟨⟨Hp.emp_le _, (pf rfl), ci0⟩, ?_⟩
   refine ro (qab r0 rfl (nl rfl) ?_)
   refine qaa r7 rfl ⟨rfl, rfl, (nl rfl), ?_⟩
   exact ro (qab r0 rfl (nl rfl) (eE hm))
   refine qa2 ⟨⟨[], false⟩, _, [(_, _)], []⟩ 5 rfl (by kernel_rfl) ⟨Hp.Le.refl _, (sc [2] rfl), ci0⟩ ?_
   refine fa rfl (qao m0 rfl rfl ?_)
   refine cb hm fun a8 bZ hm => cfx (JbB ihrec1_0 bZ :) ?_
   rintro _ cO _ bw ⟨aX, aZ, bF, bJ, bP, rfl, bA, bt, bG, rfl⟩
   refine qk (sc [3] rfl) ?_
   refine qlf Ja.R_ok r0 bt fun bu bb a6 => ?_
   refine qjs (R := Ja.R) (len := 1) (l := [a8.1]) (css := [[.int .i64 a8.1.Ab, str a8.1.Ac, .slice aX a8.1.Aa.length aZ, .int .i64 a8.1.Ad]]) (cl := [.int .i64 a8.1.Ab, str a8.1.Ac, .slice aX a8.1.Aa.length aZ, .int .i64 a8.1.Ad]) Ja.R_ok qbx rfl rfl (LR.snoc LR.nil (Ja.of (x := a8.1) ⟨aX, aZ, rfl, a6⟩)) rfl rfl rfl ?_ fun de => ?_
   · conv => whnf
     refine cT ?_
     first | done | rfl
   refine ⟨⟨(bw.trans bb), (sc [3] rfl), ci0⟩, ?_⟩
   obtain ⟨cj, hm⟩ := qaw hm
   refine qpw r4 (LR.mono Ja.R_ok (bw.trans bb) r_14) rfl qbx (qdd rfl r0 rfl Ja.R_ok (show LR Ja.R _ [[.int .i64 a8.1.Ab, str a8.1.Ac, .slice aX a8.1.Aa.length aZ, .int .i64 a8.1.Ad]] [a8.1] from (LR.snoc LR.nil (Ja.of (x := a8.1) ⟨aX, aZ, rfl, a6⟩)))) (show LR Ja.R _ [[.int .i64 a8.1.Ab, str a8.1.Ac, .slice aX a8.1.Aa.length aZ, .int .i64 a8.1.Ad]] [a8.1] from (LR.snoc LR.nil (Ja.of (x := a8.1) ⟨aX, aZ, rfl, a6⟩))) cj ?_
   intro cU cR dc r_55 cH
   refine ⟨⟨Hp.emp_le _, (pf rfl), ci0⟩, ?_⟩
   refine fa rfl ?_
   refine qaa r4 rfl ⟨rfl, rfl, (nl rfl), ?_⟩
   refine ⟨⟨Hp.emp_le _, (pf rfl), ci0⟩, ?_⟩
   refine ro (qab r0 rfl (nl rfl) ?_)
   refine qaa r6 rfl ⟨rfl, rfl, (nl rfl), ?_⟩
   exact ro (qab r0 rfl (nl rfl) (eE hm))

def Jbt (aq : (Jb → Option ((List Ja) × Jb))) (n : Nat) (p : Jb) : Option (Ja × Jb) :=
  (JN p).bind fun x7 =>
  if decide (x7.Ab ≠ 1) then
  (J5 p).bind fun bm =>
  some ((⟨0, ([] : Str), [], x7.Ad⟩ : Ja), bm)
  else
  if decide (x7.Ac = ([105, 102] : Str)) then
  (Jq p).bind fun bv =>
  (Jap aq n bv.2 x7.Ad).bind fun bf =>
  some (bf.1, bf.2)
  else
  if decide (x7.Ac = ([108, 101, 116] : Str)) then
  (Jq p).bind fun a8 =>
  (JN a8.2).bind fun bb =>
  (if decide (bb.Ab ≠ 1) then some true else (Jb4 bb.Ac).bind fun bj =>
  some bj).bind fun bc =>
  if bc then
  (J5 a8.2).bind fun bo =>
  some ((⟨3, ([] : Str), [], x7.Ad⟩ : Ja), bo)
  else
  (Jq a8.2).bind fun bt =>
  (Jy n bt.2 ([61] : Str)).bind fun bd =>
  some ((⟨3, bb.Ac, bd.1, x7.Ad⟩ : Ja), bd.2)
  else
  if decide (x7.Ac = ([112, 97, 116, 104] : Str)) then
  (Jq p).bind fun ba =>
  (Jy n ba.2 ([61] : Str)).bind fun aY =>
  some ((⟨4, x7.Ac, aY.1, x7.Ad⟩ : Ja), aY.2)
  else
  if decide (x7.Ac = ([113, 117, 101, 114, 121] : Str)) then
  (Jq p).bind fun ba =>
  (Jy n ba.2 ([61] : Str)).bind fun aY =>
  some ((⟨4, x7.Ac, aY.1, x7.Ad⟩ : Ja), aY.2)
  else
  if decide (x7.Ac = ([104, 101, 97, 100, 101, 114] : Str)) then
  (Jq p).bind fun bp =>
  (Jby bp.2).bind fun a6 =>
  (Ju a6.2).bind fun bl =>
  if bl then
  (Jy n a6.2 ([61] : Str)).bind fun bg =>
  some ((⟨5, a6.1, bg.1, x7.Ad⟩ : Ja), bg.2)
  else
  some ((⟨5, a6.1, [], x7.Ad⟩ : Ja), a6.2)
  else
  if decide (x7.Ac = ([118, 97, 114, 121] : Str)) then
  (Jq p).bind fun bu =>
  (Jby bu.2).bind fun aZ =>
  (Ju aZ.2).bind fun bh =>
  if bh then
  (JI aZ.2 ([59] : Str)).bind fun bn =>
  some ((⟨6, aZ.1, [], x7.Ad⟩ : Ja), bn)
  else
  some ((⟨6, aZ.1, [], x7.Ad⟩ : Ja), aZ.2)
  else
  if decide (x7.Ac = ([116, 97, 103] : Str)) then
  (Jq p).bind fun aW =>
  if decide (x7.Ac = ([116, 116, 108] : Str)) then
  if decide (x7.Ac = ([100, 101, 110, 121] : Str)) then
  (Jy n aW.2 ([] : Str)).bind fun aU =>
  some ((⟨9, ([] : Str), aU.1, x7.Ad⟩ : Ja), aU.2)
  else
  (Jy n aW.2 ([] : Str)).bind fun aU =>
  some ((⟨8, ([] : Str), aU.1, x7.Ad⟩ : Ja), aU.2)
  else
  if decide (x7.Ac = ([100, 101, 110, 121] : Str)) then
  (Jy n aW.2 ([] : Str)).bind fun aU =>
  some ((⟨9, ([] : Str), aU.1, x7.Ad⟩ : Ja), aU.2)
  else
  (Jy n aW.2 ([] : Str)).bind fun aU =>
  some ((⟨7, ([] : Str), aU.1, x7.Ad⟩ : Ja), aU.2)
  else
  if decide (x7.Ac = ([116, 116, 108] : Str)) then
  (Jq p).bind fun aW =>
  if decide (x7.Ac = ([116, 116, 108] : Str)) then
  if decide (x7.Ac = ([100, 101, 110, 121] : Str)) then
  (Jy n aW.2 ([] : Str)).bind fun aU =>
  some ((⟨9, ([] : Str), aU.1, x7.Ad⟩ : Ja), aU.2)
  else
  (Jy n aW.2 ([] : Str)).bind fun aU =>
  some ((⟨8, ([] : Str), aU.1, x7.Ad⟩ : Ja), aU.2)
  else
  if decide (x7.Ac = ([100, 101, 110, 121] : Str)) then
  (Jy n aW.2 ([] : Str)).bind fun aU =>
  some ((⟨9, ([] : Str), aU.1, x7.Ad⟩ : Ja), aU.2)
  else
  (Jy n aW.2 ([] : Str)).bind fun aU =>
  some ((⟨7, ([] : Str), aU.1, x7.Ad⟩ : Ja), aU.2)
  else
  if decide (x7.Ac = ([100, 101, 110, 121] : Str)) then
  (Jq p).bind fun aW =>
  if decide (x7.Ac = ([116, 116, 108] : Str)) then
  if decide (x7.Ac = ([100, 101, 110, 121] : Str)) then
  (Jy n aW.2 ([] : Str)).bind fun aU =>
  some ((⟨9, ([] : Str), aU.1, x7.Ad⟩ : Ja), aU.2)
  else
  (Jy n aW.2 ([] : Str)).bind fun aU =>
  some ((⟨8, ([] : Str), aU.1, x7.Ad⟩ : Ja), aU.2)
  else
  if decide (x7.Ac = ([100, 101, 110, 121] : Str)) then
  (Jy n aW.2 ([] : Str)).bind fun aU =>
  some ((⟨9, ([] : Str), aU.1, x7.Ad⟩ : Ja), aU.2)
  else
  (Jy n aW.2 ([] : Str)).bind fun aU =>
  some ((⟨7, ([] : Str), aU.1, x7.Ad⟩ : Ja), aU.2)
  else
  if decide (x7.Ac = ([112, 97, 115, 115] : Str)) then
  (Jq p).bind fun aX =>
  if decide (x7.Ac = ([116, 111, 107, 101, 110] : Str)) then
  (JI aX.2 ([59] : Str)).bind fun aV =>
  some ((⟨11, ([] : Str), [], x7.Ad⟩ : Ja), aV)
  else
  (JI aX.2 ([59] : Str)).bind fun aV =>
  some ((⟨10, ([] : Str), [], x7.Ad⟩ : Ja), aV)
  else
  if decide (x7.Ac = ([116, 111, 107, 101, 110] : Str)) then
  (Jq p).bind fun aX =>
  if decide (x7.Ac = ([116, 111, 107, 101, 110] : Str)) then
  (JI aX.2 ([59] : Str)).bind fun aV =>
  some ((⟨11, ([] : Str), [], x7.Ad⟩ : Ja), aV)
  else
  (JI aX.2 ([59] : Str)).bind fun aV =>
  some ((⟨10, ([] : Str), [], x7.Ad⟩ : Ja), aV)
  else
  (J5 p).bind fun br =>
  some ((⟨0, ([] : Str), [], x7.Ad⟩ : Ja), br)
theorem Jc5 {aq : (Jb → Option ((List Ja) × Jb))} (ihrec1_0 : ∀ {p : Jb} {b0 : Nat} {aa : Option Addr} {ab : Nat} {K : Hp} {r : (List Ja) × Jb} (hm : aq p = some r) (hX : (0 < p.list.length → Has aa) ∧ GG K), Fn Tryz.prog 97 [.pointer (some ⟨b0, 0, none⟩)] K [Cells b0 163 [.slice aa p.list.length ab, .int .i64 p.atZ, .int .i64 p.line], qat Je.enc aa 166 4 ab p.list] (fun v K' H' => ∃ ar_0 : Option Addr, ∃ cr_0 : Nat, ∃ sr_0 : List (List Value), ∃ ar_1 : Option Addr, ∃ cr_1 : Nat, v = .slice ar_0 r.1.length cr_0 ∧ (0 < r.1.length → Has ar_0) ∧ LR Ja.R K' sr_0 r.1 ∧ (0 < r.2.list.length → Has ar_1) ∧ H' = [OwnA ar_0 117 4 cr_0 sr_0, Cells b0 163 [.slice ar_1 r.2.list.length cr_1, .int .i64 r.2.atZ, .int .i64 r.2.line], qat Je.enc ar_1 166 4 cr_1 r.2.list])) {n : Nat} {p : Jb} {b0 : Nat} {aa : Option Addr} {ab : Nat} {K : Hp} {r : Ja × Jb}
    (hm : Jbt aq n p = some r) (hX : (0 < p.list.length → Has aa) ∧ GG K) :
    Fn Tryz.prog 150 [.pointer (some ⟨b0, 0, none⟩)] K [Cells b0 163 [.slice aa p.list.length ab, .int .i64 p.atZ, .int .i64 p.line], qat Je.enc aa 166 4 ab p.list] (fun v K' H' => ∃ ar_0 : Option Addr, ∃ cr_0 : Nat, ∃ sr_0 : List (List Value), ∃ ar_1 : Option Addr, ∃ cr_1 : Nat, v = .agg #[.int .i64 r.1.Ab, str r.1.Ac, .slice ar_0 r.1.Aa.length cr_0, .int .i64 r.1.Ad] ∧ (0 < r.1.Aa.length → Has ar_0) ∧ LR Ja.R K' sr_0 r.1.Aa ∧ (0 < r.2.list.length → Has ar_1) ∧ H' = [OwnA ar_0 117 4 cr_0 sr_0, Cells b0 163 [.slice ar_1 r.2.list.length cr_1, .int .i64 r.2.atZ, .int .i64 r.2.line], qat Je.enc ar_1 166 4 cr_1 r.2.list]) := by
 obtain ⟨ae, hG⟩ := hX
 refine Fn.enter Tryz.func150 Tryz.call150 rfl fun F => ?_
 unfold Jbt at hm
 refine qaf rfl fun b2 => ?_
 refine cb hm fun x7 q7 hm => cgx (JL q7 :) ?_
 refine qaf rfl fun b3 => ?_
 refine qaa r0 rfl ⟨rfl, rfl, (nl rfl), ?_⟩
 refine fa rfl (ro (ld r0 rfl rfl (qai rfl rfl (cT ?_))))
 refine qaf rfl fun b4 => ?_
 refine qaa r0 rfl ⟨rfl, rfl, (nl rfl), ?_⟩
 refine fa rfl (ro (ld r1 rfl rfl (qa8 ?_)))
 refine cs rfl rfl hm ?_ ?_ <;> intro eD hm
 refine cb hm fun eu dN hm => ckx (Jab dN :) ?_
 rintro _ _ _ ⟨c9, dg, rfl, cK, rfl⟩
 refine ro (qab r2 rfl (nl rfl) ?_)
 refine qaa r4 rfl ⟨rfl, rfl, (nl rfl), ?_⟩
 refine ro (qab r0 rfl (nl rfl) ?_)
 refine qci (fun _ : Ja => []) 117 4 ?_
 exact eE hm
 refine fa rfl (ro (ld r1 rfl rfl ?_))
 refine qal rfl ?_
 refine qaq (cs rfl rfl hm ?_ ?_) <;> intro eA hm
 refine cb hm fun d6 dA hm => ckx (Jl dA :) ?_
 rintro _ _ _ ⟨bY, cj, rfl, df, rfl⟩
 refine fa rfl (ro (ld r3 rfl rfl ?_))
 refine cb hm fun dZ dD hm => cfx (Jdl ihrec1_0 dD :) ?_
 rintro _ eO _ d7 ⟨cL, dn, cR, bX, c5, rfl, cP, c6, ca, rfl⟩
 refine qaa r5 rfl ⟨rfl, rfl, (nl rfl), ?_⟩
 exact ro (qab r0 rfl (nl rfl) (eE hm))
 refine qaq (cs rfl rfl hm ?_ ?_) <;> intro d9 hm
 refine cb hm fun eK dG hm => ckx (Jl dG :) ?_
 rintro _ _ _ ⟨co, cC, rfl, dv, rfl⟩
 refine fa rfl ?_
 refine qaa r2 rfl ⟨rfl, rfl, (nl rfl), ?_⟩
 refine cb hm fun ew dB hm => cgx (JL dB :) ?_
 refine qaf rfl fun b5 => ?_
 refine qaa r0 rfl ⟨rfl, rfl, (nl rfl), ?_⟩
 obtain ⟨bS, bg, hm⟩ := bnd hm
 refine jR (σ := Bool) (rg 36 8) (fun bo => [(43, .bool bo)]) (fun bo => bo = bS) ?_ ?_
 replace bg := bsm bg
 refine qaj rfl ?_
 refine fa rfl (ro (ld r0 rfl rfl (qa8 ?_)))
 obtain ⟨ei, bA, bg⟩ := bnd bg
 refine cS bA (fun bb bA => ?_) fun bb bA => ?_
 refine ct bb (ct bb (ct bb ?_))
 exact eMq bg _ ⟨bq (si bA), trivial⟩
 refine fa rfl (cf bb (ro (ld r0 rfl rfl (cf bb ?_))))
 refine cb bA fun dV dE bA => cgx (Jcw dE :) ?_
 refine cf bb ?_
 exact eMq bg _ ⟨bq (si bA), trivial⟩
 rintro bo rfl dQ
 refine cs rfl rfl hm ?_ ?_ <;> intro dW hm
 refine cb hm fun eH dI hm => ckx (Jab dI :) ?_
 rintro _ _ _ ⟨cZ, dp, rfl, dm, rfl⟩
 refine ro (qab r3 rfl (nl rfl) ?_)
 refine qaa r5 rfl ⟨rfl, rfl, (nl rfl), ?_⟩
 refine ro (qab r0 rfl (nl rfl) ?_)
 refine qci (fun _ : Ja => []) 117 4 ?_
 exact eE hm
 refine cb hm fun eL dJ hm => ckx (Jl dJ :) ?_
 rintro _ _ _ ⟨cD, c4, rfl, bZ, rfl⟩
 refine fa rfl (ro (ld r2 rfl rfl (fa rfl ?_)))
 refine qaa r3 rfl ⟨rfl, rfl, (nl rfl), ?_⟩
 refine cb hm fun ey dF hm => cfx (Jv dF :) ?_
 rintro _ d4 _ ek ⟨cB, cN, dc, dh, cz, rfl, cU, c8, de, rfl⟩
 refine fa rfl ?_
 refine qaa r3 rfl ⟨rfl, rfl, (nl rfl), ?_⟩
 refine ro (qab r0 rfl (nl rfl) ?_)
 refine qaa r6 rfl ⟨rfl, rfl, (nl rfl), ?_⟩
 exact ro (qab r0 rfl (nl rfl) (eE hm))
 refine qaq (cs rfl rfl hm ?_ ?_) <;> intro cw hm
 refine qac rfl (ct cw ?_)
 refine cb hm fun dM bT hm => ckx (Jl bT :) ?_
 rintro _ _ _ ⟨bG, bM, rfl, bK, rfl⟩
 refine qa6 ⟨⟨[], false⟩, _, [(_, _)], []⟩ (by kernel_rfl) ⟨Hp.Le.refl _, (sc [3] rfl), ci0⟩ ?_
 refine fa rfl (qao m0 rfl rfl (fa rfl ?_))
 refine qaa r2 rfl ⟨rfl, rfl, (nl rfl), ?_⟩
 refine qk (sc [3] rfl) ?_
 refine fa rfl ?_
 refine qaa r0 rfl ⟨rfl, rfl, (nl rfl), ?_⟩
 refine qk (sc [3] rfl) ?_
 refine cb hm fun dU bU hm => cfx (Jv bU :) ?_
 rintro _ dT _ dL ⟨bC, bL, bO, bP, bQ, rfl, bN, bH, bD, rfl⟩
 refine fa rfl ?_
 refine qaa r3 rfl ⟨rfl, rfl, (nl rfl), ?_⟩
 refine ro (qab r0 rfl (nl rfl) ?_)
 refine qaa r5 rfl ⟨rfl, rfl, (nl rfl), ?_⟩
 exact ro (qab r0 rfl (nl rfl) (eE hm))
 refine qaq (cs rfl rfl hm ?_ ?_) <;> intro cw hm
 refine cb hm fun dM bT hm => ckx (Jl bT :) ?_
 rintro _ _ _ ⟨bG, bM, rfl, bK, rfl⟩
 refine qa6 ⟨⟨[], false⟩, _, [(_, _)], []⟩ (by kernel_rfl) ⟨Hp.Le.refl _, (sc [3] rfl), ci0⟩ ?_
 refine fa rfl (qao m0 rfl rfl (fa rfl ?_))
 refine qaa r2 rfl ⟨rfl, rfl, (nl rfl), ?_⟩
 refine qk (sc [3] rfl) ?_
 refine fa rfl ?_
 refine qaa r0 rfl ⟨rfl, rfl, (nl rfl), ?_⟩
 refine qk (sc [3] rfl) ?_
 refine cb hm fun dU bU hm => cfx (Jv bU :) ?_
 rintro _ dT _ dL ⟨bC, bL, bO, bP, bQ, rfl, bN, bH, bD, rfl⟩
 refine fa rfl ?_
 refine qaa r3 rfl ⟨rfl, rfl, (nl rfl), ?_⟩
 refine ro (qab r0 rfl (nl rfl) ?_)
 refine qaa r5 rfl ⟨rfl, rfl, (nl rfl), ?_⟩
 exact ro (qab r0 rfl (nl rfl) (eE hm))
 refine qaq (cs rfl rfl hm ?_ ?_) <;> intro ej hm
 refine cb hm fun dX dH hm => ckx (Jl dH :) ?_
 rintro _ _ _ ⟨cr, cW, rfl, dw, rfl⟩
 refine fa rfl ?_
 refine qaa r2 rfl ⟨rfl, rfl, (nl rfl), ?_⟩
 refine cb hm fun eg dP hm => ckx (Jcz dP :) ?_
 rintro _ _ _ ⟨cE, ce, rfl, cn, rfl⟩
 refine fa rfl ?_
 refine qaa r2 rfl ⟨rfl, rfl, (nl rfl), ?_⟩
 refine cb hm fun eJ dR hm => cgx (Js dR :) ?_
 refine cs rfl rfl hm ?_ ?_ <;> intro eF hm
 refine cb hm fun d3 dz hm => cfx (Jv dz :) ?_
 rintro _ ep _ d5 ⟨cX, dx, cy, cV, cG, rfl, cQ, di, cA, rfl⟩
 refine fa rfl ?_
 refine qaa r3 rfl ⟨rfl, rfl, (nl rfl), ?_⟩
 refine ro (qab r0 rfl (nl rfl) ?_)
 refine qaa r5 rfl ⟨rfl, rfl, (nl rfl), ?_⟩
 exact ro (qab r0 rfl (nl rfl) (eE hm))
 refine ro (qab r2 rfl (nl rfl) ?_)
 refine qaa r4 rfl ⟨rfl, rfl, (nl rfl), ?_⟩
 refine ro (qab r0 rfl (nl rfl) ?_)
 refine qci (fun _ : Ja => []) 117 4 ?_
 exact eE hm
 refine qaq (cs rfl rfl hm ?_ ?_) <;> intro eh hm
 refine cb hm fun ef dS hm => ckx (Jl dS :) ?_
 rintro _ _ _ ⟨du, cH, rfl, cm, rfl⟩
 refine fa rfl ?_
 refine qaa r2 rfl ⟨rfl, rfl, (nl rfl), ?_⟩
 refine cb hm fun d8 dC hm => ckx (Jcz dC :) ?_
 rintro _ _ _ ⟨cO, dj, rfl, dt, rfl⟩
 refine fa rfl ?_
 refine qaa r2 rfl ⟨rfl, rfl, (nl rfl), ?_⟩
 refine cb hm fun eG dK hm => cgx (Js dK :) ?_
 refine cs rfl rfl hm ?_ ?_ <;> intro dY hm
 refine cb hm fun eC dO hm => ckx (JG dO :) ?_
 rintro _ _ _ ⟨dq, cJ, rfl, cY, rfl⟩
 refine ro (qab r2 rfl (nl rfl) ?_)
 refine qaa r4 rfl ⟨rfl, rfl, (nl rfl), ?_⟩
 refine ro (qab r0 rfl (nl rfl) ?_)
 refine qci (fun _ : Ja => []) 117 4 ?_
 exact eE hm
 refine ro (qab r2 rfl (nl rfl) ?_)
 refine qaa r4 rfl ⟨rfl, rfl, (nl rfl), ?_⟩
 refine ro (qab r0 rfl (nl rfl) ?_)
 refine qci (fun _ : Ja => []) 117 4 ?_
 exact eE hm
 refine qaq (cs rfl rfl hm ?_ ?_) <;> intro bR hm
 refine qac rfl (ct bR ?_)
 refine cb hm fun cu bI hm => ckx (Jl bI :) ?_
 rintro _ _ _ ⟨br, bt, rfl, bp, rfl⟩
 refine fa rfl ?_
 refine qaa r2 rfl ⟨rfl, rfl, (nl rfl), ?_⟩
 refine fa rfl (ro (ld r3 rfl rfl (qaq ?_)))
 refine cs rfl rfl hm ?_ ?_ <;> intro bF hm
 refine fa rfl ?_
 refine qaa r0 rfl ⟨rfl, rfl, (nl rfl), ?_⟩
 refine fa rfl (ro (ld r3 rfl rfl (qaq ?_)))
 refine cs rfl rfl hm ?_ ?_ <;> intro bn hm
 refine fa rfl ?_
 refine qaa r0 rfl ⟨rfl, rfl, (nl rfl), ?_⟩
 refine cb hm fun bf aX hm => cfx (Jv aX :) ?_
 rintro _ bc _ bd ⟨aV, aY, ba, aW, aZ, rfl, a8, aU, a6, rfl⟩
 refine fa rfl ?_
 refine qaa r3 rfl ⟨rfl, rfl, (nl rfl), ?_⟩
 refine ro (qab r0 rfl (nl rfl) ?_)
 refine qaa r5 rfl ⟨rfl, rfl, (nl rfl), ?_⟩
 exact ro (qab r0 rfl (nl rfl) (eE hm))
 refine cb hm fun bf aX hm => cfx (Jv aX :) ?_
 rintro _ bc _ bd ⟨aV, aY, ba, aW, aZ, rfl, a8, aU, a6, rfl⟩
 refine fa rfl ?_
 refine qaa r3 rfl ⟨rfl, rfl, (nl rfl), ?_⟩
 refine ro (qab r0 rfl (nl rfl) ?_)
 refine qaa r5 rfl ⟨rfl, rfl, (nl rfl), ?_⟩
 exact ro (qab r0 rfl (nl rfl) (eE hm))
 refine fa rfl (ro (ld r3 rfl rfl (qaq ?_)))
 refine cs rfl rfl hm ?_ ?_ <;> intro bn hm
 refine fa rfl ?_
 refine qaa r0 rfl ⟨rfl, rfl, (nl rfl), ?_⟩
 refine cb hm fun bf aX hm => cfx (Jv aX :) ?_
 rintro _ bc _ bd ⟨aV, aY, ba, aW, aZ, rfl, a8, aU, a6, rfl⟩
 refine fa rfl ?_
 refine qaa r3 rfl ⟨rfl, rfl, (nl rfl), ?_⟩
 refine ro (qab r0 rfl (nl rfl) ?_)
 refine qaa r5 rfl ⟨rfl, rfl, (nl rfl), ?_⟩
 exact ro (qab r0 rfl (nl rfl) (eE hm))
 refine cb hm fun bf aX hm => cfx (Jv aX :) ?_
 rintro _ bc _ bd ⟨aV, aY, ba, aW, aZ, rfl, a8, aU, a6, rfl⟩
 refine fa rfl ?_
 refine qaa r3 rfl ⟨rfl, rfl, (nl rfl), ?_⟩
 refine ro (qab r0 rfl (nl rfl) ?_)
 refine qaa r5 rfl ⟨rfl, rfl, (nl rfl), ?_⟩
 exact ro (qab r0 rfl (nl rfl) (eE hm))
 refine qaq (cs rfl rfl hm ?_ ?_) <;> intro bR hm
 refine qac rfl (ct bR ?_)
 refine cb hm fun cu bI hm => ckx (Jl bI :) ?_
 rintro _ _ _ ⟨br, bt, rfl, bp, rfl⟩
 refine fa rfl ?_
 refine qaa r2 rfl ⟨rfl, rfl, (nl rfl), ?_⟩
 refine fa rfl (ro (ld r3 rfl rfl (qaq ?_)))
 refine cs rfl rfl hm ?_ ?_ <;> intro bF hm
 refine fa rfl ?_
 refine qaa r0 rfl ⟨rfl, rfl, (nl rfl), ?_⟩
 refine fa rfl (ro (ld r3 rfl rfl (qaq ?_)))
 refine cs rfl rfl hm ?_ ?_ <;> intro bn hm
 refine fa rfl ?_
 refine qaa r0 rfl ⟨rfl, rfl, (nl rfl), ?_⟩
 refine cb hm fun bf aX hm => cfx (Jv aX :) ?_
 rintro _ bc _ bd ⟨aV, aY, ba, aW, aZ, rfl, a8, aU, a6, rfl⟩
 refine fa rfl ?_
 refine qaa r3 rfl ⟨rfl, rfl, (nl rfl), ?_⟩
 refine ro (qab r0 rfl (nl rfl) ?_)
 refine qaa r5 rfl ⟨rfl, rfl, (nl rfl), ?_⟩
 exact ro (qab r0 rfl (nl rfl) (eE hm))
 refine cb hm fun bf aX hm => cfx (Jv aX :) ?_
 rintro _ bc _ bd ⟨aV, aY, ba, aW, aZ, rfl, a8, aU, a6, rfl⟩
 refine fa rfl ?_
 refine qaa r3 rfl ⟨rfl, rfl, (nl rfl), ?_⟩
 refine ro (qab r0 rfl (nl rfl) ?_)
 refine qaa r5 rfl ⟨rfl, rfl, (nl rfl), ?_⟩
 exact ro (qab r0 rfl (nl rfl) (eE hm))
 refine fa rfl (ro (ld r3 rfl rfl (qaq ?_)))
 refine cs rfl rfl hm ?_ ?_ <;> intro bn hm
 refine fa rfl ?_
 refine qaa r0 rfl ⟨rfl, rfl, (nl rfl), ?_⟩
 refine cb hm fun bf aX hm => cfx (Jv aX :) ?_
 rintro _ bc _ bd ⟨aV, aY, ba, aW, aZ, rfl, a8, aU, a6, rfl⟩
 refine fa rfl ?_
 refine qaa r3 rfl ⟨rfl, rfl, (nl rfl), ?_⟩
 refine ro (qab r0 rfl (nl rfl) ?_)
 refine qaa r5 rfl ⟨rfl, rfl, (nl rfl), ?_⟩
 exact ro (qab r0 rfl (nl rfl) (eE hm))
 refine cb hm fun bf aX hm => cfx (Jv aX :) ?_
 rintro _ bc _ bd ⟨aV, aY, ba, aW, aZ, rfl, a8, aU, a6, rfl⟩
 refine fa rfl ?_
 refine qaa r3 rfl ⟨rfl, rfl, (nl rfl), ?_⟩
 refine ro (qab r0 rfl (nl rfl) ?_)
 refine qaa r5 rfl ⟨rfl, rfl, (nl rfl), ?_⟩
 exact ro (qab r0 rfl (nl rfl) (eE hm))
 refine qaq (cs rfl rfl hm ?_ ?_) <;> intro bR hm
 refine cb hm fun cu bI hm => ckx (Jl bI :) ?_
 rintro _ _ _ ⟨br, bt, rfl, bp, rfl⟩
 refine fa rfl ?_
 refine qaa r2 rfl ⟨rfl, rfl, (nl rfl), ?_⟩
 refine fa rfl (ro (ld r3 rfl rfl (qaq ?_)))
 refine cs rfl rfl hm ?_ ?_ <;> intro bF hm
 refine fa rfl ?_
 refine qaa r0 rfl ⟨rfl, rfl, (nl rfl), ?_⟩
 refine fa rfl (ro (ld r3 rfl rfl (qaq ?_)))
 refine cs rfl rfl hm ?_ ?_ <;> intro bn hm
 refine fa rfl ?_
 refine qaa r0 rfl ⟨rfl, rfl, (nl rfl), ?_⟩
 refine cb hm fun bf aX hm => cfx (Jv aX :) ?_
 rintro _ bc _ bd ⟨aV, aY, ba, aW, aZ, rfl, a8, aU, a6, rfl⟩
 refine fa rfl ?_
 refine qaa r3 rfl ⟨rfl, rfl, (nl rfl), ?_⟩
 refine ro (qab r0 rfl (nl rfl) ?_)
 refine qaa r5 rfl ⟨rfl, rfl, (nl rfl), ?_⟩
 exact ro (qab r0 rfl (nl rfl) (eE hm))
 refine cb hm fun bf aX hm => cfx (Jv aX :) ?_
 rintro _ bc _ bd ⟨aV, aY, ba, aW, aZ, rfl, a8, aU, a6, rfl⟩
 refine fa rfl ?_
 refine qaa r3 rfl ⟨rfl, rfl, (nl rfl), ?_⟩
 refine ro (qab r0 rfl (nl rfl) ?_)
 refine qaa r5 rfl ⟨rfl, rfl, (nl rfl), ?_⟩
 exact ro (qab r0 rfl (nl rfl) (eE hm))
 refine fa rfl (ro (ld r3 rfl rfl (qaq ?_)))
 refine cs rfl rfl hm ?_ ?_ <;> intro bn hm
 refine fa rfl ?_
 refine qaa r0 rfl ⟨rfl, rfl, (nl rfl), ?_⟩
 refine cb hm fun bf aX hm => cfx (Jv aX :) ?_
 rintro _ bc _ bd ⟨aV, aY, ba, aW, aZ, rfl, a8, aU, a6, rfl⟩
 refine fa rfl ?_
 refine qaa r3 rfl ⟨rfl, rfl, (nl rfl), ?_⟩
 refine ro (qab r0 rfl (nl rfl) ?_)
 refine qaa r5 rfl ⟨rfl, rfl, (nl rfl), ?_⟩
 exact ro (qab r0 rfl (nl rfl) (eE hm))
 refine cb hm fun bf aX hm => cfx (Jv aX :) ?_
 rintro _ bc _ bd ⟨aV, aY, ba, aW, aZ, rfl, a8, aU, a6, rfl⟩
 refine fa rfl ?_
 refine qaa r3 rfl ⟨rfl, rfl, (nl rfl), ?_⟩
 refine ro (qab r0 rfl (nl rfl) ?_)
 refine qaa r5 rfl ⟨rfl, rfl, (nl rfl), ?_⟩
 exact ro (qab r0 rfl (nl rfl) (eE hm))
 refine qaq (cs rfl rfl hm ?_ ?_) <;> intro bJ hm
 refine qac rfl (ct bJ ?_)
 refine cb hm fun bW bw hm => ckx (Jl bw :) ?_
 rintro _ _ _ ⟨bv, bu, rfl, bz, rfl⟩
 refine fa rfl ?_
 refine qaa r2 rfl ⟨rfl, rfl, (nl rfl), ?_⟩
 refine fa rfl (ro (ld r3 rfl rfl (qaq ?_)))
 refine cs rfl rfl hm ?_ ?_ <;> intro bV hm
 refine fa rfl ?_
 refine qaa r0 rfl ⟨rfl, rfl, (nl rfl), ?_⟩
 refine cb hm fun bB bh hm => ckx (JG bh :) ?_
 rintro _ _ _ ⟨bm, bl, rfl, bj, rfl⟩
 refine ro (qab r2 rfl (nl rfl) ?_)
 refine qaa r4 rfl ⟨rfl, rfl, (nl rfl), ?_⟩
 refine ro (qab r0 rfl (nl rfl) ?_)
 refine qci (fun _ : Ja => []) 117 4 ?_
 exact eE hm
 refine cb hm fun bB bh hm => ckx (JG bh :) ?_
 rintro _ _ _ ⟨bm, bl, rfl, bj, rfl⟩
 refine ro (qab r2 rfl (nl rfl) ?_)
 refine qaa r4 rfl ⟨rfl, rfl, (nl rfl), ?_⟩
 refine ro (qab r0 rfl (nl rfl) ?_)
 refine qci (fun _ : Ja => []) 117 4 ?_
 exact eE hm
 refine qaq (cs rfl rfl hm ?_ ?_) <;> intro bJ hm
 refine cb hm fun bW bw hm => ckx (Jl bw :) ?_
 rintro _ _ _ ⟨bv, bu, rfl, bz, rfl⟩
 refine fa rfl ?_
 refine qaa r2 rfl ⟨rfl, rfl, (nl rfl), ?_⟩
 refine fa rfl (ro (ld r3 rfl rfl (qaq ?_)))
 refine cs rfl rfl hm ?_ ?_ <;> intro bV hm
 refine fa rfl ?_
 refine qaa r0 rfl ⟨rfl, rfl, (nl rfl), ?_⟩
 refine cb hm fun bB bh hm => ckx (JG bh :) ?_
 rintro _ _ _ ⟨bm, bl, rfl, bj, rfl⟩
 refine ro (qab r2 rfl (nl rfl) ?_)
 refine qaa r4 rfl ⟨rfl, rfl, (nl rfl), ?_⟩
 refine ro (qab r0 rfl (nl rfl) ?_)
 refine qci (fun _ : Ja => []) 117 4 ?_
 exact eE hm
 refine cb hm fun bB bh hm => ckx (JG bh :) ?_
 rintro _ _ _ ⟨bm, bl, rfl, bj, rfl⟩
 refine ro (qab r2 rfl (nl rfl) ?_)
 refine qaa r4 rfl ⟨rfl, rfl, (nl rfl), ?_⟩
 refine ro (qab r0 rfl (nl rfl) ?_)
 refine qci (fun _ : Ja => []) 117 4 ?_
 exact eE hm
 refine cb hm fun ee dy hm => ckx (Jab dy :) ?_
 rintro _ _ _ ⟨dk, cI, rfl, cM, rfl⟩
 refine ro (qab r2 rfl (nl rfl) ?_)
 refine qaa r4 rfl ⟨rfl, rfl, (nl rfl), ?_⟩
 refine ro (qab r0 rfl (nl rfl) ?_)
 refine qci (fun _ : Ja => []) 117 4 ?_
 exact eE hm

def Jad (rec_ : (Jb → Option ((List Ja) × Jb))) (n : Nat) : Nat → (List Ja) → Jb → Option ((List Ja) × Jb)
  | 0, _, _ => none
  | aW + 1, ac, aU =>
    (Ju aU).bind fun x5 =>
    (if x5 then (JN aU).bind fun x8 =>
    some (decide (x8.Ab ≠ 5)) else some false).bind fun aY =>
    (if aY then (JB aU 4 ([125] : Str)).bind fun aZ =>
    some (!aZ) else some false).bind fun aX =>
    if aX then
    (Jbt rec_ n aU).bind fun aV =>
    (chk (ac.length + [aV.1].length ≤ lim)).bind fun _ =>
    Jad rec_ n aW (ac ++ [aV.1]) aV.2
    else
    some (ac, aU)
def Jaa : Nat → Jb → Option ((List Ja) × Jb)
  | 0, _ => none
  | n + 1, p =>
    (Jad (Jaa n) n n [] p).bind fun t0 =>
    some (t0.1, t0.2)
theorem JcU : ∀ {n : Nat} {p : Jb} {b0 : Nat} {aa : Option Addr} {ab : Nat} {K : Hp} {r : (List Ja) × Jb}
    (hm : Jaa n p = some r) (hX : (0 < p.list.length → Has aa) ∧ GG K),
    Fn Tryz.prog 97 [.pointer (some ⟨b0, 0, none⟩)] K [Cells b0 163 [.slice aa p.list.length ab, .int .i64 p.atZ, .int .i64 p.line], qat Je.enc aa 166 4 ab p.list] (fun v K' H' => ∃ ar_0 : Option Addr, ∃ cr_0 : Nat, ∃ sr_0 : List (List Value), ∃ ar_1 : Option Addr, ∃ cr_1 : Nat, v = .slice ar_0 r.1.length cr_0 ∧ (0 < r.1.length → Has ar_0) ∧ LR Ja.R K' sr_0 r.1 ∧ (0 < r.2.list.length → Has ar_1) ∧ H' = [OwnA ar_0 117 4 cr_0 sr_0, Cells b0 163 [.slice ar_1 r.2.list.length cr_1, .int .i64 r.2.atZ, .int .i64 r.2.line], qat Je.enc ar_1 166 4 cr_1 r.2.list]) := by
 intro n
 induction n with
 | zero =>
   intro p b0 aa ab K r hm hX
   rw [Jaa.eq_1] at hm; cases hm
 | succ n ih =>
   intro p b0 aa ab K r hm hX
   obtain ⟨ae, hG⟩ := hX
   refine Fn.enter Tryz.func97 Tryz.call97 rfl fun F => ?_
   rw [Jaa.eq_2] at hm
   obtain ⟨s0, aW, hm⟩ := bnd hm
   refine qhg (fun _ : Ja => []) 117 4 ?_
   refine lC (σ := ((List Ja) × Jb) × Option Addr × Nat × List (List Value) × Option Addr × Nat) (rg 3 19) [3] (fun _ => []) (fun (t0, aX, bb, aZ, aU, aV) => [(3, .slice aX t0.1.length bb)]) (fun (t0, aX, bb, aZ, aU, aV) => [OwnA aX 117 4 bb aZ, Cells b0 163 [.slice aU t0.2.list.length aV, .int .i64 t0.2.atZ, .int .i64 t0.2.line], qat Je.enc aU 166 4 aV t0.2.list]) (fun zz K1 => match zz with | (t0, aX, bb, aZ, aU, aV) => LR Ja.R K1 aZ t0.1 ∧ (0 < t0.1.length → Has aX) ∧ (0 < t0.2.list.length → Has aU)) (fun i0 (t0, aX, bb, aZ, aU, aV) => Jad (Jaa n) n i0 t0.1 t0.2 = some s0) (fun (t0, aX, bb, aZ, aU, aV) => t0 = s0) (fun i0 => i0) n ((_, _), _, _, _, _, _) aW (And.intro qe (And.intro ?_ ?_))
   clear aW
   rintro i0 ⟨⟨ac, bI⟩, bA, bv, bH, bp, br⟩ bP bX ⟨bm, bt, bn⟩ aW j0
   dsimp only at aW ⊢
   cases i0 with
   | zero => rw [Jad.eq_1] at aW; cases aW
   | succ i0 =>
    rw [Jad.eq_2] at aW
    refine qaj rfl ?_
    refine cb aW fun x5 q5 aW => cgx (Js q5 :) ?_
    obtain ⟨bR, bh, aW⟩ := bnd aW
    refine cS bh (fun bd bh => ?_) fun bd bh => ?_
    refine ct bd ?_
    refine cb bh fun x8 q8 bh => cgx (JL q8 :) ?_
    refine ct bd ?_
    refine Jdz rfl rfl rfl rfl ?_
    refine ct bd (qa8 (ct bd ?_))
    obtain ⟨bN, bf, aW⟩ := bnd aW
    refine qae ?_ ?_ <;> intro aY
    replace bf := ift ((si bh).symm.trans aY) bf
    refine ct aY ?_
    refine cb bf fun bY bK bf => cgx (Jx bK :) ?_
    refine ct aY (qau (ct aY (qac rfl ?_)))
    refine qae ?_ ?_ <;> intro bB
    replace aW := ift ((si bf).symm.trans (qdw (qik bB))) aW
    refine qal rfl ?_
    refine cb aW fun bc bM aW => cfx (Jc5 ih bM :) ?_
    rintro _ bT _ bJ ⟨ba, a8, bu, bw, bG, rfl, bD, bl, bz, rfl⟩
    refine qlf Ja.R_ok r0 bl fun bj bg a6 => ?_
    refine qjs (R := Ja.R) (len := 1) (l := [bc.1]) (css := [[.int .i64 bc.1.Ab, str bc.1.Ac, .slice ba bc.1.Aa.length a8, .int .i64 bc.1.Ad]]) (cl := [.int .i64 bc.1.Ab, str bc.1.Ac, .slice ba bc.1.Aa.length a8, .int .i64 bc.1.Ad]) Ja.R_ok qbx rfl rfl (LR.snoc LR.nil (Ja.of (x := bc.1) ⟨ba, a8, rfl, a6⟩)) rfl rfl rfl ?_ fun bQ => ?_
    · conv => whnf
      refine cT ?_
      first | done | rfl
    obtain ⟨bL, aW⟩ := qaw aW
    refine qpw r3 (LR.mono Ja.R_ok (bJ.trans bg) bm) rfl qbx (qdd rfl r0 rfl Ja.R_ok (show LR Ja.R _ [[.int .i64 bc.1.Ab, str bc.1.Ac, .slice ba bc.1.Aa.length a8, .int .i64 bc.1.Ad]] [bc.1] from (LR.snoc LR.nil (Ja.of (x := bc.1) ⟨ba, a8, rfl, a6⟩)))) (show LR Ja.R _ [[.int .i64 bc.1.Ab, str bc.1.Ac, .slice ba bc.1.Aa.length a8, .int .i64 bc.1.Ad]] [bc.1] from (LR.snoc LR.nil (Ja.of (x := bc.1) ⟨ba, a8, rfl, a6⟩))) bL ?_
    intro bU bV bW r_21 bZ
    exact eR aW (_, (_, _), _, _, _, _, _)
    replace aW := qa9 ((si bf).symm.trans (qc0 (qgn bB))) aW
    refine cT ?_
    exact eM aW (_, _, _, _, _, _)
    replace bf := qa9 ((si bh).symm.trans aY) bf
    refine cf aY (cf aY (cf aY (qac rfl (cF ?_))))
    replace aW := qa9 (si bf).symm aW
    refine cT ?_
    exact eM aW (_, _, _, _, _, _)
    refine cf bd (cf bd (cf bd (cf bd ?_)))
    obtain ⟨bN, bf, aW⟩ := bnd aW
    replace bf := qa9 (si bh).symm bf
    refine cF (cF (cF (cF (qac rfl (cF ?_)))))
    replace aW := qa9 (si bf).symm aW
    refine cT ?_
    exact eM aW (_, _, _, _, _, _)
   rintro ⟨t0, aX, bb, aZ, aU, aV⟩ bS bO ⟨bF, bC, bo⟩ rfl j0
   exact eE hm

def JbR (rec_ : (Ja → Option (Int))) : List Ja → Nat → Int → Option (Int)
  | [], _, ac => some ac
  | e0 :: aV, i0, ac =>
    (rec_ e0).bind fun aU =>
    (chk (InI (ac + aU))).bind fun _ =>
    JbR rec_ aV (i0 + 1) (ac + aU)
def JbK : Nat → Ja → Option (Int)
  | 0, _ => none
  | n + 1, n' =>
    (chk (n'.Aa.length ≤ qa3)).bind fun _ =>
    (JbR (JbK n) n'.Aa 0 1).bind fun t0 =>
    some t0
theorem JcV : ∀ {n : Nat} {n' : Ja} {aa : Option Addr} {ab : Nat} {K : Hp} {r : Int}
    (hm : JbK n n' = some r) (ae : LiC Ja.R K aa ab 4 n'.Aa),
    Fn Tryz.prog 101 [.agg #[.int .i64 n'.Ab, str n'.Ac, .slice aa n'.Aa.length ab, .int .i64 n'.Ad]] K [] (fun v K' H' => v = .int .i64 r ∧ H' = []) := by
 intro n
 induction n with
 | zero =>
   intro n' aa ab K r hm ae
   rw [JbK.eq_1] at hm; cases hm
 | succ n ih =>
   intro n' aa ab K r hm ae
   refine Fn.enter Tryz.func101 Tryz.call101 rfl fun F => ?_
   rw [JbK.eq_2] at hm
   refine qar ?_
   intro b1
   refine fa rfl (ro (ld r0 rfl rfl (ro (qak rfl ?_))))
   obtain ⟨bd, hm⟩ := qaw hm
   obtain ⟨s0, aU, hm⟩ := bnd hm
   refine lD (σ := (Int)) ([3,5] ++ rg 9 9) [0, 1] (fun i0 => [(9, .int .i64 (i0 : Int))]) (fun t0 => [(3, .int .i64 t0)]) (fun _ => []) (fun _ => True) (fun i0 t0 => JbR (JbK n) (n'.Aa.drop i0) i0 t0 = some s0) (fun t0 => t0 = s0) (fun i0 => n'.Aa.length - i0) 0 _ aU (And.intro qe (And.intro ?_ ?_))
   clear aU
   rintro i0 ac _ aU j0
   conv at aU => whnf
   refine qac rfl ?_
   refine qae ?_ ?_ <;> intro w0
   obtain ⟨e0, aV, bg⟩ := ltx w0
   rw [bg, JbR.eq_2] at aU
   refine qal rfl ?_
   refine RStep.ofN (qad rfl rfl (qc6 ae.rd aV) (nn _) (qbl aV) ?_)
   obtain ⟨ba, bc, aW, aX, aY⟩ := LiR.get ae.rd aV
   obtain ⟨a8, a6, rfl, aZ⟩ := Ja.out aY
   refine ro (qan i0 _ aW rfl aX rfl ?_)
   refine qaf rfl fun b5 => ?_
   refine qaa r0 rfl ⟨rfl, rfl, (nl rfl), ?_⟩
   refine ro (qab r0 rfl (nl rfl) ?_)
   refine cb aU fun bh bb aU => cgx (ih bb :) ?_
   obtain ⟨bf, aU⟩ := qaw aU
   refine qam bf (qam (qbn aV bd) ?_)
   exact eR aU (_, _)
   rw [lty w0, JbR.eq_1] at aU
   refine cT ?_
   exact eM aU _
   rintro t0 _ rfl j0
   exact eE hm

def JbC (rec_ : (Ja → Option (Int))) : List Ja → Nat → Int → Option (Int)
  | [], _, ac => some ac
  | e0 :: aU, i0, ac =>
    (rec_ e0).bind fun aV =>
    JbC rec_ aU (i0 + 1) (max ac aV)
def Jbu : Nat → Ja → Option (Int)
  | 0, _ => none
  | n + 1, n' =>
    (chk (n'.Aa.length ≤ qa3)).bind fun _ =>
    (JbC (Jbu n) n'.Aa 0 0).bind fun t0 =>
    (chk (InI (t0 + 1))).bind fun _ =>
    some (t0 + 1)
theorem JcJ : ∀ {n : Nat} {n' : Ja} {aa : Option Addr} {ab : Nat} {K : Hp} {r : Int}
    (hm : Jbu n n' = some r) (ae : LiC Ja.R K aa ab 4 n'.Aa),
    Fn Tryz.prog 102 [.agg #[.int .i64 n'.Ab, str n'.Ac, .slice aa n'.Aa.length ab, .int .i64 n'.Ad]] K [] (fun v K' H' => v = .int .i64 r ∧ H' = []) := by
 intro n
 induction n with
 | zero =>
   intro n' aa ab K r hm ae
   rw [Jbu.eq_1] at hm; cases hm
 | succ n ih =>
   intro n' aa ab K r hm ae
   refine Fn.enter Tryz.func102 Tryz.call102 rfl fun F => ?_
   rw [Jbu.eq_2] at hm
   refine qar ?_
   intro b1
   refine fa rfl (ro (ld r0 rfl rfl (ro (qak rfl ?_))))
   obtain ⟨bd, hm⟩ := qaw hm
   obtain ⟨s0, aU, hm⟩ := bnd hm
   refine lD (σ := (Int)) ([3,5] ++ rg 9 9) [0, 1] (fun i0 => [(9, .int .i64 (i0 : Int))]) (fun t0 => [(3, .int .i64 t0)]) (fun _ => []) (fun _ => True) (fun i0 t0 => JbC (Jbu n) (n'.Aa.drop i0) i0 t0 = some s0) (fun t0 => t0 = s0) (fun i0 => n'.Aa.length - i0) 0 _ aU (And.intro qe (And.intro ?_ ?_))
   clear aU
   rintro i0 ac _ aU j0
   conv at aU => whnf
   refine qac rfl ?_
   refine qae ?_ ?_ <;> intro w0
   obtain ⟨e0, aV, bf⟩ := ltx w0
   rw [bf, JbC.eq_2] at aU
   refine qal rfl ?_
   refine RStep.ofN (qad rfl rfl (qc6 ae.rd aV) (nn _) (qbl aV) ?_)
   obtain ⟨ba, bc, aW, aX, aY⟩ := LiR.get ae.rd aV
   obtain ⟨a8, a6, rfl, aZ⟩ := Ja.out aY
   refine ro (qan i0 _ aW rfl aX rfl ?_)
   refine qaf rfl fun b5 => ?_
   refine qaa r0 rfl ⟨rfl, rfl, (nl rfl), ?_⟩
   refine ro (qab r0 rfl (nl rfl) ?_)
   refine cb aU fun bg bb aU => cgx (ih bb :) ?_
   refine ro (qch (qam (qbn aV bd) ?_))
   exact eR aU (_, _)
   rw [lty w0, JbC.eq_1] at aU
   refine cT ?_
   exact eM aU _
   rintro t0 _ rfl j0
   refine ci hm fun hm => ?_
   exact eE hm

def Jdm (n : Nat) (text : Str) : Option (Ja × Int × Err) :=
  (Jc3 n text).bind fun aW =>
  if aW.2.isSome then
  some ((⟨0, ([] : Str), [], 0⟩ : Ja), 0, aW.2)
  else
  (Jaa n (⟨aW.1, 0, 0⟩ : Jb)).bind fun aU =>
  (Ju aU.2).bind fun a8 =>
  (if a8 then (JN aU.2).bind fun bb =>
  some (decide (bb.Ab ≠ 5)) else some false).bind fun ba =>
  if ba then
  (J5 aU.2).bind fun a6 =>
  (Ju a6).bind fun aZ =>
  if (!aZ) then
  some ((⟨0, ([] : Str), [], 0⟩ : Ja), a6.line, (some 2))
  else
  (JbK n (⟨1, ([] : Str), aU.1, 1⟩ : Ja)).bind fun aV =>
  (if decide (aV > 512) then some true else (Jbu n (⟨1, ([] : Str), aU.1, 1⟩ : Ja)).bind fun aX =>
  some (decide (aX > 32))).bind fun aY =>
  if aY then
  some ((⟨0, ([] : Str), [], 0⟩ : Ja), 0, (some 5))
  else
  some ((⟨1, ([] : Str), aU.1, 1⟩ : Ja), 0, none)
  else
  (Ju aU.2).bind fun aZ =>
  if (!aZ) then
  some ((⟨0, ([] : Str), [], 0⟩ : Ja), aU.2.line, (some 2))
  else
  (JbK n (⟨1, ([] : Str), aU.1, 1⟩ : Ja)).bind fun aV =>
  (if decide (aV > 512) then some true else (Jbu n (⟨1, ([] : Str), aU.1, 1⟩ : Ja)).bind fun aX =>
  some (decide (aX > 32))).bind fun aY =>
  if aY then
  some ((⟨0, ([] : Str), [], 0⟩ : Ja), 0, (some 5))
  else
  some ((⟨1, ([] : Str), aU.1, 1⟩ : Ja), 0, none)
theorem Jed {n : Nat} {text : Str} {K : Hp} {r : Ja × Int × Err}
    (hm : Jdm n text = some r) (hG : GG K) :
    Fn Tryz.prog 62 [str text] K [] (fun v K' H' => ∃ ar_0 : Option Addr, ∃ cr_0 : Nat, v = .tuple #[.agg #[.int .i64 r.1.Ab, str r.1.Ac, .slice ar_0 r.1.Aa.length cr_0, .int .i64 r.1.Ad], .int .i64 r.2.1, qcp 48 r.2.2] ∧ LiC Ja.R K' ar_0 cr_0 4 r.1.Aa ∧ H' = []) := by
 refine Fn.enter Tryz.func62 Tryz.call62 rfl fun F => ?_
 unfold Jdm at hm
 refine qaf rfl fun b2 => ?_
 refine cb hm fun bK bG hm => ck0 (JdK bG :) ?_
 rintro _ _ _ ⟨bf, bl, rfl, bv, rfl⟩
 refine qa5 rfl ?_
 refine cs rfl rfl hm ?_ ?_ <;> intro bS hm
 refine qai rfl rfl ?_
 refine qaa r1 rfl ⟨rfl, rfl, (nl rfl), ?_⟩
 exact ro (qab r0 rfl (nl rfl) (eE hm))
 refine qai rfl rfl (cT ?_)
 refine qar ?_
 intro bP
 refine cb hm fun bR bF hm => cfx (JcU bF :) ?_
 rintro _ bT _ bM ⟨bw, bn, bh, bC, bt, rfl, bz, a6, bD, rfl⟩
 refine qai rfl rfl (cT (cT (cT ?_)))
 refine qaf rfl fun b8 => ?_
 refine qaa r0 rfl ⟨rfl, rfl, (nl rfl), ?_⟩
 refine qaj rfl ?_
 refine cb hm fun bQ bH hm => cgx (Js bH :) ?_
 obtain ⟨bL, a8, hm⟩ := bnd hm
 refine cS a8 (fun aV a8 => ?_) fun aV a8 => ?_
 refine ct aV ?_
 refine cb a8 fun bN bI a8 => cgx (JL bI :) ?_
 refine ct aV ?_
 refine Jdz rfl rfl rfl rfl ?_
 refine ct aV (qa8 (ct aV (qac rfl ?_)))
 refine qae ?_ ?_ <;> intro bg
 replace hm := ift ((si a8).symm.trans bg) hm
 refine cb hm fun bO bJ hm => ckx (Jab bJ :) ?_
 rintro _ _ _ ⟨bj, br, rfl, bm, rfl⟩
 refine cb hm fun bo bb hm => cgx (Js bb :) ?_
 refine qau ?_
 refine cs rfl rfl hm ?_ ?_ <;> intro bp hm
 refine qa6 ⟨⟨[], false⟩, _, [(_, _)], []⟩ (by kernel_rfl) ⟨Hp.Le.refl _, (pf rfl), ci0⟩ ?_
 refine qai rfl rfl (qah (fa rfl (qao m0 rfl rfl ?_)))
 refine qas rfl ?_
 refine qaa r4 rfl ⟨rfl, rfl, (nl rfl), ?_⟩
 refine qk (sc [1] rfl) ?_
 exact ro (qab r0 rfl (nl rfl) (eE hm))
 refine qaj rfl ?_
 refine ro (qab r2 rfl (nl rfl) ?_)
 refine qjr Tryz.call101 Ja.R_ok r3 a6 fun aX aY aZ => ?_
 refine cb hm fun bA bc hm => cgx (JcV bc :) ?_
 obtain ⟨bu, aW, hm⟩ := bnd hm
 refine cS aW (fun aU aW => ?_) fun aU aW => ?_
 refine ct aU (ct aU (ct aU (qac rfl (cT ?_))))
 replace hm := ift (si aW).symm hm
 refine qai rfl rfl ?_
 refine qas rfl ?_
 refine qaa r3 rfl ⟨rfl, rfl, (nl rfl), ?_⟩
 exact ro (qab r0 rfl (nl rfl) (eE hm))
 refine ro (qab r2 rfl (nl rfl) (cf aU ?_))
 refine cb aW fun bB bd aW => cgx (JcJ bd :) ?_
 refine cf aU (cf aU (qac rfl ?_))
 refine qae ?_ ?_ <;> intro ba
 replace hm := ift ((si aW).symm.trans ba) hm
 refine qai rfl rfl ?_
 refine qas rfl ?_
 refine qaa r3 rfl ⟨rfl, rfl, (nl rfl), ?_⟩
 exact ro (qab r0 rfl (nl rfl) (eE hm))
 replace hm := qa9 ((si aW).symm.trans ba) hm
 refine ro (qab r2 rfl (nl rfl) ?_)
 refine qaa r3 rfl ⟨rfl, rfl, (nl rfl), ?_⟩
 exact ro (qab r0 rfl (nl rfl) (eE hm))
 replace hm := qa9 ((si a8).symm.trans bg) hm
 refine cb hm fun bo bb hm => cgx (Js bb :) ?_
 refine qau ?_
 refine cs rfl rfl hm ?_ ?_ <;> intro bp hm
 refine qa6 ⟨⟨[], false⟩, _, [(_, _)], []⟩ (by kernel_rfl) ⟨Hp.Le.refl _, (pf rfl), ci0⟩ ?_
 refine qai rfl rfl (qah (fa rfl (qao m0 rfl rfl ?_)))
 refine qas rfl ?_
 refine qaa r4 rfl ⟨rfl, rfl, (nl rfl), ?_⟩
 refine qk (sc [1] rfl) ?_
 exact ro (qab r0 rfl (nl rfl) (eE hm))
 refine qaj rfl ?_
 refine ro (qab r2 rfl (nl rfl) ?_)
 refine qjr Tryz.call101 Ja.R_ok r3 a6 fun aX aY aZ => ?_
 refine cb hm fun bA bc hm => cgx (JcV bc :) ?_
 obtain ⟨bu, aW, hm⟩ := bnd hm
 refine cS aW (fun aU aW => ?_) fun aU aW => ?_
 refine ct aU (ct aU (ct aU (qac rfl (cT ?_))))
 replace hm := ift (si aW).symm hm
 refine qai rfl rfl ?_
 refine qas rfl ?_
 refine qaa r3 rfl ⟨rfl, rfl, (nl rfl), ?_⟩
 exact ro (qab r0 rfl (nl rfl) (eE hm))
 refine ro (qab r2 rfl (nl rfl) (cf aU ?_))
 refine cb aW fun bB bd aW => cgx (JcJ bd :) ?_
 refine cf aU (cf aU (qac rfl ?_))
 refine qae ?_ ?_ <;> intro ba
 replace hm := ift ((si aW).symm.trans ba) hm
 refine qai rfl rfl ?_
 refine qas rfl ?_
 refine qaa r3 rfl ⟨rfl, rfl, (nl rfl), ?_⟩
 exact ro (qab r0 rfl (nl rfl) (eE hm))
 replace hm := qa9 ((si aW).symm.trans ba) hm
 refine ro (qab r2 rfl (nl rfl) ?_)
 refine qaa r3 rfl ⟨rfl, rfl, (nl rfl), ?_⟩
 exact ro (qab r0 rfl (nl rfl) (eE hm))
 refine cf aV (cf aV (cf aV (cf aV (qac rfl (cF ?_)))))
 replace hm := qa9 (si a8).symm hm
 refine cb hm fun bo bb hm => cgx (Js bb :) ?_
 refine qau ?_
 refine cs rfl rfl hm ?_ ?_ <;> intro bp hm
 refine qa6 ⟨⟨[], false⟩, _, [(_, _)], []⟩ (by kernel_rfl) ⟨Hp.Le.refl _, (pf rfl), ci0⟩ ?_
 refine qai rfl rfl (qah (fa rfl (qao m0 rfl rfl ?_)))
 refine qas rfl ?_
 refine qaa r4 rfl ⟨rfl, rfl, (nl rfl), ?_⟩
 refine qk (sc [1] rfl) ?_
 exact ro (qab r0 rfl (nl rfl) (eE hm))
 refine qaj rfl ?_
 refine ro (qab r2 rfl (nl rfl) ?_)
 refine qjr Tryz.call101 Ja.R_ok r3 a6 fun aX aY aZ => ?_
 refine cb hm fun bA bc hm => cgx (JcV bc :) ?_
 obtain ⟨bu, aW, hm⟩ := bnd hm
 refine cS aW (fun aU aW => ?_) fun aU aW => ?_
 refine ct aU (ct aU (ct aU (qac rfl (cT ?_))))
 replace hm := ift (si aW).symm hm
 refine qai rfl rfl ?_
 refine qas rfl ?_
 refine qaa r3 rfl ⟨rfl, rfl, (nl rfl), ?_⟩
 exact ro (qab r0 rfl (nl rfl) (eE hm))
 refine ro (qab r2 rfl (nl rfl) (cf aU ?_))
 refine cb aW fun bB bd aW => cgx (JcJ bd :) ?_
 refine cf aU (cf aU (qac rfl ?_))
 refine qae ?_ ?_ <;> intro ba
 replace hm := ift ((si aW).symm.trans ba) hm
 refine qai rfl rfl ?_
 refine qas rfl ?_
 refine qaa r3 rfl ⟨rfl, rfl, (nl rfl), ?_⟩
 exact ro (qab r0 rfl (nl rfl) (eE hm))
 replace hm := qa9 ((si aW).symm.trans ba) hm
 refine ro (qab r2 rfl (nl rfl) ?_)
 refine qaa r3 rfl ⟨rfl, rfl, (nl rfl), ?_⟩
 exact ro (qab r0 rfl (nl rfl) (eE hm))

def JbD (depth : Int) (rec_ : (Ja → Int → Int → Option (Bool × Int))) : List Ja → Nat → Int → Option (Fl (Bool × Int) (Int))
  | [], _, ac => some (Fl.go ac)
  | e0 :: aV, i0, ac =>
    (chk (InI (depth - 1))).bind fun _ =>
    (rec_ e0 ac (depth - 1)).bind fun aU =>
    if (!aU.1) then
    some (Fl.ret (false, aU.2))
    else
    JbD depth rec_ aV (i0 + 1) aU.2
def JbV : Nat → Ja → Int → Int → Option (Bool × Int)
  | 0, _, _, _ => none
  | n + 1, n', nodes, depth =>
    (chk (InI (nodes - 1))).bind fun _ =>
    if (decide ((nodes - 1) < 0) || decide (depth < 1)) then
    some (false, (nodes - 1))
    else
    (chk (n'.Aa.length ≤ qa3)).bind fun _ =>
    (JbD depth (JbV n) n'.Aa 0 (nodes - 1)).bind fun s0 => s0.el some fun t0 =>
    some (true, t0)
theorem Jee : ∀ {n : Nat} {n' : Ja} {nodes : Int} {depth : Int} {aa : Option Addr} {ab : Nat} {b1 : Nat} {K : Hp} {r : Bool × Int}
    (hm : JbV n n' nodes depth = some r) (ae : LiC Ja.R K aa ab 4 n'.Aa),
    Fn Tryz.prog 189 [.agg #[.int .i64 n'.Ab, str n'.Ac, .slice aa n'.Aa.length ab, .int .i64 n'.Ad], .pointer (some ⟨b1, 0, none⟩), .int .i64 depth] K [Cells b1 3 [.int .i64 nodes]] (fun v K' H' => v = .bool r.1 ∧ H' = [Cells b1 3 [.int .i64 r.2]]) := by
 intro n
 induction n with
 | zero =>
   intro n' nodes depth aa ab b1 K r hm ae
   rw [JbV.eq_1] at hm; cases hm
 | succ n ih =>
   intro n' nodes depth aa ab b1 K r hm ae
   refine Fn.enter Tryz.func189 Tryz.call189 rfl fun F => ?_
   rw [JbV.eq_2] at hm
   refine qar ?_
   intro b3
   refine qah (ro (ld r1 rfl rfl ?_))
   obtain ⟨bd, hm⟩ := qaw hm
   refine qam bd (qah ?_)
   refine qaa r1 rfl ⟨rfl, rfl, (nl rfl), ?_⟩
   refine jR (σ := Unit) (rg 14 8) (fun _ => [(21, .bool (decide ((nodes - 1) < 0) || decide (depth < 1)))]) (fun bf => True) ?_ ?_
   refine qaj rfl ?_
   refine qah (ro (ld r0 rfl rfl ?_))
   refine qae ?_ ?_ <;> intro aU
   refine ct aU (ct aU ?_)
   exact eMt () ⟨bq (((qcn aU)).symm), trivial⟩
   refine cf aU (cf aU ?_)
   exact eMt () ⟨bq (qg2 (b := decide (depth < 1)) aU), trivial⟩
   rintro _ _ bj
   refine cs rfl rfl hm ?_ ?_ <;> intro bn hm
   exact eE hm
   refine fa rfl (ro (ld r1 rfl rfl (ro (qak rfl ?_))))
   obtain ⟨bc, hm⟩ := qaw hm
   obtain ⟨s0, aV, hm⟩ := bnd hm
   refine lD (σ := (Int)) ([6,8] ++ rg 25 11) [1, 2] (fun i0 => [(25, .int .i64 (i0 : Int))]) (fun _ => []) (fun t0 => [Cells b1 3 [.int .i64 t0]]) (fun _ => True) (fun i0 t0 => JbD depth (JbV n) (n'.Aa.drop i0) i0 t0 = some s0) (fun t0 => s0 = Fl.go t0) (fun i0 => n'.Aa.length - i0) 0 _ aV (And.intro qe (And.intro ?_ ?_))
   clear aV
   rintro i0 ac _ aV j0
   conv at aV => whnf
   refine qac rfl ?_
   refine qae ?_ ?_ <;> intro w0
   obtain ⟨e0, aW, bh⟩ := ltx w0
   rw [bh, JbD.eq_2] at aV
   refine qal rfl ?_
   refine RStep.ofN (qad rfl rfl (qc6 ae.rd aW) (nn _) (qbl aW) ?_)
   obtain ⟨bg, bb, aX, aY, aZ⟩ := LiR.get ae.rd aW
   obtain ⟨a8, a6, rfl, ba⟩ := Ja.out aZ
   refine ro (qan i0 _ aX rfl aY rfl ?_)
   refine qaf rfl fun b8 => ?_
   refine qaa r0 rfl ⟨rfl, rfl, (nl rfl), ?_⟩
   refine ro (qab r0 rfl (nl rfl) ?_)
   refine ci aV fun aV => ?_
   refine cb aV fun bm bl aV => cgx (ih bl :) ?_
   refine qau ?_
   refine cs rfl rfl aV ?_ ?_ <;> intro bo aV
   exact eE (er aV hm)
   refine qam (qbn aW bc) ?_
   exact eR aV (_, _)
   rw [lty w0, JbD.eq_1] at aV
   refine cT ?_
   exact eM aV _
   rintro t0 _ rfl j0
   replace hm := elg hm
   exact eE hm

def Jbi : List UInt8 → Nat → Option (Fl (Bool) (Unit))
  | [], _ => some (Fl.go ())
  | e0 :: aV, i0 =>
    (if decide ((e0.toNat : Int) < 48) then some true else some (decide ((e0.toNat : Int) > 57))).bind fun aU =>
    if aU then
    some (Fl.ret false)
    else
    Jbi aV (i0 + 1)
def Jdd (s : Str) : Option (Bool) :=
  (chk (s.length ≤ qa3)).bind fun _ =>
  (Jbi s 0).bind fun s0 => s0.el some fun t0 =>
  some (decide ((s.length : Int) ≥ 1) && decide ((s.length : Int) ≤ 9))
theorem Jd9 {s : Str} {K : Hp} {r : Bool}
    (hm : Jdd s = some r)  :
    Fn Tryz.prog 258 [str s] K [] (fun v K' H' => v = .bool r ∧ H' = []) := by
 refine Fn.enter Tryz.func258 Tryz.call258 rfl fun F => ?_
 unfold Jdd at hm
 refine ro (qa0 rfl ?_)
 obtain ⟨a6, hm⟩ := qaw hm
 obtain ⟨s0, aW, hm⟩ := bnd hm
 refine lD (σ := (Unit)) ([2,3] ++ rg 6 14) [0] (fun i0 => [(6, .int .i64 (i0 : Int))]) (fun _ => []) (fun _ => []) (fun _ => True) (fun i0 _ => Jbi (s.drop i0) i0 = some s0) (fun t0 => s0 = Fl.go t0) (fun i0 => s.length - i0) 0 () aW (And.intro qe (And.intro ?_ ?_))
 clear aW
 rintro i0 _ _ aW j0
 conv at aW => whnf
 refine qac rfl ?_
 refine qae ?_ ?_ <;> intro w0
 obtain ⟨e0, aY, a8⟩ := ltx w0
 rw [a8, Jbi.eq_2] at aW
 refine qal rfl ?_
 refine qaj rfl ?_
 refine qaz rfl (nn _) aY ?_
 obtain ⟨ba, aX, aW⟩ := bnd aW
 refine cS aX (fun aU aX => ?_) fun aU aX => ?_
 refine ct aU (ct aU (ct aU (ct aU (qac rfl (cT ?_)))))
 replace aW := ift (si aX).symm aW
 exact eE (er aW hm)
 refine cf aU (cf aU (qaz rfl (nn _) aY (cf aU (cf aU (qac rfl ?_)))))
 refine qae ?_ ?_ <;> intro aZ
 replace aW := ift ((si aX).symm.trans aZ) aW
 exact eE (er aW hm)
 replace aW := qa9 ((si aX).symm.trans aZ) aW
 refine qam (qbn aY a6) ?_
 exact eR aW (_, ())
 rw [lty w0, Jbi.eq_1] at aW
 refine cT ?_
 exact eM aW _
 rintro t0 _ rfl j0
 replace hm := elg hm
 refine qaj rfl ?_
 refine ro (qa0 rfl ?_)
 refine qae ?_ ?_ <;> intro aV
 refine ct aV (ro (qa0 rfl (ct aV (ct aV ?_))))
 exact bE (qc1 (b := decide ((s.length : Int) ≤ 9)) aV) (eE hm)
 refine cf aV (cf aV (cf aV ?_))
 exact bE (((qbc aV)).symm) (eE hm)

def Jbf : List UInt8 → Nat → Str → Option (Fl (Str × Err) (Str))
  | [], _, ac => some (Fl.go ac)
  | e0 :: aV, i0, ac =>
    (if decide ((e0.toNat : Int) < 32) then some true else some (decide ((e0.toNat : Int) > 126))).bind fun aU =>
    if aU then
    some (Fl.ret (([] : Str), (some 2)))
    else
    (if decide ((e0.toNat : Int) = 34) then some true else some (decide ((e0.toNat : Int) = 92))).bind fun aW =>
    if aW then
    (chk (ac.length + ([(92 : UInt8)] : Str).length ≤ lim)).bind fun _ =>
    (chk ((ac ++ ([(92 : UInt8)] : Str)).length + ([e0] : Str).length ≤ lim)).bind fun _ =>
    Jbf aV (i0 + 1) ((ac ++ ([(92 : UInt8)] : Str)) ++ ([e0] : Str))
    else
    (chk (ac.length + ([e0] : Str).length ≤ lim)).bind fun _ =>
    Jbf aV (i0 + 1) (ac ++ ([e0] : Str))
def Jc6 (s : Str) : Option (Str × Err) :=
  (chk (s.length ≤ qa3)).bind fun _ =>
  (Jbf s 0 ([(34 : UInt8)] : Str)).bind fun s0 => s0.el some fun t0 =>
  (chk (t0.length + ([(34 : UInt8)] : Str).length ≤ lim)).bind fun _ =>
  some ((t0 ++ ([(34 : UInt8)] : Str)), none)
theorem JdL {s : Str} {K : Hp} {r : Str × Err}
    (hm : Jc6 s = some r)  :
    Fn Tryz.prog 238 [str s] K [] (fun v K' H' => v = .tuple #[str r.1, qcp 48 r.2] ∧ H' = []) := by
 refine Fn.enter Tryz.func238 Tryz.call238 rfl fun F => ?_
 unfold Jc6 at hm
 refine bsO (len := 1) (enc := eU) (l := ([(34 : UInt8)] : Str)) (cl := [.int .u8 34]) qck rfl rfl (fun _ _ => rfl) rfl rfl rfl ?_ fun b6 => ?_
 · conv => whnf
   refine cT ?_
   first | done | rfl
 refine ro (qa0 rfl ?_)
 obtain ⟨bg, hm⟩ := qaw hm
 obtain ⟨s0, aU, hm⟩ := bnd hm
 refine lD (σ := (Str) × Option Addr × Nat) ([2,3,4,5] ++ rg 9 34) [1] (fun i0 => [(9, .int .i64 (i0 : Int))]) (fun (t0, aX, aY) => [(4, .slice aX t0.length aY)]) (fun (t0, aX, aY) => [qat eU aX 5 1 aY t0]) (fun (t0, aX, aY) => (0 < t0.length → Has aX) ∧ True) (fun i0 (t0, aX, aY) => Jbf (s.drop i0) i0 t0 = some s0) (fun (t0, aX, aY) => s0 = Fl.go t0) (fun i0 => s.length - i0) 0 (_, _, _) aU (And.intro qe (And.intro ?_ ?_))
 clear aU
 rintro i0 ⟨ac, bt, bm⟩ ⟨bh, _⟩ aU j0
 conv at aU => whnf
 refine qac rfl ?_
 refine qae ?_ ?_ <;> intro w0
 obtain ⟨e0, a6, bB⟩ := ltx w0
 rw [bB, Jbf.eq_2] at aU
 refine qal rfl ?_
 obtain ⟨bf, aZ, aU⟩ := bnd aU
 refine jR (σ := Bool) (rg 12 10) (fun a8 => [(21, .bool a8)]) (fun a8 => a8 = bf) ?_ ?_
 replace aZ := bsm aZ
 refine qaj rfl ?_
 refine qaz rfl (nn _) a6 ?_
 obtain ⟨bH, bc, aZ⟩ := bnd aZ
 refine cS bc (fun aW bc => ?_) fun aW bc => ?_
 refine ct aW (ct aW (ct aW (ct aW ?_)))
 exact eMq aZ _ ⟨bq (si bc), trivial⟩
 refine cf aW (cf aW (qaz rfl (nn _) a6 (cf aW (cf aW ?_))))
 exact eMq aZ _ ⟨bq (si bc), trivial⟩
 rintro a8 rfl bC
 refine cs rfl rfl aU ?_ ?_ <;> intro bF aU
 refine qas rfl ?_
 exact eE (er aU hm)
 refine qaj rfl ?_
 refine qaz rfl (nn _) a6 (qag ?_)
 obtain ⟨bI, ba, aU⟩ := bnd aU
 refine cS ba (fun aV ba => ?_) fun aV ba => ?_
 refine ct aV (ct aV (ct aV (ct aV (qac rfl (cT ?_)))))
 replace aU := ift (si ba).symm aU
 refine bsO (len := 1) (enc := eU) (l := ([(92 : UInt8)] : Str)) (cl := [.int .u8 92]) qck rfl rfl (fun _ _ => rfl) rfl rfl rfl ?_ fun bA => ?_
 · conv => whnf
   refine cT ?_
   first | done | rfl
 obtain ⟨bd, aU⟩ := qaw aU
 refine apE rfl r1 qck (qay rfl r0 rfl (fun _ => rfl) (fun _ => rfl)) bd ?_
 intro bz bv bw
 refine qaz rfl (nn _) a6 ?_
 refine bsO (len := 1) (enc := eU) (l := ([e0] : Str)) (cl := [.int .u8 (e0.toNat : Int)]) qck rfl rfl (fun _ _ => rfl) rfl rfl rfl ?_ fun bp => ?_
 · conv => whnf
   refine cT ?_
   first | done | rfl
 obtain ⟨bb, aU⟩ := qaw aU
 refine apE rfl r1 qck (qay rfl r0 rfl (fun _ => rfl) (fun _ => rfl)) bb ?_
 intro bl bn br
 refine qam (qbn a6 bg) ?_
 exact eR aU (_, _, _, _)
 refine cf aV (cf aV (qaz rfl (nn _) a6 (cf aV (qag (cf aV (qac rfl ?_))))))
 refine qae ?_ ?_ <;> intro bo
 replace aU := ift ((si ba).symm.trans bo) aU
 refine bsO (len := 1) (enc := eU) (l := ([(92 : UInt8)] : Str)) (cl := [.int .u8 92]) qck rfl rfl (fun _ _ => rfl) rfl rfl rfl ?_ fun bA => ?_
 · conv => whnf
   refine cT ?_
   first | done | rfl
 obtain ⟨bd, aU⟩ := qaw aU
 refine apE rfl r1 qck (qay rfl r0 rfl (fun _ => rfl) (fun _ => rfl)) bd ?_
 intro bz bv bw
 refine qaz rfl (nn _) a6 ?_
 refine bsO (len := 1) (enc := eU) (l := ([e0] : Str)) (cl := [.int .u8 (e0.toNat : Int)]) qck rfl rfl (fun _ _ => rfl) rfl rfl rfl ?_ fun bp => ?_
 · conv => whnf
   refine cT ?_
   first | done | rfl
 obtain ⟨bb, aU⟩ := qaw aU
 refine apE rfl r1 qck (qay rfl r0 rfl (fun _ => rfl) (fun _ => rfl)) bb ?_
 intro bl bn br
 refine qam (qbn a6 bg) ?_
 exact eR aU (_, _, _, _)
 replace aU := qa9 ((si ba).symm.trans bo) aU
 refine qaz rfl (nn _) a6 ?_
 refine bsO (len := 1) (enc := eU) (l := ([e0] : Str)) (cl := [.int .u8 (e0.toNat : Int)]) qck rfl rfl (fun _ _ => rfl) rfl rfl rfl ?_ fun bp => ?_
 · conv => whnf
   refine cT ?_
   first | done | rfl
 obtain ⟨bb, aU⟩ := qaw aU
 refine apE rfl r1 qck (qay rfl r0 rfl (fun _ => rfl) (fun _ => rfl)) bb ?_
 intro bl bn br
 refine qam (qbn a6 bg) ?_
 exact eR aU (_, _, _, _)
 rw [lty w0, Jbf.eq_1] at aU
 refine cT ?_
 exact eM aU (_, _, _)
 rintro ⟨t0, aX, aY⟩ ⟨bj, _⟩ rfl j0
 replace hm := elg hm
 refine bsO (len := 1) (enc := eU) (l := ([(34 : UInt8)] : Str)) (cl := [.int .u8 34]) qck rfl rfl (fun _ _ => rfl) rfl rfl rfl ?_ fun bG => ?_
 · conv => whnf
   refine cT ?_
   first | done | rfl
 obtain ⟨bu, hm⟩ := qaw hm
 refine apE rfl r1 qck (qay rfl r0 rfl (fun _ => rfl) (fun _ => rfl)) bu ?_
 intro bD bK bJ
 refine ro (qeh rfl r0 rfl rfl rfl ?_)
 exact eE hm

def Jbj (s : Str) : Option (Bool) :=
  (Jc6 s).bind fun x7 =>
  some x7.2.isNone
theorem Jb5 {s : Str} {K : Hp} {r : Bool}
    (hm : Jbj s = some r)  :
    Fn Tryz.prog 225 [str s] K [] (fun v K' H' => v = .bool r ∧ H' = []) := by
 refine Fn.enter Tryz.func225 Tryz.call225 rfl fun F => ?_
 unfold Jbj at hm
 refine cb hm fun x7 q7 hm => cg0 (JdL q7 :) ?_
 refine qd1 rfl ?_
 exact eE hm

def Jch (n : Nat) (s : Str) : Option (Bool) :=
  (Jc3 n s).bind fun x7 =>
  (if (x7.2.isNone && decide ((x7.1.length : Int) = 2)) then (ix x7.1 0).bind fun aX =>
  some (decide (aX.Ab = 1)) else some false).bind fun aU =>
  (if aU then (ix x7.1 0).bind fun aW =>
  some (decide (aW.Ac = s)) else some false).bind fun aZ =>
  (if aZ then (Jb4 s).bind fun aY =>
  some (!aY) else some false).bind fun aV =>
  some aV
theorem JcK {n : Nat} {s : Str} {K : Hp} {r : Bool}
    (hm : Jch n s = some r) (hG : GG K) :
    Fn Tryz.prog 226 [str s] K [] (fun v K' H' => v = .bool r ∧ H' = []) := by
 refine Fn.enter Tryz.func226 Tryz.call226 rfl fun F => ?_
 unfold Jch at hm
 refine cb hm fun x7 q7 hm => ck0 (JdK q7 :) ?_
 rintro _ _ _ ⟨bj, bl, rfl, a8, rfl⟩
 refine qaj rfl ?_
 refine qd1 rfl ?_
 refine qae ?_ ?_ <;> intro aW
 refine ct aW (ro (qak rfl (ct aW (qag (ct aW ?_)))))
 obtain ⟨bh, a6, hm⟩ := bnd hm
 refine qae ?_ ?_ <;> intro aV
 replace a6 := ift (qcy aW aV) a6
 refine ct aV ?_
 obtain ⟨bn, bf, ba, a6⟩ := ixb a6
 refine RStep.ofN (qad rfl rfl (qco a8 ba) bf (qax rfl bf ba) (ct aV (qba rfl (qco a8 ba) (ct aV (ro (qbv (i := (0 : Int).toNat) (o := 0) r0 rfl ba rfl rfl (ct aV (qag (ct aV ?_)))))))))
 obtain ⟨bd, aZ, hm⟩ := bnd hm
 refine qae ?_ ?_ <;> intro aU
 replace aZ := ift ((si a6).symm.trans aU) aZ
 refine ct aU ?_
 obtain ⟨bp, bg, bb, aZ⟩ := ixb aZ
 refine RStep.ofN (qad rfl rfl (qco a8 bb) bg (qax rfl bg bb) (ct aU (qba rfl (qco a8 bb) (ct aU (ro (qbv (i := (0 : Int).toNat) (o := 1) r0 rfl bb rfl rfl (ct aU (ct aU (qaq ?_)))))))))
 refine ct aU ?_
 obtain ⟨bc, aY, hm⟩ := bnd hm
 refine qae ?_ ?_ <;> intro aX
 replace aY := ift ((si aZ).symm.trans aX) aY
 refine ct aX ?_
 refine cb aY fun bo bm aY => cgx (Jcw bm :) ?_
 refine ct aX (qau (ct aX ?_))
 exact bE (si aY) (eE hm)
 replace aY := qa9 ((si aZ).symm.trans aX) aY
 refine cf aX (cf aX (cf aX ?_))
 exact bE (si aY) (eE hm)
 replace aZ := qa9 ((si a6).symm.trans aU) aZ
 refine cf aU (cf aU (cf aU (cf aU (cf aU (cf aU ?_)))))
 obtain ⟨bc, aY, hm⟩ := bnd hm
 replace aY := qa9 (si aZ).symm aY
 refine cF (cF (cF (cF ?_)))
 exact bE (si aY) (eE hm)
 replace a6 := qa9 (qcz aW aV) a6
 refine cf aV (cf aV (cf aV (cf aV (cf aV ?_))))
 obtain ⟨bd, aZ, hm⟩ := bnd hm
 replace aZ := qa9 (si a6).symm aZ
 refine cF (cF (cF (cF (cF (cF (cF ?_))))))
 obtain ⟨bc, aY, hm⟩ := bnd hm
 replace aY := qa9 (si aZ).symm aY
 refine cF (cF (cF (cF ?_)))
 exact bE (si aY) (eE hm)
 refine cf aW (cf aW (cf aW ?_))
 obtain ⟨bh, a6, hm⟩ := bnd hm
 replace a6 := qa9 (qbc aW) a6
 refine cF (cF (cF (cF (cF (cF ?_)))))
 obtain ⟨bd, aZ, hm⟩ := bnd hm
 replace aZ := qa9 (si a6).symm aZ
 refine cF (cF (cF (cF (cF (cF (cF ?_))))))
 obtain ⟨bc, aY, hm⟩ := bnd hm
 replace aY := qa9 (si aZ).symm aY
 refine cF (cF (cF (cF ?_)))
 exact bE (si aY) (eE hm)
