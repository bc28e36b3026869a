/- Arguments of the laws, as they are read. Printed by gen.py. -/
import Derived.Test.YtkpipkpdnbconaaGreatDoorG7
set_option linter.unusedVariables false
set_option linter.unusedSimpArgs false
open Go Go.SL Go.Proofs
set_option maxRecDepth 1000000
theorem rd3 : RdrA szMax Tryz.prog 3 (fun K cs x => cs = eN x ∧ InK .i64 x) := RdrA.int rfl
theorem rd9 : RdrA szMax Tryz.prog 9 (fun K cs x => cs = eS x ∧ x.length ≤ szMax) := RdrA.str rfl
inductive Jk.ok : Jk → Prop
  | mk {x : Jk} (k0 : InK .i64 x.Kind) (k1 : x.Text.length ≤ szMax) (l2 : x.Kids.length ≤ szMax) (k2 : ∀ y ∈ x.Kids, Jk.ok y) (k3 : InK .i64 x.Line) : Jk.ok x
theorem rd24 : RdrA szMax Tryz.prog 24 (fun K cs x => Jk.R K cs x ∧ Jk.ok x) := by
  refine RdrA.rec fun m ih H enc w sp held cs x h hz => ?_
  obtain ⟨hl, hfs⟩ := rd_structM (n := 4) rfl rfl h hz
  obtain ⟨a0, h0⟩ := hfs 0 0 1 3 (R := fun K cs x => cs = eN x ∧ InK .i64 x) ⟨rfl, rfl, rfl⟩ (rd3 m)
  obtain ⟨a1, h1⟩ := hfs 1 1 1 9 (R := fun K cs x => cs = eS x ∧ x.length ≤ szMax) ⟨rfl, rfl, rfl⟩ (rd9 m)
  obtain ⟨a2, h2⟩ := hfs 2 2 1 22 (R := fun K cs x => sliR Jk.R 4 K cs x ∧ (x.length ≤ szMax ∧ ∀ y ∈ x, Jk.ok y)) ⟨rfl, rfl, rfl⟩ (Rdr.slxM (P := Tryz.prog) (Bd := szMax) (m := m) (t := 22) (e := 24) (sz := 4) (R := Jk.R) (ok := Jk.ok) rfl rfl rfl Jk.R_ok (fun m' hm => ih m' (by omega)) rfl)
  obtain ⟨a3, h3⟩ := hfs 3 3 1 3 (R := fun K cs x => cs = eN x ∧ InK .i64 x) ⟨rfl, rfl, rfl⟩ (rd3 m)
  obtain ⟨c0, c1, c2, c3, rfl⟩ : ∃ c0 c1 c2 c3, cs = [c0, c1, c2, c3] := by
    match cs, hl with
    | [c0, c1, c2, c3], _ => exact ⟨c0, c1, c2, c3, rfl⟩
  obtain ⟨e0, k0⟩ := h0
  have e0 : [c0] = [.int .i64 a0] := e0
  cases e0
  obtain ⟨e1, k1⟩ := h1
  have e1 : [c1] = [str a1] := e1
  cases e1
  obtain ⟨⟨ad2, cp2, e2, q2⟩, ⟨l2, k2⟩⟩ := h2
  have e2 : [c2] = [.slice ad2 a2.length cp2] := e2
  cases e2
  obtain ⟨e3, k3⟩ := h3
  have e3 : [c3] = [.int .i64 a3] := e3
  cases e3
  exact ⟨⟨a0, a1, a2, a3⟩, Jk.of ⟨ad2, cp2, rfl, q2⟩, .mk k0 k1 l2 k2 k3⟩
