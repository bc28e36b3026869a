/- Arguments of the laws, as they are read. Printed by gen.py. -/
import Derived.Test.YtfngobjpmjpefaaG1
set_option linter.unusedVariables false
set_option linter.unusedSimpArgs false
open Go Go.SL Go.Proofs
set_option maxRecDepth 1000000
theorem rd4 : RdrA Try.prog 4 (fun K cs x => cs = eB x ∧ True) := RdrA.bool rfl
theorem rd9 : RdrA Try.prog 9 (fun K cs x => cs = eS x ∧ x.length ≤ szMax) := RdrA.str rfl
theorem rd31 : RdrA Try.prog 31 (fun K cs x => sliL eS 1 K cs x ∧ (x.length ≤ szMax ∧ ∀ y0 ∈ x, y0.length ≤ szMax)) := RdrA.sl (enc := eS) (ok := fun y0 => y0.length ≤ szMax) rfl rfl rfl (fun _ => rfl) (fun _ => rfl) rd9 rfl
def S_law35_Act.ok (x : S_law35_Act) : Prop := True ∧ x.ID.length ≤ szMax ∧ (x.Tags.length ≤ szMax ∧ ∀ y0 ∈ x.Tags, y0.length ≤ szMax)
theorem rd35 : RdrA Try.prog 35 (fun K cs x => S_law35_Act.R K cs x ∧ S_law35_Act.ok x) := by
  intro m H enc w sp held fuel cs x hf h hz
  obtain ⟨hl, hfs⟩ := rd_structA (n := 3) rfl rfl h hz
  obtain ⟨a0, h0⟩ := hfs 0 0 1 4 ⟨rfl, rfl, rfl⟩ rd4
  obtain ⟨a1, h1⟩ := hfs 1 1 1 9 ⟨rfl, rfl, rfl⟩ rd9
  obtain ⟨a2, h2⟩ := hfs 2 2 1 31 ⟨rfl, rfl, rfl⟩ rd31
  obtain ⟨c0, c1, c2, rfl⟩ : ∃ c0 c1 c2, cs = [c0, c1, c2] := by
    match cs, hl with
    | [c0, c1, c2], _ => exact ⟨c0, c1, c2, rfl⟩
  obtain ⟨e0, k0⟩ := h0
  have e0 : [c0] = [.bool a0] := e0
  cases e0
  obtain ⟨e1, k1⟩ := h1
  have e1 : [c1] = [str a1] := e1
  cases e1
  obtain ⟨⟨ad2, cp2, e2, q2⟩, k2⟩ := h2
  have e2 : [c2] = [.slice ad2 a2.length cp2] := e2
  cases e2
  exact ⟨⟨a0, a1, a2⟩, ⟨ad2, cp2, rfl, q2⟩, ⟨k0, k1, k2⟩⟩
theorem rd22 : RdrA Try.prog 22 (fun K cs x => sliR S_law35_Act.R 3 K cs x ∧ (x.length ≤ szMax ∧ ∀ y0 ∈ x, S_law35_Act.ok y0)) := RdrA.slx (R := S_law35_Act.R) (ok := fun y0 => S_law35_Act.ok y0) rfl rfl rfl S_law35_Act.R_ok rd35 rfl
