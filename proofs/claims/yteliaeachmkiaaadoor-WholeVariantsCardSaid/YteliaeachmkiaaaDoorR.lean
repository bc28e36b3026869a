/- Arguments of the laws, as they are read. Printed by gen.py. -/
import Derived.Test.YteliaeachmkiaaaDoorG3
set_option linter.unusedVariables false
set_option linter.unusedSimpArgs false
open Go Go.SL Go.Proofs
set_option maxRecDepth 1000000
theorem rd9 : RdrA szMax Tryd.prog 9 (fun K cs x => cs = eS x ∧ x.length ≤ szMax) := RdrA.str rfl
def S_field_Field.ok (x : S_field_Field) : Prop := x.Name.length ≤ szMax ∧ x.Value.length ≤ szMax
theorem rd31 : RdrA szMax Tryd.prog 31 (fun K cs x => cs = S_field_Field.enc x ∧ S_field_Field.ok x) := by
  intro m H enc w sp held fuel cs x hf h hz
  obtain ⟨hl, hfs⟩ := rd_structA (n := 2) rfl rfl h hz
  obtain ⟨a0, h0⟩ := hfs 0 0 1 9 ⟨rfl, rfl, rfl⟩ rd9
  obtain ⟨a1, h1⟩ := hfs 1 1 1 9 ⟨rfl, rfl, rfl⟩ rd9
  obtain ⟨c0, c1, rfl⟩ : ∃ c0 c1, cs = [c0, c1] := by
    match cs, hl with
    | [c0, c1], _ => exact ⟨c0, c1, rfl⟩
  obtain ⟨e0, k0⟩ := h0
  have e0 : [c0] = [str a0] := e0
  cases e0
  obtain ⟨e1, k1⟩ := h1
  have e1 : [c1] = [str a1] := e1
  cases e1
  exact ⟨⟨a0, a1⟩, rfl, ⟨k0, k1⟩⟩
theorem rd25 : RdrA szMax Tryd.prog 25 (fun K cs x => sliL S_field_Field.enc 2 K cs x ∧ (x.length ≤ szMax ∧ ∀ y0 ∈ x, S_field_Field.ok y0)) := RdrA.sl (enc := S_field_Field.enc) (ok := fun y0 => S_field_Field.ok y0) rfl rfl rfl (fun _ => rfl) (fun _ => rfl) rd31 rfl
theorem rd22 : RdrA szMax Tryd.prog 22 (fun K cs x => sliR (sliL S_field_Field.enc 2) 1 K cs x ∧ (x.length ≤ szMax ∧ ∀ y0 ∈ x, (y0.length ≤ szMax ∧ ∀ y1 ∈ y0, S_field_Field.ok y1))) := RdrA.slx (R := (sliL S_field_Field.enc 2)) (ok := fun y0 => (y0.length ≤ szMax ∧ ∀ y1 ∈ y0, S_field_Field.ok y1)) rfl rfl rfl sliL_ok rd25 rfl
theorem rd23 : RdrA szMax Tryd.prog 23 (fun K cs x => sliL eS 1 K cs x ∧ (x.length ≤ szMax ∧ ∀ y0 ∈ x, y0.length ≤ szMax)) := RdrA.sl (enc := eS) (ok := fun y0 => y0.length ≤ szMax) rfl rfl rfl (fun _ => rfl) (fun _ => rfl) rd9 rfl
