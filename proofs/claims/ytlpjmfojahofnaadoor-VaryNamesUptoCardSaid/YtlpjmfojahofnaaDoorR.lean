/- Arguments of the laws, as they are read. Printed by gen.py. -/
import Derived.Test.YtlpjmfojahofnaaDoorG2
set_option linter.unusedVariables false
set_option linter.unusedSimpArgs false
open Go Go.SL Go.Proofs
set_option maxRecDepth 1000000
theorem rd9 : RdrA szUp Tryd.prog 9 (fun K cs x => cs = eS x ∧ x.length ≤ szUp) := RdrA.str rfl
def S_ref02_Field.ok (x : S_ref02_Field) : Prop := x.Name.length ≤ szUp ∧ x.Value.length ≤ szUp
theorem rd36 : RdrA szUp Tryd.prog 36 (fun K cs x => cs = S_ref02_Field.enc x ∧ S_ref02_Field.ok x) := by
  intro m H enc w sp held fuel cs x hf h hz
  obtain ⟨hl, hfs⟩ := rd_structA (n := 2) rfl rfl h hz
  obtain ⟨a0, h0⟩ := hfs 0 0 1 9 ⟨rfl, rfl, rfl⟩ rd9
  obtain ⟨a1, h1⟩ := hfs 1 1 1 9 ⟨rfl, rfl, rfl⟩ rd9
  obtain ⟨c0, c1, rfl⟩ : ∃ c0 c1, cs = [c0, c1] := by
    match cs, hl with
    | [c0, c1], _ => exact ⟨c0, c1, rfl⟩
  obtain ⟨e0, k0⟩ := h0
  have e0 : [c0] = [str a0] := e0
  cases e0
  obtain ⟨e1, k1⟩ := h1
  have e1 : [c1] = [str a1] := e1
  cases e1
  exact ⟨⟨a0, a1⟩, rfl, ⟨k0, k1⟩⟩
theorem rd22 : RdrA szUp Tryd.prog 22 (fun K cs x => sliL S_ref02_Field.enc 2 K cs x ∧ (x.length ≤ szUp ∧ ∀ y0 ∈ x, S_ref02_Field.ok y0)) := RdrA.sl (enc := S_ref02_Field.enc) (ok := fun y0 => S_ref02_Field.ok y0) rfl rfl rfl (fun _ => rfl) (fun _ => rfl) rd36 rfl
