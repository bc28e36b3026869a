/- Arguments of the laws, as they are read. Printed by gen.py. -/
import Derived.Test.YtkpipkpdnbconaaGreatDoorG6
set_option linter.unusedVariables false
set_option linter.unusedSimpArgs false
open Go Go.SL Go.Proofs
set_option maxRecDepth 1000000
theorem rd3 : RdrA szUp Tryz.prog 3 (fun K cs x => cs = eN x ∧ InK .i64 x) := RdrA.int rfl
theorem rd9 : RdrA szUp Tryz.prog 9 (fun K cs x => cs = eS x ∧ x.length ≤ szUp) := RdrA.str rfl
def Jo.ok (x : Jo) : Prop := InK .i64 x.Op ∧ InK .i64 x.N ∧ x.S.length ≤ szUp
theorem rd73 : RdrA szUp Tryz.prog 73 (fun K cs x => cs = Jo.enc x ∧ Jo.ok x) := by
  intro m H enc w sp held fuel cs x hf h hz
  obtain ⟨hl, hfs⟩ := rd_structA (n := 3) rfl rfl h hz
  obtain ⟨a0, h0⟩ := hfs 0 0 1 3 ⟨rfl, rfl, rfl⟩ rd3
  obtain ⟨a1, h1⟩ := hfs 1 1 1 3 ⟨rfl, rfl, rfl⟩ rd3
  obtain ⟨a2, h2⟩ := hfs 2 2 1 9 ⟨rfl, rfl, rfl⟩ rd9
  obtain ⟨c0, c1, c2, rfl⟩ : ∃ c0 c1 c2, cs = [c0, c1, c2] := by
    match cs, hl with
    | [c0, c1, c2], _ => exact ⟨c0, c1, c2, rfl⟩
  obtain ⟨e0, k0⟩ := h0
  have e0 : [c0] = [.int .i64 a0] := e0
  cases e0
  obtain ⟨e1, k1⟩ := h1
  have e1 : [c1] = [.int .i64 a1] := e1
  cases e1
  obtain ⟨e2, k2⟩ := h2
  have e2 : [c2] = [str a2] := e2
  cases e2
  exact ⟨⟨a0, a1, a2⟩, rfl, ⟨k0, k1, k2⟩⟩
theorem rd36 : RdrA szUp Tryz.prog 36 (fun K cs x => sliL Jo.enc 3 K cs x ∧ (x.length ≤ szUp ∧ ∀ y0 ∈ x, Jo.ok y0)) := RdrA.sl (enc := Jo.enc) (ok := fun y0 => Jo.ok y0) rfl rfl rfl (fun _ => rfl) (fun _ => rfl) rd73 rfl
