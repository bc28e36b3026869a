/- Arguments of the laws, as they are read. Printed by gen.py. -/
import Derived.Test.YtmpdebfckeahmaaGreatDoorG4
set_option linter.unusedVariables false
set_option linter.unusedSimpArgs false
open Go Go.SL Go.Proofs
set_option maxRecDepth 1000000
theorem rd50 : RdrA szMax Tryz.prog 50 (fun K cs x => cs = (eI .u32) x ∧ InK .u32 x) := RdrA.int rfl
def JD.ok (x : JD) : Prop := InK .u32 x.f0 ∧ InK .u32 x.f1
theorem rd51 : RdrA szMax Tryz.prog 51 (fun K cs x => cs = JD.enc x ∧ JD.ok x) := by
  intro m H enc w sp held fuel cs x hf h hz
  obtain ⟨hl, hfs⟩ := rd_arrayA (n := 2) rfl rfl h hz
  obtain ⟨a0, h0⟩ := hfs 0 0 1 50 ⟨rfl, rfl, rfl, rfl⟩ rd50
  obtain ⟨a1, h1⟩ := hfs 1 1 1 50 ⟨rfl, rfl, rfl, rfl⟩ rd50
  obtain ⟨c0, c1, rfl⟩ : ∃ c0 c1, cs = [c0, c1] := by
    match cs, hl with
    | [c0, c1], _ => exact ⟨c0, c1, rfl⟩
  obtain ⟨e0, k0⟩ := h0
  have e0 : [c0] = [.int .u32 a0] := e0
  cases e0
  obtain ⟨e1, k1⟩ := h1
  have e1 : [c1] = [.int .u32 a1] := e1
  cases e1
  exact ⟨⟨a0, a1⟩, rfl, ⟨k0, k1⟩⟩
theorem rd5 : RdrA szMax Tryz.prog 5 (fun K cs x => cs = eU x ∧ True) := RdrA.u8 rfl
