/- Arguments of the laws, as they are read. Printed by gen.py. -/
import Derived.Test.YtagbphlipeepnaaG4
set_option linter.unusedVariables false
set_option linter.unusedSimpArgs false
open Go Go.SL Go.Proofs
set_option maxRecDepth 30000
theorem rd3 : RdrA Try.prog 3 (fun K cs x => cs = eN x ∧ InK .i64 x) := RdrA.int rfl
def S_law32_Limits.ok (x : S_law32_Limits) : Prop := InK .i64 x.Rise ∧ InK .i64 x.Fall
theorem rd31 : RdrA Try.prog 31 (fun K cs x => cs = S_law32_Limits.enc x ∧ S_law32_Limits.ok x) := by
  intro m H enc w sp held fuel cs x hf h hz
  obtain ⟨hl, hfs⟩ := rd_structA (n := 2) rfl rfl h hz
  obtain ⟨a0, h0⟩ := hfs 0 0 1 3 ⟨rfl, rfl, rfl⟩ rd3
  obtain ⟨a1, h1⟩ := hfs 1 1 1 3 ⟨rfl, rfl, rfl⟩ rd3
  obtain ⟨c0, c1, rfl⟩ : ∃ c0 c1, cs = [c0, c1] := by
    match cs, hl with
    | [c0, c1], _ => exact ⟨c0, c1, rfl⟩
  obtain ⟨e0, k0⟩ := h0
  have e0 : [c0] = [.int .i64 a0] := e0
  cases e0
  obtain ⟨e1, k1⟩ := h1
  have e1 : [c1] = [.int .i64 a1] := e1
  cases e1
  exact ⟨⟨a0, a1⟩, rfl, ⟨k0, k1⟩⟩
theorem rd5 : RdrA Try.prog 5 (fun K cs x => cs = eU x ∧ True) := RdrA.u8 rfl
def S_law32_Step.ok (x : S_law32_Step) : Prop := True ∧ True
theorem rd34 : RdrA Try.prog 34 (fun K cs x => cs = S_law32_Step.enc x ∧ S_law32_Step.ok x) := by
  intro m H enc w sp held fuel cs x hf h hz
  obtain ⟨hl, hfs⟩ := rd_structA (n := 2) rfl rfl h hz
  obtain ⟨a0, h0⟩ := hfs 0 0 1 5 ⟨rfl, rfl, rfl⟩ rd5
  obtain ⟨a1, h1⟩ := hfs 1 1 1 5 ⟨rfl, rfl, rfl⟩ rd5
  obtain ⟨c0, c1, rfl⟩ : ∃ c0 c1, cs = [c0, c1] := by
    match cs, hl with
    | [c0, c1], _ => exact ⟨c0, c1, rfl⟩
  obtain ⟨e0, k0⟩ := h0
  have e0 : [c0] = [.int .u8 (a0.toNat : Int)] := e0
  cases e0
  obtain ⟨e1, k1⟩ := h1
  have e1 : [c1] = [.int .u8 (a1.toNat : Int)] := e1
  cases e1
  exact ⟨⟨a0, a1⟩, rfl, ⟨k0, k1⟩⟩
theorem rd32 : RdrA Try.prog 32 (fun K cs x => sliL S_law32_Step.enc 2 K cs x ∧ (x.length ≤ szMax ∧ ∀ y0 ∈ x, S_law32_Step.ok y0)) := RdrA.sl (enc := S_law32_Step.enc) (ok := fun y0 => S_law32_Step.ok y0) rfl rfl rfl (fun _ => rfl) (fun _ => rfl) rd34 rfl
