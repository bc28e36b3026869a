/- Arguments of the laws, as they are read. Printed by gen.py. -/
import Derived.Test.YtiaaooopklhobaaGreatDoorG8
set_option linter.unusedVariables false
set_option linter.unusedSimpArgs false
open Go Go.SL Go.Proofs
set_option maxRecDepth 1000000
theorem rd9 : RdrA qa1 Tryz.prog 9 (fun K cs x => cs = eS x ∧ x.length ≤ qa1) := RdrA.str rfl
theorem rd3 : RdrA qa1 Tryz.prog 3 (fun K cs x => cs = eN x ∧ InK .i64 x) := RdrA.int rfl
def Jt.ok (x : Jt) : Prop := x.An.length ≤ qa1 ∧ InK .i64 x.Tenant ∧ x.Program.length ≤ qa1
theorem qxq : RdrA qa1 Tryz.prog 30 (fun K cs x => cs = Jt.enc x ∧ Jt.ok x) := by
  intro m H enc w sp held fuel cs x hf h hz
  obtain ⟨hl, hfs⟩ := qod (n := 3) rfl rfl h hz
  obtain ⟨a0, h0⟩ := hfs 0 0 1 9 ⟨rfl, rfl, rfl⟩ rd9
  obtain ⟨a1, h1⟩ := hfs 1 1 1 3 ⟨rfl, rfl, rfl⟩ rd3
  obtain ⟨a2, h2⟩ := hfs 2 2 1 9 ⟨rfl, rfl, rfl⟩ rd9
  obtain ⟨c0, c1, c2, rfl⟩ : ∃ c0 c1 c2, cs = [c0, c1, c2] := by
    match cs, hl with
    | [c0, c1, c2], _ => exact ⟨c0, c1, c2, rfl⟩
  obtain ⟨e0, k0⟩ := h0
  have e0 : [c0] = [str a0] := e0
  cases e0
  obtain ⟨e1, k1⟩ := h1
  have e1 : [c1] = [.int .i64 a1] := e1
  cases e1
  obtain ⟨e2, k2⟩ := h2
  have e2 : [c2] = [str a2] := e2
  cases e2
  exact ⟨⟨a0, a1, a2⟩, rfl, ⟨k0, k1, k2⟩⟩
theorem qxr : RdrA qa1 Tryz.prog 31 (fun K cs x => qv6 Jt.enc 3 K cs x ∧ (x.length ≤ qa1 ∧ ∀ y0 ∈ x, Jt.ok y0)) := RdrA.sl (enc := Jt.enc) (ok := fun y0 => Jt.ok y0) rfl rfl rfl (fun _ => rfl) (fun _ => rfl) qxq rfl
