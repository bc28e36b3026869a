/- Arguments of the laws, as they are read. Printed by gen.py. -/
import Derived.Test.YtiaaooopklhobaaGreatDoorG7
set_option linter.unusedVariables false
set_option linter.unusedSimpArgs false
open Go Go.SL Go.Proofs
set_option maxRecDepth 1000000
theorem rd9 : RdrA qa3 Tryz.prog 9 (fun K cs x => cs = eS x ∧ x.length ≤ qa3) := RdrA.str rfl
def Jc.ok (x : Jc) : Prop := x.Name.length ≤ qa3 ∧ x.Value.length ≤ qa3
theorem qs5 : RdrA qa3 Tryz.prog 41 (fun K cs x => cs = Jc.enc x ∧ Jc.ok x) := by
  intro m H enc w sp held fuel cs x hf h hz
  obtain ⟨hl, hfs⟩ := qhj (n := 2) rfl rfl h hz
  obtain ⟨a0, h0⟩ := hfs 0 0 1 9 ⟨rfl, rfl, rfl⟩ rd9
  obtain ⟨a1, h1⟩ := hfs 1 1 1 9 ⟨rfl, rfl, rfl⟩ rd9
  obtain ⟨c0, c1, rfl⟩ : ∃ c0 c1, cs = [c0, c1] := by
    match cs, hl with
    | [c0, c1], _ => exact ⟨c0, c1, rfl⟩
  obtain ⟨e0, k0⟩ := h0
  have e0 : [c0] = [str a0] := e0
  cases e0
  obtain ⟨e1, k1⟩ := h1
  have e1 : [c1] = [str a1] := e1
  cases e1
  exact ⟨⟨a0, a1⟩, rfl, ⟨k0, k1⟩⟩
theorem qs6 : RdrA qa3 Tryz.prog 35 (fun K cs x => qrv Jc.enc 2 K cs x ∧ (x.length ≤ qa3 ∧ ∀ y0 ∈ x, Jc.ok y0)) := RdrA.sl (enc := Jc.enc) (ok := fun y0 => Jc.ok y0) rfl rfl rfl (fun _ => rfl) (fun _ => rfl) qs5 rfl
def JA.ok (x : JA) : Prop := x.Am.length ≤ qa3 ∧ x.Target.length ≤ qa3 ∧ (x.Ao.length ≤ qa3 ∧ ∀ y0 ∈ x.Ao, Jc.ok y0)
theorem qs7 : RdrA qa3 Tryz.prog 43 (fun K cs x => JA.R K cs x ∧ JA.ok x) := by
  intro m H enc w sp held fuel cs x hf h hz
  obtain ⟨hl, hfs⟩ := qhj (n := 3) rfl rfl h hz
  obtain ⟨a0, h0⟩ := hfs 0 0 1 9 ⟨rfl, rfl, rfl⟩ rd9
  obtain ⟨a1, h1⟩ := hfs 1 1 1 9 ⟨rfl, rfl, rfl⟩ rd9
  obtain ⟨a2, h2⟩ := hfs 2 2 1 35 ⟨rfl, rfl, rfl⟩ qs6
  obtain ⟨c0, c1, c2, rfl⟩ : ∃ c0 c1 c2, cs = [c0, c1, c2] := by
    match cs, hl with
    | [c0, c1, c2], _ => exact ⟨c0, c1, c2, rfl⟩
  obtain ⟨e0, k0⟩ := h0
  have e0 : [c0] = [str a0] := e0
  cases e0
  obtain ⟨e1, k1⟩ := h1
  have e1 : [c1] = [str a1] := e1
  cases e1
  obtain ⟨⟨ad2, cp2, e2, q2⟩, k2⟩ := h2
  have e2 : [c2] = [.slice ad2 a2.length cp2] := e2
  cases e2
  exact ⟨⟨a0, a1, a2⟩, ⟨ad2, cp2, rfl, q2⟩, ⟨k0, k1, k2⟩⟩
