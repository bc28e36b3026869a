/- Arguments of the laws, as they are read. Printed by gen.py. -/
import Derived.Test.YtmpdebfckeahmaaGreatDoorG6
set_option linter.unusedVariables false
set_option linter.unusedSimpArgs false
open Go Go.SL Go.Proofs
set_option maxRecDepth 1000000
theorem rd3 : RdrA szMax Tryz.prog 3 (fun K cs x => cs = eN x ∧ InK .i64 x) := RdrA.int rfl
theorem rd9 : RdrA szMax Tryz.prog 9 (fun K cs x => cs = eS x ∧ x.length ≤ szMax) := RdrA.str rfl
def Jm.ok (x : Jm) : Prop := InK .i64 x.Op ∧ InK .i64 x.N ∧ x.S.length ≤ szMax
theorem rd89 : RdrA szMax Tryz.prog 89 (fun K cs x => cs = Jm.enc x ∧ Jm.ok x) := by
  intro m H enc w sp held fuel cs x hf h hz
  obtain ⟨hl, hfs⟩ := rd_structA (n := 3) rfl rfl h hz
  obtain ⟨a0, h0⟩ := hfs 0 0 1 3 ⟨rfl, rfl, rfl⟩ rd3
  obtain ⟨a1, h1⟩ := hfs 1 1 1 3 ⟨rfl, rfl, rfl⟩ rd3
  obtain ⟨a2, h2⟩ := hfs 2 2 1 9 ⟨rfl, rfl, rfl⟩ rd9
  obtain ⟨c0, c1, c2, rfl⟩ : ∃ c0 c1 c2, cs = [c0, c1, c2] := by
    match cs, hl with
    | [c0, c1, c2], _ => exact ⟨c0, c1, c2, rfl⟩
  obtain ⟨e0, k0⟩ := h0
  have e0 : [c0] = [.int .i64 a0] := e0
  cases e0
  obtain ⟨e1, k1⟩ := h1
  have e1 : [c1] = [.int .i64 a1] := e1
  cases e1
  obtain ⟨e2, k2⟩ := h2
  have e2 : [c2] = [str a2] := e2
  cases e2
  exact ⟨⟨a0, a1, a2⟩, rfl, ⟨k0, k1, k2⟩⟩
theorem rd22 : RdrA szMax Tryz.prog 22 (fun K cs x => sliL Jm.enc 3 K cs x ∧ (x.length ≤ szMax ∧ ∀ y0 ∈ x, Jm.ok y0)) := RdrA.sl (enc := Jm.enc) (ok := fun y0 => Jm.ok y0) rfl rfl rfl (fun _ => rfl) (fun _ => rfl) rd89 rfl
def Jc.ok (x : Jc) : Prop := x.Name.length ≤ szMax ∧ x.Value.length ≤ szMax
theorem rd90 : RdrA szMax Tryz.prog 90 (fun K cs x => cs = Jc.enc x ∧ Jc.ok x) := by
  intro m H enc w sp held fuel cs x hf h hz
  obtain ⟨hl, hfs⟩ := rd_structA (n := 2) rfl rfl h hz
  obtain ⟨a0, h0⟩ := hfs 0 0 1 9 ⟨rfl, rfl, rfl⟩ rd9
  obtain ⟨a1, h1⟩ := hfs 1 1 1 9 ⟨rfl, rfl, rfl⟩ rd9
  obtain ⟨c0, c1, rfl⟩ : ∃ c0 c1, cs = [c0, c1] := by
    match cs, hl with
    | [c0, c1], _ => exact ⟨c0, c1, rfl⟩
  obtain ⟨e0, k0⟩ := h0
  have e0 : [c0] = [str a0] := e0
  cases e0
  obtain ⟨e1, k1⟩ := h1
  have e1 : [c1] = [str a1] := e1
  cases e1
  exact ⟨⟨a0, a1⟩, rfl, ⟨k0, k1⟩⟩
theorem rd23 : RdrA szMax Tryz.prog 23 (fun K cs x => sliL Jc.enc 2 K cs x ∧ (x.length ≤ szMax ∧ ∀ y0 ∈ x, Jc.ok y0)) := RdrA.sl (enc := Jc.enc) (ok := fun y0 => Jc.ok y0) rfl rfl rfl (fun _ => rfl) (fun _ => rfl) rd90 rfl
def Jn.ok (x : Jn) : Prop := x.Method.length ≤ szMax ∧ x.Host.length ≤ szMax ∧ x.Path.length ≤ szMax ∧ x.Query.length ≤ szMax ∧ (x.Fields.length ≤ szMax ∧ ∀ y0 ∈ x.Fields, Jc.ok y0)
theorem rd25 : RdrA szMax Tryz.prog 25 (fun K cs x => Jn.R K cs x ∧ Jn.ok x) := by
  intro m H enc w sp held fuel cs x hf h hz
  obtain ⟨hl, hfs⟩ := rd_structA (n := 5) rfl rfl h hz
  obtain ⟨a0, h0⟩ := hfs 0 0 1 9 ⟨rfl, rfl, rfl⟩ rd9
  obtain ⟨a1, h1⟩ := hfs 1 1 1 9 ⟨rfl, rfl, rfl⟩ rd9
  obtain ⟨a2, h2⟩ := hfs 2 2 1 9 ⟨rfl, rfl, rfl⟩ rd9
  obtain ⟨a3, h3⟩ := hfs 3 3 1 9 ⟨rfl, rfl, rfl⟩ rd9
  obtain ⟨a4, h4⟩ := hfs 4 4 1 23 ⟨rfl, rfl, rfl⟩ rd23
  obtain ⟨c0, c1, c2, c3, c4, rfl⟩ : ∃ c0 c1 c2 c3 c4, cs = [c0, c1, c2, c3, c4] := by
    match cs, hl with
    | [c0, c1, c2, c3, c4], _ => exact ⟨c0, c1, c2, c3, c4, rfl⟩
  obtain ⟨e0, k0⟩ := h0
  have e0 : [c0] = [str a0] := e0
  cases e0
  obtain ⟨e1, k1⟩ := h1
  have e1 : [c1] = [str a1] := e1
  cases e1
  obtain ⟨e2, k2⟩ := h2
  have e2 : [c2] = [str a2] := e2
  cases e2
  obtain ⟨e3, k3⟩ := h3
  have e3 : [c3] = [str a3] := e3
  cases e3
  obtain ⟨⟨ad4, cp4, e4, q4⟩, k4⟩ := h4
  have e4 : [c4] = [.slice ad4 a4.length cp4] := e4
  cases e4
  exact ⟨⟨a0, a1, a2, a3, a4⟩, ⟨ad4, cp4, rfl, q4⟩, ⟨k0, k1, k2, k3, k4⟩⟩
