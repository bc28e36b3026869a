/- Arguments of the laws, as they are read. Printed by gen.py. -/
import Derived.Test.YtjjfnlopijnfkaaG1
set_option linter.unusedVariables false
set_option linter.unusedSimpArgs false
open Go Go.SL Go.Proofs
set_option maxRecDepth 1000000
theorem rd9 : RdrA szMax Try.prog 9 (fun K cs x => cs = eS x ∧ x.length ≤ szMax) := RdrA.str rfl
theorem rd22 : RdrA szMax Try.prog 22 (fun K cs x => sliL eS 1 K cs x ∧ (x.length ≤ szMax ∧ ∀ y0 ∈ x, y0.length ≤ szMax)) := RdrA.sl (enc := eS) (ok := fun y0 => y0.length ≤ szMax) rfl rfl rfl (fun _ => rfl) (fun _ => rfl) rd9 rfl
theorem rd3 : RdrA szMax Try.prog 3 (fun K cs x => cs = eN x ∧ InK .i64 x) := RdrA.int rfl
def S_ref40_Config.ok (x : S_ref40_Config) : Prop := x.Name.length ≤ szMax ∧ x.Parent.length ≤ szMax ∧ (x.Children.length ≤ szMax ∧ ∀ y0 ∈ x.Children, y0.length ≤ szMax) ∧ InK .i64 x.Length ∧ InK .i64 x.Ppm ∧ InK .i64 x.Window
theorem rd24 : RdrA szMax Try.prog 24 (fun K cs x => S_ref40_Config.R K cs x ∧ S_ref40_Config.ok x) := by
  intro m H enc w sp held fuel cs x hf h hz
  obtain ⟨hl, hfs⟩ := rd_structA (n := 6) rfl rfl h hz
  obtain ⟨a0, h0⟩ := hfs 0 0 1 9 ⟨rfl, rfl, rfl⟩ rd9
  obtain ⟨a1, h1⟩ := hfs 1 1 1 9 ⟨rfl, rfl, rfl⟩ rd9
  obtain ⟨a2, h2⟩ := hfs 2 2 1 22 ⟨rfl, rfl, rfl⟩ rd22
  obtain ⟨a3, h3⟩ := hfs 3 3 1 3 ⟨rfl, rfl, rfl⟩ rd3
  obtain ⟨a4, h4⟩ := hfs 4 4 1 3 ⟨rfl, rfl, rfl⟩ rd3
  obtain ⟨a5, h5⟩ := hfs 5 5 1 3 ⟨rfl, rfl, rfl⟩ rd3
  obtain ⟨c0, c1, c2, c3, c4, c5, rfl⟩ : ∃ c0 c1 c2 c3 c4 c5, cs = [c0, c1, c2, c3, c4, c5] := by
    match cs, hl with
    | [c0, c1, c2, c3, c4, c5], _ => exact ⟨c0, c1, c2, c3, c4, c5, rfl⟩
  obtain ⟨e0, k0⟩ := h0
  have e0 : [c0] = [str a0] := e0
  cases e0
  obtain ⟨e1, k1⟩ := h1
  have e1 : [c1] = [str a1] := e1
  cases e1
  obtain ⟨⟨ad2, cp2, e2, q2⟩, k2⟩ := h2
  have e2 : [c2] = [.slice ad2 a2.length cp2] := e2
  cases e2
  obtain ⟨e3, k3⟩ := h3
  have e3 : [c3] = [.int .i64 a3] := e3
  cases e3
  obtain ⟨e4, k4⟩ := h4
  have e4 : [c4] = [.int .i64 a4] := e4
  cases e4
  obtain ⟨e5, k5⟩ := h5
  have e5 : [c5] = [.int .i64 a5] := e5
  cases e5
  exact ⟨⟨a0, a1, a2, a3, a4, a5⟩, ⟨ad2, cp2, rfl, q2⟩, ⟨k0, k1, k2, k3, k4, k5⟩⟩
