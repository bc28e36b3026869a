/- Arguments of the laws, as they are read. Printed by gen.py. -/
import Derived.Test.YtiaaooopklhobaaGreatDoorG7
set_option linter.unusedVariables false
set_option linter.unusedSimpArgs false
open Go Go.SL Go.Proofs
set_option maxRecDepth 1000000
theorem rd3 : RdrA qe0 Tryz.prog 3 (fun K cs x => cs = eN x ∧ InK .i64 x) := RdrA.int rfl
theorem rd9 : RdrA qe0 Tryz.prog 9 (fun K cs x => cs = eS x ∧ x.length ≤ qe0) := RdrA.str rfl
theorem rd4 : RdrA qe0 Tryz.prog 4 (fun K cs x => cs = eB x ∧ True) := RdrA.bool rfl
def Jl.ok (x : Jl) : Prop := x.An.length ≤ qe0 ∧ x.Ae.length ≤ qe0 ∧ x.Af.length ≤ qe0 ∧ True
theorem qsa : RdrA qe0 Tryz.prog 33 (fun K cs x => cs = Jl.enc x ∧ Jl.ok x) := by
  intro m H enc w sp held fuel cs x hf h hz
  obtain ⟨hl, hfs⟩ := qfi (n := 4) rfl rfl h hz
  obtain ⟨a0, h0⟩ := hfs 0 0 1 9 ⟨rfl, rfl, rfl⟩ rd9
  obtain ⟨a1, h1⟩ := hfs 1 1 1 9 ⟨rfl, rfl, rfl⟩ rd9
  obtain ⟨a2, h2⟩ := hfs 2 2 1 9 ⟨rfl, rfl, rfl⟩ rd9
  obtain ⟨a3, h3⟩ := hfs 3 3 1 4 ⟨rfl, rfl, rfl⟩ rd4
  obtain ⟨c0, c1, c2, c3, rfl⟩ : ∃ c0 c1 c2 c3, cs = [c0, c1, c2, c3] := by
    match cs, hl with
    | [c0, c1, c2, c3], _ => exact ⟨c0, c1, c2, c3, rfl⟩
  obtain ⟨e0, k0⟩ := h0
  have e0 : [c0] = [str a0] := e0
  cases e0
  obtain ⟨e1, k1⟩ := h1
  have e1 : [c1] = [str a1] := e1
  cases e1
  obtain ⟨e2, k2⟩ := h2
  have e2 : [c2] = [str a2] := e2
  cases e2
  obtain ⟨e3, k3⟩ := h3
  have e3 : [c3] = [.bool a3] := e3
  cases e3
  exact ⟨⟨a0, a1, a2, a3⟩, rfl, ⟨k0, k1, k2, k3⟩⟩
def Jc.ok (x : Jc) : Prop := x.Name.length ≤ qe0 ∧ x.Value.length ≤ qe0
theorem qsk : RdrA qe0 Tryz.prog 41 (fun K cs x => cs = Jc.enc x ∧ Jc.ok x) := by
  intro m H enc w sp held fuel cs x hf h hz
  obtain ⟨hl, hfs⟩ := qfi (n := 2) rfl rfl h hz
  obtain ⟨a0, h0⟩ := hfs 0 0 1 9 ⟨rfl, rfl, rfl⟩ rd9
  obtain ⟨a1, h1⟩ := hfs 1 1 1 9 ⟨rfl, rfl, rfl⟩ rd9
  obtain ⟨c0, c1, rfl⟩ : ∃ c0 c1, cs = [c0, c1] := by
    match cs, hl with
    | [c0, c1], _ => exact ⟨c0, c1, rfl⟩
  obtain ⟨e0, k0⟩ := h0
  have e0 : [c0] = [str a0] := e0
  cases e0
  obtain ⟨e1, k1⟩ := h1
  have e1 : [c1] = [str a1] := e1
  cases e1
  exact ⟨⟨a0, a1⟩, rfl, ⟨k0, k1⟩⟩
theorem qsb : RdrA qe0 Tryz.prog 35 (fun K cs x => qqe Jc.enc 2 K cs x ∧ (x.length ≤ qe0 ∧ ∀ y0 ∈ x, Jc.ok y0)) := RdrA.sl (enc := Jc.enc) (ok := fun y0 => Jc.ok y0) rfl rfl rfl (fun _ => rfl) (fun _ => rfl) qsk rfl
theorem qsc : RdrA qe0 Tryz.prog 23 (fun K cs x => qqe eS 1 K cs x ∧ (x.length ≤ qe0 ∧ ∀ y0 ∈ x, y0.length ≤ qe0)) := RdrA.sl (enc := eS) (ok := fun y0 => y0.length ≤ qe0) rfl rfl rfl (fun _ => rfl) (fun _ => rfl) rd9 rfl
def Jx.ok (x : Jx) : Prop := InK .i64 x.Tenant ∧ InK .i64 x.TTL ∧ InK .i64 x.Ai ∧ Jl.ok x.Asked ∧ Jl.ok x.Cache ∧ (x.Ao.length ≤ qe0 ∧ ∀ y0 ∈ x.Ao, Jc.ok y0) ∧ (x.Vary.length ≤ qe0 ∧ ∀ y0 ∈ x.Vary, y0.length ≤ qe0) ∧ (x.Ah.length ≤ qe0 ∧ ∀ y0 ∈ x.Ah, y0.length ≤ qe0) ∧ True ∧ True
theorem qsd : RdrA qe0 Tryz.prog 37 (fun K cs x => Jx.R K cs x ∧ Jx.ok x) := by
  intro m H enc w sp held fuel cs x hf h hz
  obtain ⟨hl, hfs⟩ := qfi (n := 16) rfl rfl h hz
  obtain ⟨a0, h0⟩ := hfs 0 0 1 3 ⟨rfl, rfl, rfl⟩ rd3
  obtain ⟨a1, h1⟩ := hfs 1 1 1 3 ⟨rfl, rfl, rfl⟩ rd3
  obtain ⟨a2, h2⟩ := hfs 2 2 1 3 ⟨rfl, rfl, rfl⟩ rd3
  obtain ⟨a3, h3⟩ := hfs 3 3 4 33 ⟨rfl, rfl, rfl⟩ qsa
  obtain ⟨a4, h4⟩ := hfs 4 7 4 33 ⟨rfl, rfl, rfl⟩ qsa
  obtain ⟨a5, h5⟩ := hfs 5 11 1 35 ⟨rfl, rfl, rfl⟩ qsb
  obtain ⟨a6, h6⟩ := hfs 6 12 1 23 ⟨rfl, rfl, rfl⟩ qsc
  obtain ⟨a7, h7⟩ := hfs 7 13 1 23 ⟨rfl, rfl, rfl⟩ qsc
  obtain ⟨a8, h8⟩ := hfs 8 14 1 4 ⟨rfl, rfl, rfl⟩ rd4
  obtain ⟨a9, h9⟩ := hfs 9 15 1 4 ⟨rfl, rfl, rfl⟩ rd4
  obtain ⟨c0, c1, c2, c3, c4, c5, c6, c7, c8, c9, c10, c11, c12, c13, c14, c15, rfl⟩ : ∃ c0 c1 c2 c3 c4 c5 c6 c7 c8 c9 c10 c11 c12 c13 c14 c15, cs = [c0, c1, c2, c3, c4, c5, c6, c7, c8, c9, c10, c11, c12, c13, c14, c15] := by
    match cs, hl with
    | [c0, c1, c2, c3, c4, c5, c6, c7, c8, c9, c10, c11, c12, c13, c14, c15], _ => exact ⟨c0, c1, c2, c3, c4, c5, c6, c7, c8, c9, c10, c11, c12, c13, c14, c15, rfl⟩
  obtain ⟨e0, k0⟩ := h0
  have e0 : [c0] = [.int .i64 a0] := e0
  cases e0
  obtain ⟨e1, k1⟩ := h1
  have e1 : [c1] = [.int .i64 a1] := e1
  cases e1
  obtain ⟨e2, k2⟩ := h2
  have e2 : [c2] = [.int .i64 a2] := e2
  cases e2
  obtain ⟨e3, k3⟩ := h3
  have e3 : [c3, c4, c5, c6] = [str a3.An, str a3.Ae, str a3.Af, .bool a3.HasQuery] := e3
  cases e3
  obtain ⟨e4, k4⟩ := h4
  have e4 : [c7, c8, c9, c10] = [str a4.An, str a4.Ae, str a4.Af, .bool a4.HasQuery] := e4
  cases e4
  obtain ⟨⟨ad5, cp5, e5, q5⟩, k5⟩ := h5
  have e5 : [c11] = [.slice ad5 a5.length cp5] := e5
  cases e5
  obtain ⟨⟨ad6, cp6, e6, q6⟩, k6⟩ := h6
  have e6 : [c12] = [.slice ad6 a6.length cp6] := e6
  cases e6
  obtain ⟨⟨ad7, cp7, e7, q7⟩, k7⟩ := h7
  have e7 : [c13] = [.slice ad7 a7.length cp7] := e7
  cases e7
  obtain ⟨e8, k8⟩ := h8
  have e8 : [c14] = [.bool a8] := e8
  cases e8
  obtain ⟨e9, k9⟩ := h9
  have e9 : [c15] = [.bool a9] := e9
  cases e9
  exact ⟨⟨a0, a1, a2, a3, a4, a5, a6, a7, a8, a9⟩, ⟨ad5, cp5, ad6, cp6, ad7, cp7, rfl, q5, q6, q7⟩, ⟨k0, k1, k2, k3, k4, k5, k6, k7, k8, k9⟩⟩
