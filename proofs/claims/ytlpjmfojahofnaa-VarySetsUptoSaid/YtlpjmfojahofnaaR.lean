/- Arguments of the laws, as they are read. Printed by gen.py. -/
import Derived.Test.YtlpjmfojahofnaaG2
set_option linter.unusedVariables false
set_option linter.unusedSimpArgs false
open Go Go.SL Go.Proofs
set_option maxRecDepth 1000000
theorem rd5 : RdrA szUp Try.prog 5 (fun K cs x => cs = eU x ∧ True) := RdrA.u8 rfl
theorem rd9 : RdrA szUp Try.prog 9 (fun K cs x => cs = eS x ∧ x.length ≤ szUp) := RdrA.str rfl
theorem rd22 : RdrA szUp Try.prog 22 (fun K cs x => sliL eS 1 K cs x ∧ (x.length ≤ szUp ∧ ∀ y0 ∈ x, y0.length ≤ szUp)) := RdrA.sl (enc := eS) (ok := fun y0 => y0.length ≤ szUp) rfl rfl rfl (fun _ => rfl) (fun _ => rfl) rd9 rfl
def S_ref02_Field.ok (x : S_ref02_Field) : Prop := x.Name.length ≤ szUp ∧ x.Value.length ≤ szUp
theorem rd43 : RdrA szUp Try.prog 43 (fun K cs x => cs = S_ref02_Field.enc x ∧ S_ref02_Field.ok x) := by
  intro m H enc w sp held fuel cs x hf h hz
  obtain ⟨hl, hfs⟩ := rd_structA (n := 2) rfl rfl h hz
  obtain ⟨a0, h0⟩ := hfs 0 0 1 9 ⟨rfl, rfl, rfl⟩ rd9
  obtain ⟨a1, h1⟩ := hfs 1 1 1 9 ⟨rfl, rfl, rfl⟩ rd9
  obtain ⟨c0, c1, rfl⟩ : ∃ c0 c1, cs = [c0, c1] := by
    match cs, hl with
    | [c0, c1], _ => exact ⟨c0, c1, rfl⟩
  obtain ⟨e0, k0⟩ := h0
  have e0 : [c0] = [str a0] := e0
  cases e0
  obtain ⟨e1, k1⟩ := h1
  have e1 : [c1] = [str a1] := e1
  cases e1
  exact ⟨⟨a0, a1⟩, rfl, ⟨k0, k1⟩⟩
theorem rd23 : RdrA szUp Try.prog 23 (fun K cs x => sliL S_ref02_Field.enc 2 K cs x ∧ (x.length ≤ szUp ∧ ∀ y0 ∈ x, S_ref02_Field.ok y0)) := RdrA.sl (enc := S_ref02_Field.enc) (ok := fun y0 => S_ref02_Field.ok y0) rfl rfl rfl (fun _ => rfl) (fun _ => rfl) rd43 rfl
theorem rd49 : RdrA szUp Try.prog 49 (fun K cs x => cs = (eI .i8) x ∧ InK .i8 x) := RdrA.int rfl
def S_law16_Step.ok (x : S_law16_Step) : Prop := True ∧ (x.Names.length ≤ szUp ∧ ∀ y0 ∈ x.Names, y0.length ≤ szUp) ∧ (x.FZ.length ≤ szUp ∧ ∀ y0 ∈ x.FZ, S_ref02_Field.ok y0) ∧ InK .i8 x.ID
theorem rd51 : RdrA szUp Try.prog 51 (fun K cs x => S_law16_Step.R K cs x ∧ S_law16_Step.ok x) := by
  intro m H enc w sp held fuel cs x hf h hz
  obtain ⟨hl, hfs⟩ := rd_structA (n := 4) rfl rfl h hz
  obtain ⟨a0, h0⟩ := hfs 0 0 1 5 ⟨rfl, rfl, rfl⟩ rd5
  obtain ⟨a1, h1⟩ := hfs 1 1 1 22 ⟨rfl, rfl, rfl⟩ rd22
  obtain ⟨a2, h2⟩ := hfs 2 2 1 23 ⟨rfl, rfl, rfl⟩ rd23
  obtain ⟨a3, h3⟩ := hfs 3 3 1 49 ⟨rfl, rfl, rfl⟩ rd49
  obtain ⟨c0, c1, c2, c3, rfl⟩ : ∃ c0 c1 c2 c3, cs = [c0, c1, c2, c3] := by
    match cs, hl with
    | [c0, c1, c2, c3], _ => exact ⟨c0, c1, c2, c3, rfl⟩
  obtain ⟨e0, k0⟩ := h0
  have e0 : [c0] = [.int .u8 (a0.toNat : Int)] := e0
  cases e0
  obtain ⟨⟨ad1, cp1, e1, q1⟩, k1⟩ := h1
  have e1 : [c1] = [.slice ad1 a1.length cp1] := e1
  cases e1
  obtain ⟨⟨ad2, cp2, e2, q2⟩, k2⟩ := h2
  have e2 : [c2] = [.slice ad2 a2.length cp2] := e2
  cases e2
  obtain ⟨e3, k3⟩ := h3
  have e3 : [c3] = [.int .i8 a3] := e3
  cases e3
  exact ⟨⟨a0, a1, a2, a3⟩, ⟨ad1, cp1, ad2, cp2, rfl, q1, q2⟩, ⟨k0, k1, k2, k3⟩⟩
theorem rd48 : RdrA szUp Try.prog 48 (fun K cs x => sliR S_law16_Step.R 4 K cs x ∧ (x.length ≤ szUp ∧ ∀ y0 ∈ x, S_law16_Step.ok y0)) := RdrA.slx (R := S_law16_Step.R) (ok := fun y0 => S_law16_Step.ok y0) rfl rfl rfl S_law16_Step.R_ok rd51 rfl
