/- Arguments of the laws, as they are read. Printed by gen.py. -/
import Derived.Test.YtpmdpondlmkojaaG2
set_option linter.unusedVariables false
set_option linter.unusedSimpArgs false
open Go Go.SL Go.Proofs
set_option maxRecDepth 1000000
theorem rd3 : RdrA Try.prog 3 (fun K cs x => cs = eN x ∧ InK .i64 x) := RdrA.int rfl
theorem rd5 : RdrA Try.prog 5 (fun K cs x => cs = eU x ∧ True) := RdrA.u8 rfl
theorem rd22 : RdrA Try.prog 22 (fun K cs x => sliL eU 1 K cs x ∧ (x.length ≤ szMax ∧ ∀ y0 ∈ x, True)) := RdrA.sl (enc := eU) (ok := fun y0 => True) rfl rfl rfl (fun _ => rfl) (fun _ => rfl) rd5 rfl
def S_law28_Step.ok (x : S_law28_Step) : Prop := True ∧ InK .i64 x.ID ∧ InK .i64 x.N ∧ (x.Data.length ≤ szMax ∧ ∀ y0 ∈ x.Data, True)
theorem rd50 : RdrA Try.prog 50 (fun K cs x => S_law28_Step.R K cs x ∧ S_law28_Step.ok x) := by
  intro m H enc w sp held fuel cs x hf h hz
  obtain ⟨hl, hfs⟩ := rd_structA (n := 4) rfl rfl h hz
  obtain ⟨a0, h0⟩ := hfs 0 0 1 5 ⟨rfl, rfl, rfl⟩ rd5
  obtain ⟨a1, h1⟩ := hfs 1 1 1 3 ⟨rfl, rfl, rfl⟩ rd3
  obtain ⟨a2, h2⟩ := hfs 2 2 1 3 ⟨rfl, rfl, rfl⟩ rd3
  obtain ⟨a3, h3⟩ := hfs 3 3 1 22 ⟨rfl, rfl, rfl⟩ rd22
  obtain ⟨c0, c1, c2, c3, rfl⟩ : ∃ c0 c1 c2 c3, cs = [c0, c1, c2, c3] := by
    match cs, hl with
    | [c0, c1, c2, c3], _ => exact ⟨c0, c1, c2, c3, rfl⟩
  obtain ⟨e0, k0⟩ := h0
  have e0 : [c0] = [.int .u8 (a0.toNat : Int)] := e0
  cases e0
  obtain ⟨e1, k1⟩ := h1
  have e1 : [c1] = [.int .i64 a1] := e1
  cases e1
  obtain ⟨e2, k2⟩ := h2
  have e2 : [c2] = [.int .i64 a2] := e2
  cases e2
  obtain ⟨⟨ad3, cp3, e3, q3⟩, k3⟩ := h3
  have e3 : [c3] = [.slice ad3 a3.length cp3] := e3
  cases e3
  exact ⟨⟨a0, a1, a2, a3⟩, ⟨ad3, cp3, rfl, q3⟩, ⟨k0, k1, k2, k3⟩⟩
theorem rd47 : RdrA Try.prog 47 (fun K cs x => sliR S_law28_Step.R 4 K cs x ∧ (x.length ≤ szMax ∧ ∀ y0 ∈ x, S_law28_Step.ok y0)) := RdrA.slx (R := S_law28_Step.R) (ok := fun y0 => S_law28_Step.ok y0) rfl rfl rfl S_law28_Step.R_ok rd50 rfl
