/- Arguments of the laws, as they are read. Printed by gen.py. -/
import Derived.Test.YtmpdebfckeahmaaGreatDoorG5
set_option linter.unusedVariables false
set_option linter.unusedSimpArgs false
open Go Go.SL Go.Proofs
set_option maxRecDepth 1000000
theorem rd3 : RdrA qav Tryz.prog 3 (fun K cs x => cs = eN x ∧ InK .i64 x) := RdrA.int rfl
theorem rd9 : RdrA qav Tryz.prog 9 (fun K cs x => cs = eS x ∧ x.length ≤ qav) := RdrA.str rfl
inductive Jb.ok : Jb → Prop
  | mk {x : Jb} (k0 : InK .i64 x.Ab) (k1 : x.Ac.length ≤ qav) (l2 : x.Aa.length ≤ qav) (k2 : ∀ y ∈ x.Aa, Jb.ok y) (k3 : InK .i64 x.Ad) : Jb.ok x
theorem qwh : RdrA qav Tryz.prog 63 (fun K cs x => Jb.R K cs x ∧ Jb.ok x) := by
  refine RdrA.rec fun m ih H enc w sp held cs x h hz => ?_
  obtain ⟨hl, hfs⟩ := qln (n := 4) rfl rfl h hz
  obtain ⟨a0, h0⟩ := hfs 0 0 1 3 (R := fun K cs x => cs = eN x ∧ InK .i64 x) ⟨rfl, rfl, rfl⟩ (rd3 m)
  obtain ⟨a1, h1⟩ := hfs 1 1 1 9 (R := fun K cs x => cs = eS x ∧ x.length ≤ qav) ⟨rfl, rfl, rfl⟩ (rd9 m)
  obtain ⟨a2, h2⟩ := hfs 2 2 1 61 (R := fun K cs x => quw Jb.R 4 K cs x ∧ (x.length ≤ qav ∧ ∀ y ∈ x, Jb.ok y)) ⟨rfl, rfl, rfl⟩ (Rdr.slxM (P := Tryz.prog) (Bd := qav) (m := m) (t := 61) (e := 63) (sz := 4) (R := Jb.R) (ok := Jb.ok) rfl rfl rfl Jb.R_ok (fun m' hm => ih m' (by omega)) rfl)
  obtain ⟨a3, h3⟩ := hfs 3 3 1 3 (R := fun K cs x => cs = eN x ∧ InK .i64 x) ⟨rfl, rfl, rfl⟩ (rd3 m)
  obtain ⟨c0, c1, c2, c3, rfl⟩ : ∃ c0 c1 c2 c3, cs = [c0, c1, c2, c3] := by
    match cs, hl with
    | [c0, c1, c2, c3], _ => exact ⟨c0, c1, c2, c3, rfl⟩
  obtain ⟨e0, k0⟩ := h0
  have e0 : [c0] = [.int .i64 a0] := e0
  cases e0
  obtain ⟨e1, k1⟩ := h1
  have e1 : [c1] = [str a1] := e1
  cases e1
  obtain ⟨⟨ad2, cp2, e2, q2⟩, ⟨l2, k2⟩⟩ := h2
  have e2 : [c2] = [.slice ad2 a2.length cp2] := e2
  cases e2
  obtain ⟨e3, k3⟩ := h3
  have e3 : [c3] = [.int .i64 a3] := e3
  cases e3
  exact ⟨⟨a0, a1, a2, a3⟩, Jb.of ⟨ad2, cp2, rfl, q2⟩, .mk k0 k1 l2 k2 k3⟩
def Jh.ok (x : Jh) : Prop := x.Name.length ≤ qav ∧ x.Value.length ≤ qav
theorem qwi : RdrA qav Tryz.prog 90 (fun K cs x => cs = Jh.enc x ∧ Jh.ok x) := by
  intro m H enc w sp held fuel cs x hf h hz
  obtain ⟨hl, hfs⟩ := qgz (n := 2) rfl rfl h hz
  obtain ⟨a0, h0⟩ := hfs 0 0 1 9 ⟨rfl, rfl, rfl⟩ rd9
  obtain ⟨a1, h1⟩ := hfs 1 1 1 9 ⟨rfl, rfl, rfl⟩ rd9
  obtain ⟨c0, c1, rfl⟩ : ∃ c0 c1, cs = [c0, c1] := by
    match cs, hl with
    | [c0, c1], _ => exact ⟨c0, c1, rfl⟩
  obtain ⟨e0, k0⟩ := h0
  have e0 : [c0] = [str a0] := e0
  cases e0
  obtain ⟨e1, k1⟩ := h1
  have e1 : [c1] = [str a1] := e1
  cases e1
  exact ⟨⟨a0, a1⟩, rfl, ⟨k0, k1⟩⟩
theorem qwj : RdrA qav Tryz.prog 23 (fun K cs x => quv Jh.enc 2 K cs x ∧ (x.length ≤ qav ∧ ∀ y0 ∈ x, Jh.ok y0)) := RdrA.sl (enc := Jh.enc) (ok := fun y0 => Jh.ok y0) rfl rfl rfl (fun _ => rfl) (fun _ => rfl) qwi rfl
def Js.ok (x : Js) : Prop := x.Am.length ≤ qav ∧ x.An.length ≤ qav ∧ x.Ae.length ≤ qav ∧ x.Af.length ≤ qav ∧ (x.Ao.length ≤ qav ∧ ∀ y0 ∈ x.Ao, Jh.ok y0)
theorem qwk : RdrA qav Tryz.prog 25 (fun K cs x => Js.R K cs x ∧ Js.ok x) := by
  intro m H enc w sp held fuel cs x hf h hz
  obtain ⟨hl, hfs⟩ := qgz (n := 5) rfl rfl h hz
  obtain ⟨a0, h0⟩ := hfs 0 0 1 9 ⟨rfl, rfl, rfl⟩ rd9
  obtain ⟨a1, h1⟩ := hfs 1 1 1 9 ⟨rfl, rfl, rfl⟩ rd9
  obtain ⟨a2, h2⟩ := hfs 2 2 1 9 ⟨rfl, rfl, rfl⟩ rd9
  obtain ⟨a3, h3⟩ := hfs 3 3 1 9 ⟨rfl, rfl, rfl⟩ rd9
  obtain ⟨a4, h4⟩ := hfs 4 4 1 23 ⟨rfl, rfl, rfl⟩ qwj
  obtain ⟨c0, c1, c2, c3, c4, rfl⟩ : ∃ c0 c1 c2 c3 c4, cs = [c0, c1, c2, c3, c4] := by
    match cs, hl with
    | [c0, c1, c2, c3, c4], _ => exact ⟨c0, c1, c2, c3, c4, rfl⟩
  obtain ⟨e0, k0⟩ := h0
  have e0 : [c0] = [str a0] := e0
  cases e0
  obtain ⟨e1, k1⟩ := h1
  have e1 : [c1] = [str a1] := e1
  cases e1
  obtain ⟨e2, k2⟩ := h2
  have e2 : [c2] = [str a2] := e2
  cases e2
  obtain ⟨e3, k3⟩ := h3
  have e3 : [c3] = [str a3] := e3
  cases e3
  obtain ⟨⟨ad4, cp4, e4, q4⟩, k4⟩ := h4
  have e4 : [c4] = [.slice ad4 a4.length cp4] := e4
  cases e4
  exact ⟨⟨a0, a1, a2, a3, a4⟩, ⟨ad4, cp4, rfl, q4⟩, ⟨k0, k1, k2, k3, k4⟩⟩
