/- Ruletype: programs of statements; codes of faults. -/
import Derived.Test.YtdnelkmckpapgaaDoorRtX
import Derived.Test.YtdnelkmckpapgaaDoorRtU
set_option linter.unusedVariables false
set_option linter.unusedSimpArgs false
open Go Go.SL Go.Proofs Pl
namespace Rt
theorem kidsE_err {f : M → Except Fault Int} {e : Fault} : ∀ {l : List M}, (∀ k ∈ l, ∀ e, f k = .error e → e.2 ≠ 0) → kidsE f l = .error e → e.2 ≠ 0
  | [], _, h => by cases h
  | k :: l, hf, h => by
    rw [kidsE] at h
    cases q : f k with
    | error e' => rw [q] at h; cases h; exact hf k (by simp) _ q
    | ok t =>
      rw [q] at h
      simp only at h
      cases q2 : kidsE f l with
      | error e' => rw [q2] at h; cases h; exact kidsE_err (fun k hk => hf k (by simp [hk])) q2
      | ok us => rw [q2] at h; cases h
theorem tyN_err {ρ : Env} {x : M} {ts : List Int} {e : Fault} (h : tyN ρ x ts = .error e) : e.2 ≠ 0 := by
  unfold tyN at h
  split at h; · cases h
  split at h; · cases h
  split at h; · cases h
  split at h
  · split at h
    · cases h; simp
    · cases h
  split at h
  · split at h
    · cases h; simp
    · split at h
      · cases h
      · cases h; simp
  split at h
  · cases h; simp
  · cases h
theorem tyE_err : ∀ {d : Nat} {ρ : Env} {x : M} {e : Fault}, tyE d ρ x = .error e → e.2 ≠ 0
  | 0, ρ, x, e, h => by rw [tyE] at h; cases h; simp
  | d + 1, ρ, x, e, h => by
    rw [tyE] at h
    cases q : kidsE (tyE d ρ) x.Kids with
    | error e' => rw [q] at h; cases h; exact kidsE_err (fun k _ e he => tyE_err he) q
    | ok ts => rw [q] at h; exact tyN_err h
theorem foldS_err {g : Env → M → Except Fault Env} {e : Fault} : ∀ {l : List M} {ρ : Env}, (∀ ρ k e, g ρ k = .error e → e.2 ≠ 0) → foldS g ρ l = .error e → e.2 ≠ 0
  | [], ρ, _, h => by cases h
  | k :: l, ρ, hg, h => by
    rw [foldS] at h
    cases q : g ρ k with
    | error e' => rw [q] at h; cases h; exact hg _ _ _ q
    | ok ρ' => rw [q] at h; exact foldS_err hg h
theorem brs_err {g : M → Except Fault Env} {e : Fault} : ∀ {l : List M}, (∀ k e, g k = .error e → e.2 ≠ 0) → brs g l = some e → e.2 ≠ 0
  | [], _, h => by cases h
  | k :: l, hg, h => by
    rw [brs] at h
    cases q : g k with
    | error e' => rw [q] at h; cases h; exact hg _ _ q
    | ok ρ' => rw [q] at h; exact brs_err hg h
theorem stm_err : ∀ {d : Nat} {ρ : Env} {x : M} {e : Fault}, stm d ρ x = .error e → e.2 ≠ 0
  | 0, ρ, x, e, h => by rw [stm] at h; cases h; simp
  | d + 1, ρ, x, e, h => by
    rw [stm] at h
    split at h
    · cases h
    · split at h
      · cases h; rename_i q; exact tyE_err q
      · split at h
        · cases h; simp
        · split at h
          · split at h
            · cases h
            · cases h; simp
          · split at h
            · split at h
              · cases h; rename_i q
                exact brs_err (fun k e he => foldS_err (fun ρ k e he => stm_err he) he) q
              · cases h
            · cases h
theorem fold_err {d : Nat} {ρ : Env} {l : List M} {e : Fault} (h : foldS (stm d) ρ l = .error e) : e.2 ≠ 0 := foldS_err (fun _ _ _ he => stm_err he) h
/-! ### programs of statements -/
theorem prog_ok {l : List N} (hl : l.length ≤ 700) (h : ∀ k ∈ l, OkN 39 k) : OkN 40 ⟨1, [], l, 1⟩ := ⟨by simp, hl, h⟩
theorem prog_cvd {l : List N} {ys : List M} (h : A2 (Cvd 39) l ys) : Cvd 40 ⟨1, [], l, 1⟩ ⟨1, [], ys, 1⟩ := ⟨rfl, rfl, rfl, h⟩
theorem num_eq (e : Err) : base_Num e = some (e.getD 0) := by cases e <;> rfl
theorem Valid_fwd {d n : Nat} {x : N} {y : M} (h : OkN (d + 1) x) (hc : Cvd (d + 1) x y) (hn : d + 10002 ≤ n) (hv : ruletree_Valid n y = some true) : x.Kind = 1 ∧ x.Text = [] ∧ cntN (d + 1) x ≤ 512 ∧ depN (d + 1) x ≤ 32 ∧ ∀ k ∈ y.Kids, ruletree_stated n k = some true := by
  have hi := Valid_inv hv
  obtain ⟨m, hm1, hm2⟩ := small_val (d + 1) n x y 512 32 h hc (by omega) (by omega) (by omega) (by omega) (by omega)
  obtain ⟨c1, c2, c3, c4⟩ := hc
  unfold ruletree_Valid at hv
  rw [hm1, c1, c2] at hv
  split at hv
  · cases hv
  · rename_i q
    rw [Option.bind_some] at hv
    split at hv
    · cases hv
    · rename_i q2
      simp at q q2
      exact ⟨q.1, q.2, by omega, by omega, hi⟩
theorem Valid_conv {d n : Nat} {x : N} {y : M} (h : OkN (d + 1) x) (hc : Cvd (d + 1) x y) (hn : d + 10002 ≤ n) (h1 : x.Kind = 1) (h2 : x.Text = []) (h3 : cntN (d + 1) x ≤ 512) (h4 : depN (d + 1) x ≤ 32) (h5 : ∀ k ∈ y.Kids, ruletree_stated n k = some true) : ruletree_Valid n y = some true := by
  obtain ⟨m, hm1, hm2⟩ := small_val (d + 1) n x y 512 32 h hc (by omega) (by omega) (by omega) (by omega) (by omega)
  obtain ⟨c1, c2, c3, c4⟩ := hc
  have all : ∀ (l : List M) (i : Nat), (∀ k ∈ l, ruletree_stated n k = some true) → ruletree_Valid_L0 n l i = some (Fl.go ()) := fun l => by
    induction l with
    | nil => exact fun i _ => rfl
    | cons k l ih =>
      intro i hk
      rw [ruletree_Valid_L0, hk k (by simp), Option.bind_some, if_neg (by simp)]
      exact ih _ fun q hq => hk q (by simp [hq])
  have hl := h.2.1
  unfold ruletree_Valid
  rw [hm1, c1, c2, if_neg (by simp [h1, h2]), Option.bind_some, if_neg (by simp; omega), chk_bind (by simp only [szMax]; rw [c4.len]; omega), all y.Kids 0 h5]; rfl
theorem cntNL_append (d : Nat) (l k : List N) : cntNL d (l ++ k) = cntNL d l + cntNL d k := by simp [cntNL]
theorem Valid_prefix {n : Nat} {l k : List N} {ys zs : List M} (hl : (l ++ k).length ≤ 700) (hd : ∀ q ∈ l ++ k, OkN 39 q) (h1 : A2 (Cvd 39) l ys) (h2 : A2 (Cvd 39) k zs) (hn : 20000 ≤ n) (hv : ruletree_Valid n ⟨1, [], ys ++ zs, 1⟩ = some true) : ruletree_Valid n ⟨1, [], ys, 1⟩ = some true := by
  obtain ⟨a1, a2, a3, a4, a5⟩ := Valid_fwd (prog_ok hl hd) (prog_cvd (h1.append h2)) (by omega) hv
  rw [List.length_append] at hl
  have hd1 : ∀ q ∈ l, OkN 39 q := fun q hq => hd q (by simp [hq])
  refine Valid_conv (prog_ok (l := l) (by omega) hd1) (prog_cvd h1) (by omega) rfl rfl ?_ ?_ fun q hq => a5 q (by simp only [List.mem_append]; exact .inl hq)
  · rw [cntN_eq] at a3 ⊢
    simp only at a3 ⊢
    rw [cntNL_append] at a3
    omega
  · have e1 : depN 40 ⟨1, [], l, 1⟩ = 1 + depNL 39 l 0 := rfl
    have e2 : depN 40 ⟨1, [], l ++ k, 1⟩ = 1 + depNL 39 (l ++ k) 0 := rfl
    rw [e2] at a4
    rw [e1]
    have := (depNL_le 39 (l ++ k) 0 31).1 (by omega)
    have := (depNL_le 39 l 0 31).2 ⟨by omega, fun q hq => this.2 q (by simp [hq])⟩
    omega
theorem check_val {n : Nat} {l : List N} {ys : List M} {b : Bool} (hl : l.length ≤ 700) (hd : ∀ q ∈ l, OkN 39 q) (hA : A2 (Cvd 39) l ys) (hn : 400000 ≤ n) (hv : ruletree_Valid n ⟨1, [], ys, 1⟩ = some b) : law44_check n l = some (if b = true then ((chkR 39 ys).1, (chkR 39 ys).2.getD 0) else (0, 2)) := by
  unfold law44_check law44_Program
  obtain ⟨zs, e, hz⟩ := Of_top (n := n) (l := l) (by omega) hd (by omega)
  obtain rfl := cvdL_func hz hA
  rw [Option.bind_some, e, Option.bind_some, Check_pure (d := 39) ((prog_cvd hA).ok (prog_ok hl hd)) (by omega) hn hv, Option.bind_some, num_eq, Option.bind_some]
  cases b <;> rfl
end Rt
