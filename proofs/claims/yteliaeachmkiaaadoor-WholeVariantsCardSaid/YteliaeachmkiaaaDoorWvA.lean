/- WholeVariants: what the checks of the input say. -/
import Derived.Test.YteliaeachmkiaaaDoorVaryS
import Derived.Test.YteliaeachmkiaaaDoorVaryT
set_option linter.unusedVariables false
set_option linter.unusedSimpArgs false
open Go Go.SL Go.Proofs Pl
namespace Vary
theorem ffs_id (f : List RF) : ffs f = f := by
  unfold ffs
  have : (fun x : RF => (⟨x.Name, x.Value⟩ : FF)) = id := rfl
  rw [this, List.map_id]
theorem tchT (c : UInt8) : ∃ b, syntax_tchar c = some b := by
  have h : ∀ n : Fin 256, (syntax_tchar (UInt8.ofNat n.val)).isSome = true := by decide +kernel
  have := h ⟨c.toNat, c.toNat_lt⟩
  simpa using Option.isSome_iff_exists.1 this
theorem tokT_L0 : ∀ (s : Str) (i : Nat), ∃ b : Bool, syntax_Token_L0 s i = some (if b = true then Fl.go () else Fl.ret false)
  | [], i => ⟨true, rfl⟩
  | c :: s, i => by
    obtain ⟨b, h1⟩ := tchT c
    rw [syntax_Token_L0, h1, Option.bind_some]
    cases b with
    | false => exact ⟨false, rfl⟩
    | true => exact tokT_L0 s (i + 1)
theorem tokT {s : Str} (h : s.length ≤ szMax) : ∃ b, syntax_Token s = some b := by
  obtain ⟨b, h1⟩ := tokT_L0 s 0
  unfold syntax_Token
  rw [chk_bind h, h1, Option.bind_some]
  cases b with
  | false => exact ⟨false, rfl⟩
  | true => exact ⟨_, rfl⟩
/-- A name: its low form, at most 64 letters; or an error. -/
theorem nameT {s : Str} (h : s.length ≤ szMax) : (field_Name s = some (low s, none) ∧ s.length ≤ 64) ∨ ∃ e : Int, field_Name s = some ([], some e) := by
  obtain ⟨b, h1⟩ := tokT h
  unfold field_Name
  rw [h1, Option.bind_some]
  cases b with
  | false => exact .inr ⟨8, rfl⟩
  | true =>
    simp only [Bool.not_true, Bool.false_eq_true, if_false]
    by_cases q : (s.length : Int) > 64
    · rw [if_pos (by simpa using q)]; exact .inr ⟨5, rfl⟩
    · rw [if_neg (by simpa using q), flower (by omega)]; exact .inl ⟨rfl, by omega⟩
def ctl (s : Str) : Bool := s.any fun c => (decide ((c.toNat : Int) < 32) && decide ((c.toNat : Int) ≠ 9)) || decide ((c.toNat : Int) = 127)
theorem clean_L0 : ∀ (s : Str) (i : Nat), syntax_clean_L0 s i = some (if ctl s = true then Fl.ret false else Fl.go ())
  | [], i => rfl
  | c :: s, i => by
    have e : ctl (c :: s) = (((decide ((c.toNat : Int) < 32) && decide ((c.toNat : Int) ≠ 9)) || decide ((c.toNat : Int) = 127)) || ctl s) := rfl
    rw [syntax_clean_L0, show syntax_control c = some ((decide ((c.toNat : Int) < 32) && decide ((c.toNat : Int) ≠ 9)) || decide ((c.toNat : Int) = 127)) from rfl, Option.bind_some, e]
    cases q : ((decide ((c.toNat : Int) < 32) && decide ((c.toNat : Int) ≠ 9)) || decide ((c.toNat : Int) = 127)) with
    | true => rfl
    | false => rw [if_neg (by simp), Bool.false_or]; exact clean_L0 s (i + 1)
theorem clean_eq {s : Str} (h : s.length ≤ 100000000) : syntax_clean s = some (!ctl s) := by
  unfold syntax_clean
  rw [chk_bind (by simp only [szMax]; omega), clean_L0, Option.bind_some]
  cases ctl s <;> rfl
theorem control_L0 : ∀ (s : Str) (i : Nat), field_control_L0 s i = some (if ctl s = true then Fl.ret true else Fl.go ())
  | [], i => rfl
  | c :: s, i => by
    have e : ctl (c :: s) = (((decide ((c.toNat : Int) < 32) && decide ((c.toNat : Int) ≠ 9)) || decide ((c.toNat : Int) = 127)) || ctl s) := rfl
    have e2 : ((if decide ((c.toNat : Int) < 32) = true then some (decide ((c.toNat : Int) ≠ 9)) else some false).bind fun x18 => (if x18 = true then some true else some (decide ((c.toNat : Int) = 127)))) = some ((decide ((c.toNat : Int) < 32) && decide ((c.toNat : Int) ≠ 9)) || decide ((c.toNat : Int) = 127)) := by
      cases decide ((c.toNat : Int) < 32) <;> cases q : decide ((c.toNat : Int) ≠ 9) <;> simp [q]
    rw [field_control_L0, e, ← Option.bind_assoc, e2, Option.bind_some]
    cases q : ((decide ((c.toNat : Int) < 32) && decide ((c.toNat : Int) ≠ 9)) || decide ((c.toNat : Int) = 127)) with
    | true => rfl
    | false => rw [if_neg (by simp), Bool.false_or]; exact control_L0 s (i + 1)
theorem control_eq {s : Str} (h : s.length ≤ szMax) : field_control s = some (ctl s) := by
  unfold field_control
  rw [chk_bind h, control_L0, Option.bind_some]
  cases ctl s <;> rfl
theorem valueT {s : Str} (h : s.length ≤ szMax) : ∃ r : Str × Err, field_Value s = some r ∧ (r.2 = none → ctl s = false) := by
  unfold field_Value
  rw [control_eq h, Option.bind_some]
  cases q : ctl s with
  | true => exact ⟨_, rfl, fun h => by cases h⟩
  | false =>
    rw [if_neg (by simp), trimM_eq (by simp only [szMax] at h; omega), Option.bind_some]
    by_cases k : ((trm s).length : Int) > 2048
    · rw [if_pos (by simpa using k)]; exact ⟨_, rfl, fun _ => rfl⟩
    · rw [if_neg (by simpa using k)]; exact ⟨_, rfl, fun _ => rfl⟩
theorem checkT {x : RF} (h : S_field_Field.ok x) : ∃ e : Err, field_check x = some e ∧ (e = none → x.Name.length ≤ 64) := by
  unfold field_check
  rcases nameT h.1 with ⟨h1, h2⟩ | ⟨e, h1⟩
  · rw [h1, Option.bind_some, if_neg (by simp)]
    simp only
    by_cases q : low x.Name ≠ x.Name
    · rw [if_pos (by simpa using q)]; exact ⟨_, rfl, fun _ => h2⟩
    · rw [if_neg (by simpa using q)]
      obtain ⟨r, hr, _⟩ := valueT h.2
      rw [hr, Option.bind_some]
      split
      · exact ⟨_, rfl, fun _ => h2⟩
      · split
        · exact ⟨_, rfl, fun _ => h2⟩
        · exact ⟨_, rfl, fun _ => h2⟩
  · rw [h1, Option.bind_some]; exact ⟨some e, rfl, fun h => by cases h⟩
theorem check_L0 : ∀ (f : List RF) (i : Nat), (∀ x ∈ f, S_field_Field.ok x) → (∃ e : Int, field_Check_L0 f i = some (Fl.ret (some e))) ∨ (field_Check_L0 f i = some (Fl.go ()) ∧ ∀ x ∈ f, x.Name.length ≤ 64)
  | [], i, _ => .inr ⟨rfl, by simp⟩
  | x :: f, i, h => by
    obtain ⟨e, h1, h2⟩ := checkT (h x (List.mem_cons_self ..))
    rw [field_Check_L0, h1, Option.bind_some]
    cases e with
    | some e => exact .inl ⟨e, rfl⟩
    | none =>
      rw [if_neg (by simp)]
      rcases check_L0 f (i + 1) (fun y hy => h y (List.mem_cons_of_mem _ hy)) with h3 | ⟨h3, h4⟩
      · exact .inl h3
      · exact .inr ⟨h3, fun y hy => by
          rcases List.mem_cons.1 hy with rfl | hy
          · exact h2 rfl
          · exact h4 y hy⟩
theorem checks {f : List RF} (hl : f.length ≤ 12) (h : ∀ x ∈ f, S_field_Field.ok x) : ∃ e : Err, field_Check f = some e ∧ (e = none → ∀ x ∈ f, x.Name.length ≤ 64) := by
  unfold field_Check
  rw [if_neg (by simp; omega), chk_bind (by simp only [szMax]; omega)]
  rcases check_L0 f 0 h with ⟨e, h1⟩ | ⟨h1, h2⟩
  · rw [h1]; exact ⟨_, rfl, fun h => by cases h⟩
  · rw [h1]; exact ⟨_, rfl, fun _ => h2⟩
def comma (s : Str) : Bool := s.any fun c => decide ((c.toNat : Int) = 44)
theorem plain_L0 : ∀ (s : Str) (i : Nat), quaysidetop_plainValue_L0 s i = some (if comma s = true then Fl.ret false else Fl.go ())
  | [], i => rfl
  | c :: s, i => by
    have e : comma (c :: s) = (decide ((c.toNat : Int) = 44) || comma s) := rfl
    rw [quaysidetop_plainValue_L0, e]
    cases q : decide ((c.toNat : Int) = 44) with
    | true => rfl
    | false => rw [if_neg (by simp), Bool.false_or]; exact plain_L0 s (i + 1)
theorem plainT {s : Str} (h : s.length ≤ szMax) : ∃ b, quaysidetop_plainValue s = some b ∧ (b = true → comma s = false ∧ ctl s = false) := by
  unfold quaysidetop_plainValue
  rw [chk_bind h, plain_L0, Option.bind_some]
  cases q : comma s with
  | true => exact ⟨false, rfl, fun h => by cases h⟩
  | false =>
    obtain ⟨r, hr, h2⟩ := valueT h
    simp only [Bool.false_eq_true, if_false]
    rw [el_go, hr, Option.bind_some]
    refine ⟨_, rfl, fun h => ⟨by simp, h2 ?_⟩⟩
    rw [Bool.and_eq_true] at h
    simpa using h.1
def GoodV (s : Str) : Prop := s.length ≤ 100 ∧ comma s = false ∧ ctl s = false
def GoodF (f : List RF) : Prop := f.length ≤ 12 ∧ ∀ x ∈ f, x.Name.length ≤ 64 ∧ GoodV x.Value
theorem wv_L2 : ∀ (f : List RF) (i : Nat), (∀ x ∈ f, S_field_Field.ok x) → quaysidetop_WholeVariants_L2 f i = some (Fl.ret true) ∨ (quaysidetop_WholeVariants_L2 f i = some (Fl.go ()) ∧ ∀ x ∈ f, GoodV x.Value)
  | [], i, _ => .inr ⟨rfl, by simp⟩
  | x :: f, i, h => by
    obtain ⟨b, h1, h2⟩ := plainT (h x (List.mem_cons_self ..)).2
    rw [quaysidetop_WholeVariants_L2, h1, Option.bind_some]
    cases b with
    | false => exact .inl rfl
    | true =>
      rw [Bool.not_true, Bool.false_or]
      by_cases q : (x.Value.length : Int) > 100
      · rw [if_pos (by simpa using q)]; exact .inl rfl
      · rw [if_neg (by simpa using q)]
        rcases wv_L2 f (i + 1) (fun y hy => h y (List.mem_cons_of_mem _ hy)) with h3 | ⟨h3, h4⟩
        · exact .inl h3
        · exact .inr ⟨h3, fun y hy => by
            rcases List.mem_cons.1 hy with rfl | hy
            · exact ⟨by omega, h2 rfl⟩
            · exact h4 y hy⟩
theorem wv_L0 : ∀ (l : List (List RF)) (i : Nat), (∀ f ∈ l, f.length ≤ szMax ∧ ∀ x ∈ f, S_field_Field.ok x) → quaysidetop_WholeVariants_L0 l i = some (Fl.ret true) ∨ (quaysidetop_WholeVariants_L0 l i = some (Fl.go ()) ∧ ∀ f ∈ l, GoodF f)
  | [], i, _ => .inr ⟨rfl, by simp⟩
  | f :: l, i, h => by
    obtain ⟨hs, hf⟩ := h f (List.mem_cons_self ..)
    rw [quaysidetop_WholeVariants_L0]
    by_cases q : (f.length : Int) > 12
    · rw [if_pos (by simpa using q)]; exact .inl rfl
    · obtain ⟨e, h1, h2⟩ := checks (by omega) hf
      rw [if_neg (by simpa using q), h1, Option.bind_some, Option.bind_some]
      cases e with
      | some e => exact .inl rfl
      | none =>
        simp only [Option.isSome_none, Bool.false_eq_true, if_false]
        rw [chk_bind hs]
        rcases wv_L2 f 0 hf with h3 | ⟨h3, h4⟩
        · rw [h3]; exact .inl rfl
        · rw [h3, Option.bind_some, el_go]
          rcases wv_L0 l (i + 1) (fun y hy => h y (List.mem_cons_of_mem _ hy)) with h5 | ⟨h5, h6⟩
          · exact .inl h5
          · exact .inr ⟨h5, fun y hy => by
              rcases List.mem_cons.1 hy with rfl | hy
              · exact ⟨by omega, fun x hx => ⟨h2 rfl x hx, h4 x hx⟩⟩
              · exact h6 y hy⟩
theorem tot_good {f : List RF} (h : GoodF f) : tot f ≤ 10000 := by
  have : ∀ (l : List RF), (∀ x ∈ l, x.Name.length ≤ 64 ∧ x.Value.length ≤ 100) → tot l ≤ l.length * 166 := by
    intro l
    induction l with
    | nil => intro _; simp [tot]
    | cons x l ih =>
      intro hl
      have h1 := hl x (List.mem_cons_self ..)
      have h2 := ih fun y hy => hl y (List.mem_cons_of_mem _ hy)
      rw [tot_cons, List.length_cons]; omega
  have h1 := this f fun x hx => ⟨(h.2 x hx).1, (h.2 x hx).2.1⟩
  have h2 := h.1
  omega
end Vary
