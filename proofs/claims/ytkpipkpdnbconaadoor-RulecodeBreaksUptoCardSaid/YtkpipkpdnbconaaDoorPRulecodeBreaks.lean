import Derived.Test.YtkpipkpdnbconaaDoorRtAll
set_option linter.unusedVariables false
set_option linter.unusedSimpArgs false
open Go Go.SL Go.Proofs Pl Rt Rt.Rc
namespace Rt.Rc
theorem awake_eq : Jbr 400100 = some true := by decide +kernel
theorem brk_L2 : ∀ (x : List I) (i : Nat) (b : Bool), ∃ t, JD x i b = some t ∧ (t = false → b = false ∧ ∀ y ∈ x, ¬ (y.Op = 4 ∧ y.N = 511))
  | [], i, b => ⟨b, rfl, fun h => ⟨h, fun y hy => by cases hy⟩⟩
  | x :: l, i, b => by
    rw [JD]
    cases b with
    | true =>
      obtain ⟨t, h1, h2⟩ := brk_L2 l (i + 1) true
      exact ⟨t, by rw [if_pos rfl, h1], fun h => by have := (h2 h).1; cases this⟩
    | false =>
      obtain ⟨t, h1, h2⟩ := brk_L2 l (i + 1) (decide (x.Op = 4) && decide (x.N = 511))
      refine ⟨t, by rw [if_neg (by simp), h1], fun h => ⟨rfl, fun y hy => ?_⟩⟩
      obtain ⟨a, b⟩ := h2 h
      rcases List.mem_cons.1 hy with rfl | hy
      · intro q
        rw [decide_eq_true q.1, decide_eq_true q.2] at a
        cases a
      · exact b y hy
theorem brk_one {x : List I} {K : Option (Fl Bool Unit)} (hl : x.length ≤ 4000) (hS : ∀ y ∈ x, y.S.length ≤ 100000) (hd : (∀ y ∈ x, ¬ (y.Op = 4 ∧ y.N = 511)) → depthOf x = none) :
    ((chk (x.length ≤ szMax)).bind fun _ => (JD x 0 false).bind fun t2 => (if ((!t2) && decide ((x.length : Int) ≤ 2048)) then (JX x).bind fun x135 => (JbB x135 2).bind fun x136 => some (!x136) else some false).bind fun x138 => if x138 then some (Fl.ret false) else K) = K := by
  obtain ⟨t, h1, h2⟩ := brk_L2 x 0 false
  rw [chk_bind (by simp only [szMax]; omega), h1, Option.bind_some]
  cases t with
  | true => rfl
  | false =>
    have hn := hd (h2 rfl).2
    by_cases q : (x.length : Int) ≤ 2048
    · rw [if_pos (by simpa using q), Check45_pure hS, hn]
      simp [is_eq]
    · rw [if_neg (by simpa using q)]
      rfl
theorem jumping_eq {P : List I} {x : I} {m : Int} (h : P.length ≤ 4000) : Jar (P ++ [x]) m = some (P ++ [⟨9, m, []⟩, haltI]) := by
  have e : subL (P ++ [x]) (0 : Int) (((P ++ [x]).length : Int) - 1) = P := by
    unfold subL
    simp
  unfold Jar
  rw [e]
  simp only [List.length_append, List.length_cons, List.length_nil]
  rw [chk_bind (by constructor <;> omega), chk_bind (by omega), chk_bind (by simp only [lim]; omega), chk_bind (by simp only [lim]; omega)]
  rfl
theorem ix8_0 {α : Type} {a b c d e f g h : α} : ix [a, b, c, d, e, f, g, h] ((0 : Nat) : Int) = some a := rfl
theorem ix8_1 {α : Type} {a b c d e f g h : α} : ix [a, b, c, d, e, f, g, h] ((1 : Nat) : Int) = some b := rfl
theorem ix8_2 {α : Type} {a b c d e f g h : α} : ix [a, b, c, d, e, f, g, h] ((2 : Nat) : Int) = some c := rfl
theorem ix8_3 {α : Type} {a b c d e f g h : α} : ix [a, b, c, d, e, f, g, h] ((3 : Nat) : Int) = some d := rfl
theorem ix8_4 {α : Type} {a b c d e f g h : α} : ix [a, b, c, d, e, f, g, h] ((4 : Nat) : Int) = some e := rfl
theorem ix8_5 {α : Type} {a b c d e f g h : α} : ix [a, b, c, d, e, f, g, h] ((5 : Nat) : Int) = some f := rfl
theorem ix8_6 {α : Type} {a b c d e f g h : α} : ix [a, b, c, d, e, f, g, h] ((6 : Nat) : Int) = some g := rfl
theorem ix8_7 {α : Type} {a b c d e f g h : α} : ix [a, b, c, d, e, f, g, h] ((7 : Nat) : Int) = some h := rfl
theorem app_S {P R : List I} (h : ∀ y ∈ P, y.S.length ≤ 100000) (h2 : ∀ y ∈ R, y.S.length ≤ 100000) : ∀ y ∈ P ++ R, y.S.length ≤ 100000 := fun y hy => (List.mem_append.1 hy).elim (h y) (h2 y)
theorem brk_L0 {P : List I} {x : I} {B : AB} {g : Int} {σ : Int → Bool} {m1 m2 : Int} (a : Acc P B g σ) (hx : x.Op = 12) (hP : ∀ y ∈ P, y.S.length ≤ 100000) (hxS : x.S.length ≤ 100000) (h1 : m1 ≤ P.length) (h2 : (P.length : Int) + 2 ≤ m2) :
    Jq (P ++ [x]) (P ++ [⟨9, m1, []⟩, haltI]) (P ++ [⟨9, m2, []⟩, haltI]) 8 0 = some (Fl.go ()) := by
  have hl := a.len
  have eP : subL (P ++ [x]) (0 : Int) (((P ++ [x]).length : Int) - 1) = P := by
    unfold subL
    simp
  have l1 : ∀ R : List I, R.length ≤ 3 → (P ++ R).length ≤ 4000 := fun R h => by rw [List.length_append]; omega
  rw [Jq, eP, ix8_0, Option.bind_some, brk_one (by omega) hP fun _ => v1 a]
  rw [Jq, eP, ix8_1, Option.bind_some, brk_one (by simp; omega) (app_S (app_S hP (by simpa using hxS)) (by simp)) fun _ => (show depthOf (P ++ [x] ++ [(⟨12, 0, []⟩ : I)]) = none from v2 hx)]
  rw [Jq, eP, ix8_2, Option.bind_some, brk_one (by simp; omega) (app_S (by simp) (app_S hP (by simpa using hxS))) fun _ => (show depthOf ([(⟨12, 0, []⟩ : I)] ++ (P ++ [x])) = none from v3 (by simp))]
  rw [Jq, eP, ix8_3, Option.bind_some, brk_one (l1 _ (by simp)) (app_S hP (by simp [haltI])) fun _ => v45 (.inl h1)]
  rw [Jq, eP, ix8_4, Option.bind_some, brk_one (l1 _ (by simp)) (app_S hP (by simp [haltI])) fun _ => v45 (.inr h2)]
  rw [Jq, eP, ix8_5, Option.bind_some, brk_one (by simp; omega) (app_S (app_S hP (by simp)) (by simp)) fun _ => (show depthOf (P ++ [(⟨1, 0, []⟩ : I)] ++ [(⟨12, 0, []⟩ : I)]) = none from by rw [List.append_assoc]; exact v6 a)]
  rw [Jq, eP, ix8_6, Option.bind_some, brk_one (by simp; omega) (app_S (app_S hP (by simp)) (by simp)) fun _ => (show depthOf (P ++ [(⟨8, 0, []⟩ : I)] ++ [(⟨12, 0, []⟩ : I)]) = none from by rw [List.append_assoc]; exact v7 a)]
  rw [Jq, eP, ix8_7, Option.bind_some, brk_one (by simp; omega) (app_S (app_S hP (by simp)) (by simp)) fun h => (show depthOf (P ++ [(⟨3, 511, []⟩ : I), ⟨11, 0, [116, 97, 103]⟩] ++ [(⟨12, 0, []⟩ : I)]) = none from by rw [List.append_assoc]; exact v8 a fun y hy => h y (by simp [hy]))]
  rfl
end Rt.Rc
set_option maxRecDepth 100000 in
theorem Jbb (code : List Js) (at_ : UInt8) (o0 : code.length ≤ szUp ∧ ∀ y0 ∈ code, Js.ok y0) (_ : True) : ∃ n, Jam n code at_ = some true := by
  refine ⟨400100, ?_⟩
  have hsm : ∀ x ∈ code, SmI x := fun x hx => (o0.2 x hx).2.2
  obtain ⟨b, hb, hlg⟩ := large_eq o0.1 hsm
  unfold Jam
  rw [hb, Option.bind_some]
  cases b with
  | true => rw [Bool.true_or, if_pos rfl, Option.bind_some, if_pos rfl, Option.bind_some, Bool.true_or]
  | false =>
    obtain ⟨l1, l2⟩ := hlg rfl
    by_cases q0 : code.length = 0
    · have e : decide ((code.length : Int) = 0) = true := by simp [q0]
      rw [e, Bool.or_true, if_pos rfl, Option.bind_some, if_pos rfl, Option.bind_some, Bool.or_true]
    have e0 : decide ((code.length : Int) = 0) = false := decide_eq_false (by omega)
    have hS : ∀ x ∈ code.map uncv, x.S.length ≤ 100000 := fun x hx => by
      obtain ⟨y, hy, rfl⟩ := List.mem_map.1 hx
      have := l2 y hy
      show y.S.length ≤ 100000
      omega
    rw [e0, Bool.or_false, if_neg (by simp), awake_eq, Option.bind_some, Option.bind_some, if_neg (by simp), code_eq (l := code) (by omega), Option.bind_some, Check45_pure hS, Option.bind_some]
    have hcl : (code.map uncv).length ≤ 2500 := by rw [List.length_map]; exact l1
    cases hd : depthOf (code.map uncv) with
    | none => rfl
    | some G =>
      rw [show (if (some G).isSome = true then (none : Err) else some 2) = none from rfl, if_neg (by simp)]
      obtain ⟨P, x, B, g, σ, ec, hx, a⟩ := acc_of hd
      rw [ec] at hS hcl ⊢
      simp only [List.length_append, List.length_cons, List.length_nil, Nat.zero_add] at hcl
      have hPS : ∀ y ∈ P, y.S.length ≤ 100000 := fun y hy => hS y (by simp [hy])
      have eP : subL (P ++ [x]) (0 : Int) (((P ++ [x]).length : Int) - 1) = P := by
        unfold subL
        simp
      have eL : ((P ++ [x]).length : Int) = (P.length : Int) + 1 := by simp
      have hmin : min (Int.tmod (at_.toNat : Int) ((P.length : Int) + 1)) ((P.length : Int) + 1 - 1) ≤ P.length := by omega
      rw [eP]
      simp only [eL]
      have hH : haltI.S.length ≤ 100000 := by simp [haltI]
      have hx' : x.S.length ≤ 100000 := hS x (by simp)
      rw [chk_bind (by omega), chk_bind (by constructor <;> omega), chk_bind (by omega), chk_bind (by simp only [List.length_append, List.length_cons, List.length_nil, lim]; omega), chk_bind (by simp only [List.length_append, List.length_cons, List.length_nil, lim]; omega), chk_bind (by simp only [List.length_append, List.length_cons, List.length_nil, lim]; omega), jumping_eq (by omega), Option.bind_some,
        chk_bind (by constructor <;> omega), jumping_eq (by omega), Option.bind_some, chk_bind (by omega), chk_bind (by simp only [lim]; omega), chk_bind (by simp only [List.length_append, List.length_cons, List.length_nil, lim]; omega), chk_bind (by simp only [List.length_append, List.length_cons, List.length_nil, lim]; omega),
        chk_bind (by omega), chk_bind (by simp only [lim]; omega), chk_bind (by simp only [List.length_append, List.length_cons, List.length_nil, lim]; omega), chk_bind (by simp only [List.length_append, List.length_cons, List.length_nil, lim]; omega),
        chk_bind (by omega), chk_bind (by simp only [lim]; omega), chk_bind (by simp only [List.length_append, List.length_cons, List.length_nil, lim]; omega), chk_bind (by simp only [List.length_append, List.length_cons, List.length_nil, lim]; omega), chk_bind (by constructor <;> omega)]
      rw [show Int.toNat (8 : Int) = 8 from rfl, brk_L0 a hx hPS hx' hmin (by omega), Option.bind_some, el_go]
      by_cases q8 : (P.length : Int) + 1 ≥ 2048
      · rw [if_pos (by simpa using q8)]; rfl
      · rw [if_neg (by simpa using q8), chk_bind (by constructor <;> omega), jumping_eq (by omega), Option.bind_some, show (P.length : Int) + 1 - 1 + 1 = (P.length : Int) + 1 by omega, Check45_pure (app_S hPS (by simp [haltI])), if_pos (vlast a (by omega))]
        rfl
