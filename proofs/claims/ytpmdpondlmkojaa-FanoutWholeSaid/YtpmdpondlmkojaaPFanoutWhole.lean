import Derived.Test.YtpmdpondlmkojaaFanoutW
import Derived.Test.YtpmdpondlmkojaaR
set_option linter.unusedVariables false
set_option linter.unusedSimpArgs false
open Go Go.SL Go.Proofs Pl Fanout
theorem rep_nth {α : Type} {m k : Nat} (d : α) : (List.replicate m d).getD k d = d := by
  simp only [List.getD_eq_getElem?_getD, List.getElem?_replicate]
  split <;> rfl
theorem law28_FanoutWhole_true (parts : List Str) (from_ paces : Str) (o0 : parts.length ≤ szMax ∧ ∀ y0 ∈ parts, (y0.length ≤ szMax ∧ ∀ y1 ∈ y0, True)) (o1 : from_.length ≤ szMax ∧ ∀ y0 ∈ from_, True) (o2 : paces.length ≤ szMax ∧ ∀ y0 ∈ paces, True) : ∃ n, law28_FanoutWhole n parts from_ paces = some true := by
  refine ⟨100, ?_⟩
  unfold law28_FanoutWhole
  obtain ⟨t0, ht0⟩ := sum_any parts 0 0
  rw [chk_bind o0.1, ht0, Option.bind_some]
  generalize hbig : (((decide (t0 > 2000) || decide ((parts.length : Int) > 20)) || decide ((from_.length : Int) > 10)) || decide ((paces.length : Int) > 40)) = big
  cases big with
  | true => rfl
  | false =>
    simp only [Bool.or_eq_false_iff, decide_eq_false_iff_not] at hbig
    obtain ⟨⟨⟨h1, h2⟩, h3⟩, h4⟩ := hbig
    have hs := sum_L0 parts 0 0 (by omega) (by omega) (fun x hx => (o0.2 x hx).1)
    rw [ht0] at hs
    have hs : t0 = (totL parts : Int) := by have := Option.some.inj hs; omega
    have hm : (Int.toNat (from_.length : Int)) = from_.length := by omega
    have hl : (lim : Int) = 68719476736 := rfl
    have hnew : fanout_New (max 1 t0) = some (some ⟨max 1 t0, 1, [], []⟩, none) := by
      unfold fanout_New
      rw [if_neg (by simp only [Bool.or_eq_true, decide_eq_true_eq]; omega)]
    rw [if_neg (by simp), awake_eq, Option.bind_some, Option.bind_some, Bool.not_true, if_neg (by simp), hnew, Option.bind_some]
    simp only [Option.elim_some, Option.isSome_none, Bool.false_eq_true, if_false]
    rw [chk_bind (by omega), chk_bind (by omega), chk_bind (by omega), chk_bind (by omega), hm]
    have w0 : WV from_.length [] 1 [] (List.replicate from_.length (0 : Int)) (List.replicate from_.length (false : Bool)) (List.replicate from_.length (false : Bool)) (List.replicate from_.length ([] : Str)) := by
      refine ⟨by simp, by simp, by simp, by simp, fun k hk => ?_⟩
      rw [rep_nth, rep_nth, rep_nth]
      exact ⟨(fun h => by cases h), fun _ => ⟨rfl, rfl, rfl⟩⟩
    obtain ⟨D', turn', offs', AT', EN', ATT', RD', z, g1, g2, g3⟩ := whole_L2 (L := max 1 t0) (parts := parts) (from_ := from_) (paces := paces) (by omega) (by omega) (by omega) parts 0 100 [] 0 [] (List.replicate from_.length (0 : Int)) (List.replicate from_.length (false : Bool)) (List.replicate from_.length (false : Bool)) (List.replicate from_.length ([] : Str)) rfl (by omega) (by omega) (by simp only [List.length_nil]; omega) (by simp only [List.length_nil]; omega) (by omega) w0
    rw [show ((0 : Nat) : Int) = 0 from rfl] at g1
    simp only [List.length_nil] at g3
    rw [g1, Option.bind_some, elg', chk_bind o1.1]
    obtain ⟨s, hs6⟩ := whole_L6 (turn := turn') (z := z) (L := max 1 t0) (s0 := ⟨max 1 t0, 2, D', offs'⟩) (t0 := t0) (by omega) (by omega) (by omega) g2.a g2.e g2.t g2.r from_ 0 offs' (by omega) (fun k _ hk => g2.k k hk)
    simp only
    rw [hs6]; rfl
