/- Ruletype: how many nodes; names in environments. -/
import Derived.Test.YtdnelkmckpapgaaDoorRtB
set_option linter.unusedVariables false
set_option linter.unusedSimpArgs false
open Go Go.SL Go.Proofs Pl
namespace Rt
def cnt : Nat → M → Nat
  | 0, _ => 0
  | d + 1, x => 1 + (x.Kids.map (cnt d)).sum
def cntL (d : Nat) (l : List M) : Nat := (l.map (cnt d)).sum
theorem cntL_cons (d : Nat) (x : M) (l : List M) : cntL d (x :: l) = cnt d x + cntL d l := by simp [cntL]
theorem cntL_append (d : Nat) (l k : List M) : cntL d (l ++ k) = cntL d l + cntL d k := by simp [cntL]
theorem cnt_eq (d : Nat) (x : M) : cnt (d + 1) x = 1 + cntL d x.Kids := rfl
theorem cnt_mem {d : Nat} : ∀ {l : List M} {x : M}, x ∈ l → cnt d x ≤ cntL d l
  | a :: l, x, h => by
    rw [cntL_cons]
    rcases List.mem_cons.1 h with rfl | h
    · omega
    · have := cnt_mem (d := d) h; omega
theorem cnt_succ : ∀ {d : Nat} {x : M}, Ok d x → cnt (d + 1) x = cnt d x
  | d + 1, x, h => by
    rw [cnt_eq, cnt_eq]
    have : ∀ l : List M, (∀ k ∈ l, Ok d k) → cntL (d + 1) l = cntL d l := by
      intro l
      induction l with
      | nil => intro _; rfl
      | cons a l ih =>
        intro hl
        rw [cntL_cons, cntL_cons, ih fun k hk => hl k (by simp [hk]), cnt_succ (hl a (by simp))]
    rw [this x.Kids h.2.2]
/-! ### names -/
def pre (s : Str) : Bool := ((decide (s = ([109, 101, 116, 104, 111, 100] : Str)) || decide (s = ([104, 111, 115, 116] : Str))) || decide (s = ([112, 97, 116, 104] : Str))) || decide (s = ([113, 117, 101, 114, 121] : Str))
def lk (s : Str) (env : List Bd) : Int := match env.reverse.find? (fun b => decide (b.Name = s)) with
  | some b => b.TypeZ
  | none => if pre s then 1 else 0
theorem lk_snoc (s : Str) (env : List Bd) (b : Bd) : lk s (env ++ [b]) = if b.Name = s then b.TypeZ else lk s env := by
  unfold lk
  rw [List.reverse_append]
  simp only [List.reverse_cons, List.reverse_nil, List.nil_append, List.cons_append, List.find?_cons]
  by_cases h : b.Name = s <;> simp [h]
theorem lookup_L0_eq {env : List Bd} {s : Str} (hl : env.length ≤ 100000) : ∀ (j n : Nat), j ≤ env.length → j + 1 ≤ n →
    ruletype_lookup_L0 env s n ((j : Int) - 1) = some (match (env.take j).reverse.find? (fun b => decide (b.Name = s)) with | some b => Fl.ret b.TypeZ | none => Fl.go (-1))
  | 0, n + 1, _, _ => by
    rw [ruletype_lookup_L0, if_neg (by simp)]; simp
  | j + 1, n + 1, h, hn => by
    have hj : j < env.length := by omega
    have e : ((j + 1 : Nat) : Int) - 1 = (j : Int) := by omega
    have hix : ix env (j : Int) = some env[j] := by unfold ix; rw [if_pos (by omega)]; simp [hj]
    have ht : (env.take (j + 1)).reverse = env[j] :: (env.take j).reverse := by
      rw [List.take_succ_eq_append_getElem hj, List.reverse_append]; rfl
    rw [e, ruletype_lookup_L0, if_pos (by simp), hix, Option.bind_some, Option.bind_some, ht, List.find?_cons]
    by_cases q : env[j].Name = s
    · rw [if_pos (by simpa using q)]; simp [q]
    · rw [if_neg (by simpa using q), chk_bind (by constructor <;> omega), lookup_L0_eq hl j n (by omega) (by omega)]
      simp [q]
  | 0, 0, _, h => by omega
  | j + 1, 0, _, h => by omega
theorem lookup_eq {env : List Bd} {s : Str} {n : Nat} (hl : env.length ≤ 100000) (hn : env.length + 1 ≤ n) : ruletype_lookup n s env = some (lk s env) := by
  unfold ruletype_lookup
  rw [chk_bind (by constructor <;> omega), lookup_L0_eq hl env.length n (by omega) hn, Option.bind_some, List.take_length]
  unfold lk
  cases env.reverse.find? (fun b => decide (b.Name = s)) with
  | some b => rfl
  | none =>
    rw [el_go]
    show (if pre s = true then some (1 : Int) else some 0) = some (if pre s = true then 1 else 0)
    split <;> rfl
def Ev (e e' : List Bd) : Prop := ∀ s, lk s e ≠ 0 → lk s e' = lk s e
theorem Ev.refl (e : List Bd) : Ev e e := fun _ _ => rfl
theorem Ev.trans {a b c : List Bd} (h : Ev a b) (k : Ev b c) : Ev a c := fun s hs => by
  have h1 := h s hs
  rw [k s (by rw [h1]; exact hs), h1]
theorem Ev.ext {e : List Bd} {s : Str} {t : Int} (h : lk s e = 0) : Ev e (e ++ [⟨s, t⟩]) := fun q hq => by
  rw [lk_snoc]
  have : s ≠ q := fun e1 => hq (e1 ▸ h)
  rw [if_neg this]
theorem Ev.snoc {e e' : List Bd} (h : Ev e e') (b : Bd) : Ev (e ++ [b]) (e' ++ [b]) := fun q hq => by
  rw [lk_snoc] at hq ⊢
  rw [lk_snoc]
  split
  · rfl
  · rename_i hb
    rw [if_neg hb] at hq
    exact h q hq
end Rt
