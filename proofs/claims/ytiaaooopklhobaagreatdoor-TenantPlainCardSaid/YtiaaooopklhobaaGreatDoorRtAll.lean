import Derived.Test.YtiaaooopklhobaaGreatDoorR
import Derived.Test.YtiaaooopklhobaaGreatDoorPlain
set_option linter.unusedVariables false
set_option linter.unusedSimpArgs false
open Go Go.SL Go.Proofs Pl
namespace Tn
def hd (p : Str) : List Str → List Str
 | [] => [p]
 | x :: r => (p ++ x) :: r
def spl (c : UInt8) : Str → List Str
 | [] => [[]]
 | b :: s => if b = c then [] :: spl c s else hd [b] (spl c s)
theorem qhm (c : UInt8) (s : Str) : spl c s ≠ [] := by
 cases s with
 | nil => simp [spl]
 | cons b s =>
  rw [spl]
  split
  ·simp
  ·cases spl c s <;> simp [hd]
theorem qpz {l : List Str} (h : l ≠ []) : hd [] l = l := by
 cases l with
 | nil => exact absurd rfl h
 | cons a b => rfl
theorem qqu (p q : Str) (l : List Str) : hd p (hd q l) = hd (p ++ q) l := by cases l <;> simp [hd]
theorem qo1 (c b : UInt8) (l : Str) : ([c] : Str).isPrefixOf (b :: l) = (c == b) := by simp [List.isPrefixOf]
theorem ql5 (c : UInt8) (l : Str) : Go.Lib.index (c :: l) [c] = 0 := by rw [Go.Lib.index, qrp (by simp [List.isPrefixOf])]
theorem qit {c b : UInt8} (h : b ≠ c) (l : Str) : Go.Lib.index (b :: l) [c] = if Go.Lib.index l [c] = -1 then -1 else Go.Lib.index l [c] + 1 := by
 have : (c == b) = false := by simp; exact fun e => h e.symm
 rw [Go.Lib.index, qo1, this]
 simp
theorem qnf {b c : UInt8} (h : b ≠ c) (k : Nat) (l : Str) : Go.Lib.splitK [c] 0 k (b :: l) = hd [b] (Go.Lib.splitK [c] 0 k l) := by
 cases k with
 | zero => rfl
 | succ k =>
  have hg := Go.Lib.index_ge l [c]
  rw [Go.Lib.splitK, Go.Lib.splitK, qit h]
  by_cases q : Go.Lib.index l [c] = -1
  ·rw [q]; simp [hd]
  ·rw [qro q]
   have e : (Go.Lib.index l [c] + 1).toNat = (Go.Lib.index l [c]).toNat + 1 := by omega
   rw [qro (by simp; omega), qro (by simpa using q), e]
   simp [hd, Nat.add_right_comm]
theorem qkg (c : UInt8) : ∀ s : Str, Go.Lib.split s [c] = spl c s
 | [] => by unfold Go.Lib.split; rw [Go.Lib.count_one]; rfl
 | b :: l => by
  have ih := qkg c l
  unfold Go.Lib.split at ih ⊢
  rw [spl]
  by_cases q : b = c
  ·subst q
   rw [qrp rfl, Go.Lib.count_cons_eq, Nat.add_comm, Go.Lib.splitK, ql5, qro (by decide), ← ih]
   simp
  ·rw [qro q, Go.Lib.count_cons_ne b c l q, qnf q, ih]
theorem index_spl (c : UInt8) : ∀ s : Str, (Go.Lib.index s [c] = -1 ∧ spl c s = [s] ∧ c ∉ s) ∨ (∃ i : Nat, Go.Lib.index s [c] = i ∧ i < s.length ∧ spl c s = s.take i :: spl c (s.drop (i + 1)))
 | [] => .inl ⟨rfl, rfl, by simp⟩
 | b :: l => by
  by_cases q : b = c
  ·subst q
   exact .inr ⟨0, ql5 _ _, by simp, by rw [spl, qrp rfl]; simp⟩
  ·rcases index_spl c l with ⟨h1, h2, h3⟩ | ⟨i, h1, h2, h3⟩
   ·exact .inl ⟨by rw [qit q, qrp h1], by rw [spl, qro q, h2]; rfl, by simp [h3]; exact fun e => q e.symm⟩
   ·refine .inr ⟨i + 1, by rw [qit q, h1, qro (by omega)]; omega, by simp; omega, ?_⟩
    rw [spl, qro q, h3]
    simp [hd]
theorem qkh : qjo = 4294967281 := rfl
theorem ql6 {s : Str} (c : UInt8) (h : s.length ≤ 1000000) : qe4 s [c] = some (spl c s) := by
 unfold qe4
 rw [qrp ⟨by rw [qkh]; omega, by simp⟩, qkg]
theorem cut_spl (c : UInt8) (s : Str) : (Go.Lib.cut s [c] = (s, [], false) ∧ spl c s = [s]) ∨ (∃ i : Nat, i < s.length ∧ Go.Lib.cut s [c] = (s.take i, s.drop (i + 1), true) ∧ spl c s = s.take i :: spl c (s.drop (i + 1))) := by
 unfold Go.Lib.cut
 rcases index_spl c s with ⟨h1, h2, _⟩ | ⟨i, h1, h2, h3⟩
 ·left; rw [h1]; exact ⟨by simp, h2⟩
 ·right; rw [h1]; exact ⟨i, h2, by simp, h3⟩
theorem qgy {P : UInt8 → Prop} (h : ∀ n : Fin 256, P (UInt8.ofNat n.val)) (c : UInt8) : P c := by
 have := h ⟨c.toNat, c.toNat_lt⟩
 simpa using this
noncomputable def unr (c : UInt8) : Bool := (Jax c).getD false
theorem qn0 (c : UInt8) : Jax c = some (unr c) := by
 unfold unr Jax Jck
 split
 ·rfl
 ·split <;> rfl
noncomputable def dgv (c : UInt8) : Int := (Jbc c).getD 0
theorem qki : ∀ c : UInt8, Jbc c = some (dgv c) := qgy (by unfold dgv; decide +kernel)
theorem qn1 : ∀ c : UInt8, -1 ≤ dgv c ∧ dgv c ≤ 15 := qgy (by unfold dgv; decide +kernel)
noncomputable def okc (ot : Str) (c : UInt8) : Bool := unr c || !(decide (Go.Lib.indexByte ot c < 0))
def hexs : Str := [48, 49, 50, 51, 52, 53, 54, 55, 56, 57, 65, 66, 67, 68, 69, 70]
noncomputable def hx (a b : UInt8) : UInt8 := qhb (16 * dgv a + dgv b)
def enc (d : UInt8) : Str := [37, hexs.getD (d / 16).toNat 0, hexs.getD (d &&& 15).toNat 0]
theorem qrl : ∀ d : UInt8, ix hexs ((d / 16).toNat : Int) = some (hexs.getD (d / 16).toNat 0) := qgy (by decide +kernel)
theorem qrm : ∀ d : UInt8, ix hexs ((d &&& 15).toNat : Int) = some (hexs.getD (d &&& 15).toNat 0) := qgy (by decide +kernel)
noncomputable def can (ot : Str) : Str → Option Str
 | [] => some []
 | c :: s => if c ≠ 37 then (if okc ot c = true then (can ot s).map (c :: ·) else none)
  else match s with
   | a :: b :: t => if dgv a < 0 ∨ dgv b < 0 then none
    else if (hx a b).toNat < 32 ∨ (hx a b).toNat = 127 then none
    else if unr (hx a b) = true then (can ot t).map (hx a b :: ·) else (can ot t).map (enc (hx a b) ++ ·)
   | _ => none
theorem qhn {ot s : Str} {c : UInt8} (h : c ≠ 37) (u : okc ot c = true) : can ot (c :: s) = (can ot s).map (c :: ·) := by
 rcases s with _ | ⟨a, _ | ⟨b, t⟩⟩ <;> rw [can.eq_def] <;> simp only [qrp h, qrp u]
theorem qjq {ot s : Str} {c : UInt8} (h : c ≠ 37) (u : ¬ okc ot c = true) : can ot (c :: s) = none := by
 rcases s with _ | ⟨a, _ | ⟨b, t⟩⟩ <;> rw [can.eq_def] <;> simp only [qrp h, qro u]
theorem qjr {ot : Str} : can ot [37] = none := by rw [can.eq_def]; rfl
theorem qjs {ot : Str} {a : UInt8} : can ot [37, a] = none := by rw [can.eq_def]; rfl
theorem qh5 {ot t : Str} {a b : UInt8} (h : dgv a < 0 ∨ dgv b < 0) : can ot (37 :: a :: b :: t) = none := by rw [can, qro (by decide)]; rw [qrp h]
theorem qjt {ot t : Str} {a b : UInt8} (h : ¬ (dgv a < 0 ∨ dgv b < 0)) (w : (hx a b).toNat < 32 ∨ (hx a b).toNat = 127) : can ot (37 :: a :: b :: t) = none := by rw [can, qro (by decide)]; rw [qro h, qrp w]
theorem qju {ot t : Str} {a b : UInt8} (h : ¬ (dgv a < 0 ∨ dgv b < 0)) (w : ¬ ((hx a b).toNat < 32 ∨ (hx a b).toNat = 127)) (u : unr (hx a b) = true) : can ot (37 :: a :: b :: t) = (can ot t).map (hx a b :: ·) := by rw [can, qro (by decide)]; rw [qro h, qro w, qrp u]
theorem qh6 {ot t : Str} {a b : UInt8} (h : ¬ (dgv a < 0 ∨ dgv b < 0)) (w : ¬ ((hx a b).toNat < 32 ∨ (hx a b).toNat = 127)) (u : ¬ unr (hx a b) = true) : can ot (37 :: a :: b :: t) = (can ot t).map (enc (hx a b) ++ ·) := by rw [can, qro (by decide)]; rw [qro h, qro w, qro u]
noncomputable def canR (y : Str) (k : Int) : Option Str → Fl (Str × Bool) (Str × Int)
 | none => .ret ([], false)
 | some r => .go (y ++ r, k)
theorem qng (y p : Str) (k : Int) (o : Option Str) : canR y k (o.map (p ++ ·)) = canR (y ++ p) k o := by cases o <;> simp [canR]
theorem qiu (y : Str) (c : UInt8) (k : Int) (o : Option Str) : canR y k (o.map (c :: ·)) = canR (y ++ [c]) k o := by cases o <;> simp [canR]
theorem qqv {α : Type} {l : List α} {i : Nat} (h : i < l.length) : ix l (i : Int) = some l[i] := by
 unfold ix; rw [qrp (by omega), Int.toNat_natCast, List.getElem?_eq_getElem h]
set_option maxRecDepth 100000 in
theorem qkj {s ot : Str} (hs : s.length ≤ 100000) : ∀ (f p : Nat) (y : Str), p ≤ s.length → s.length - p < f → y.length + 3 * (s.length - p) ≤ 1000000 → J1 s ot f y (p : Int) = some (canR y (s.length : Int) (can ot (s.drop p)))
 | 0, p, y, _, h, _ => by omega
 | f + 1, p, y, hp, hf, hy => by
  generalize hR : can ot (s.drop p) = R
  rw [J1]
  by_cases q : p < s.length
  ·rw [List.drop_eq_getElem_cons q] at hR
   rw [qrp (by simpa using q), qqv q, qrn]
   generalize hc : s[p] = c at hR ⊢
   by_cases q37 : c = 37
   ·subst q37
    rw [qro (by simp), qa9 (by constructor <;> omega)]
    by_cases q2 : p + 2 < s.length
    ·have e1 : ix s ((p : Int) + 1) = some s[p + 1] := by rw [show (p : Int) + 1 = ((p + 1 : Nat) : Int) by omega]; exact qqv _
     have e2 : ix s ((p : Int) + 2) = some s[p + 2] := by rw [show (p : Int) + 2 = ((p + 2 : Nat) : Int) by omega]; exact qqv _
     have ed : s.drop (p + 1) = s[p + 1] :: s[p + 2] :: s.drop (p + 3) := by rw [List.drop_eq_getElem_cons (by omega : p + 1 < s.length), List.drop_eq_getElem_cons (by omega : p + 1 + 1 < s.length)]
     rw [ed] at hR
     rw [e1, e2]
     generalize s[p + 1] = a at hR ⊢
     generalize s[p + 2] = b at hR ⊢
     have ha := qn1 a
     have hb := qn1 b
     rw [qro (by simp; omega), qa9 (by constructor <;> omega), qrn, qki a, qrn, qrn]
     by_cases da : dgv a < 0
     ·rw [qh5 (.inl da)] at hR
      rw [qrp (by simpa using da), qrn, qrn, qrp rfl, ← hR]; rfl
     rw [qro (by simpa using da), qa9 (by constructor <;> omega), qrn, qki b, qrn, qrn, qrn]
     by_cases db : dgv b < 0
     ·rw [qh5 (.inr db)] at hR
      rw [qrp (by simpa using db), ← hR]; rfl
     have dd : ¬ (dgv a < 0 ∨ dgv b < 0) := by omega
     rw [qro (by simpa using db), qa9 (by constructor <;> omega), qrn, qki a, qrn, qa9 (by constructor <;> omega), qa9 (by constructor <;> omega), qrn, qki b, qrn, qa9 (by constructor <;> omega), qa9 (by constructor <;> omega)]
     rw [show qhb (16 * dgv a + dgv b) = hx a b from rfl]
     by_cases w : (hx a b).toNat < 32 ∨ (hx a b).toNat = 127
     ·rw [qjt dd w] at hR
      rw [qrp (by simp; omega), ← hR]; rfl
     rw [qro (by simp; omega), qn0, qrn]
     by_cases u : unr (hx a b) = true
     ·rw [qju dd w u] at hR
      rw [qrp u, qa9 (by simp only [lim, List.length_singleton]; omega), qa9 (by constructor <;> omega), show ((p : Int) + 2) + 1 = ((p + 3 : Nat) : Int) by omega,
       qkj hs f (p + 3) _ (by omega) (by omega) (by simp only [List.length_append, List.length_singleton]; omega), ← hR, qiu]
     ·rw [qh6 dd w u] at hR
      rw [qro u, show ([48, 49, 50, 51, 52, 53, 54, 55, 56, 57, 65, 66, 67, 68, 69, 70] : Str) = hexs from rfl, qrl, qrn, qrm, qrn, qa9 (by simp only [lim, List.length_cons, List.length_nil]; omega), qa9 (by constructor <;> omega), show ((p : Int) + 2) + 1 = ((p + 3 : Nat) : Int) by omega,
       qkj hs f (p + 3) _ (by omega) (by omega) (by simp only [List.length_append, List.length_cons, List.length_nil]; omega), ← hR, qng]; rfl
    ·have hn : R = none := by
      have hl : (s.drop (p + 1)).length ≤ 1 := by rw [List.length_drop]; omega
      rw [← hR]
      cases h : s.drop (p + 1) with
      | nil => exact qjr
      | cons a t =>
       rw [h] at hl
       cases t with
       | nil => exact qjs
       | cons b t => simp at hl
     rw [qrp (by simp; omega), qrn, qrp rfl, qrn, qrn, qrp rfl, hn]; rfl
   ·have q37' : (c.toNat : Int) ≠ 37 := fun e => q37 (UInt8.toNat_inj.1 (by show c.toNat = 37; omega))
    rw [qrp (by simpa using q37'), qn0, qrn]
    have eo : ((if (!unr c) = true then (ixByteM ot c).bind fun x26 => some (decide (x26 < 0)) else some false) : Option Bool) = some (!okc ot c) := by
     unfold okc ixByteM
     cases unr c <;> simp
    rw [eo, qrn]
    by_cases u : okc ot c = true
    ·rw [qhn q37 u] at hR
     rw [qro (by simp [u]), qa9 (by simp only [lim, List.length_singleton]; omega), qa9 (by constructor <;> omega), show (p : Int) + 1 = ((p + 1 : Nat) : Int) by omega,
      qkj hs f (p + 1) _ (by omega) (by omega) (by simp only [List.length_append, List.length_singleton]; omega), ← hR, qiu]
    ·rw [qjq q37 u] at hR
     rw [qrp (by simpa using u), ← hR]; rfl
  ·have : p = s.length := by omega
   subst this
   rw [List.drop_length, can] at hR
   rw [qro (by simp), ← hR]
   simp [canR]
theorem qn2 {n : Nat} {s ot : Str} (hs : s.length ≤ 100000) (hn : s.length < n) : JaX n s ot = some (match can ot s with | none => ([], false) | some r => (r, true)) := by
 unfold JaX
 rw [show (0 : Int) = ((0 : Nat) : Int) from rfl, qkj hs n 0 [] (by omega) (by omega) (by simp only [List.length_nil]; omega), qrn, List.drop_zero]
 cases can ot s with
 | none => rfl
 | some r => rfl
theorem qqw : unr 37 = false := by unfold unr; decide +kernel
theorem qp0 : ∀ d : UInt8, hx (hexs.getD (d / 16).toNat 0) (hexs.getD (d &&& 15).toNat 0) = d := qgy (by unfold hx dgv; decide +kernel)
theorem qp1 : ∀ d : UInt8, ¬ dgv (hexs.getD (d / 16).toNat 0) < 0 := qgy (by unfold dgv; decide +kernel)
theorem qp2 : ∀ d : UInt8, ¬ dgv (hexs.getD (d &&& 15).toNat 0) < 0 := qgy (by unfold dgv; decide +kernel)
theorem qp3 : ∀ d : UInt8, unr (hexs.getD (d / 16).toNat 0) = true := qgy (by unfold unr; decide +kernel)
theorem qp4 : ∀ d : UInt8, unr (hexs.getD (d &&& 15).toNat 0) = true := qgy (by unfold unr; decide +kernel)
theorem okc_unr {ot : Str} {c : UInt8} (h : unr c = true) : okc ot c = true := by unfold okc; rw [h]; rfl
inductive Cn (ot : Str) : Str → Prop
 | nil : Cn ot []
 | one {c : UInt8} {s : Str} (h : c ≠ 37) (u : okc ot c = true) (t : Cn ot s) : Cn ot (c :: s)
 | esc {d : UInt8} {s : Str} (w : ¬ (d.toNat < 32 ∨ d.toNat = 127)) (u : ¬ unr d = true) (t : Cn ot s) : Cn ot (enc d ++ s)
theorem Cn.of {ot : Str} : ∀ (n : Nat) (s r : Str), s.length ≤ n → can ot s = some r → Cn ot r
 | n, [], r, _, h => by rw [can] at h; cases h; exact .nil
 | 0, c :: s, r, hn, h => by simp at hn
 | n + 1, c :: s, r, hn, h => by
  simp only [List.length_cons] at hn
  by_cases q : c = 37
  ·subst q
   rcases s with _ | ⟨a, _ | ⟨b, t⟩⟩
   ·rw [qjr] at h; cases h
   ·rw [qjs] at h; cases h
   ·simp only [List.length_cons] at hn
    by_cases dd : dgv a < 0 ∨ dgv b < 0
    ·rw [qh5 dd] at h; cases h
    by_cases w : (hx a b).toNat < 32 ∨ (hx a b).toNat = 127
    ·rw [qjt dd w] at h; cases h
    by_cases u : unr (hx a b) = true
    ·rw [qju dd w u] at h
     obtain ⟨r', h1, h2⟩ := Option.map_eq_some_iff.1 h
     subst h2
     exact .one (fun e => by rw [e, qqw] at u; cases u) (okc_unr u) (Cn.of n t r' (by omega) h1)
    ·rw [qh6 dd w u] at h
     obtain ⟨r', h1, h2⟩ := Option.map_eq_some_iff.1 h
     subst h2
     exact .esc w u (Cn.of n t r' (by omega) h1)
  ·by_cases u : okc ot c = true
   ·rw [qhn q u] at h
    obtain ⟨r', h1, h2⟩ := Option.map_eq_some_iff.1 h
    subst h2
    exact .one q u (Cn.of n s r' (by omega) h1)
   ·rw [qjq q u] at h; cases h
theorem Cn.can_app {ot r : Str} (h : Cn ot r) (q : Str) : can ot (r ++ q) = (can ot q).map (r ++ ·) := by
 induction h with
 | nil => simp
 | one h u t ih => rw [List.cons_append, qhn h u, ih]; cases can ot q <;> rfl
 | @esc d s w u t ih =>
  rw [List.append_assoc]
  show can ot (37 :: hexs.getD (d / 16).toNat 0 :: hexs.getD (d &&& 15).toNat 0 :: (s ++ q)) = _
  have e := qp0 d
  have d1 := qp1 d
  have d2 := qp2 d
  rw [qh6 (by omega) (by rw [e]; exact w) (by rw [e]; exact u), e, ih]
  cases can ot q <;> simp
theorem Cn.fix {ot r : Str} (h : Cn ot r) : can ot r = some r := by
 have := h.can_app []
 rw [List.append_nil, can] at this
 simpa using this
theorem Cn.bytes {ot r : Str} (h : Cn ot r) : ∀ c ∈ r, c = 37 ∨ okc ot c = true := by
 induction h with
 | nil => simp
 | one h u t ih =>
  intro c hc
  rcases List.mem_cons.1 hc with e | e
  ·subst e; exact .inr u
  ·exact ih c e
 | @esc d s w u t ih =>
  intro c hc
  rcases List.mem_append.1 hc with e | e
  ·simp only [enc, List.mem_cons, List.not_mem_nil, or_false] at e
   rcases e with e | e | e
   ·exact .inl e
   ·subst e; exact .inr (okc_unr (qp3 d))
   ·subst e; exact .inr (okc_unr (qp4 d))
  ·exact ih c e
theorem Cn.app {ot a b : Str} (h : Cn ot a) (k : Cn ot b) : Cn ot (a ++ b) := by
 induction h with
 | nil => exact k
 | one h u t ih => exact .one h u ih
 | esc w u t ih => rw [List.append_assoc]; exact .esc w u ih
theorem ql7 {P : Str → Prop} {p : Str} {l : List Str} (hn : l ≠ []) (h : ∀ x ∈ l, P x) (hp : ∀ x, P x → P (p ++ x)) : ∀ x ∈ hd p l, P x := by
 cases l with
 | nil => exact absurd rfl hn
 | cons y l =>
  intro x hx
  rcases List.mem_cons.1 hx with e | e
  ·subst e; exact hp y (h y (by simp))
  ·exact h x (by simp [e])
theorem qjv {c : UInt8} {p : Str} (hp : c ∉ p) (s : Str) : spl c (p ++ s) = hd p (spl c s) := by
 induction p with
 | nil => rw [List.nil_append, qpz (qhm c s)]
 | cons b p ih =>
  rw [List.cons_append, spl, qro (fun e => hp (by simp [e])), ih (fun e => hp (by simp [e])), qqu]; rfl
theorem qp5 : ∀ d : UInt8, (47 : UInt8) ∉ enc d := qgy (by unfold enc; decide +kernel)
theorem Cn.spl {ot r : Str} (h : Cn ot r) : ∀ p ∈ spl 47 r, Cn ot p := by
 induction h with
 | nil => intro p hp; simp only [Tn.spl, List.mem_singleton] at hp; subst hp; exact .nil
 | @one c s h u t ih =>
  rw [Tn.spl]
  split
  ·intro p hp
   rcases List.mem_cons.1 hp with e | e
   ·subst e; exact .nil
   ·exact ih p e
  ·exact ql7 (qhm 47 s) ih fun x hx => .one h u hx
 | @esc d s w u t ih =>
  rw [qjv (qp5 d)]
  exact ql7 (qhm 47 s) ih fun x hx => .esc w u hx
def jn (c : UInt8) : List Str → Str
 | [] => []
 | [a] => a
 | a :: b :: l => a ++ c :: jn c (b :: l)
theorem Cn.jn {ot : Str} (h47 : okc ot 47 = true) : ∀ (l : List Str), (∀ p ∈ l, Cn ot p) → Cn ot (jn 47 l)
 | [], _ => .nil
 | [a], h => h a (by simp)
 | a :: b :: l, h => (h a (by simp)).app (.one (by decide) h47 (Cn.jn h47 (b :: l) fun p hp => h p (by simp at hp ⊢; exact .inr hp)))
theorem qn3 {c : UInt8} : ∀ (l : List Str), l ≠ [] → (∀ p ∈ l, c ∉ p) → spl c (jn c l) = l
 | [], h, _ => absurd rfl h
 | [a], _, h => by
  have := qjv (h a (by simp)) []
  simpa [jn, spl, hd] using this
 | a :: b :: l, _, h => by
  rw [jn, qjv (h a (by simp)), spl, qrp rfl, qn3 (b :: l) (by simp) fun p hp => h p (by simp at hp ⊢; exact .inr hp)]
  simp [hd]
theorem ql8 (c : UInt8) : ∀ (s : Str), ∀ p ∈ spl c s, c ∉ p
 | [] => by simp [spl]
 | b :: s => by
  rw [spl]
  split
  ·rename_i e
   intro p hp
   rcases List.mem_cons.1 hp with e | e
   ·subst e; simp
   ·exact ql8 c s p e
  ·rename_i e
   refine ql7 (qhm c s) (ql8 c s) fun x hx h => ?_
   rcases List.mem_append.1 h with h | h
   ·simp only [List.mem_singleton] at h; exact e h.symm
   ·exact hx h
theorem qp6 (c : UInt8) : ∀ l : List Str, Go.Lib.join l [c] = jn c l
 | [] => rfl
 | [a] => Go.Lib.join_one a [c]
 | a :: b :: l => by
  rw [jn, ← qp6 c (b :: l)]
  simp [Go.Lib.join, List.intercalate]
def qqx : Str := [46]
def qqy : Str := [46, 46]
def dts : List Str → List Str → Option (List Str)
 | y, [] => some y
 | y, e :: r => if e = qqx then (if r = [] then some (y ++ [[]]) else dts y r)
  else if e = qqy then (if y = [] then none else if r = [] then some (y.dropLast ++ [[]]) else dts y.dropLast r)
  else dts (y ++ [e]) r
def nd (p : Str) : Prop := p ≠ qqx ∧ p ≠ qqy
theorem qn4 : ∀ (r y : List Str), (∀ p ∈ r, nd p) → dts y r = some (y ++ r)
 | [], y, _ => by rw [dts, List.append_nil]
 | e :: r, y, h => by
  have he := h e (by simp)
  rw [dts, qro he.1, qro he.2, qn4 r _ fun p hp => h p (by simp [hp])]
  simp
theorem qh7 {P : Str → Prop} (h0 : P []) : ∀ (r y z : List Str), dts y r = some z → (∀ p ∈ y, P p ∧ nd p) → (∀ p ∈ r, P p) → ∀ p ∈ z, P p ∧ nd p
 | [], y, z, h, hy, _ => by rw [dts] at h; cases h; exact hy
 | e :: r, y, z, h, hy, hr => by
  have hn : P [] ∧ nd [] := ⟨h0, by decide, by decide⟩
  rw [dts] at h
  split at h
  ·split at h
   ·cases h
    intro p hp
    rcases List.mem_append.1 hp with e | e
    ·exact hy p e
    ·simp only [List.mem_singleton] at e; subst e; exact hn
   ·exact qh7 h0 r y z h hy fun p hp => hr p (by simp [hp])
  ·split at h
   ·split at h
    ·cases h
    ·split at h
     ·cases h
      intro p hp
      rcases List.mem_append.1 hp with e | e
      ·exact hy p (List.dropLast_subset _ e)
      ·simp only [List.mem_singleton] at e; subst e; exact hn
     ·exact qh7 h0 r _ z h (fun p hp => hy p (List.dropLast_subset _ hp)) fun p hp => hr p (by simp [hp])
   ·rename_i n1 n2
    refine qh7 h0 r _ z h (fun p hp => ?_) fun p hp => hr p (by simp [hp])
    rcases List.mem_append.1 hp with e | e
    ·exact hy p e
    ·simp only [List.mem_singleton] at e; subst e; exact ⟨hr p (by simp), n1, n2⟩
theorem qkk : ∀ (r y z : List Str), dts y r = some z → r ≠ [] → z ≠ []
 | [], y, z, h, hr => absurd rfl hr
 | e :: r, y, z, h, _ => by
  rw [dts] at h
  by_cases q : r = []
  ·subst q
   simp only [if_true, dts] at h
   split at h
   ·cases h; simp
   ·split at h
    ·split at h <;> cases h; simp
    ·cases h; simp
  ·simp only [qro q] at h
   split at h
   ·exact qkk r _ z h q
   ·split at h
    ·split at h
     ·cases h
     ·exact qkk r _ z h q
    ·exact qkk r _ z h q
def zAd : Jl := ⟨[], [], [], false⟩
def dtF : Option (List Str) → Fl (Jl × Err) (List Str)
 | none => .ret (zAd, some 27)
 | some z => .go z
theorem qkl (x : List Str) (hx : x.length ≤ 100000) : ∀ (r : List Str) (i : Nat) (y : List Str), i + r.length = x.length → y.length ≤ i → JG x r i y = some (dtF (dts y r))
 | [], i, y, _, _ => by rw [JG, dts]; rfl
 | e :: r, i, y, hi, hy => by
  simp only [List.length_cons] at hi
  have el : decide ((i : Int) = ((x.length : Int) - 1)) = decide (r = []) := by
   rw [decide_eq_decide]
   constructor
   ·intro h; exact List.eq_nil_of_length_eq_zero (by omega)
   ·rintro rfl; simp only [List.length_nil] at hi; omega
  have c1 : InI ((x.length : Int) - 1) := by constructor <;> omega
  have c3 : InI ((y.length : Int) - 1) := by constructor <;> omega
  rw [JG, dts]
  by_cases q1 : e = qqx
  ·have q2 : ¬ e = ([46, 46] : Str) := by subst q1; decide
   have q1' : e = ([46] : Str) := q1
   rw [qrp (by simpa using q1'), qro (by simpa using q2), qa9 c1, el, qrp q1]
   by_cases q3 : r = []
   ·subst q3
    rw [qrp (by simp), qrp rfl, qa9 (by simp only [lim, List.length_singleton]; omega), JG]; rfl
   ·rw [qro (by simpa using q3), qro q3, qkl x hx r (i + 1) y (by omega) (by omega)]
  ·have q1' : ¬ e = ([46] : Str) := q1
   rw [qro (by simpa using q1'), qro q1]
   by_cases q2 : e = qqy
   ·have q2' : e = ([46, 46] : Str) := q2
    rw [qrp (by simpa using q2'), qrp (by simpa using q2'), qrp q2]
    by_cases q4 : y = []
    ·subst q4
     rw [qrp (by simp), qrp rfl]; rfl
    ·have hl : 0 < y.length := List.length_pos_iff.2 q4
     have es : subL y (0 : Int) ((y.length : Int) - 1) = y.dropLast := by
      rw [List.dropLast_eq_take, show ((y.length : Int) - 1) = ((y.length - 1 : Nat) : Int) by omega]
      simp [subL]
     have dl : y.dropLast.length = y.length - 1 := List.length_dropLast
     rw [qro (by simp; exact q4), qro q4, qa9 c3, qa9 (by omega), qa9 c1, el, es]
     by_cases q3 : r = []
     ·subst q3
      rw [qrp (by simp), qrp rfl, qa9 (by simp only [lim, List.length_singleton]; omega), JG]; rfl
     ·rw [qro (by simpa using q3), qro q3, qkl x hx r (i + 1) _ (by omega) (by omega)]
   ·have q2' : ¬ e = ([46, 46] : Str) := q2
    rw [qro (by simpa using q2'), qro q2, qa9 (by simp only [lim, List.length_singleton]; omega), qkl x hx r (i + 1) _ (by omega) (by simp only [List.length_append, List.length_singleton]; omega)]
theorem qn5 {c : UInt8} {q : Str} : ∀ {p : Str}, c ∉ p → Go.Lib.index (p ++ c :: q) [c] = p.length
 | [], _ => ql5 c q
 | b :: p, h => by
  rw [List.cons_append, qit (fun e => h (by simp [e])), qn5 (fun e => h (by simp [e])), qro (by omega)]; simp
theorem qn6 {c : UInt8} : ∀ {p : Str}, c ∉ p → Go.Lib.index p [c] = -1
 | [], _ => by simp [Go.Lib.index, List.isPrefixOf]
 | b :: p, h => by
  rw [qit (fun e => h (by simp [e])), qn6 (fun e => h (by simp [e])), qrp rfl]
theorem qp7 {c : UInt8} {p q : Str} (h : c ∉ p) : Go.Lib.cut (p ++ c :: q) [c] = (p, q, true) := by
 unfold Go.Lib.cut
 rw [qn5 h]
 simp
theorem qp8 {c : UInt8} {p : Str} (h : c ∉ p) : Go.Lib.cut p [c] = (p, [], false) := by
 unfold Go.Lib.cut
 rw [qn6 h]
 simp
theorem qiv (c : UInt8) (s : Str) : (Go.Lib.cut s [c]).1.length ≤ s.length ∧ (Go.Lib.cut s [c]).2.1.length ≤ s.length ∧ ((Go.Lib.cut s [c]).2.2 = false → (Go.Lib.cut s [c]).2.1 = []) := by
 rcases cut_spl c s with ⟨h, _⟩ | ⟨i, _, h, _⟩
 ·rw [h]; simp
 ·rw [h]
  refine ⟨?_, ?_, fun e => by cases e⟩
  ·show (s.take i).length ≤ _
   rw [List.length_take]; omega
  ·show (s.drop (i + 1)).length ≤ _
   rw [List.length_drop]; omega
def oP : Str := [33, 36, 38, 39, 40, 41, 42, 43, 44, 59, 61, 58, 64, 47]
def oQ : Str := [33, 36, 38, 39, 40, 41, 42, 43, 44, 59, 61, 58, 64, 47, 63]
def txl (a : Jl) : Nat := if a.HasQuery then a.An.length + a.Ae.length + 1 + a.Af.length else a.An.length + a.Ae.length
noncomputable def prs (h t : Str) : Jl × Err :=
 if ((Go.Lib.cut t [63]).1).head? ≠ some 47 then (zAd, some 27)
 else match can oP (Go.Lib.cut t [63]).1, can oQ (Go.Lib.cut t [63]).2.1 with
  | some p, some q => match dts [] (spl 47 (p.drop 1)) with
   | none => (zAd, some 27)
   | some z => if txl ⟨h, 47 :: jn 47 z, q, (Go.Lib.cut t [63]).2.2⟩ > 1024 then (zAd, some 5) else (⟨h, 47 :: jn 47 z, q, (Go.Lib.cut t [63]).2.2⟩, none)
  | _, _ => (zAd, some 27)
def tgt (a : Jl) : Str := if a.HasQuery then a.Ae ++ 63 :: a.Af else a.Ae
theorem qqz : okc oP 63 = false := by unfold okc unr; decide +kernel
theorem qnh : okc oP 47 = true := by unfold okc unr; decide +kernel
theorem Cn.no63 {r : Str} (h : Cn oP r) : (63 : UInt8) ∉ r := fun e => by
 rcases h.bytes 63 e with e | e
 ·exact absurd e (by decide)
 ·rw [qqz] at e; cases e
theorem qp9 {h t : Str} {a : Jl} (e : prs h t = (a, none)) : a.An = h ∧ Cn oP a.Ae ∧ a.Ae.head? = some 47 ∧ txl a ≤ 1024 ∧ (a.HasQuery = false → a.Af = []) ∧ prs h (tgt a) = (a, none) := by
 unfold prs at e
 by_cases q0 : ((Go.Lib.cut t [63]).1).head? ≠ some 47
 ·rw [qrp q0] at e; cases e
 rw [qro q0] at e
 cases hp : can oP (Go.Lib.cut t [63]).1 with
 | none => rw [hp] at e; cases e
 | some p =>
  cases hq : can oQ (Go.Lib.cut t [63]).2.1 with
  | none => rw [hp, hq] at e; cases e
  | some q =>
   rw [hp, hq] at e
   dsimp only at e
   cases hz : dts [] (spl 47 (p.drop 1)) with
   | none => rw [hz] at e; cases e
   | some z =>
    rw [hz] at e
    dsimp only at e
    by_cases ql : txl ⟨h, 47 :: jn 47 z, q, (Go.Lib.cut t [63]).2.2⟩ > 1024
    ·rw [qrp ql] at e; cases e
    rw [qro ql] at e
    have cp := Cn.of _ _ _ (Nat.le_refl _) hp
    have cq := Cn.of _ _ _ (Nat.le_refl _) hq
    have hqn := (qiv 63 t).2.2
    generalize (Go.Lib.cut t [63]).2.2 = b at e ql hqn
    cases e
    have cd : Cn oP (p.drop 1) := by
     cases cp with
     | nil => exact .nil
     | one h u t => exact t
     | @esc d s w u t =>
      exfalso
      have hc : ∀ (s r : Str), s.head? = some 47 → can oP s = some r → r.head? = some 47 := by
       intro s r hs hr
       cases s with
       | nil => cases hs
       | cons c s =>
        cases hs
        rw [qhn (by decide) qnh] at hr
        obtain ⟨r', _, rfl⟩ := Option.map_eq_some_iff.1 hr
        rfl
      have := hc _ _ (Classical.not_not.1 q0) hp
      simp [enc] at this
    have all := qh7 (P := fun p => Cn oP p ∧ (47 : UInt8) ∉ p) ⟨.nil, by simp⟩ _ _ _ hz (by simp) fun p hp => ⟨cd.spl p hp, ql8 47 _ p hp⟩
    have zn := qkk _ _ _ hz (qhm _ _)
    have cpath : Cn oP (47 :: jn 47 z) := .one (by decide) qnh (Cn.jn qnh z fun p hp => (all p hp).1.1)
    have hb : b = false → q = [] := by
     intro hb
     have := hqn hb
     rw [this, can] at hq
     exact (Option.some.inj hq).symm
    refine ⟨rfl, cpath, rfl, Nat.le_of_not_gt ql, hb, ?_⟩
    have ez : dts [] (spl 47 (jn 47 z)) = some z := by
     rw [qn3 z zn fun p hp => (all p hp).1.2, qn4 z [] fun p hp => (all p hp).2]; rfl
    unfold prs
    cases b with
    | true =>
     rw [show tgt ⟨h, 47 :: jn 47 z, q, true⟩ = (47 :: jn 47 z) ++ 63 :: q from rfl, qp7 cpath.no63, qro (by simp), cpath.fix, cq.fix]
     dsimp only [List.drop]
     rw [ez]
     dsimp only
     rw [qro ql]
    | false =>
     obtain rfl := hb rfl
     rw [show tgt ⟨h, 47 :: jn 47 z, [], false⟩ = 47 :: jn 47 z from rfl, qp8 cpath.no63, qro (by simp), cpath.fix, can]
     dsimp only [List.drop]
     rw [ez]
     dsimp only
     rw [qro ql]
theorem qgs {ot : Str} : ∀ (n : Nat) (s r : Str), s.length ≤ n → can ot s = some r → r.length ≤ s.length
 | n, [], r, _, h => by rw [can] at h; cases h; simp
 | 0, c :: s, r, hn, h => by simp at hn
 | n + 1, c :: s, r, hn, h => by
  simp only [List.length_cons] at hn ⊢
  by_cases q : c = 37
  ·subst q
   rcases s with _ | ⟨a, _ | ⟨b, t⟩⟩
   ·rw [qjr] at h; cases h
   ·rw [qjs] at h; cases h
   ·simp only [List.length_cons] at hn ⊢
    by_cases dd : dgv a < 0 ∨ dgv b < 0
    ·rw [qh5 dd] at h; cases h
    by_cases w : (hx a b).toNat < 32 ∨ (hx a b).toNat = 127
    ·rw [qjt dd w] at h; cases h
    by_cases u : unr (hx a b) = true
    ·rw [qju dd w u] at h
     obtain ⟨r', h1, h2⟩ := Option.map_eq_some_iff.1 h
     subst h2
     have := qgs n t r' (by omega) h1
     simp only [List.length_cons]; omega
    ·rw [qh6 dd w u] at h
     obtain ⟨r', h1, h2⟩ := Option.map_eq_some_iff.1 h
     subst h2
     have := qgs n t r' (by omega) h1
     simp only [List.length_append, enc, List.length_cons, List.length_nil]; omega
  ·by_cases u : okc ot c = true
   ·rw [qhn q u] at h
    obtain ⟨r', h1, h2⟩ := Option.map_eq_some_iff.1 h
    subst h2
    have := qgs n s r' (by omega) h1
    simp only [List.length_cons]; omega
   ·rw [qjq q u] at h; cases h
def wt : List Str → Nat
 | [] => 0
 | a :: l => a.length + 1 + wt l
theorem wt_app : ∀ a b : List Str, wt (a ++ b) = wt a + wt b
 | [], b => by simp [wt]
 | x :: a, b => by rw [List.cons_append, wt, wt, wt_app a b]; omega
theorem qo2 (l : List Str) (h : l ≠ []) : wt l.dropLast + 1 ≤ wt l := by
 have := List.dropLast_concat_getLast h
 have e := wt_app l.dropLast [l.getLast h]
 rw [this] at e
 simp only [wt] at e; omega
theorem ql9 : ∀ l : List Str, l.length ≤ wt l ∧ (jn 47 l).length ≤ wt l
 | [] => by simp [wt, jn]
 | [a] => by simp [wt, jn]
 | a :: b :: l => by
  have := ql9 (b :: l)
  rw [wt, jn]
  simp only [List.length_cons, List.length_append] at this ⊢; omega
theorem qq0 (p : Str) (l : List Str) (h : l ≠ []) : wt (hd p l) = p.length + wt l := by
 cases l with
 | nil => exact absurd rfl h
 | cons a l => simp [hd, wt]; omega
theorem qma (c : UInt8) : ∀ s : Str, wt (spl c s) = s.length + 1
 | [] => rfl
 | b :: s => by
  rw [spl]
  split
  ·rw [wt, qma c s]; simp; omega
  ·rw [qq0 _ _ (qhm c s), qma c s]; simp; omega
theorem qkm : ∀ (r y z : List Str), dts y r = some z → wt z ≤ wt y + wt r
 | [], y, z, h => by rw [dts] at h; cases h; simp [wt]
 | e :: r, y, z, h => by
  rw [dts] at h
  rw [wt]
  split at h
  ·split at h
   ·cases h; rw [wt_app]; simp [wt]
    omega
   ·have := qkm r y z h; omega
  ·split at h
   ·split at h
    ·cases h
    ·rename_i hy
     have := qo2 y hy
     split at h
     ·cases h; rw [wt_app]; simp [wt]; omega
     ·have := qkm r _ z h; omega
   ·have := qkm r _ z h
    rw [wt_app] at this
    simp [wt] at this; omega
theorem qqa {a : Jl} (h : a.An.length + a.Ae.length + a.Af.length ≤ 100000) : ∃ t, Jcj a = some t ∧ t.length = txl a := by
 unfold Jcj txl
 cases a.HasQuery with
 | true =>
  rw [qrp rfl, qrp rfl, qa9 (by simp only [lim]; omega), qa9 (by simp only [lim, List.length_append, List.length_singleton]; omega), qa9 (by simp only [lim, List.length_append, List.length_singleton]; omega)]
  exact ⟨_, rfl, by simp only [List.length_append, List.length_singleton]⟩
 | false =>
  rw [qro (by simp), qro (by simp), qa9 (by simp only [lim]; omega)]
  exact ⟨_, rfl, List.length_append⟩
theorem qf1 {n : Nat} {h h' t : Str} (hh : Jcg h = some (h', none)) (hl : h'.length ≤ 1000) (ht : t.length ≤ 5000) (hn : 5000 < n) : JaJ n h t = some (prs h' t) := by
 unfold JaJ prs
 have lc := qiv 63 t
 rw [hh, qrn, qro (by simp), show qny t ([63] : Str) = some (Go.Lib.cut t [63]) from by unfold qny; rw [qrp (by rw [qkh]; omega)], qrn]
 generalize Go.Lib.cut t [63] = c at lc ⊢
 obtain ⟨c1, c2, c3⟩ := c
 dsimp only at lc ⊢
 have e47 : ((if decide (c1 = ([] : Str)) then some true else (ix c1 0).bind fun x37 => some (decide ((x37.toNat : Int) ≠ 47))) : Option Bool) = some (decide (c1.head? ≠ some 47)) := by
  cases c1 with
  | nil => rfl
  | cons b c1 =>
   rw [qro (by simp), show ix (b :: c1) 0 = some b from rfl, qrn]
   congr 1
   rw [decide_eq_decide]
   simp only [List.head?_cons, ne_eq, Option.some.injEq]
   constructor
   ·intro h e; subst e; exact h rfl
   ·intro h e; exact h (UInt8.toNat_inj.1 (by show b.toNat = 47; omega))
 rw [e47, qrn]
 by_cases q0 : c1.head? ≠ some 47
 ·rw [qrp (by simpa using q0), qrp q0]; rfl
 rw [qro (by simpa using q0), qro q0]
 rw [show ([33, 36, 38, 39, 40, 41, 42, 43, 44, 59, 61, 58, 64, 47] : Str) = oP from rfl, show ([33, 36, 38, 39, 40, 41, 42, 43, 44, 59, 61, 58, 64, 47, 63] : Str) = oQ from rfl, qn2 (by omega) (by omega), qrn, qn2 (by omega) (by omega), qrn]
 cases hp : can oP c1 with
 | none => rw [qrp (by simp)]; rfl
 | some p =>
  cases hq : can oQ c2 with
  | none => rw [qrp (by simp)]; rfl
  | some q =>
   dsimp only
   rw [qro (by simp)]
   have lp := qgs _ _ _ (Nat.le_refl _) hp
   have lq := qgs _ _ _ (Nat.le_refl _) hq
   have hne : 1 ≤ p.length := by
    cases c1 with
    | nil => simp at q0
    | cons b c1 =>
     obtain rfl : b = 47 := by simpa using q0
     rw [qhn (by decide) qnh] at hp
     obtain ⟨r', _, rfl⟩ := Option.map_eq_some_iff.1 hp
     simp
   have es : subL p (1 : Int) (p.length : Int) = p.drop 1 := by
    unfold subL
    simp [List.take_of_length_le]
   have ls : (p.drop 1).length ≤ 5000 := by rw [List.length_drop]; omega
   rw [qa9 (by omega), es, ql6 47 (by omega), qrn]
   have w1 := qma 47 (p.drop 1)
   have w2 := ql9 (spl 47 (p.drop 1))
   rw [qa9 (by simp only [qbh]; omega), qkl _ (by omega) _ 0 [] (by omega) (by simp), qrn]
   cases hz : dts [] (spl 47 (p.drop 1)) with
   | none => rfl
   | some z =>
    have w3 := qkm _ _ _ hz
    have w4 := ql9 z
    simp only [wt] at w3
    dsimp only [dtF, Fl.el]
    rw [show qip z ([47] : Str) = some (jn 47 z) from by unfold qip; rw [qp6, qrp (by simp only [lim]; omega)], qrn, qa9 (by simp only [lim, List.length_singleton]; omega)]
    obtain ⟨x, x1, x2⟩ := qqa (a := ⟨h', [47] ++ jn 47 z, q, c3⟩) (by simp only [List.length_append, List.length_singleton]; omega)
    rw [x1, qrn, x2]
    show (if decide ((txl ⟨h', 47 :: jn 47 z, q, c3⟩ : Int) > 1024) then _ else _) = _
    by_cases ql : txl ⟨h', 47 :: jn 47 z, q, c3⟩ > 1024
    ·rw [qrp (by simp; omega), qrp ql]; rfl
    ·rw [qro (by simp; omega), qro ql]; rfl
end Tn
