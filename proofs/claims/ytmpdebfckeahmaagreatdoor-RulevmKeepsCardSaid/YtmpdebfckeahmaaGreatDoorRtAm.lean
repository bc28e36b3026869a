import Derived.Test.YtmpdebfckeahmaaGreatDoorRtAll
set_option linter.unusedVariables false
set_option linter.unusedSimpArgs false
open Go Go.SL Go.Proofs Pl Vary
namespace Rt.Rv
def hd (p : Str) : List Str → List Str
 | [] => [p]
 | x :: r => (p ++ x) :: r
def spl (c : UInt8) : Str → List Str
 | [] => [[]]
 | b :: s => if b = c then [] :: spl c s else hd [b] (spl c s)
theorem qk2 (c : UInt8) (s : Str) : spl c s ≠ [] := by
 cases s with
 | nil => simp [spl]
 | cons b s =>
  rw [spl]
  split
  ·simp
  ·cases spl c s <;> simp [hd]
theorem qq6 {l : List Str} (h : l ≠ []) : hd [] l = l := by
 cases l with
 | nil => exact absurd rfl h
 | cons a b => rfl
theorem qvi (p q : Str) (l : List Str) : hd p (hd q l) = hd (p ++ q) l := by cases l <;> simp [hd]
theorem qsp (c b : UInt8) (l : Str) : ([c] : Str).isPrefixOf (b :: l) = (c == b) := by simp [List.isPrefixOf]
theorem qq7 (c : UInt8) (l : Str) : Go.Lib.index (c :: l) [c] = 0 := by rw [Go.Lib.index, qwx (by simp [List.isPrefixOf])]
theorem qnx {c b : UInt8} (h : b ≠ c) (l : Str) : Go.Lib.index (b :: l) [c] = if Go.Lib.index l [c] = -1 then -1 else Go.Lib.index l [c] + 1 := by
 have : (c == b) = false := by simp; exact fun e => h e.symm
 rw [Go.Lib.index, qsp, this]
 simp
theorem qpz {b c : UInt8} (h : b ≠ c) (k : Nat) (l : Str) : Go.Lib.splitK [c] 0 k (b :: l) = hd [b] (Go.Lib.splitK [c] 0 k l) := by
 cases k with
 | zero => rfl
 | succ k =>
  have hg := Go.Lib.index_ge l [c]
  rw [Go.Lib.splitK, Go.Lib.splitK, qnx h]
  by_cases q : Go.Lib.index l [c] = -1
  ·rw [q]; simp [hd]
  ·rw [qww q]
   have e : (Go.Lib.index l [c] + 1).toNat = (Go.Lib.index l [c]).toNat + 1 := by omega
   rw [qww (by simp; omega), qww (by simpa using q), e]
   simp [hd, Nat.add_right_comm]
theorem qk3 (c : UInt8) : ∀ s : Str, Go.Lib.split s [c] = spl c s
 | [] => by unfold Go.Lib.split; rw [Go.Lib.count_one]; rfl
 | b :: l => by
  have ih := qk3 c l
  unfold Go.Lib.split at ih ⊢
  rw [spl]
  by_cases q : b = c
  ·subst q
   rw [qwx rfl, Go.Lib.count_cons_eq, Nat.add_comm, Go.Lib.splitK, qq7, qww (by decide), ← ih]
   simp
  ·rw [qww q, Go.Lib.count_cons_ne b c l q, qpz q, ih]
theorem index_spl (c : UInt8) : ∀ s : Str, (Go.Lib.index s [c] = -1 ∧ spl c s = [s] ∧ c ∉ s) ∨ (∃ i : Nat, Go.Lib.index s [c] = i ∧ i < s.length ∧ spl c s = s.take i :: spl c (s.drop (i + 1)))
 | [] => .inl ⟨rfl, rfl, by simp⟩
 | b :: l => by
  by_cases q : b = c
  ·subst q
   exact .inr ⟨0, qq7 _ _, by simp, by rw [spl, qwx rfl]; simp⟩
  ·rcases index_spl c l with ⟨h1, h2, h3⟩ | ⟨i, h1, h2, h3⟩
   ·exact .inl ⟨by rw [qnx q, qwx h1], by rw [spl, qww q, h2]; rfl, by simp [h3]; exact fun e => q e.symm⟩
   ·refine .inr ⟨i + 1, by rw [qnx q, h1, qww (by omega)]; omega, by simp; omega, ?_⟩
    rw [spl, qww q, h3]
    simp [hd]
theorem qeq : qhq = 4294967281 := rfl
theorem qir {s : Str} (c : UInt8) (h : s.length ≤ 1000000) : qf8 s [c] = some (spl c s) := by
 unfold qf8
 rw [qwx ⟨by rw [qeq]; omega, by simp⟩, qk3]
def qlz (s : Str) : List Str := (spl 47 s).tail
theorem cut_spl (c : UInt8) (s : Str) : (Go.Lib.cut s [c] = (s, [], false) ∧ spl c s = [s]) ∨ (∃ i : Nat, i < s.length ∧ Go.Lib.cut s [c] = (s.take i, s.drop (i + 1), true) ∧ spl c s = s.take i :: spl c (s.drop (i + 1))) := by
 unfold Go.Lib.cut
 rcases index_spl c s with ⟨h1, h2, _⟩ | ⟨i, h1, h2, h3⟩
 ·left; rw [h1]; exact ⟨by simp, h2⟩
 ·right; rw [h1]; exact ⟨i, h2, by simp, h3⟩
theorem qny {s : Str} (h : s.length ≤ 1000000) : JbB s = some (qlz s) := by
 unfold JbB cutM qlz
 rw [qwx (by rw [qeq]; omega), qwv]
 rcases cut_spl 47 s with ⟨h1, h2⟩ | ⟨i, h2, h1, h3⟩
 ·rw [h1, h2]; rfl
 ·rw [h1, h3, qww (by simp)]
  simp only
  rw [qir 47 (by rw [List.length_drop]; omega)]; rfl
theorem qnz {a b : UInt8} : decide ((a.toNat : Int) = (b.toNat : Int)) = decide (a = b) := by
 rw [decide_eq_decide]
 exact ⟨fun e => UInt8.toNat_inj.1 (by omega), fun e => by rw [e]⟩
theorem qn0 (q p r : Str) : subL (q ++ p ++ r) (q.length : Int) ((q ++ p).length : Int) = p := by
 unfold subL
 rw [List.append_assoc, Int.toNat_natCast, List.drop_left, List.length_append]
 have : (((q.length + p.length : Nat) : Int) - (q.length : Int)).toNat = p.length := by omega
 rw [this, List.take_left]
theorem qn1 {c : UInt8} {s : Str} (hs : s.length ≤ 1000000) : ∀ (r q p : Str) (y : List Str), s = q ++ p ++ r → y.length ≤ q.length →
  ∃ z a, Jb3 c s r (q ++ p).length y (q.length : Int) = some (z, a) ∧ 0 ≤ a ∧ a ≤ (s.length : Int) ∧ z.length ≤ s.length ∧ z ++ [subL s a (s.length : Int)] = y ++ hd p (spl c r)
 | [], q, p, y, e, hy => by
  have hl : s.length = (q ++ p).length := by rw [e]; simp
  have hq : q.length ≤ s.length := by rw [hl]; simp
  refine ⟨y, q.length, rfl, by omega, by omega, by omega, ?_⟩
  rw [hl, e, qn0]; simp [spl, hd]
 | b :: r, q, p, y, e, hy => by
  have hl : s.length = q.length + p.length + (r.length + 1) := by rw [e]; simp; omega
  rw [Jb3, qnz]
  by_cases h : b = c
  ·subst h
   have hsub : subL s (q.length : Int) ((q ++ p).length : Int) = p := by rw [e, qn0]
   rw [qwx (by simp), qaa (by simp only [List.length_append]; omega), hsub, qaa (by simp only [lim, List.length_cons, List.length_nil]; omega)]
   have ih := qn1 (c := b) hs r (q ++ p ++ [b]) [] (y ++ [p]) (by rw [e]; simp) (by simp; omega)
   have e1 : ((q ++ p ++ [b]) ++ ([] : Str)).length = (q ++ p).length + 1 := by simp; omega
   have e2 : (((q ++ p ++ [b]).length : Nat) : Int) = ((q ++ p).length : Int) + 1 := by simp; omega
   rw [e1, e2] at ih
   obtain ⟨z, a, h1, h2, h3, h4, h5⟩ := ih
   refine ⟨z, a, h1, h2, h3, h4, ?_⟩
   rw [h5, spl, qwx rfl, qq6 (qk2 _ _)]; simp [hd]
  ·rw [qww (by simpa using h)]
   have ih := qn1 (c := c) hs r q (p ++ [b]) y (by rw [e]; simp) hy
   have e1 : (q ++ (p ++ [b])).length = (q ++ p).length + 1 := by simp; omega
   rw [e1] at ih
   obtain ⟨z, a, h1, h2, h3, h4, h5⟩ := ih
   refine ⟨z, a, h1, h2, h3, h4, ?_⟩
   rw [h5, spl, qww h, qvi]
theorem qn2 {s : Str} (c : UInt8) (hs : s.length ≤ 1000000) : JdY s c = some (spl c s) := by
 unfold JdY
 obtain ⟨z, a, h1, h2, h3, h4, h5⟩ := qn1 (c := c) hs s [] [] [] rfl (Nat.le_refl _)
 have h1' : Jb3 c s s 0 [] 0 = some (z, a) := h1
 rw [qaa (by simp only [qav]; omega), h1', qwv, qaa (by omega), qaa (by simp only [lim, List.length_cons, List.length_nil]; omega)]
 simp only
 rw [h5, qq6 (qk2 _ _)]; rfl
theorem qt9 (p : Str) {l : List Str} (h : l ≠ []) : (hd p l).length = l.length := by
 cases l with
 | nil => exact absurd rfl h
 | cons a b => rfl
theorem qgi (c : UInt8) : ∀ s : Str, 1 ≤ (spl c s).length ∧ (spl c s).length ≤ s.length + 1
 | [] => by simp [spl]
 | b :: l => by
  have := qgi c l
  rw [spl]
  split
  ·simp; omega
  ·rw [qt9 _ (qk2 _ _)]; simp; omega
theorem qjw (c : UInt8) : ∀ (s x : Str), x ∈ spl c s → x.length ≤ s.length
 | [], x, h => by simp [spl] at h; subst h; simp
 | b :: l, x, h => by
  have ih := qjw c l
  rw [spl] at h
  split at h
  ·rcases List.mem_cons.1 h with rfl | h
   ·simp
   ·have := ih x h; simp; omega
  ·cases e : spl c l with
   | nil => exact absurd e (qk2 _ _)
   | cons a r =>
    rw [e] at h ih
    rcases List.mem_cons.1 h with rfl | h
    ·have := ih a (by simp); simp; omega
    ·have := ih x (by simp [h]); simp; omega
theorem qp0 {s : Str} (hs : s.length ≤ 1000000) : JcS s = some (qlz s) := by
 unfold JcS qlz
 have h := qgi 47 s
 rw [qn2 47 hs, qwv, qaa (by omega)]
 congr 1
 unfold subL
 rw [show ((1 : Int)).toNat = 1 from rfl, List.drop_one, List.take_of_length_le (by rw [List.length_tail]; omega)]
theorem qp1 {s x : Str} (h : x ∈ qlz s) : x.length ≤ s.length := qjw _ _ _ (List.mem_of_mem_tail h)
theorem qk4 (s : Str) : (qlz s).length ≤ s.length := by have := qgi 47 s; unfold qlz; rw [List.length_tail]; omega
def argL (nm : Str) : List Str → Str
 | [] => []
 | x :: r => if Rc.hp x (nm ++ [61]) = true then x.drop (nm.length + 1) else argL nm r
def argB (nm : Str) : List Str → Bool
 | [] => false
 | x :: r => if Rc.hp x (nm ++ [61]) = true then true else argB nm r
theorem qk5 (x : Str) (n : Nat) : subL x ((n : Int) + 1) (x.length : Int) = x.drop (n + 1) := by
 unfold subL
 rw [show ((n : Int) + 1).toNat = n + 1 by omega, List.take_of_length_le (by rw [List.length_drop]; omega)]
theorem qq8 {nm : Str} (hn : nm.length ≤ 1000000) : ∀ (l : List Str) (i : Nat), Jbm nm l i = some (if argB nm l = true then Fl.ret (argL nm l, true) else Fl.go ())
 | [], i => rfl
 | x :: l, i => by
  have hpx : JV x (nm ++ ([61] : Str)) = some (Rc.hp x (nm ++ [61])) := by rw [qga, Rc.hp_eq]
  rw [Jbm, qaa (by simp only [lim, List.length_cons, List.length_nil]; omega), hpx, qwv, argL, argB]
  by_cases q : Rc.hp x (nm ++ [61]) = true
  ·have hl : nm.length + 1 ≤ x.length := by
    have := q; unfold Rc.hp at this; simp at this; omega
   rw [qwx q, qwx q, qwx q, qaa (by constructor <;> omega), qaa (by omega), qk5]; rfl
  ·rw [qww q, qww q, qww q, qq8 hn l (i + 1)]
theorem qua (x nm : Str) : Rc.hp x (nm ++ [61]) = ((decide ((x.length : Int) > (nm.length : Int)) && decide (x.take nm.length = nm)) && decide (x[nm.length]? = some 61)) := by
 unfold Rc.hp
 by_cases h : nm.length < x.length
 ·have e : x.take (nm ++ [61]).length = x.take nm.length ++ [x[nm.length]] := by
   rw [List.length_append, List.length_cons, List.length_nil, List.take_add_one, List.getElem?_eq_getElem h]; rfl
  rw [e, List.getElem?_eq_getElem h]
  have hl : decide (x.length ≥ (nm ++ [61]).length) = true := by simp; omega
  have hl2 : decide ((x.length : Int) > (nm.length : Int)) = true := by simp; omega
  rw [hl, hl2, Bool.true_and, Bool.true_and]
  have : (x.take nm.length ++ [x[nm.length]] = nm ++ [61]) ↔ (x.take nm.length = nm ∧ x[nm.length] = 61) := by
   constructor
   ·intro h2
    have h3 := List.append_inj h2 (by simp; omega)
    exact ⟨h3.1, by simpa using h3.2⟩
   ·rintro ⟨h1, h2⟩; rw [h1, h2]
  rw [decide_eq_decide.2 this, Bool.decide_and]
  simp
 ·have h1 : decide (x.length ≥ (nm ++ [61]).length) = false := by simp; omega
  have h2 : decide ((x.length : Int) > (nm.length : Int)) = false := by simp; omega
  rw [h1, h2]; rfl
theorem qn3 {nm : Str} (hn : nm.length ≤ 1000000) : ∀ (l : List Str) (i : Nat), JcM nm l i = some (if argB nm l = true then Fl.ret (argL nm l, true) else Fl.go ())
 | [], i => rfl
 | x :: l, i => by
  have hc : ((((if decide ((x.length : Int) > (nm.length : Int)) then (chk (0 ≤ (0 : Int) ∧ (0 : Int) ≤ (nm.length : Int) ∧ (nm.length : Int) ≤ (x.length : Int))).bind fun _ =>
    some (decide ((subL x (0 : Int) (nm.length : Int)) = nm)) else some false).bind fun x37 =>
    (if x37 then (ix x (nm.length : Int)).bind fun x45 => some (decide ((x45.toNat : Int) = 61)) else some false).bind fun x47 => some x47) : Option (Bool))) = some (Rc.hp x (nm ++ [61])) := by
   rw [qua]
   by_cases h : nm.length < x.length
   ·rw [qwx (by simpa using h), qaa (by omega), qwv, Rc.sub0, decide_eq_true (show (x.length : Int) > (nm.length : Int) by omega), Bool.true_and]
    by_cases h2 : x.take nm.length = nm
    ·rw [decide_eq_true h2, qwx rfl]
     unfold ix
     rw [qwx (by omega), Int.toNat_natCast, List.getElem?_eq_getElem h, qwv, qwv, Bool.true_and]
     have := @qnz (x[nm.length]) 61
     simpa using this
    ·rw [decide_eq_false h2, qww (by simp), qwv, Bool.false_and]
   ·rw [qww (by simpa using h), qwv, qww (by simp), decide_eq_false (by omega)]; rfl
  rw [JcM, hc, qwv, argL, argB]
  by_cases q : Rc.hp x (nm ++ [61]) = true
  ·have hl : nm.length + 1 ≤ x.length := by
    have := q; unfold Rc.hp at this; simp at this; omega
   rw [qwx q, qwx q, qwx q, qaa (by constructor <;> omega), qaa (by omega), qk5]; rfl
  ·rw [qww q, qww q, qww q, qn3 hn l (i + 1)]
def qsq (q nm : Str) : Str := argL nm (spl 38 q)
theorem qn4 {nm : Str} : ∀ {l : List Str}, argB nm l = false → argL nm l = []
 | [], _ => rfl
 | x :: l, h => by
  rw [argB] at h
  split at h
  ·cases h
  ·rename_i q; rw [argL, qww q]; exact qn4 h
theorem qk6 {nm : Str} {m : Nat} : ∀ {l : List Str}, (∀ x ∈ l, x.length ≤ m) → (argL nm l).length ≤ m
 | [], _ => Nat.zero_le _
 | x :: l, h => by
  rw [argL]
  split
  ·have := h x (by simp); rw [List.length_drop]; omega
  ·exact qk6 fun y hy => h y (by simp [hy])
theorem qp2 (q nm : Str) : (qsq q nm).length ≤ q.length := qk6 (qjw _ _)
theorem qq9 {q nm : Str} (hq : q.length ≤ 1000000) (hn : nm.length ≤ 1000000) : ∃ b, Jcx ⟨[], [], q, true⟩ nm = some (qsq q nm, b) := by
 have h := qgi 38 q
 unfold Jcx qsq
 rw [qww (by simp), qir 38 hq, qwv, qaa (by simp only [qav]; omega), qq8 hn, qwv]
 cases e : argB nm (spl 38 q) with
 | true => rw [qwx rfl]; exact ⟨_, rfl⟩
 | false => rw [qww (by simp), qn4 e]; exact ⟨_, rfl⟩
theorem qsr {q nm : Str} (hq : q.length ≤ 1000000) (hn : nm.length ≤ 1000000) : ∃ b, JeJ ⟨[], [], q, true⟩ nm = some (qsq q nm, b) := by
 have h := qgi 38 q
 unfold JeJ qsq
 rw [qww (by simp), qn2 38 hq, qwv, qaa (by simp only [qav]; omega), qn3 hn, qwv]
 cases e : argB nm (spl 38 q) with
 | true => rw [qwx rfl]; exact ⟨_, rfl⟩
 | false => rw [qww (by simp), qn4 e]; exact ⟨_, rfl⟩
theorem qp3 (s : Str) {i n : Nat} : subL s (i : Int) ((i : Int) + (n : Int)) = (s.drop i).take n := by
 unfold subL
 rw [Int.toNat_natCast, show ((i : Int) + (n : Int) - (i : Int)).toNat = n by omega]
theorem qgg {t s : Str} (hs : s.length ≤ 1000000) (ht : t.length ≤ 1000000) : ∀ (m i : Nat), s.length + 1 - i < m → i ≤ s.length + 1 → (∀ j, j < i → Go.Lib.occAt s t j = false) →
  ∃ r, JbR t s m (i : Int) = some r ∧ (Go.Lib.contains s t = true → r = .ret true) ∧ (Go.Lib.contains s t = false → ∃ z, r = .go z)
 | 0, i, h, _, _ => by omega
 | m + 1, i, h, hi, hn => by
  rw [JbR, qaa (by constructor <;> omega)]
  by_cases q : i + t.length ≤ s.length
  ·rw [qwx (by simp; omega), qaa (by constructor <;> omega), qaa (by omega), qp3]
   by_cases q2 : (s.drop i).take t.length = t
   ·rw [qwx (by simpa using q2)]
    have ho : Go.Lib.occAt s t i = true := by rw [Go.Lib.occAt_iff_take s t i q]; simpa using q2
    have hc : Go.Lib.contains s t = true := by
     unfold Go.Lib.contains
     rw [Go.Lib.index_first (by omega) ho hn]; simp
    exact ⟨_, rfl, fun _ => rfl, fun e => by rw [hc] at e; cases e⟩
   ·rw [qww (by simpa using q2), qaa (by constructor <;> omega)]
    have ho : Go.Lib.occAt s t i = false := by rw [Go.Lib.occAt_iff_take s t i q]; simpa using q2
    exact qgg hs ht m (i + 1) (by omega) (by omega) fun j hj => by
     by_cases e : j = i
     ·rw [e]; exact ho
     ·exact hn j (by omega)
  ·rw [qww (by simp; omega)]
   have hc : Go.Lib.contains s t = false := by
    unfold Go.Lib.contains
    rw [Go.Lib.index_none fun j hj => ?_]; · rfl
    by_cases e : j < i
    ·exact hn j e
    ·cases ho : Go.Lib.occAt s t j with
     | false => rfl
     | true =>
      rcases Go.Lib.occAt_room ho with h1 | h1
      ·omega
      ·subst h1; simp at q; omega
   exact ⟨_, rfl, (fun e => by rw [hc] at e; cases e), fun _ => ⟨_, rfl⟩⟩
theorem qp4 {n : Nat} {s t : Str} (hn : 1000002 ≤ n) (hs : s.length ≤ 1000000) (ht : t.length ≤ 1000000) : JcT n s t = some (Go.Lib.contains s t) := by
 unfold JcT
 obtain ⟨r, h1, h2, h3⟩ := qgg hs ht n 0 (by omega) (by omega) (fun j hj => by omega)
 rw [show (0 : Int) = ((0 : Nat) : Int) from rfl, h1, qwv]
 cases e : Go.Lib.contains s t with
 | true => rw [h2 e]; rfl
 | false => obtain ⟨z, rfl⟩ := h3 e; rfl
theorem qfc {s t : Str} (hs : s.length ≤ 1000000) : qc2 s t = some (Go.Lib.contains s t) := by
 unfold qc2; rw [qwx (by rw [qeq]; omega)]
theorem qgj : ∀ (m u : Nat), u < 10 ^ (m + 1) → (Go.Lib.decDigits u).length ≤ m + 1
 | 0, u, h => by rw [Go.Lib.decDigits, dif_pos (by omega)]; simp
 | m + 1, u, h => by
  rw [Go.Lib.decDigits]
  split
  ·simp
  ·have := qgj m (u / 10) (by rw [Nat.pow_succ] at h; omega)
   simp; omega
theorem qn5 (u : Nat) : qqr (48 + Int.tmod (u : Int) 10) = UInt8.ofNat (48 + u % 10) := by
 have e : Int.tmod (u : Int) 10 = ((u % 10 : Nat) : Int) := by rw [Int.tmod_eq_emod_of_nonneg (by omega)]; omega
 unfold qqr
 rw [e]
 congr 1
 omega
theorem qss : ∀ (m u : Nat) (k : Nat), u < 10 ^ (m + 1) → m ≤ 17 → m < k → Jbl k (u : Int) = some (Go.Lib.decDigits u)
 | m, u, 0, h, hm, hk => by omega
 | 0, u, k + 1, h, hm, hk => by
  have hu : u < 10 := by omega
  have e : Int.tmod (u : Int) 10 = ((u % 10 : Nat) : Int) := by rw [Int.tmod_eq_emod_of_nonneg (by omega)]; omega
  rw [Jbl, qww (by simp), qaa (by rw [e]; constructor <;> omega), qwx (by simp; omega), qn5, Go.Lib.decDigits, dif_pos hu, Nat.mod_eq_of_lt hu]
 | m + 1, u, k + 1, h, hm, hk => by
  have e : Int.tmod (u : Int) 10 = ((u % 10 : Nat) : Int) := by rw [Int.tmod_eq_emod_of_nonneg (by omega)]; omega
  have e2 : Int.tdiv (u : Int) 10 = ((u / 10 : Nat) : Int) := by rw [Int.tdiv_eq_ediv_of_nonneg (by omega)]; omega
  have hp : (10 : Nat) ^ (m + 1 + 1) ≤ 10 ^ 19 := Nat.pow_le_pow_right (by decide) (by omega)
  rw [Jbl, qww (by simp), qaa (by rw [e]; constructor <;> omega), Go.Lib.decDigits]
  by_cases hu : u < 10
  ·rw [qwx (by simp; omega), qn5, dif_pos hu, Nat.mod_eq_of_lt hu]
  ·have hu2 : u / 10 < 10 ^ (m + 1) := by rw [Nat.pow_succ] at h; omega
   have hp2 : (10 : Nat) ^ (m + 1) ≤ 10 ^ 18 := Nat.pow_le_pow_right (by decide) (by omega)
   have hl := qgj m (u / 10) hu2
   rw [qww (by simp; omega), e2, qaa ⟨by decide, by constructor <;> omega⟩, qss m (u / 10) k hu2 (by omega) (by omega), qwv, qaa (by simp only [lim, List.length_cons, List.length_nil]; omega), qn5, dif_neg hu]
theorem qub {n : Nat} {x : Int} (hn : 30 ≤ n) (h0 : -1099511627776 ≤ x) (h1 : x ≤ 1099511627776) : Jbl n x = some (Go.Lib.itoa x) := by
 unfold Go.Lib.itoa
 by_cases q : x < 0
 ·obtain ⟨k, rfl⟩ : ∃ k, n = k + 1 := ⟨n - 1, by omega⟩
  obtain ⟨u, hu⟩ : ∃ u : Nat, -x = (u : Int) := ⟨(-x).toNat, by omega⟩
  have h10 : (10 : Nat) ^ (17 + 1) = 1000000000000000000 := by decide
  have hu2 : u < 10 ^ (17 + 1) := by omega
  have hl := qgj 17 u hu2
  rw [Jbl, qwx (by simpa using q), qaa (by constructor <;> omega), hu, qss 17 u k hu2 (by omega) (by omega), qwv, qaa (by simp only [lim, List.length_cons, List.length_nil]; omega), qwx q, show x.natAbs = u by omega]
  rfl
 ·obtain ⟨u, hu⟩ : ∃ u : Nat, x = (u : Int) := ⟨x.toNat, by omega⟩
  have h10 : (10 : Nat) ^ (17 + 1) = 1000000000000000000 := by decide
  have hu2 : u < 10 ^ (17 + 1) := by omega
  rw [qww q, hu, Int.toNat_natCast, qss 17 u n hu2 (by omega) (by omega)]
theorem qp5 {x : Int} (h0 : -1099511627776 ≤ x) (h1 : x ≤ 1099511627776) : (Go.Lib.itoa x).length ≤ 20 := by
 unfold Go.Lib.itoa
 have hp : (10 : Nat) ^ (17 + 1) = 1000000000000000000 := by decide
 split
 ·have := qgj 17 x.natAbs (by omega); simp; omega
 ·have := qgj 17 x.toNat (by omega); omega
theorem qk7 {x : Int} (h0 : -1099511627776 ≤ x) (h1 : x ≤ 1099511627776) : qls x = some (Go.Lib.itoa x) := by
 unfold qls; rw [qwx (by constructor <;> omega)]
def dig (c : UInt8) : Bool := !(decide ((c.toNat : Int) < 48) || decide ((c.toNat : Int) > 57))
def nst (n : Int) (c : UInt8) : Int := 10 * n + ((c - (48 : UInt8)).toNat : Int)
def qp6 (s : Str) : Int := if s.length ≤ 15 ∧ s.all dig = true then s.foldl nst 0 else 0
theorem qra (c : UInt8) : (if decide ((c.toNat : Int) < 48) then some true else some (decide ((c.toNat : Int) > 57))) = some (!dig c) := by
 unfold dig; cases decide ((c.toNat : Int) < 48) <;> simp
theorem qjx {c : UInt8} (h : dig c = true) : 0 ≤ ((c - (48 : UInt8)).toNat : Int) ∧ ((c - (48 : UInt8)).toNat : Int) ≤ 9 := by
 unfold dig at h
 simp at h
 have h48 : (48 : UInt8) ≤ c := by rw [UInt8.le_iff_toNat_le]; simp; omega
 rw [UInt8.toNat_sub_of_le _ _ h48]
 simp; omega
theorem qrb {i : Nat} {y : Int} {c : UInt8} (hc : dig c = true) (h0 : 0 ≤ y) (h1 : y < 10 ^ i) : 0 ≤ nst y c ∧ nst y c < 10 ^ (i + 1) := by
 have := qjx hc
 unfold nst
 rw [Int.pow_succ]
 omega
theorem p15 {i : Nat} (h : i ≤ 15) : (10 : Int) ^ i ≤ 1000000000000000 := by
 have h1 : (10 : Nat) ^ i ≤ 10 ^ 15 := Nat.pow_le_pow_right (by decide) h
 have h2 : ((10 ^ i : Nat) : Int) = (10 : Int) ^ i := by rw [Int.natCast_pow]; rfl
 rw [← h2]
 have h3 : (10 : Nat) ^ 15 = 1000000000000000 := by decide
 omega
theorem qrc : ∀ (r : Str) (i : Nat) (j : Nat) (y : Int), 0 ≤ y → y < 10 ^ i → i + r.length ≤ 15 → JaU r j y = some (if r.all dig = true then .go (r.foldl nst y) else .ret 0)
 | [], i, j, y, _, _, _ => rfl
 | c :: r, i, j, y, h0, h1, h => by
  simp only [List.length_cons] at h
  rw [JaU, qra, qwv, List.all_cons]
  cases q : dig c with
  | false => rw [qwx (by simp)]; simp
  | true =>
   have hb := qrb q h0 h1
   have hp := p15 (show i ≤ 15 by omega)
   have hp1 := p15 (show i + 1 ≤ 15 by omega)
   have hd := qjx q
   have e : (10 * y) + ((c - (48 : UInt8)).toNat : Int) = nst y c := rfl
   rw [qww (by simp), qaa (by constructor <;> omega), e, qaa (by constructor <;> omega), qrc r (i + 1) (j + 1) _ hb.1 hb.2 (by omega), Bool.true_and, List.foldl_cons]
theorem qst (s : Str) : JbP s = some (qp6 s) := by
 unfold JbP qp6
 by_cases q : s.length < 1 ∨ s.length > 15
 ·rw [qwx (by simp; omega)]
  rcases q with q | q
  ·have : s = [] := List.length_eq_zero_iff.1 (by omega)
   subst this; rfl
  ·rw [qww (by omega)]
 ·rw [qww (by simp; omega), qaa (by simp only [qav]; omega), qrc s 0 0 0 (by omega) (by decide) (by omega), qwv]
  by_cases q2 : s.all dig = true
  ·rw [qwx q2, qwx ⟨by omega, q2⟩]; rfl
  ·rw [qww q2, qww (by simp [q2])]; rfl
theorem qn6 {s : Str} (hs : s.length ≤ 1000000) : ∀ (m j : Nat) (y : Int), 0 ≤ y → y < 10 ^ j → j ≤ 15 → j ≤ s.length → s.length - j < m →
  Jcf s m y (j : Int) = some (if s.length ≤ 15 ∧ (s.drop j).all dig = true then .go ((s.drop j).foldl nst y, (s.length : Int)) else .ret 0)
 | 0, j, y, _, _, _, _, h => by omega
 | m + 1, j, y, h0, h1, hj, hl, h => by
  rw [Jcf]
  by_cases q : j < s.length
  ·have hix : ix s (j : Int) = some s[j] := by unfold ix; rw [qwx (by omega), Int.toNat_natCast, List.getElem?_eq_getElem q]
   have hc : (((ix s (j : Int)).bind fun x13 =>
     (if decide ((x13.toNat : Int) < 48) then some true else (ix s (j : Int)).bind fun x18 => some (decide ((x18.toNat : Int) > 57))).bind fun x20 =>
     some (x20 || decide ((j : Int) = 15))) : Option (Bool)) = some (!dig s[j] || decide ((j : Int) = 15)) := by
    rw [hix, qwv, qwv, qra, qwv]
   rw [qwx (by simpa using q), hc, qwv, hix, List.drop_eq_getElem_cons q, List.all_cons, List.foldl_cons]
   cases qd : dig s[j] with
   | false => rw [qwx (by simp), qww (by simp)]
   | true =>
    by_cases q15 : j = 15
    ·rw [qwx (by simp; omega), qww (by omega)]
    ·have hb := qrb qd h0 h1
     have hp := p15 (show j ≤ 15 by omega)
     have hp1 := p15 (show j + 1 ≤ 15 by omega)
     have hd := qjx qd
     have e : (10 * y) + ((s[j] - (48 : UInt8)).toNat : Int) = nst y s[j] := rfl
     rw [qww (by simp; omega), qaa (by constructor <;> omega), qwv, e, qaa (by constructor <;> omega), qaa (by constructor <;> omega)]
     have ih := qn6 hs m (j + 1) (nst y s[j]) hb.1 hb.2 (by omega) (by omega) (by omega)
     rw [show ((j : Int) + 1) = ((j + 1 : Nat) : Int) by omega, ih, Bool.true_and]
  ·have e : j = s.length := by omega
   subst e
   rw [qww (by simp), List.drop_length, qwx ⟨hj, rfl⟩]; rfl
theorem qvj {n : Nat} {s : Str} (hn : 1000002 ≤ n) (hs : s.length ≤ 1000000) : JcN n s = some (qp6 s) := by
 unfold JcN qp6
 have h := qn6 hs n 0 0 (by omega) (by decide) (by omega) (by omega) (by omega)
 rw [show ((0 : Nat) : Int) = 0 from rfl] at h
 rw [h, qwv, List.drop_zero]
 by_cases q : s.length ≤ 15 ∧ s.all dig = true
 ·rw [qwx q, qwx q]; rfl
 ·rw [qww q, qww q]; rfl
theorem qgk : ∀ (r p : Str), JaD r.length p.length (p ++ r) = some (p ++ low r)
 | [], p => by simp [JaD, low]
 | c :: r, p => by
  rw [List.length_cons, JaD, qq3, qwv]
  have hl : (p ++ [lowB c]).length = p.length + 1 := by simp
  by_cases q : (decide ((c.toNat : Int) ≥ 65) && decide ((c.toNat : Int) ≤ 90)) = true
  ·have e : lowB c = c + 32 := by unfold lowB; rw [qwx q]
   rw [qwx q, qwv, qnr, ← e, ← hl, qgk r (p ++ [lowB c])]; simp [low]
  ·have e : lowB c = c := by unfold lowB; rw [qww q]
   have e2 : p ++ c :: r = (p ++ [lowB c]) ++ r := by rw [e]; simp
   rw [qww q, e2, ← hl, qgk r (p ++ [lowB c])]; simp [low]
theorem qrd {s : Str} (h : s.length ≤ 1073741824) : Jco s = some (low s) := by
 unfold Jco
 have := qgk s []
 simp only [List.length_nil, List.nil_append] at this
 rw [qaa (by simp only [lim]; omega), qaa (by constructor <;> omega), Int.toNat_natCast, this]; rfl
theorem low_len (s : Str) : (low s).length = s.length := by simp [low]
theorem qn7 (sep : Str) : ∀ l : List Str, (jt sep l).length ≤ sep.length * l.length + ql7 l
 | [] => by simp [qq4]
 | x :: l => by
  have := qn7 sep l
  rw [qnv, qeo, List.length_append, List.length_append, List.length_cons, Nat.mul_succ]
  omega
theorem qsu (sep : Str) (l : List Str) : (jn l sep).length ≤ sep.length * l.length + ql7 l := by
 cases l with
 | nil => rw [qt6]; simp
 | cons x l =>
  have := qn7 sep l
  rw [qju, qeo, List.length_append, List.length_cons, Nat.mul_succ]; omega
def qoq (f : List RF) (nm : Str) : Str := jn (vals f nm) [44, 32]
theorem qhv (f : List RF) (nm : Str) : (qoq f nm).length ≤ 3 * tot f := by
 have h1 := qsu [44, 32] (vals f nm)
 have h2 := qep nm f
 have h3 := qfj (vals f nm)
 unfold qoq
 simp only [List.length_cons, List.length_nil] at h1
 omega
theorem qk8 {f : List RF} {nm : Str} (h : tot f ≤ 1000000) (hn : nm.length ≤ 1000000) : JcV (ffs f) nm = some (qoq f nm, decide (((vals f nm).length : Int) > 0)) := by
 have h1 := qhv f nm
 have h2 := qep nm f
 have h3 := qfj (vals f nm)
 unfold qoq at h1
 unfold JcV qoq
 rw [qwn h hn, qwv, qsm (by omega) (by omega), qwv]
theorem qre : ∀ (l : List Str) (i : Nat) (y : Str), 0 < i → y.length + (jt [44, 32] l).length ≤ 100000000 → JbM l i y = some (y ++ jt [44, 32] l)
 | [], i, y, _, _ => by simp [JbM, qq4]
 | x :: l, i, y, hi, h => by
  rw [qnv] at h ⊢
  simp only [List.length_append, List.length_cons, List.length_nil] at h
  rw [JbM, qwx (by simpa using hi), qaa (by simp only [lim, List.length_cons, List.length_nil]; omega), qaa (by simp only [lim, List.length_append, List.length_cons, List.length_nil]; omega), qre l (i + 1) _ (by omega) (by simp only [List.length_append, List.length_cons, List.length_nil]; omega)]
  simp
theorem qn8 {f : List RF} {nm : Str} (h : tot f ≤ 1000000) (hn : nm.length ≤ 1000000) : JdZ f nm = some (qoq f nm, decide (((vals f nm).length : Int) > 0)) := by
 have h1 := qhv f nm
 have h2 := qep nm f
 have h3 := qfj (vals f nm)
 unfold qoq at h1
 unfold JdZ qoq
 rw [qwo h hn, qwv, qaa (by simp only [qav]; omega)]
 cases e : vals f nm with
 | nil => rfl
 | cons x l =>
  rw [e, qju] at h1
  simp only [List.length_append] at h1
  rw [JbM, qww (by simp), qaa (by simp only [lim, List.length_nil]; omega), qre l _ _ (by omega) (by simp; omega), qju]; rfl
abbrev V1 := Jd
abbrev V2 := Jq
abbrev In1 := JB
abbrev In2 := Js
def clip (n : Int) : Int := max (-1099511627776) (min n 1099511627776)
theorem qn9 (n : Int) : -1099511627776 ≤ clip n ∧ clip n ≤ 1099511627776 := by unfold clip; omega
def nm' (n : Int) : V1 := ⟨2, clip n, [], false⟩
def tx' (s : Str) : V1 := ⟨1, 0, s, false⟩
def tr' (b : Bool) : V1 := ⟨3, 0, [], b⟩
def cv2 (x : V1) : V2 := ⟨x.kind, x.n, x.s, x.At⟩
def inp (i : In2) : In1 := ⟨i.Am, i.An, i.Ae, i.Af, ffs i.Ao⟩
structure IOK (i : In2) : Prop where
 m : i.Am.length ≤ 10000
 h : i.An.length ≤ 10000
 p : i.Ae.length ≤ 10000
 q : i.Af.length ≤ 10000
 f : tot i.Ao ≤ 10000
def VOK (m : Nat) (x : V1) : Prop := x.s.length ≤ m ∧ -1099511627776 ≤ x.n ∧ x.n ≤ 1099511627776
theorem qp7 (n : Int) : JaH n = some (nm' n) := rfl
theorem quc (s : Str) : Jac s = some (tx' s) := rfl
theorem qis (b : Bool) : Jat b = some (tr' b) := rfl
theorem qtc (n : Int) : JbW n = some (cv2 (nm' n)) := rfl
theorem qvk (s : Str) : JaT s = some (cv2 (tx' s)) := rfl
theorem ql0 (m : Nat) (n : Int) : VOK m (nm' n) := ⟨Nat.zero_le _, (qn9 n).1, (qn9 n).2⟩
theorem qgo (m : Nat) (b : Bool) : VOK m (tr' b) := ⟨Nat.zero_le _, by simp [tr'], by simp [tr']⟩
theorem qfe {m : Nat} {s : Str} (h : s.length ≤ m) : VOK m (tx' s) := ⟨h, by simp [tx'], by simp [tx']⟩
theorem qoa (a b : Int) : 0 ≤ max a (-a) * max b (-b) ∧ ((decide (a < 0) == decide (b < 0)) = true → a * b = max a (-a) * max b (-b)) ∧ ((decide (a < 0) == decide (b < 0)) = false → a * b = -(max a (-a) * max b (-b))) := by
 have ha : 0 ≤ max a (-a) := by omega
 have hb : 0 ≤ max b (-b) := by omega
 refine ⟨Int.mul_nonneg ha hb, ?_, ?_⟩
 ·intro h
  by_cases qa : a < 0 <;> by_cases qb : b < 0
  ·rw [show max a (-a) = -a by omega, show max b (-b) = -b by omega, Int.neg_mul_neg]
  ·simp [qa, qb] at h
  ·simp [qa, qb] at h
  ·rw [show max a (-a) = a by omega, show max b (-b) = b by omega]
 ·intro h
  by_cases qa : a < 0 <;> by_cases qb : b < 0
  ·simp [qa, qb] at h
  ·rw [show max a (-a) = -a by omega, show max b (-b) = b by omega, Int.neg_mul, Int.neg_neg]
  ·rw [show max a (-a) = a by omega, show max b (-b) = -b by omega, Int.mul_neg, Int.neg_neg]
  ·simp [qa, qb] at h
theorem qob {a b : Int} (a0 : -1099511627776 ≤ a) (a1 : a ≤ 1099511627776) (b0 : -1099511627776 ≤ b) (b1 : b ≤ 1099511627776) : JbV a b = some (nm' (a * b)) := by
 unfold JbV
 by_cases q0 : a = 0 ∨ b = 0
 ·rw [qwx (by simpa using q0), qp7, qwv]
  rcases q0 with rfl | rfl <;> simp
 ·rw [qww (by simpa using q0), qaa (by constructor <;> omega), qaa (by constructor <;> omega)]
  obtain ⟨p0, p1, p2⟩ := qoa a b
  have hx : 0 < max a (-a) := by omega
  have hy : 0 < max b (-b) := by omega
  have hx1 : max a (-a) ≤ 1099511627776 := by omega
  have hy1 : max b (-b) ≤ 1099511627776 := by omega
  have hng : (!(decide (a < 0) == decide (b < 0))) = true ↔ (decide (a < 0) == decide (b < 0)) = false := by simp
  generalize max a (-a) = x at *
  generalize max b (-b) = y at *
  have ed : Int.tdiv 1099511627776 y = 1099511627776 / y := Int.tdiv_eq_ediv_of_nonneg (by omega)
  have hq0 : 0 ≤ 1099511627776 / y := Int.ediv_nonneg (by omega) (by omega)
  have hq1 : 1099511627776 / y ≤ 1099511627776 := Int.ediv_le_self _ (by omega)
  rw [ed, qaa ⟨by omega, by omega, by omega⟩]
  by_cases q : x > 1099511627776 / y
  ·have hxy : 1099511627776 < x * y := (Int.ediv_lt_iff_lt_mul hy).1 q
   rw [qwx (by simpa using q), qwv]
   by_cases qs : (decide (a < 0) == decide (b < 0)) = true
   ·rw [qww (by simp [qs]), qaa (by decide), qp7, qwv, p1 qs]
    congr 1
    unfold nm' clip; congr 1; omega
   ·have qs : (decide (a < 0) == decide (b < 0)) = false := by simpa using qs
    rw [qwx (hng.2 qs), qaa (by decide), qaa (by decide), qp7, qwv, p2 qs]
    congr 1
    unfold nm' clip; congr 1; omega
  ·have hxy : x * y ≤ 1099511627776 := by
    by_cases w : 1099511627776 < x * y
    ·exact absurd ((Int.ediv_lt_iff_lt_mul hy).2 w) q
    ·omega
   rw [qww (by simpa using q), qwv]
   by_cases qs : (decide (a < 0) == decide (b < 0)) = true
   ·rw [qww (by simp [qs]), qaa (by simp only; constructor <;> omega), qp7, qwv, p1 qs]
   ·have qs : (decide (a < 0) == decide (b < 0)) = false := by simpa using qs
    rw [qwx (hng.2 qs), qaa (by simp only; constructor <;> omega), qaa (by simp only; rw [Int.neg_mul]; constructor <;> omega), qp7, qwv, p2 qs]
    simp only [Int.neg_mul]
theorem qp8 {a b : Int} (a0 : -1099511627776 ≤ a) (a1 : a ≤ 1099511627776) (b0 : -1099511627776 ≤ b) (b1 : b ≤ 1099511627776) : Jda a b = some (cv2 (nm' (a * b))) := by
 unfold Jda
 by_cases q0 : a = 0
 ·subst q0
  rw [qww (by simp), qwv, qww (by simp), Int.zero_mul, qaa (by decide), qtc]; rfl
 ·obtain ⟨p0, p1, p2⟩ := qoa a b
  have hx : 0 < max a (-a) := by omega
  have hx1 : max a (-a) ≤ 1099511627776 := by omega
  have hy0 : 0 ≤ max b (-b) := by omega
  have ed : Int.tdiv 2199023255552 (max a (-a)) = 2199023255552 / max a (-a) := Int.tdiv_eq_ediv_of_nonneg (by omega)
  have hq0 : 0 ≤ 2199023255552 / max a (-a) := Int.ediv_nonneg (by omega) (by omega)
  have hq1 : 2199023255552 / max a (-a) ≤ 2199023255552 := Int.ediv_le_self _ (by omega)
  have hc : ((if decide (a ≠ 0) then
   (chk (InI (-a))).bind fun _ =>
   (chk ((max a (-a)) ≠ 0 ∧ InI (Int.tdiv 2199023255552 (max a (-a))))).bind fun _ =>
   (if decide (b > (Int.tdiv 2199023255552 (max a (-a)))) then some true else (chk (InI (-a))).bind fun _ =>
   (chk ((max a (-a)) ≠ 0 ∧ InI (Int.tdiv 2199023255552 (max a (-a))))).bind fun _ =>
   (chk (InI (-(Int.tdiv 2199023255552 (max a (-a)))))).bind fun _ =>
   some (decide (b < (-(Int.tdiv 2199023255552 (max a (-a))))))).bind fun x24 =>
   some x24
   else
   some false) : Option (Bool)) = some (decide (max b (-b) > 2199023255552 / max a (-a))) := by
   rw [ed, qwx (by simpa using q0), qaa (by constructor <;> omega), qaa ⟨by omega, by omega, by omega⟩]
   by_cases q : b > 2199023255552 / max a (-a)
   ·rw [qwx (by simpa using q), qwv, decide_eq_true (by omega)]
   ·rw [qww (by simpa using q), qaa (by constructor <;> omega), qaa ⟨by omega, by omega, by omega⟩, qaa (by constructor <;> omega), qwv]
    congr 1
    rw [decide_eq_decide]; omega
  rw [hc, qwv]
  by_cases q : max b (-b) > 2199023255552 / max a (-a)
  ·have hxy : 2199023255552 < max a (-a) * max b (-b) := by rw [Int.mul_comm]; exact (Int.ediv_lt_iff_lt_mul hx).1 q
   have hb0 : b ≠ 0 := fun e => by subst e; omega
   rw [qwx (by simpa using q)]
   have es : (decide (a > 0) == decide (b > 0)) = (decide (a < 0) == decide (b < 0)) := by
    by_cases qa : a < 0 <;> by_cases qb : b < 0
    ·rw [decide_eq_false (show ¬ a > 0 by omega), decide_eq_false (show ¬ b > 0 by omega), decide_eq_true qa, decide_eq_true qb]; rfl
    ·rw [decide_eq_false (show ¬ a > 0 by omega), decide_eq_true (show b > 0 by omega), decide_eq_true qa, decide_eq_false qb]; rfl
    ·rw [decide_eq_true (show a > 0 by omega), decide_eq_false (show ¬ b > 0 by omega), decide_eq_false qa, decide_eq_true qb]; rfl
    ·rw [decide_eq_true (show a > 0 by omega), decide_eq_true (show b > 0 by omega), decide_eq_false qa, decide_eq_false qb]; rfl
   rw [es]
   by_cases qs : (decide (a < 0) == decide (b < 0)) = true
   ·rw [qwx qs, qtc, qwv, p1 qs]
    congr 2
    unfold nm' clip; congr 1; omega
   ·have qs : (decide (a < 0) == decide (b < 0)) = false := by simpa using qs
    rw [qww (by simp [qs]), qtc, qwv, p2 qs]
    congr 2
    unfold nm' clip; congr 1; omega
  ·have hxy : max a (-a) * max b (-b) ≤ 2199023255552 := by
    by_cases w : 2199023255552 < max a (-a) * max b (-b)
    ·exact absurd ((Int.ediv_lt_iff_lt_mul hx).2 (by rw [Int.mul_comm]; exact w)) q
    ·omega
   have hin : InI (a * b) := by
    by_cases qs : (decide (a < 0) == decide (b < 0)) = true
    ·rw [p1 qs]; constructor <;> omega
    ·rw [p2 (by simpa using qs)]; constructor <;> omega
   rw [qww (by simpa using q), qaa hin, qtc]; rfl
theorem qp9 {n m : Nat} {nm : Str} {x : V1} {i : In2} (hn : 1000002 ≤ n) (hm : m ≤ 20000) (hi : IOK i) (hx : VOK m x) :
  ∃ v ok, JE nm x (inp i) = some (v, ok) ∧ (∃ w, Ja6 n nm (cv2 x) i = some (w, ok) ∧ (ok = true → w = cv2 v)) ∧ (ok = true → VOK 40000 v) := by
 obtain ⟨hx0, hx1, hx2⟩ := hx
 have hsg := qk4 i.Ae
 have hip := hi.p
 have hsl : x.s.length ≤ 1000000 := by omega
 have hft : tot i.Ao ≤ 1000000 := by have := hi.f; omega
 have hgl := qhv i.Ao x.s
 have hif := hi.f
 have hs2 : (cv2 x).N = x.n := rfl
 have main2 : ∀ {b : V1}, VOK 40000 b → ∀ {o1 : Option (V1 × Bool)} {o2 : Option (V2 × Bool)}, o1 = (if decide (x.kind ≠ 2) = true then some (⟨0, 0, [], false⟩, false) else some (b, true)) → (∃ w, o2 = some (w, decide ((cv2 x).As = 2)) ∧ (x.kind = 2 → w = cv2 b)) →
   ∃ v ok, o1 = some (v, ok) ∧ (∃ w, o2 = some (w, ok) ∧ (ok = true → w = cv2 v)) ∧ (ok = true → VOK 40000 v) := by
  rintro b hb o1 o2 h1 ⟨w, h2, h3⟩
  by_cases k : x.kind = 2
  ·rw [qww (by simpa using k)] at h1
   rw [decide_eq_true (show (cv2 x).As = 2 from k)] at h2
   exact ⟨_, _, h1, ⟨_, h2, fun _ => h3 k⟩, fun _ => hb⟩
  ·rw [qwx (by simpa using k)] at h1
   rw [decide_eq_false (show ¬ (cv2 x).As = 2 from k)] at h2
   exact ⟨_, _, h1, ⟨_, h2, fun h => by cases h⟩, fun h => by cases h⟩
 by_cases q1 : nm = [112, 97, 114, 116]
 ·subst q1
  have e1 : JE [112, 97, 114, 116] x (inp i) = if decide (x.kind ≠ 2) = true then some (⟨0, 0, [], false⟩, false) else if (decide (x.n < 0) || decide (x.n ≥ ((qlz i.Ae).length : Int))) = true then some (tx' [], true) else (ix (qlz i.Ae) x.n).bind fun z => some (tx' z, true) := by
   unfold JE
   rw [qwx (by decide), qww (show ¬ decide (([112, 97, 114, 116] : Str) = [116, 101, 120, 116]) = true by decide), show (inp i).Ae = i.Ae from rfl, qny (by omega)]
   rfl
  have e2 : Ja6 n [112, 97, 114, 116] (cv2 x) i = if ((decide ((cv2 x).As = 2) && decide (x.n ≥ 0)) && decide (x.n < ((qlz i.Ae).length : Int))) = true then (ix (qlz i.Ae) x.n).bind fun z => some (cv2 (tx' z), true) else some (cv2 (tx' []), decide ((cv2 x).As = 2)) := by
   unfold Ja6
   rw [qwx (by decide), qp0 (by omega)]
   rfl
  by_cases r : 0 ≤ x.n ∧ x.n < (qlz i.Ae).length
  ·obtain ⟨z, hz⟩ := qcm r.1 r.2
   have hzl : z.length ≤ i.Ae.length := by
    unfold ix at hz
    rw [qwx r.1] at hz
    exact qp1 (List.mem_of_getElem? hz)
   rw [hz, qwv] at e1 e2
   refine main2 (b := tx' z) (qfe (by omega)) ?_ ?_
   ·rw [e1]; congr 1; rw [qww (by simp; omega)]
   ·rw [e2]
    by_cases k : x.kind = 2
    ·rw [qwx (by simp [cv2, k]; omega)]
     exact ⟨_, by rw [decide_eq_true (show (cv2 x).As = 2 from k)], fun _ => rfl⟩
    ·rw [qww (by simp [cv2, k])]
     exact ⟨_, rfl, fun h => absurd h k⟩
  ·refine main2 (b := tx' []) (qfe (by simp)) ?_ ?_
   ·rw [e1]; congr 1; rw [qwx (by simp; omega)]
   ·rw [e2, qww (by simp; omega)]
    exact ⟨_, rfl, fun _ => rfl⟩
 by_cases q2 : nm = [116, 101, 120, 116]
 ·subst q2
  have hil := qp5 hx1 hx2
  refine main2 (b := tx' (Go.Lib.itoa x.n)) (qfe (by omega)) ?_ ?_
  ·unfold JE
   rw [qwx (by decide), qwx (show decide (([116, 101, 120, 116] : Str) = [116, 101, 120, 116]) = true by decide), qk7 hx1 hx2]; rfl
  ·unfold Ja6
   rw [qww (by decide), qwx (by decide), hs2, qub (by omega) hx1 hx2]
   exact ⟨_, rfl, fun _ => rfl⟩
 have hs : (cv2 x).S = x.s := rfl
 have main : ∀ {b : V1}, VOK 40000 b → ∀ {o1 : Option (V1 × Bool)} {o2 : Option (V2 × Bool)}, o1 = (if decide (x.kind ≠ 1) = true then some (⟨0, 0, [], false⟩, false) else some (b, true)) → o2 = some (cv2 b, decide ((cv2 x).As = 1)) →
   ∃ v ok, o1 = some (v, ok) ∧ (∃ w, o2 = some (w, ok) ∧ (ok = true → w = cv2 v)) ∧ (ok = true → VOK 40000 v) := by
  intro b hb o1 o2 h1 h2
  by_cases k : x.kind = 1
  ·rw [qww (by simpa using k)] at h1
   rw [decide_eq_true (show (cv2 x).As = 1 from k)] at h2
   exact ⟨_, _, h1, ⟨_, h2, fun _ => rfl⟩, fun _ => hb⟩
  ·rw [qwx (by simpa using k)] at h1
   rw [decide_eq_false (show ¬ (cv2 x).As = 1 from k)] at h2
   exact ⟨_, _, h1, ⟨_, h2, fun h => by cases h⟩, fun h => by cases h⟩
 by_cases q3 : nm = [104, 101, 97, 100, 101, 114]
 ·subst q3
  refine main (b := tx' (qoq i.Ao x.s)) (qfe (by omega)) ?_ ?_
  ·unfold JE
   rw [qww (by decide)]
   congr 1
   rw [qwx (by decide), show (inp i).Ao = ffs i.Ao from rfl, qk8 hft hsl]; rfl
  ·unfold Ja6
   rw [qww (by decide), qww (by decide), qwx (by decide), hs, qn8 hft hsl]; rfl
 by_cases q4 : nm = [104, 97, 115]
 ·subst q4
  refine main (b := tr' (decide (((vals i.Ao x.s).length : Int) > 0))) (qgo _ _) ?_ ?_
  ·unfold JE
   rw [qww (by decide)]
   congr 1
   rw [qww (by decide), qwx (by decide), show (inp i).Ao = ffs i.Ao from rfl, qk8 hft hsl]; rfl
  ·unfold Ja6
   rw [qww (by decide), qww (by decide), qww (by decide), qwx (by decide), hs, qn8 hft hsl]; rfl
 by_cases q5 : nm = [97, 114, 103]
 ·subst q5
  have hqq := hi.q
  have hal := qp2 i.Af x.s
  obtain ⟨b1, h1⟩ := qq9 (q := i.Af) (nm := x.s) (by omega) hsl
  obtain ⟨b2, h2⟩ := qsr (q := i.Af) (nm := x.s) (by omega) hsl
  refine main (b := tx' (qsq i.Af x.s)) (qfe (by omega)) ?_ ?_
  ·unfold JE
   rw [qww (by decide)]
   congr 1
   rw [qww (by decide), qww (by decide), qwx (by decide), show (inp i).Af = i.Af from rfl, h1]; rfl
  ·unfold Ja6
   rw [qww (by decide), qww (by decide), qww (by decide), qww (by decide), qwx (by decide), hs, h2]; rfl
 by_cases q6 : nm = [108, 101, 110]
 ·subst q6
  refine main (b := nm' (x.s.length : Int)) (ql0 _ _) ?_ ?_
  ·unfold JE
   rw [qww (by decide)]
   congr 1
  ·unfold Ja6
   rw [qww (by decide), qww (by decide), qww (by decide), qww (by decide), qww (by decide), qwx (by decide)]; rfl
 by_cases q7 : nm = [108, 111, 119, 101, 114]
 ·subst q7
  refine main (b := tx' (low x.s)) (qfe (by rw [low_len]; omega)) ?_ ?_
  ·unfold JE
   rw [qww (by decide)]
   congr 1
   rw [qww (by decide), qww (by decide), qww (by decide), qww (by decide), qwx (by decide), qrd (by omega)]; rfl
  ·unfold Ja6
   rw [qww (by decide), qww (by decide), qww (by decide), qww (by decide), qww (by decide), qww (by decide), qwx (by decide), hs, qns (by omega)]; rfl
 refine main (b := nm' (qp6 x.s)) (ql0 _ _) ?_ ?_
 ·unfold JE
  rw [qww (by simp [q1, q2])]
  congr 1
  rw [qww (by simpa using q3), qww (by simpa using q4), qww (by simpa using q5), qww (by simpa using q6), qww (by simpa using q7), qst]; rfl
 ·unfold Ja6
  rw [qww (by simpa using q1), qww (by simpa using q2), qww (by simpa using q3), qww (by simpa using q4), qww (by simpa using q5), qww (by simpa using q6), qww (by simpa using q7), hs, qvj hn hsl]; rfl
def qud (a b : Str) : Bool := decide ((a.length : Int) ≥ (b.length : Int)) && decide (subL a ((a.length : Int) - (b.length : Int)) (a.length : Int) = b)
theorem sfx {a b : Str} (h : a.length ≤ 1000000) (hb : b.length ≤ 1000000) : Jbt a b = some (qud a b) := by
 unfold Jbt Jau qud
 by_cases h : (a.length : Int) ≥ (b.length : Int)
 ·rw [qwx (by simpa using h), qaa (by constructor <;> omega), qaa (by omega)]; simp [h]
 ·rw [qww (by simpa using h)]
  have : ¬ b.length ≤ a.length := by omega
  simp [this]
theorem pfx (a b : Str) : JV a b = some (Rc.hp a b) := by rw [qga, Rc.hp_eq]
theorem qwr (a b : Str) : (if decide ((a.length : Int) ≥ (b.length : Int)) then (chk (0 ≤ (0 : Int) ∧ (0 : Int) ≤ (min (a.length : Int) (b.length : Int)) ∧ (min (a.length : Int) (b.length : Int)) ≤ (a.length : Int))).bind fun _ =>
 some (decide ((subL a (0 : Int) (min (a.length : Int) (b.length : Int))) = b)) else some false) = some (Rc.hp a b) := by
 rw [← Rc.hp_eq]
 by_cases h : (a.length : Int) ≥ (b.length : Int)
 ·rw [qwx (by simpa using h), qaa (by omega), decide_eq_true h, Bool.true_and, show min (a.length : Int) (b.length : Int) = b.length by omega]
 ·rw [qww (by simpa using h), decide_eq_false h, Bool.false_and]
theorem qws {a b : Str} (ha : a.length ≤ 1000000) (hb : b.length ≤ 1000000) : (if decide ((a.length : Int) ≥ (b.length : Int)) then (chk (InI ((a.length : Int) - (b.length : Int)))).bind fun _ =>
 (chk (0 ≤ (max 0 ((a.length : Int) - (b.length : Int))) ∧ (max 0 ((a.length : Int) - (b.length : Int))) ≤ (a.length : Int) ∧ (a.length : Int) ≤ (a.length : Int))).bind fun _ =>
 some (decide ((subL a (max 0 ((a.length : Int) - (b.length : Int))) (a.length : Int)) = b)) else some false) = some (qud a b) := by
 unfold qud
 by_cases h : (a.length : Int) ≥ (b.length : Int)
 ·rw [qwx (by simpa using h), qaa (by constructor <;> omega), qaa (by omega), decide_eq_true h, Bool.true_and, show max 0 ((a.length : Int) - (b.length : Int)) = (a.length : Int) - (b.length : Int) by omega]
 ·rw [qww (by simpa using h), decide_eq_false h, Bool.false_and]
def eqB (a b : V1) : Bool := decide (a.kind = b.kind) && (decide (a.n = b.n) && (decide (a.s = b.s) && (a.At == b.At)))
theorem que {n m : Nat} {op : Str} {a b : V1} (hn : 1000002 ≤ n) (hm : m ≤ 20000) (ha : VOK m a) (hb : VOK m b) :
  ∃ v ok, JJ op a b = some (v, ok) ∧ (∃ w, JT n op (cv2 a) (cv2 b) = some (w, ok) ∧ (ok = true → w = cv2 v)) ∧ (ok = true → VOK 40000 v) := by
 obtain ⟨ha0, ha1, ha2⟩ := ha
 obtain ⟨hb0, hb1, hb2⟩ := hb
 have hA : a.s.length ≤ 1000000 := by omega
 have hB : b.s.length ≤ 1000000 := by omega
 have main : ∀ {T : Int} {v : V1}, VOK 40000 v → ∀ {o1 : Option (V1 × Bool)} {o2 : Option (V2 × Bool)}, o1 = (if decide (a.kind ≠ b.kind) = true then some (⟨0, 0, [], false⟩, false) else some (v, decide (a.kind = T))) → o2 = some (cv2 v, decide (a.kind = T) && decide (b.kind = T)) →
   ∃ v ok, o1 = some (v, ok) ∧ (∃ w, o2 = some (w, ok) ∧ (ok = true → w = cv2 v)) ∧ (ok = true → VOK 40000 v) := by
  intro T v hv o1 o2 h1 h2
  by_cases k : a.kind = b.kind
  ·rw [qww (by simpa using k)] at h1
   rw [← k, Bool.and_self] at h2
   exact ⟨_, _, h1, ⟨_, h2, fun _ => rfl⟩, fun _ => hv⟩
  ·rw [qwx (by simpa using k)] at h1
   have : (decide (a.kind = T) && decide (b.kind = T)) = false := by
    by_cases q : a.kind = T
    ·have : ¬ b.kind = T := fun e => k (by rw [q, e])
     simp [this]
    ·simp [q]
   rw [this] at h2
   exact ⟨_, _, h1, ⟨_, h2, fun h => by cases h⟩, fun h => by cases h⟩
 have mainE : ∀ {v : V1}, VOK 40000 v → ∀ {o1 : Option (V1 × Bool)} {o2 : Option (V2 × Bool)}, o1 = (if decide (a.kind ≠ b.kind) = true then some (⟨0, 0, [], false⟩, false) else some (v, true)) → o2 = some (cv2 v, decide (a.kind = b.kind)) →
   ∃ v ok, o1 = some (v, ok) ∧ (∃ w, o2 = some (w, ok) ∧ (ok = true → w = cv2 v)) ∧ (ok = true → VOK 40000 v) := by
  intro v hv o1 o2 h1 h2
  by_cases k : a.kind = b.kind
  ·rw [qww (by simpa using k)] at h1
   rw [decide_eq_true k] at h2
   exact ⟨_, _, h1, ⟨_, h2, fun _ => rfl⟩, fun _ => hv⟩
  ·rw [qwx (by simpa using k)] at h1
   rw [decide_eq_false k] at h2
   exact ⟨_, _, h1, ⟨_, h2, fun h => by cases h⟩, fun h => by cases h⟩
 by_cases q1 : op = [43]
 ·subst q1
  have e1 : JJ [43] a b = if decide (a.kind ≠ b.kind) = true then some (⟨0, 0, [], false⟩, false) else if decide (a.kind = 1) = true then some (tx' (a.s ++ b.s), true) else some (nm' (a.n + b.n), decide (a.kind = 2)) := by
   unfold JJ
   congr 1
   rw [qwx (by decide)]
   congr 1
   ·rw [qaa (by simp only [lim]; omega), quc]; rfl
   ·rw [qaa (by constructor <;> omega), qp7]; rfl
  have e2 : JT n [43] (cv2 a) (cv2 b) = if (decide (a.kind = 1) && decide (b.kind = 1)) = true then some (cv2 (tx' (a.s ++ b.s)), true) else some (cv2 (nm' (a.n + b.n)), (decide (a.kind = 2) && decide (b.kind = 2))) := by
   unfold JT
   rw [qwx (by decide)]
   congr 1
   ·rw [qaa (by simp only [lim, cv2]; omega), qvk]; rfl
   ·rw [qaa (by simp only [cv2]; constructor <;> omega), qtc]; rfl
  by_cases k : a.kind = 1
  ·by_cases k2 : b.kind = 1
   ·rw [qww (by simp [k, k2]), qwx (by simpa using k)] at e1
    rw [qwx (by simp [k, k2])] at e2
    exact ⟨_, _, e1, ⟨_, e2, fun _ => rfl⟩, fun _ => qfe (by simp; omega)⟩
   ·rw [qwx (by rw [k]; simp; exact fun e => k2 e.symm)] at e1
    rw [qww (by simp [k2]), show (decide (a.kind = 2) && decide (b.kind = 2)) = false by simp [k]] at e2
    exact ⟨_, _, e1, ⟨_, e2, fun h => by cases h⟩, fun h => by cases h⟩
  ·exact main (ql0 40000 (a.n + b.n)) (by rw [e1]; congr 1; rw [qww (by simpa using k)]) (by rw [e2, qww (by simp [k])])
 by_cases q2 : op = [45]
 ·subst q2
  refine main (T := 2) (ql0 40000 (a.n - b.n)) ?_ ?_
  ·unfold JJ
   congr 1
   rw [qww (by decide), qwx (by decide), qaa (by constructor <;> omega), qp7]; rfl
  ·unfold JT
   rw [qww (by decide), qwx (by decide), qaa (by simp only [cv2]; constructor <;> omega), qtc]; rfl
 by_cases q3 : op = [42]
 ·subst q3
  have e1 : JJ [42] a b = if decide (a.kind ≠ b.kind) = true then some (⟨0, 0, [], false⟩, false) else if (!decide (a.kind = 2)) = true then some (⟨0, 0, [], false⟩, false) else some (nm' (a.n * b.n), true) := by
   unfold JJ
   congr 1
   rw [qww (by decide), qww (by decide), qwx (by decide), qob ha1 ha2 hb1 hb2]; rfl
  have e2 : JT n [42] (cv2 a) (cv2 b) = some (cv2 (nm' (a.n * b.n)), (decide (a.kind = 2) && decide (b.kind = 2))) := by
   unfold JT
   rw [qww (by decide), qww (by decide), qwx (by decide), show (cv2 a).N = a.n from rfl, show (cv2 b).N = b.n from rfl, qp8 ha1 ha2 hb1 hb2]; rfl
  by_cases k : a.kind = 2
  ·exact main (T := 2) (ql0 40000 (a.n * b.n)) (by rw [e1]; congr 1; rw [qww (by simp [k]), decide_eq_true k]) e2
  ·rw [qwx (show (!decide (a.kind = 2)) = true by simp [k])] at e1
   rw [show (decide (a.kind = 2) && decide (b.kind = 2)) = false by simp [k]] at e2
   refine ⟨⟨0, 0, [], false⟩, false, ?_, ⟨_, e2, fun h => by cases h⟩, fun h => by cases h⟩
   rw [e1]; split <;> rfl
 by_cases q4 : op = [61, 61]
 ·subst q4
  refine mainE (qgo 40000 (eqB a b)) ?_ ?_
  ·unfold JJ
   congr 1
  ·unfold JT
   rw [qww (by decide), qww (by decide), qww (by decide), qwx (by decide)]; rfl
 by_cases q5 : op = [33, 61]
 ·subst q5
  refine mainE (qgo 40000 (!eqB a b)) ?_ ?_
  ·unfold JJ
   congr 1
  ·unfold JT
   rw [qww (by decide), qww (by decide), qww (by decide), qww (by decide), qwx (by decide)]; rfl
 by_cases q6 : op = [60]
 ·subst q6
  refine main (T := 2) (qgo 40000 (decide (a.n < b.n))) ?_ ?_
  ·unfold JJ
   congr 1
  ·unfold JT
   rw [qww (by decide), qww (by decide), qww (by decide), qww (by decide), qww (by decide), qwx (by decide)]; rfl
 by_cases q7 : op = [60, 61]
 ·subst q7
  refine main (T := 2) (qgo 40000 (decide (a.n ≤ b.n))) ?_ ?_
  ·unfold JJ
   congr 1
  ·unfold JT
   rw [qww (by decide), qww (by decide), qww (by decide), qww (by decide), qww (by decide), qww (by decide), qwx (by decide)]; rfl
 by_cases q8 : op = [115, 116, 97, 114, 116, 115]
 ·subst q8
  refine main (T := 1) (qgo 40000 (Rc.hp a.s b.s)) ?_ ?_
  ·unfold JJ
   congr 1
   rw [qww (by decide), qww (by decide), qww (by decide), qww (by decide), qww (by decide), qww (by decide), qww (by decide), qwx (by decide), pfx]; rfl
  ·unfold JT
   rw [qww (by decide), qww (by decide), qww (by decide), qww (by decide), qww (by decide), qww (by decide), qww (by decide), qwx (by decide), show (cv2 a).S = a.s from rfl, show (cv2 b).S = b.s from rfl, qwr]; rfl
 by_cases q9 : op = [101, 110, 100, 115]
 ·subst q9
  refine main (T := 1) (qgo 40000 (qud a.s b.s)) ?_ ?_
  ·unfold JJ
   congr 1
   rw [qww (by decide), qww (by decide), qww (by decide), qww (by decide), qww (by decide), qww (by decide), qww (by decide), qww (by decide), qwx (by decide), sfx hA hB]; rfl
  ·unfold JT
   rw [qww (by decide), qww (by decide), qww (by decide), qww (by decide), qww (by decide), qww (by decide), qww (by decide), qww (by decide), qwx (by decide), show (cv2 a).S = a.s from rfl, show (cv2 b).S = b.s from rfl, qws hA hB]; rfl
 refine main (T := 1) (qgo 40000 (Go.Lib.contains a.s b.s)) ?_ ?_
 ·unfold JJ
  congr 1
  rw [qww (by simpa using q1), qww (by simpa using q2), qww (by simpa using q3), qww (by simpa using q4), qww (by simpa using q5), qww (by simpa using q6), qww (by simpa using q7), qww (by simpa using q8), qww (by simpa using q9), qfc hA]; rfl
 ·unfold JT
  rw [qww (by simpa using q1), qww (by simpa using q2), qww (by simpa using q3), qww (by simpa using q4), qww (by simpa using q5), qww (by simpa using q6), qww (by simpa using q7), qww (by simpa using q8), qww (by simpa using q9), show (cv2 a).S = a.s from rfl, show (cv2 b).S = b.s from rfl, qp4 hn hA hB]; rfl
theorem qsv {nm : Str} {i : In2} (hi : IOK i) : ∃ v, Jae nm (inp i) = some v ∧ Jc9 nm i = some (cv2 v) ∧ VOK 10000 v := by
 unfold Jae Jc9
 by_cases q1 : nm = [109, 101, 116, 104, 111, 100]
 ·subst q1; exact ⟨_, rfl, rfl, qfe hi.m⟩
 by_cases q2 : nm = [104, 111, 115, 116]
 ·subst q2; exact ⟨_, rfl, rfl, qfe hi.h⟩
 by_cases q3 : nm = [112, 97, 116, 104]
 ·subst q3; exact ⟨_, rfl, rfl, qfe hi.p⟩
 rw [qww (by simpa using q1), qww (by simpa using q2), qww (by simpa using q3), qww (by simpa using q1), qww (by simpa using q2), qww (by simpa using q3)]
 exact ⟨_, rfl, rfl, qfe hi.q⟩
noncomputable def tokB (s : Str) : Bool := (JcD s).getD false
theorem qsw {s : Str} (h : s.length ≤ 100000000) : qb0 s = some (tokB s) ∧ JcD s = some (tokB s) := by
 obtain ⟨b, h1, h2⟩ := tok h
 unfold tokB
 rw [h1, h2]; exact ⟨rfl, rfl⟩
noncomputable def nmO (s : Str) : Option Str := if tokB s = true ∧ s.length ≤ 64 then some (low s) else none
noncomputable def nmC (s : Str) : Int := if tokB s = true then 5 else 8
theorem qoc {s m : Str} (h : nmO s = some m) : m.length ≤ 64 := by
 unfold nmO at h
 split at h
 ·rename_i k; cases h; rw [low_len]; exact k.2
 ·cases h
theorem quf {s : Str} (h : s.length ≤ 100000000) : JcX s = some ((nmO s).getD [], if (nmO s).isSome = true then none else some (nmC s)) := by
 unfold JcX nmO nmC
 rw [(qsw h).1, qwv]
 cases q : tokB s with
 | false => rfl
 | true =>
  rw [qww (by simp)]
  by_cases k : s.length ≤ 64
  ·rw [qww (by simp; omega), qio (by omega), qwx ⟨rfl, k⟩]; rfl
  ·rw [qwx (by simp; omega), qww (by simp [k])]; rfl
def vlO (s : Str) : Option Str := if ctl s = false ∧ (trm s).length ≤ 2048 then some (trm s) else none
def vlC (s : Str) : Int := if ctl s = true then 2 else 5
theorem qug (s : Str) : vlC s ≠ 0 := by unfold vlC; split <;> decide
theorem qsx {s m : Str} (h : vlO s = some m) : m.length ≤ 2048 := by
 unfold vlO at h
 split at h
 ·rename_i k; cases h; exact k.2
 ·cases h
theorem qgl : ∀ (s : Str) (i : Nat), JaV s i = some (if ctl s = true then Fl.ret true else Fl.go ())
 | [], i => rfl
 | c :: s, i => by
  have e : ctl (c :: s) = (((decide ((c.toNat : Int) < 32) && decide ((c.toNat : Int) ≠ 9)) || decide ((c.toNat : Int) = 127)) || ctl s) := rfl
  rw [JaV, qgl s (i + 1), e]
  cases q1 : decide ((c.toNat : Int) < 32) <;> cases q2 : decide ((c.toNat : Int) ≠ 9) <;> cases q3 : decide ((c.toNat : Int) = 127) <;> simp
theorem qjy {s : Str} (h : s.length ≤ 100000000) : Jb9 s = some (ctl s) := by
 unfold Jb9
 rw [qaa (by simp only [qav]; omega), qgl, qwv]
 cases ctl s <;> rfl
theorem quh {s : Str} (h : s.length ≤ 1000000) : Jcy s = some ((vlO s).getD [], if (vlO s).isSome = true then none else some (vlC s)) := by
 unfold Jcy vlO vlC
 rw [qjy (by omega), qwv]
 cases q : ctl s with
 | true => rfl
 | false =>
  rw [qww (by simp), qpy (by omega), qwv]
  by_cases k : (trm s).length ≤ 2048
  ·rw [qww (by simp; omega), qwx ⟨rfl, k⟩]; rfl
  ·rw [qwx (by simp; omega), qww (by simp [k])]; rfl
def uff (l : List FF) : List RF := l.map fun x => ⟨x.Name, x.Value⟩
theorem qod (l : List FF) : (uff l).length = l.length := by simp [uff]
def HOK (k : Nat) (l : List FF) : Prop := l.length ≤ k ∧ ∀ x ∈ l, x.Name.length ≤ 64 ∧ x.Value.length ≤ 2048
def stP (nm v : Str) : List FF → Bool → List FF
 | [], _ => []
 | x :: r, d => if low x.Name = nm then (if d = true then stP nm v r d else ⟨nm, v⟩ :: stP nm v r true) else x :: stP nm v r d
def stD (nm : Str) (l : List FF) : Bool := l.any fun x => decide (low x.Name = nm)
def qui (l : List FF) (nm v : Str) : List FF := if stD nm l = true then stP nm v l false else l ++ [⟨nm, v⟩]
theorem qjz (nm v : Str) : ∀ (l : List FF) (d : Bool), (stP nm v l d).length ≤ l.length
 | [], d => Nat.le_refl _
 | x :: r, d => by
  have h1 := qjz nm v r d
  have h2 := qjz nm v r true
  rw [stP]
  split
  ·split <;> simp <;> omega
  ·simp; omega
theorem stP_mem {nm v : Str} {y : FF} : ∀ {l : List FF} {d : Bool}, y ∈ stP nm v l d → y ∈ l ∨ y = ⟨nm, v⟩
 | [], d, h => by cases h
 | x :: r, d, h => by
  rw [stP] at h
  split at h
  ·split at h
   ·rcases stP_mem h with h | h
    ·exact .inl (by simp [h])
    ·exact .inr h
   ·rcases List.mem_cons.1 h with rfl | h
    ·exact .inr rfl
    ·rcases stP_mem h with h | h
     ·exact .inl (by simp [h])
     ·exact .inr h
  ·rcases List.mem_cons.1 h with rfl | h
   ·exact .inl (by simp)
   ·rcases stP_mem h with h | h
    ·exact .inl (by simp [h])
    ·exact .inr h
theorem qsy {k : Nat} {l : List FF} {nm v : Str} (h : HOK k l) (hn : nm.length ≤ 64) (hv : v.length ≤ 2048) : HOK (k + 1) (qui l nm v) := by
 unfold qui
 split
 ·refine ⟨?_, fun y hy => ?_⟩
  ·have := qjz nm v l false; have := h.1; omega
  ·rcases stP_mem hy with hy | rfl
   ·exact h.2 y hy
   ·exact ⟨hn, hv⟩
 ·refine ⟨by have := h.1; simp; omega, fun y hy => ?_⟩
  rcases List.mem_append.1 hy with hy | hy
  ·exact h.2 y hy
  ·rw [List.mem_singleton] at hy; subst hy; exact ⟨hn, hv⟩
theorem qk9 {nm v : Str} : ∀ (l : List FF) (i : Nat) (y : List FF) (d : Bool), (∀ x ∈ l, x.Name.length ≤ 1000) → y.length + l.length ≤ 1000000 → Ja4 nm v l i y d = some (y ++ stP nm v l d, d || stD nm l)
 | [], i, y, d, _, _ => by simp [Ja4, stP, stD]
 | x :: l, i, y, d, h, hy => by
  have hx := h x (by simp)
  have hl := fun z hz => h z (List.mem_cons_of_mem _ hz)
  simp only [List.length_cons] at hy
  rw [Ja4, qio (by omega), qwv, stP]
  have e : stD nm (x :: l) = (decide (low x.Name = nm) || stD nm l) := rfl
  by_cases q : low x.Name = nm
  ·rw [qww (by simpa using q), qwx q, e, decide_eq_true q]
   cases d with
   | true => rw [qww (by simp), qwx rfl, qk9 l (i + 1) y true hl (by omega)]; simp
   | false => rw [qwx (by simp), qww (by simp), qaa (by simp only [lim, List.length_cons, List.length_nil]; omega), qk9 l (i + 1) _ true hl (by simp; omega)]; simp
  ·rw [qwx (by simpa using q), qww q, qaa (by simp only [lim, List.length_cons, List.length_nil]; omega), qk9 l (i + 1) _ d hl (by simp; omega), e, decide_eq_false q]; simp
theorem qla {nm v : Str} : ∀ {l : List FF}, stD nm l = false → stP nm v l false = l
 | [], _ => rfl
 | x :: r, h => by
  have e : stD nm (x :: r) = (decide (low x.Name = nm) || stD nm r) := rfl
  rw [e] at h
  simp only [Bool.or_eq_false_iff, decide_eq_false_iff_not] at h
  rw [stP, qww h.1, qla h.2]
theorem quj {k : Nat} {l : List FF} {nm v : Str} (hk : k ≤ 3000) (h : HOK k l) (hn : nm.length ≤ 64) : Jdq l nm v = some (qui l (low nm) v) := by
 have h1 := h.1
 unfold Jdq qui
 rw [qio (by omega), qwv, qaa (by simp only [qav]; omega), qk9 l 0 [] false (fun x hx => by have := (h.2 x hx).1; omega) (by simp; omega), qwv]
 simp only [Bool.false_or, List.nil_append]
 cases q : stD (low nm) l with
 | true => rw [qww (by simp), qwx rfl]
 | false => rw [qwx (by simp), qww (by simp), qla q, qaa (by simp only [lim, List.length_cons, List.length_nil]; omega)]
def qit (l : List Str) (s : Str) : List Str := if s ∈ l then l else l ++ [s]
theorem qiu (l : List Str) (s : Str) : (qit l s).length ≤ l.length + 1 := by unfold qit; split <;> simp
abbrev R1 := Je
abbrev R2 := Ji
def r2 (r : R1) : R2 := ⟨r.Ae, r.Af, uff r.Ag, r.Vary, r.Ah, r.TTL, r.Ai, r.Aj, r.Ak, r.Al⟩
structure ROK (k : Nat) (r : R1) : Prop where
 h : HOK k r.Ag
 v : r.Vary.length ≤ k
 t : r.Ah.length ≤ k
theorem ROK.up {k k' : Nat} {r : R1} (h : ROK k r) (hk : k ≤ k') : ROK k' r := ⟨⟨Nat.le_trans h.h.1 hk, h.h.2⟩, Nat.le_trans h.v hk, Nat.le_trans h.t hk⟩
def ql1 (s : Str) : Int := if s = [112, 97, 115, 115] ∨ s = [116, 111, 107, 101, 110] ∨ Rc.hp s Rc.sVary = true then 0 else if s = [116, 116, 108] ∨ s = [100, 101, 110, 121] then 2 else 1
theorem qvl (s : Str) : (((if (decide (s = ([112, 97, 115, 115] : Str)) || decide (s = ([116, 111, 107, 101, 110] : Str))) then some true else (JV s ([118, 97, 114, 121, 58] : Str)).bind fun x17 =>
 some x17).bind fun t902 =>
 if t902 then
 some 0
 else
 if (decide (s = ([116, 116, 108] : Str)) || decide (s = ([100, 101, 110, 121] : Str))) then
 some 2
 else
 some 1 : Option (Int))) = some (ql1 s) := by
 unfold ql1
 rw [pfx, qwv, show ([118, 97, 114, 121, 58] : Str) = Rc.sVary from rfl]
 by_cases q1 : s = [112, 97, 115, 115] ∨ s = [116, 111, 107, 101, 110]
 ·rw [qwx (by simpa using q1), qwv, qwx rfl, qwx (by rcases q1 with q | q; exact .inl q; exact .inr (.inl q))]
 ·rw [qww (by simpa using q1), qwv]
  by_cases q2 : Rc.hp s Rc.sVary = true
  ·rw [qwx q2, qwx (.inr (.inr q2))]
  ·rw [qww q2, qww (show ¬ (s = [112, 97, 115, 115] ∨ s = [116, 111, 107, 101, 110] ∨ Rc.hp s Rc.sVary = true) from fun h => h.elim (fun h => q1 (.inl h)) fun h => h.elim (fun h => q1 (.inr h)) q2)]
   by_cases q3 : s = [116, 116, 108] ∨ s = [100, 101, 110, 121]
   ·rw [qwx (by simpa using q3), qwx q3]
   ·rw [qww (by simpa using q3), qww q3]
theorem qvm (r : Str) : cutM ([104, 101, 97, 100, 101, 114, 58] ++ r) [58] = if ([104, 101, 97, 100, 101, 114, 58] ++ r).length < qhq then some ([104, 101, 97, 100, 101, 114], r, true) else none := by
 unfold cutM
 congr 1
theorem qvn (r : Str) : cutM ([118, 97, 114, 121, 58] ++ r) [58] = if ([118, 97, 114, 121, 58] ++ r).length < qhq then some ([118, 97, 114, 121], r, true) else none := by
 unfold cutM
 congr 1
noncomputable def qor (r : R1) (s : Str) (x : V1) : R1 × Err :=
 if Rc.hp s Rc.sVary = true then (match nmO (s.drop 5) with
  | none => (r, some 8)
  | some m => ({ r with Vary := qit r.Vary m }, none))
 else match nmO (s.drop 7) with
  | none => (r, some 8)
  | some m => match vlO x.s with
   | none => (r, some (vlC x.s))
   | some v => ({ r with Ag := qui r.Ag (low m) v }, none)
theorem quk {l : List Str} {s : Str} (h : l.length ≤ 3000) (h2 : l.length + 1 ≤ lim) {γ : Type} {f : List Str → γ} : ((JG l s).bind fun x => if (!x) = true then (chk (l.length + [s].length ≤ lim)).bind fun _ => some (f (l ++ [s])) else some (f l)) = some (f (qit l s)) := by
 rw [Rc.cont_eq h, qwv]
 unfold qit
 by_cases q : s ∈ l
 ·rw [qww (by simp [q]), qwx q]
 ·rw [qwx (by simp [q]), qww q, qaa (show l.length + [s].length ≤ lim from h2)]
theorem qul {k : Nat} {r : R1} {s : Str} {x : V1} (hk : k ≤ 2900) (hr : ROK k r) (hs : s.length ≤ 100000) (hx : x.s.length ≤ 100000) (hp : Rc.hp s Rc.sHeader = true ∨ Rc.hp s Rc.sVary = true) : JaR r s x = some ((qor r s x).2, (qor r s x).1) := by
 have hv := hr.v
 unfold JaR qor
 by_cases q : Rc.hp s Rc.sVary = true
 ·have e := Rc.hp_app q
  rw [qwx q]
  have el : Rc.sVary.length = 5 := rfl
  rw [el] at e
  have hd : (s.drop 5).length ≤ 100000 := by rw [List.length_drop]; omega
  have hc : cutM s [58] = some ([118, 97, 114, 121], s.drop 5, true) := by
   conv => lhs; rw [e]
   rw [show Rc.sVary = [118, 97, 114, 121, 58] from rfl, qvn, qwx (by rw [qeq]; simp only [List.length_append, List.length_cons, List.length_nil]; omega)]
  rw [hc, qwv]
  simp only
  rw [quf (by omega), qwv]
  cases hm : nmO (s.drop 5) with
  | none => rfl
  | some m =>
   simp only [Option.isSome_some, if_true, Option.getD_some]
   rw [qww (by simp), qwx (by decide)]
   exact quk (f := fun l => ((none : Err), (⟨r.Ae, r.Af, r.Ag, l, r.Ah, r.TTL, r.Ai, r.Aj, r.Ak, r.Al⟩ : R1))) (by omega) (by simp only [lim]; omega)
 ·have hh : Rc.hp s Rc.sHeader = true := hp.resolve_right q
  have e := Rc.hp_app hh
  rw [qww q]
  have el : Rc.sHeader.length = 7 := rfl
  rw [el] at e
  have hd : (s.drop 7).length ≤ 100000 := by rw [List.length_drop]; omega
  have hc : cutM s [58] = some ([104, 101, 97, 100, 101, 114], s.drop 7, true) := by
   conv => lhs; rw [e]
   rw [show Rc.sHeader = [104, 101, 97, 100, 101, 114, 58] from rfl, qvm, qwx (by rw [qeq]; simp only [List.length_append, List.length_cons, List.length_nil]; omega)]
  rw [hc, qwv]
  simp only
  rw [quf (by omega), qwv]
  cases hm : nmO (s.drop 7) with
  | none => rfl
  | some m =>
   simp only [Option.isSome_some, if_true, Option.getD_some]
   rw [qww (by simp), qww (by simp), quh (by omega), qwv]
   cases hvl : vlO x.s with
   | none => rfl
   | some v =>
    simp only [Option.isSome_some, if_true, Option.getD_some]
    rw [qww (by simp), quj (k := k) (by omega) hr.h (qoc hm)]; rfl
noncomputable def qhw (r : R1) (s : Str) (x : V1) : R1 × Err :=
 if x.kind ≠ ql1 s then (r, some 9)
 else if s = [112, 97, 116, 104] then ({ r with Ae := x.s }, none)
 else if s = [113, 117, 101, 114, 121] then ({ r with Af := x.s }, none)
 else if s = [116, 97, 103] then ({ r with Ah := qit r.Ah x.s }, none)
 else if s = [116, 116, 108] then ({ r with TTL := max 0 x.n }, none)
 else if s = [100, 101, 110, 121] then (if x.n < 400 ∨ x.n > 499 then ({ r with Ai := 403 }, none) else ({ r with Ai := x.n }, none))
 else if s = [112, 97, 115, 115] then ({ r with Ak := true }, none)
 else if s = [116, 111, 107, 101, 110] then ({ r with Al := true }, none)
 else qor r s x
theorem actK_cases {s : Str} {t : Int} (h : Rc.actK s = some t) : (s ∈ Rc.acts1 ∧ t = 1) ∨ (s ∈ Rc.acts0 ∧ t = 0) ∨ (Rc.hp s Rc.sHeader = true ∧ t = 1) ∨ (Rc.hp s Rc.sVary = true ∧ t = 0) := by
 unfold Rc.actK at h
 split at h
 ·rename_i q; cases h; exact .inl ⟨q, rfl⟩
 ·split at h
  ·rename_i q; cases h; exact .inr (.inl ⟨q, rfl⟩)
  ·split at h
   ·rename_i q
    split at h
    ·cases h; exact .inr (.inr (.inl ⟨q, rfl⟩))
    ·cases h
   ·split at h
    ·rename_i q; cases h
     rw [Bool.and_eq_true] at q
     exact .inr (.inr (.inr ⟨q.1, rfl⟩))
    ·cases h
theorem qoe {s : Str} {t : Int} (h : Rc.actK s = some t) (h1 : s ≠ [112, 97, 116, 104]) (h2 : s ≠ [113, 117, 101, 114, 121]) (h3 : s ≠ [116, 97, 103]) (h4 : s ≠ [116, 116, 108]) (h5 : s ≠ [100, 101, 110, 121]) (h6 : s ≠ [112, 97, 115, 115]) (h7 : s ≠ [116, 111, 107, 101, 110]) : Rc.hp s Rc.sHeader = true ∨ Rc.hp s Rc.sVary = true := by
 rcases actK_cases h with ⟨q, _⟩ | ⟨q, _⟩ | ⟨q, _⟩ | ⟨q, _⟩
 ·unfold Rc.acts1 at q; simp [h1, h2, h3, h4, h5] at q
 ·unfold Rc.acts0 at q; simp [h6, h7] at q
 ·exact .inl q
 ·exact .inr q
theorem qwt {k : Nat} {r : R1} {s : Str} {x : V1} {t : Int} (hk : k ≤ 2900) (hr : ROK k r) (hs : s.length ≤ 100000) (hx : x.s.length ≤ 100000) (ha : Rc.actK s = some t) : JaK r s x = some ((qhw r s x).2, (qhw r s x).1) := by
 have ht := hr.t
 unfold JaK qhw
 rw [qvl, qwv]
 by_cases q0 : x.kind ≠ ql1 s
 ·rw [qwx (by simpa using q0), qwx q0]
 rw [qww (by simpa using q0), qww q0]
 by_cases q1 : s = [112, 97, 116, 104]
 ·rw [qwx (by simpa using q1), qwx q1]
 rw [qww (by simpa using q1), qww q1]
 by_cases q2 : s = [113, 117, 101, 114, 121]
 ·rw [qwx (by simpa using q2), qwx q2]
 rw [qww (by simpa using q2), qww q2]
 by_cases q3 : s = [116, 97, 103]
 ·rw [qwx (by simpa using q3), qwx q3]
  exact quk (f := fun l => ((none : Err), (⟨r.Ae, r.Af, r.Ag, r.Vary, l, r.TTL, r.Ai, r.Aj, r.Ak, r.Al⟩ : R1))) (by omega) (by simp only [lim]; omega)
 rw [qww (by simpa using q3), qww q3]
 by_cases q4 : s = [116, 116, 108]
 ·rw [qwx (by simpa using q4), qwx q4]
 rw [qww (by simpa using q4), qww q4]
 by_cases q5 : s = [100, 101, 110, 121]
 ·rw [qwx (by simpa using q5), qwx q5]
  by_cases w : x.n < 400 ∨ x.n > 499
  ·rw [qwx (by simpa using w), qwx w]
  ·rw [qww (by simpa using w), qww w]
 rw [qww (by simpa using q5), qww q5]
 by_cases q6 : s = [112, 97, 115, 115]
 ·rw [qwx (by simpa using q6), qwx q6]
 rw [qww (by simpa using q6), qww q6]
 by_cases q7 : s = [116, 111, 107, 101, 110]
 ·rw [qwx (by simpa using q7), qwx q7]
 rw [qww (by simpa using q7), qww q7, qul hk hr hs hx (qoe ha q1 q2 q3 q4 q5 q6 q7)]; rfl
theorem qsz {k : Nat} {r : R1} {s : Str} {x : V1} (hr : ROK k r) : ROK (k + 1) (qor r s x).1 ∧ (qor r s x).2 ≠ some 0 ∧ (qor r s x).1.Aj = r.Aj := by
 have hu := hr.up (Nat.le_succ k)
 unfold qor
 split
 ·split
  ·exact ⟨hu, by simp, rfl⟩
  ·refine ⟨⟨hu.h, ?_, hu.t⟩, by simp, rfl⟩
   have := qiu r.Vary ‹Str›
   have := hr.v
   show (qit _ _).length ≤ k + 1
   omega
 ·split
  ·exact ⟨hu, by simp, rfl⟩
  ·rename_i m hm
   split
   ·exact ⟨hu, by simpa using qug x.s, rfl⟩
   ·rename_i v hv
    exact ⟨⟨qsy hr.h (by rw [low_len]; exact qoc hm) (qsx hv), hu.v, hu.t⟩, by simp, rfl⟩
theorem qs0 {k : Nat} {r : R1} {s : Str} {x : V1} (hr : ROK k r) : ROK (k + 1) (qhw r s x).1 ∧ (qhw r s x).2 ≠ some 0 ∧ (qhw r s x).1.Aj = r.Aj := by
 have hu := hr.up (Nat.le_succ k)
 unfold qhw
 split
 ·exact ⟨hu, by simp, rfl⟩
 split
 ·exact ⟨⟨hu.h, hu.v, hu.t⟩, by simp, rfl⟩
 split
 ·exact ⟨⟨hu.h, hu.v, hu.t⟩, by simp, rfl⟩
 split
 ·refine ⟨⟨hu.h, hu.v, ?_⟩, by simp, rfl⟩
  have := qiu r.Ah x.s
  have := hr.t
  show (qit _ _).length ≤ k + 1
  omega
 split
 ·exact ⟨⟨hu.h, hu.v, hu.t⟩, by simp, rfl⟩
 split
 ·split
  ·exact ⟨⟨hu.h, hu.v, hu.t⟩, by simp, rfl⟩
  ·exact ⟨⟨hu.h, hu.v, hu.t⟩, by simp, rfl⟩
 split
 ·exact ⟨⟨hu.h, hu.v, hu.t⟩, by simp, rfl⟩
 split
 ·exact ⟨⟨hu.h, hu.v, hu.t⟩, by simp, rfl⟩
 exact qsz hr
abbrev M1 := Jf
abbrev M2 := Jx
abbrev I := Rt.Rc.I
def z0 : V1 := ⟨0, 0, [], false⟩
noncomputable def qgm (nm : Str) (x : V1) (j : In1) : V1 × Bool := (JE nm x j).getD (z0, false)
noncomputable def opP (op : Str) (a b : V1) : V1 × Bool := (JJ op a b).getD (z0, false)
noncomputable def qs1 (nm : Str) (j : In1) : V1 := (Jae nm j).getD z0
def wS (m : M1) (s : Int) : M1 := ⟨m.Ar, m.most, ⟨m.result.Ae, m.result.Af, m.result.Ag, m.result.Vary, m.result.Ah, m.result.TTL, m.result.Ai, s, m.result.Ak, m.result.Al⟩, m.stack, m.Ap⟩
def wT (m : M1) (l : List V1) : M1 := ⟨m.Ar, m.most, m.result, l, m.Ap⟩
def wR (m : M1) (r : R1) : M1 := ⟨m.Ar, m.most, r, m.stack, m.Ap⟩
def wL (m : M1) (l : List V1) : M1 := ⟨m.Ar, m.most, m.result, m.stack, l⟩
def top (m : M1) : V1 := m.stack.getLastD z0
def pop (m : M1) : M1 := wT m m.stack.dropLast
def qj0 (m : M1) (v : V1) (o : Bool) : Err × M1 :=
 if v.s.length > 2048 then (some 5, m)
 else if o = true ∧ v.kind = 1 then (if m.result.Aj + ((v.s.length / 64 : Nat) : Int) > m.most then (some 13, wS m (m.result.Aj + ((v.s.length / 64 : Nat) : Int))) else (none, wT (wS m (m.result.Aj + ((v.s.length / 64 : Nat) : Int))) (m.stack ++ [v])))
 else (none, wT m (m.stack ++ [v]))
def nxP (at' : Int) (p : Err × M1) : Int × Err × M1 := (at' + 1, p.1, p.2)
noncomputable def qwu (m0 : M1) (at' : Int) (s : Str) (p : V1 × M1) : Int × Err × M1 :=
 if (qhw p.2.result s p.1).2.isSome = true then (0, (qhw p.2.result s p.1).2, wR p.2 (qhw p.2.result s p.1).1)
 else if s = [100, 101, 110, 121] then (-1, none, wR p.2 (qhw p.2.result s p.1).1)
 else (at' + 1, none, wR p.2 (qhw p.2.result s p.1).1)
noncomputable def qez (m : M1) (at' : Int) (x : I) : Int × Err × M1 :=
 if m.result.Aj + 1 > m.most then (0, some 13, wS m (m.result.Aj + 1)) else
 if x.Op = 1 then nxP at' (qj0 (wS m (m.result.Aj + 1)) (nm' x.N) false) else
 if x.Op = 2 then nxP at' (qj0 (wS m (m.result.Aj + 1)) (tx' x.S) false) else
 if x.Op = 3 then nxP at' (qj0 (wS m (m.result.Aj + 1)) (m.Ap.getD x.N.toNat z0) false) else
 if x.Op = 5 then nxP at' (qj0 (wS m (m.result.Aj + 1)) (qs1 x.S m.Ar) false) else
 if x.Op = 4 then (at' + 1, none, wL (pop (wS m (m.result.Aj + 1))) (m.Ap.set x.N.toNat (top m))) else
 if x.Op = 6 then (if (qgm x.S (top m) m.Ar).2 = true then nxP at' (qj0 (pop (wS m (m.result.Aj + 1))) (qgm x.S (top m) m.Ar).1 true) else (0, some 9, pop (wS m (m.result.Aj + 1)))) else
 if x.Op = 7 then (if (opP x.S (top (pop m)) (top m)).2 = true then nxP at' (qj0 (pop (pop (wS m (m.result.Aj + 1)))) (opP x.S (top (pop m)) (top m)).1 true) else (0, some 9, pop (pop (wS m (m.result.Aj + 1))))) else
 if x.Op = 8 then (if (top m).kind = 3 then nxP at' (qj0 (pop (wS m (m.result.Aj + 1))) (tr' (!(top m).At)) false) else (0, some 9, pop (wS m (m.result.Aj + 1)))) else
 if x.Op = 9 then (x.N, none, wS m (m.result.Aj + 1)) else
 if x.Op = 10 then (if (top m).kind = 3 then (if (top m).At = true then (at' + 1, none, pop (wS m (m.result.Aj + 1))) else (x.N, none, pop (wS m (m.result.Aj + 1)))) else (0, some 9, pop (wS m (m.result.Aj + 1)))) else
 if x.Op = 11 then qwu m at' x.S (if ql1 x.S = 0 then (z0, wS m (m.result.Aj + 1)) else (top m, pop (wS m (m.result.Aj + 1)))) else
 (-1, none, wS m (m.result.Aj + 1))
structure MOK (k : Nat) (m : M1) : Prop where
 i : ∃ i, IOK i ∧ m.Ar = inp i
 r : ROK k m.result
 st : ∀ v ∈ m.stack, VOK 2048 v
 sl : ∀ v ∈ m.Ap, VOK 2048 v
 sn : m.Ap.length = 512
 tn : m.stack.length ≤ k
 s0 : 0 ≤ m.result.Aj
 s1 : m.result.Aj ≤ 40 * k
 k : k ≤ 2800
theorem qvo (m : Nat) : VOK m z0 := ⟨Nat.zero_le _, by decide, by decide⟩
theorem MOK.top {k : Nat} {m : M1} (h : MOK k m) : VOK 2048 (top m) := by
 unfold Rv.top
 cases e : m.stack with
 | nil => exact qvo _
 | cons a l =>
  rw [List.getLastD_cons, List.getLastD_eq_getLast?]
  cases e2 : (l.getLast?) with
  | none => exact h.st _ (by rw [e]; simp)
  | some y => exact h.st _ (by rw [e]; simp [List.mem_of_getLast? e2])
theorem qof {m n : Nat} {nm : Str} {x : V1} {j : In1} (hi : ∃ i, IOK i ∧ j = inp i) (hm : m ≤ 20000) (hx : VOK m x) : JE nm x j = some (qgm nm x j) ∧ ((qgm nm x j).2 = true → VOK 40000 (qgm nm x j).1) := by
 obtain ⟨i, hi, rfl⟩ := hi
 obtain ⟨v, ok, h1, _, h3⟩ := qp9 (n := 1000002) (nm := nm) (by omega) hm hi hx
 unfold qgm
 rw [h1]; exact ⟨rfl, h3⟩
theorem qog {m : Nat} {op : Str} {a b : V1} (hm : m ≤ 20000) (ha : VOK m a) (hb : VOK m b) : JJ op a b = some (opP op a b) ∧ ((opP op a b).2 = true → VOK 40000 (opP op a b).1) := by
 obtain ⟨v, ok, h1, _, h3⟩ := que (n := 1000002) (op := op) (by omega) hm ha hb
 unfold opP
 rw [h1]; exact ⟨rfl, h3⟩
theorem qrf {nm : Str} {j : In1} (hi : ∃ i, IOK i ∧ j = inp i) : Jae nm j = some (qs1 nm j) ∧ VOK 10000 (qs1 nm j) := by
 obtain ⟨i, hi, rfl⟩ := hi
 obtain ⟨v, h1, _, h3⟩ := qsv (nm := nm) hi
 unfold qs1
 rw [h1]; exact ⟨rfl, h3⟩
abbrev w2 (m : M1) (at' : Int) : M2 := ⟨m.stack.map cv2, m.Ap.map cv2, at', r2 m.result, false, 0⟩
theorem VOK.mono {a b : Nat} {v : V1} (h : VOK a v) (hab : a ≤ b) : VOK b v := ⟨Nat.le_trans h.1 hab, h.2⟩
theorem MOK.up {k k' : Nat} {m : M1} (h : MOK k m) (hk : k ≤ k') (h8 : k' ≤ 2800) : MOK k' m := ⟨h.i, h.r.up hk, h.st, h.sl, h.sn, Nat.le_trans h.tn hk, h.s0, by have := h.s1; omega, h8⟩
theorem MOK.steps {k : Nat} {m : M1} (h : MOK k m) {s : Int} (h0 : 0 ≤ s) (h1 : s ≤ 40 * k) : MOK k (wS m s) := ⟨h.i, ⟨h.r.h, h.r.v, h.r.t⟩, h.st, h.sl, h.sn, h.tn, h0, h1, h.k⟩
theorem MOK.pop {k : Nat} {m : M1} (h : MOK k m) : MOK k (Rv.pop m) :=
 ⟨h.i, h.r, fun v hv => h.st v (List.dropLast_subset _ hv), h.sl, h.sn, by have := h.tn; show (m.stack.dropLast).length ≤ k; rw [List.length_dropLast]; omega, h.s0, h.s1, h.k⟩
def zR : R1 := ⟨[], [], [], [], [], 0, 0, 0, false, false⟩
noncomputable def ql8 (c : List I) : Nat → Nat → M1 → R1 × Err
 | 0, _, m => (m.result, none)
 | f + 1, i, m => match c[i]? with
  | none => (m.result, none)
  | some x => match (qez m (i : Int) x).2.1 with
   | some e => (zR, some e)
   | none => if (qez m (i : Int) x).1 = -1 then ((qez m (i : Int) x).2.2.result, none) else ql8 c f (qez m (i : Int) x).1.toNat (qez m (i : Int) x).2.2
theorem qiv {α : Type} {c : List α} {i : Nat} (h : i < c.length) : ix c (i : Int) = some c[i] := by
 unfold ix; rw [qwx (by omega), Int.toNat_natCast, List.getElem?_eq_getElem h]
def quz (l : List RF) : Int := (tot l : Int) - 2 * l.length
theorem qoh {i : In2} (hl : i.Ao.length ≤ qav) (h : ∀ x ∈ i.Ao, x.Name.length ≤ qav ∧ x.Value.length ≤ qav) : ∀ (f j : Nat) (y : Int), j ≤ i.Ao.length → i.Ao.length - j < f →
  ∃ z, Jby i f y (j : Int) = some (z, (i.Ao.length : Int)) ∧ (i.Ao.length ≤ 40 → 0 ≤ y → y ≤ 281474976710656 * (j + 2) → z = y + quz (i.Ao.drop j))
 | 0, j, y, _, h => by omega
 | f + 1, j, y, hj, hf => by
  simp only [qav] at hl h
  rw [Jby]
  by_cases q : j < i.Ao.length
  ·have hx := h _ (List.getElem_mem q)
   have e1 : IntKind.i64.wrap ((j : Int) + 1) = ((j + 1 : Nat) : Int) := qci (by simp only [InK]; omega)
   have e3 : IntKind.i64.wrap ((i.Ao[j].Name.length : Int) + (i.Ao[j].Value.length : Int)) = (i.Ao[j].Name.length : Int) + (i.Ao[j].Value.length : Int) := qci (by simp only [InK]; omega)
   rw [qwx (by simpa using q), qiv q, qwv, qwv, e1, e3]
   obtain ⟨z, hz, h2⟩ := qoh (by simpa only [qav] using hl) (by simpa only [qav] using h) f (j + 1) (IntKind.i64.wrap (y + ((i.Ao[j].Name.length : Int) + (i.Ao[j].Value.length : Int)))) (by omega) (by omega)
   refine ⟨z, hz, fun h3 h0 hy => ?_⟩
   have e2 : IntKind.i64.wrap (y + ((i.Ao[j].Name.length : Int) + (i.Ao[j].Value.length : Int))) = y + ((i.Ao[j].Name.length : Int) + (i.Ao[j].Value.length : Int)) := qci (by simp only [InK]; omega)
   rw [e2] at h2
   have g1 := h2 h3 (by omega) (by omega)
   rw [g1, List.drop_eq_getElem_cons q]
   unfold quz
   rw [qen]
   simp only [List.length_cons]
   omega
  ·have : j = i.Ao.length := by omega
   subst this
   rw [qww (by simp)]
   exact ⟨y, rfl, fun _ _ _ => by simp [quz, tot]⟩
theorem qs2 {n : Nat} {i : In2} (hn : i.Ao.length < n) (h : Js.ok i) : ∃ b, JbC n i = some b ∧ (b = true → IOK i) := by
 obtain ⟨o1, o2, o3, o4, o5, o6⟩ := h
 simp only [qav] at o1 o2 o3 o4
 have w1 : IntKind.i64.wrap ((i.Am.length : Int) + (i.An.length : Int)) = (i.Am.length : Int) + (i.An.length : Int) := qci (by simp only [InK]; omega)
 have w2 : IntKind.i64.wrap ((i.Am.length : Int) + (i.An.length : Int) + (i.Ae.length : Int)) = (i.Am.length : Int) + (i.An.length : Int) + (i.Ae.length : Int) := qci (by simp only [InK]; omega)
 have w3 : IntKind.i64.wrap ((i.Am.length : Int) + (i.An.length : Int) + (i.Ae.length : Int) + (i.Af.length : Int)) = (i.Am.length : Int) + (i.An.length : Int) + (i.Ae.length : Int) + (i.Af.length : Int) := qci (by simp only [InK]; omega)
 obtain ⟨z, hz, h2⟩ := qoh o5 (fun x hx => o6 x hx) n 0 ((i.Am.length : Int) + (i.An.length : Int) + (i.Ae.length : Int) + (i.Af.length : Int)) (by omega) (by omega)
 unfold JbC
 rw [w1, w2, w3]
 rw [show ((0 : Nat) : Int) = 0 from rfl] at hz
 rw [hz, qwv]
 refine ⟨_, rfl, fun hb => ?_⟩
 simp only [Bool.and_eq_true, decide_eq_true_eq] at hb
 have g := h2 (by omega) (by omega) (by omega)
 rw [List.drop_zero] at g
 unfold quz at g
 have := qey i.Ao
 exact ⟨by omega, by omega, by omega, by omega, by omega⟩
theorem qqa {i : In2} (h : IOK i) : JaE i = some (inp i) := by
 unfold JaE
 have := qey i.Ao
 have := h.f
 rw [qnw (by omega)]; rfl
theorem qrg (b : List FF) : ∀ (l p : List FF), b = p ++ l → JbL (uff b) l p.length = some (.go ())
 | [], p, h => rfl
 | x :: l, p, h => by
  have ih := qrg b l (p ++ [x]) (by simp [h])
  have e : ix (uff b) (p.length : Int) = some ⟨x.Name, x.Value⟩ := by
   unfold ix uff; rw [qwx (by omega), h]; simp
  rw [show (p ++ [x]).length = p.length + 1 by simp] at ih
  rw [JbL, e, qwv, qwv, qww (by simp), qwv, qww (by simp)]
  exact ih
theorem qrh {l : List FF} (h : l.length ≤ 100000) : Jc2 l (uff l) = some true := by
 unfold Jc2
 rw [qww (by simp [qod]), qaa (by simp only [qav]; omega), show (0 : Nat) = ([] : List FF).length from rfl, qrg l l [] rfl]; rfl
theorem qiw (b : List Str) : ∀ (l p : List Str), b = p ++ l → Jbz b l p.length = some (.go ())
 | [], p, h => rfl
 | x :: l, p, h => by
  have ih := qiw b l (p ++ [x]) (by simp [h])
  have e : ix b (p.length : Int) = some x := by
   unfold ix; rw [qwx (by omega), h]; simp
  rw [show (p ++ [x]).length = p.length + 1 by simp] at ih
  rw [Jbz, e, qwv, qww (by simp)]
  exact ih
theorem qix {l : List Str} (h : l.length ≤ 100000) : Jcv l l = some true := by
 unfold Jcv
 rw [qww (by simp), qaa (by simp only [qav]; omega), show (0 : Nat) = ([] : List Str).length from rfl, qiw l l [] rfl]; rfl
theorem qvp {k : Nat} {r : R1} (h : ROK k r) (hk : k ≤ 100000) : JbG r (r2 r) = some true := by
 have h1 := h.h.1
 have h2 := h.v
 have h3 := h.t
 unfold JbG r2
 dsimp only
 rw [qrh (by omega), qix (by omega), qix (by omega)]
 simp
theorem qlb {c : List I} {i : In1} : ∀ (f f' : Nat) (a : Int) (m : M1) (r : Fl (R1 × Err) (Int × M1)), f ≤ f' → Ja2 c i f a m = some r → Ja2 c i f' a m = some r
 | 0, f', a, m, r, _, h => by rw [Ja2] at h; cases h
 | f + 1, 0, a, m, r, hf, h => by omega
 | f + 1, f' + 1, a, m, r, hf, h => by
  rw [Ja2] at h ⊢
  by_cases q : decide (a ≥ 0) = true
  ·rw [qwx q] at h ⊢
   obtain ⟨x, hx, h⟩ := Option.bind_eq_some_iff.1 h
   obtain ⟨p, hp, h⟩ := Option.bind_eq_some_iff.1 h
   rw [hx, qwv, hp, qwv]
   by_cases q2 : p.2.1.isSome = true
   ·rw [qwx q2] at h ⊢; exact h
   ·rw [qww q2] at h ⊢
    exact qlb f f' _ _ r (by omega) h
  ·rw [qww q] at h ⊢; exact h
theorem qoi {c : List I} {i : In1} {most : Int} {f f' : Nat} {r : R1 × Err} (hf : f ≤ f') (h : Jbf f c i most = some r) : Jbf f' c i most = some r := by
 unfold Jbf at h ⊢
 obtain ⟨x, hx, h⟩ := Option.bind_eq_some_iff.1 h
 rw [hx, qwv]
 by_cases q : x.isSome = true
 ·rw [qwx q] at h ⊢; exact h
 ·rw [qww q] at h ⊢
  obtain ⟨s, hs, h⟩ := Option.bind_eq_some_iff.1 h
  rw [qlb f f' _ _ _ hf hs, qwv]; exact h
theorem qum : Jad 10 = some true := by decide +kernel
theorem qoj {n : Nat} (hn : 10 ≤ n) : Jad n = some true := by
 have h := qum
 unfold Jad at h ⊢
 obtain ⟨x, hx, h⟩ := Option.bind_eq_some_iff.1 h
 rw [qoi hn hx, qwv]; exact h
def m0 (i : In2) (most : Int) : M1 := ⟨inp i, most, ⟨i.Ae, i.Af, [], [], [], -1, 0, 0, false, false⟩, [], List.replicate 512 z0⟩
theorem qs3 {c : List I} {f i k : Nat} {m M : M1} {x : I} (hx : c[i]? = some x) (h : qez m (i : Int) x = ((k : Int), none, M)) : ql8 c (f + 1) i m = ql8 c f k M := by
 rw [ql8, hx]
 simp only [h]
 rw [qww (by omega), Int.toNat_natCast]
theorem qqb {c : List I} {f i : Nat} {m : M1} {x : I} {e : Int} (hx : c[i]? = some x) (h : (qez m (i : Int) x).2.1 = some e) : ql8 c (f + 1) i m = (zR, some e) := by
 rw [ql8, hx]
 simp only [h]
theorem qok {c : List I} {f i : Nat} {m M : M1} {x : I} (hx : c[i]? = some x) (h : qez m (i : Int) x = (-1, none, M)) : ql8 c (f + 1) i m = (M.result, none) := by
 rw [ql8, hx]
 simp only [h, if_true]
def put (m : M1) (s : Int) (l : List V1) : M1 := wT (wS m s) l
abbrev SgV := Str → Option V1
def smE (v : V1) : V1 × Err := if v.s.length > 2048 then (z0, some 5) else (v, none)
noncomputable def evE (j : In1) (σ : SgV) : Nat → M → V1 × Err
 | 0, _ => (z0, none)
 | d + 1, x =>
  if x.Ab = 20 then (nm' (qp6 x.Ac), none)
  else if x.Ab = 21 then smE (tx' x.Ac)
  else if x.Ab = 22 then (tr' (decide (x.Ac = Rc.sTrue)), none)
  else if x.Ab = 23 then (match σ x.Ac with | some v => (v, none) | none => smE (qs1 x.Ac j))
  else match x.Aa with
   | [k] => if (evE j σ d k).2.isSome = true then (z0, (evE j σ d k).2) else if x.Ab = 24 then smE (qgm x.Ac (evE j σ d k).1 j).1 else (tr' (!(evE j σ d k).1.At), none)
   | [k, l] => if (evE j σ d k).2.isSome = true then (z0, (evE j σ d k).2)
    else if x.Ab = 14 then (if (evE j σ d k).1.At = true then evE j σ d l else ((evE j σ d k).1, none))
    else if x.Ab = 13 then (if (evE j σ d k).1.At = true then ((evE j σ d k).1, none) else evE j σ d l)
    else if (evE j σ d l).2.isSome = true then (z0, (evE j σ d l).2) else smE (opP (Rc.opw x) (evE j σ d k).1 (evE j σ d l).1).1
   | _ => (z0, none)
structure TyV (ρ : Env) (σ : SgV) : Prop where
 some_ : ∀ s v, σ s = some v → v.kind = ρ s ∧ VOK 2048 v
 none_ : ∀ s, σ s = none → ρ s = base s
theorem qlc {v : V1} {t : Int} (hv : VOK 40000 v) (ht : v.kind = t) : ((smE v).2 = none → (smE v).1.kind = t ∧ VOK 2048 (smE v).1) ∧ ((smE v).2 = none ∨ (smE v).2 = some 5) := by
 unfold smE
 split
 ·exact ⟨(fun h => by cases h), .inr rfl⟩
 ·rename_i q
  exact ⟨fun _ => ⟨ht, (by show v.s.length ≤ 2048; omega), hv.2⟩, .inl rfl⟩
theorem qqc (s : Str) (j : In1) : (qs1 s j).kind = 1 := by
 unfold qs1 Jae
 by_cases q1 : s = [109, 101, 116, 104, 111, 100]
 ·subst q1; rfl
 by_cases q2 : s = [104, 111, 115, 116]
 ·subst q2; rfl
 by_cases q3 : s = [112, 97, 116, 104]
 ·subst q3; rfl
 rw [qww (by simpa using q1), qww (by simpa using q2), qww (by simpa using q3)]; rfl
theorem ql2 {s : Str} {a : V1} {j : In1} (hj : ∃ i, IOK i ∧ j = inp i) (ha : VOK 2048 a) (h : (fnc s).2 ≠ 0) (hk : a.kind = (fnc s).1) : (qgm s a j).2 = true ∧ (qgm s a j).1.kind = (fnc s).2 := by
 obtain ⟨i, hi, rfl⟩ := hj
 obtain ⟨ha0, ha1, ha2⟩ := ha
 have hip := hi.p
 have hiq := hi.q
 have hif := hi.f
 have hsg := qk4 i.Ae
 have hft : tot i.Ao ≤ 1000000 := by omega
 have hsl : a.s.length ≤ 1000000 := by omega
 unfold qgm
 by_cases q1 : s = [104, 101, 97, 100, 101, 114]
 ·subst q1
  have hk1 : a.kind = 1 := hk
  have e : JE [104, 101, 97, 100, 101, 114] a (inp i) = some (tx' (qoq i.Ao a.s), true) := by
   unfold JE
   rw [qww (by decide), qww (by simpa using hk1), qwx (by decide), show (inp i).Ao = ffs i.Ao from rfl, qk8 hft hsl]; rfl
  rw [e]; exact ⟨rfl, rfl⟩
 by_cases q2 : s = [97, 114, 103]
 ·subst q2
  have hk1 : a.kind = 1 := hk
  obtain ⟨b1, h1⟩ := qq9 (q := i.Af) (nm := a.s) (by omega) hsl
  have e : JE [97, 114, 103] a (inp i) = some (tx' (qsq i.Af a.s), true) := by
   unfold JE
   rw [qww (by decide), qww (by simpa using hk1), qww (by decide), qww (by decide), qwx (by decide), show (inp i).Af = i.Af from rfl, h1]; rfl
  rw [e]; exact ⟨rfl, rfl⟩
 by_cases q3 : s = [108, 111, 119, 101, 114]
 ·subst q3
  have hk1 : a.kind = 1 := hk
  have e : JE [108, 111, 119, 101, 114] a (inp i) = some (tx' (low a.s), true) := by
   unfold JE
   rw [qww (by decide), qww (by simpa using hk1), qww (by decide), qww (by decide), qww (by decide), qww (by decide), qwx (by decide), qrd (by omega)]; rfl
  rw [e]; exact ⟨rfl, rfl⟩
 by_cases q4 : s = [104, 97, 115]
 ·subst q4
  have hk1 : a.kind = 1 := hk
  have e : JE [104, 97, 115] a (inp i) = some (tr' (decide (((vals i.Ao a.s).length : Int) > 0)), true) := by
   unfold JE
   rw [qww (by decide), qww (by simpa using hk1), qww (by decide), qwx (by decide), show (inp i).Ao = ffs i.Ao from rfl, qk8 hft hsl]; rfl
  rw [e]; exact ⟨rfl, rfl⟩
 by_cases q5 : s = [108, 101, 110]
 ·subst q5
  have hk1 : a.kind = 1 := hk
  have e : JE [108, 101, 110] a (inp i) = some (nm' (a.s.length : Int), true) := by
   unfold JE
   rw [qww (by decide), qww (by simpa using hk1), qww (by decide), qww (by decide), qww (by decide), qwx (by decide)]; rfl
  rw [e]; exact ⟨rfl, rfl⟩
 by_cases q6 : s = [110, 117, 109, 98, 101, 114]
 ·subst q6
  have hk1 : a.kind = 1 := hk
  have e : JE [110, 117, 109, 98, 101, 114] a (inp i) = some (nm' (qp6 a.s), true) := by
   unfold JE
   rw [qww (by decide), qww (by simpa using hk1), qww (by decide), qww (by decide), qww (by decide), qww (by decide), qww (by decide), qst]; rfl
  rw [e]; exact ⟨rfl, rfl⟩
 by_cases q7 : s = [112, 97, 114, 116]
 ·subst q7
  have hk1 : a.kind = 2 := hk
  have e : ∃ z, JE [112, 97, 114, 116] a (inp i) = some (tx' z, true) := by
   unfold JE
   rw [qwx (by decide), qww (by simpa using hk1), qww (show ¬ decide (([112, 97, 114, 116] : Str) = [116, 101, 120, 116]) = true by decide), show (inp i).Ae = i.Ae from rfl, qny (by omega), qwv]
   by_cases r : 0 ≤ a.n ∧ a.n < (qlz i.Ae).length
   ·obtain ⟨z, hz⟩ := qcm r.1 r.2
    rw [qww (by simp; omega), hz]; exact ⟨_, rfl⟩
   ·rw [qwx (by simp; omega)]; exact ⟨_, rfl⟩
  obtain ⟨z, e⟩ := e
  rw [e]; exact ⟨rfl, rfl⟩
 by_cases q8 : s = [116, 101, 120, 116]
 ·subst q8
  have hk1 : a.kind = 2 := hk
  have e : JE [116, 101, 120, 116] a (inp i) = some (tx' (Go.Lib.itoa a.n), true) := by
   unfold JE
   rw [qwx (by decide), qww (by simpa using hk1), qwx (show decide (([116, 101, 120, 116] : Str) = [116, 101, 120, 116]) = true by decide), qk7 ha1 ha2]; rfl
  rw [e]; exact ⟨rfl, rfl⟩
 refine absurd ?_ h
 unfold fnc JaB
 rw [qww (by simpa using q1), qww (by simpa using q2), qww (by simpa using q3), qww (by simpa using q4), qww (by simpa using q5), qww (by simpa using q6), qww (by simpa using q7), qww (by simpa using q8)]; rfl
theorem qol (t a b : Int) : Jw t [a, b] = some (decide (a = t) && decide (b = t)) := by
 unfold Jw
 rw [qaa (by simp [qav]), JK]
 by_cases q : a = t
 ·rw [qww (by simpa using q), JK]
  by_cases q2 : b = t
  ·rw [qww (by simpa using q2)]; simp [q, q2, JK, Rt.el_go]
  ·rw [qwx (by simpa using q2)]; simp [q, q2, Rt.el_ret]
 ·rw [qwx (by simpa using q)]; simp [q, Rt.el_ret]
theorem opr_two {x : M} {a b t : Int} (h : opr x [a, b] = t) (ht : t ≠ 0) (hk : x.Ab = 17 ∨ x.Ab = 18 ∨ x.Ab = 19 ∨ (x.Ab = 16 ∧ cmp x.Ac = true)) :
  (Rc.opw x = [43] ∧ a = b ∧ t = a ∧ (a = 1 ∨ a = 2)) ∨ ((Rc.opw x = [45] ∨ Rc.opw x = [42]) ∧ a = 2 ∧ b = 2 ∧ t = 2) ∨ ((Rc.opw x = [61, 61] ∨ Rc.opw x = [33, 61]) ∧ a = b ∧ t = 3) ∨
  ((Rc.opw x = [60] ∨ Rc.opw x = [60, 61]) ∧ a = 2 ∧ b = 2 ∧ t = 3) ∨ ((Rc.opw x = [115, 116, 97, 114, 116, 115] ∨ Rc.opw x = [101, 110, 100, 115] ∨ Rc.opw x = [99, 111, 110, 116, 97, 105, 110, 115]) ∧ a = 1 ∧ b = 1 ∧ t = 3) := by
 unfold opr J1 at h
 unfold Rc.opw
 simp only [qol, qwv] at h
 rcases hk with q | q | q | ⟨q, qc⟩
 ·left
  simp only [q, decide_true, if_true] at h
  rw [qwx q]
  by_cases w : a = 1 ∧ b = 1
  ·rw [qwx (by simp [w])] at h
   refine ⟨rfl, by omega, ?_, .inl w.1⟩
   simp at h; omega
  ·rw [qww (by simpa using w)] at h
   by_cases w2 : a = 2 ∧ b = 2
   ·rw [qwx (by simp [w2])] at h
    refine ⟨rfl, by omega, ?_, .inr w2.1⟩
    simp at h; omega
   ·rw [qww (by simpa using w2)] at h
    exact absurd (by simpa using h.symm) ht
 ·right; left
  rw [qww (by simp [q]), qwx (by simp [q])] at h
  rw [qww (by omega), qwx q]
  by_cases w2 : a = 2 ∧ b = 2
  ·rw [qwx (by simp [w2])] at h
   refine ⟨.inl rfl, w2.1, w2.2, ?_⟩
   simp at h; omega
  ·rw [qww (by simpa using w2)] at h
   exact absurd (by simpa using h.symm) ht
 ·right; left
  rw [qww (by simp [q]), qww (by simp [q]), qwx (by simp [q])] at h
  rw [qww (by omega), qww (by omega), qwx q]
  by_cases w2 : a = 2 ∧ b = 2
  ·rw [qwx (by simp [w2])] at h
   refine ⟨.inr rfl, w2.1, w2.2, ?_⟩
   simp at h; omega
  ·rw [qww (by simpa using w2)] at h
   exact absurd (by simpa using h.symm) ht
 ·right; right
  rw [qww (by simp [q]), qww (by simp [q]), qww (by simp [q]), qww (by simp [q]), qww (by simp [q]), qww (by simp [q]), qwx (by simp [q])] at h
  rw [qww (by omega), qww (by omega), qww (by omega)]
  have eqc : ∀ {o : Option Int}, ((if decide (a = b) = true then some 3 else some 0 : Option Int).getD 0) = t → a = b ∧ t = 3 := fun {o} h => by
   by_cases w : a = b
   ·rw [qwx (by simpa using w)] at h; simp at h; exact ⟨w, h.symm⟩
   ·rw [qww (by simpa using w)] at h; exact absurd (by simpa using h.symm) ht
  have two : ∀ {k : Int}, ((if (decide (a = k) && decide (b = k)) = true then some 3 else some 0 : Option Int).getD 0) = t → a = k ∧ b = k ∧ t = 3 := fun {k} h => by
   by_cases w : a = k ∧ b = k
   ·rw [qwx (by simp [w])] at h; simp at h; exact ⟨w.1, w.2, h.symm⟩
   ·rw [qww (by simpa using w)] at h; exact absurd (by simpa using h.symm) ht
  by_cases w1 : x.Ac = [61, 61]
  ·rw [qwx (by simpa using w1)] at h
   exact .inl ⟨.inl w1, eqc (o := none) h⟩
  rw [qww (by simpa using w1)] at h
  by_cases w2 : x.Ac = [33, 61]
  ·rw [qwx (by simpa using w2)] at h
   exact .inl ⟨.inr w2, eqc (o := none) h⟩
  rw [qww (by simpa using w2)] at h
  by_cases w3 : x.Ac = [60]
  ·rw [qwx (by simpa using w3)] at h
   exact .inr (.inl ⟨.inl w3, two h⟩)
  rw [qww (by simpa using w3)] at h
  by_cases w4 : x.Ac = [60, 61]
  ·rw [qwx (by simpa using w4)] at h
   exact .inr (.inl ⟨.inr w4, two h⟩)
  rw [qww (by simpa using w4)] at h
  refine .inr (.inr ⟨?_, two h⟩)
  unfold cmp at qc
  simp [w1, w2, w3, w4] at qc
  exact qc
theorem qqd {x : M} {a b : V1} {t : Int} (ha : VOK 2048 a) (hb : VOK 2048 b) (h : opr x [a.kind, b.kind] = t) (ht : t ≠ 0) (hk : x.Ab = 17 ∨ x.Ab = 18 ∨ x.Ab = 19 ∨ (x.Ab = 16 ∧ cmp x.Ac = true)) :
  (opP (Rc.opw x) a b).2 = true ∧ (opP (Rc.opw x) a b).1.kind = t := by
 obtain ⟨ha0, ha1, ha2⟩ := ha
 obtain ⟨hb0, hb1, hb2⟩ := hb
 unfold opP JJ
 rcases opr_two h ht hk with ⟨e, e1, e2, e3⟩ | ⟨e, e1, e2, e3⟩ | ⟨e, e1, e2⟩ | ⟨e, e1, e2, e3⟩ | ⟨e, e1, e2, e3⟩
 ·rw [e, qww (by simpa using e1), qwx (by decide)]
  rcases e3 with q | q
  ·rw [qwx (by simpa using q), qaa (by simp only [lim]; omega)]; exact ⟨rfl, by rw [e2, q]; rfl⟩
  ·rw [qww (by rw [q]; decide), qaa (by constructor <;> omega)]; exact ⟨by simp [q, qp7], by rw [e2, q]; rfl⟩
 ·rcases e with e | e
  ·rw [e, qww (by rw [e1, e2]; decide), qww (by decide), qwx (by decide), qaa (by constructor <;> omega)]; exact ⟨by simp [e1, qp7], by rw [e3]; rfl⟩
  ·rw [e, qww (by rw [e1, e2]; decide), qww (by decide), qww (by decide), qwx (by decide), qww (by rw [e1]; decide), qob ha1 ha2 hb1 hb2]; exact ⟨rfl, by rw [e3]; rfl⟩
 ·rcases e with e | e
  ·rw [e, qww (by simpa using e1), qww (by decide), qww (by decide), qww (by decide), qwx (by decide)]; exact ⟨rfl, by rw [e2]; rfl⟩
  ·rw [e, qww (by simpa using e1), qww (by decide), qww (by decide), qww (by decide), qww (by decide), qwx (by decide)]; exact ⟨rfl, by rw [e2]; rfl⟩
 ·rcases e with e | e
  ·rw [e, qww (by rw [e1, e2]; decide), qww (by decide), qww (by decide), qww (by decide), qww (by decide), qww (by decide), qwx (by decide)]; exact ⟨by simp [e1, qis], by rw [e3]; rfl⟩
  ·rw [e, qww (by rw [e1, e2]; decide), qww (by decide), qww (by decide), qww (by decide), qww (by decide), qww (by decide), qww (by decide), qwx (by decide)]; exact ⟨by simp [e1, qis], by rw [e3]; rfl⟩
 ·rcases e with e | e | e
  ·rw [e, qww (by rw [e1, e2]; decide), qww (by decide), qww (by decide), qww (by decide), qww (by decide), qww (by decide), qww (by decide), qww (by decide), qwx (by decide), pfx]; exact ⟨by simp [e1, qis], by rw [e3]; rfl⟩
  ·rw [e, qww (by rw [e1, e2]; decide), qww (by decide), qww (by decide), qww (by decide), qww (by decide), qww (by decide), qww (by decide), qww (by decide), qww (by decide), qwx (by decide), sfx (by omega) (by omega)]; exact ⟨by simp [e1, qis], by rw [e3]; rfl⟩
  ·rw [e, qww (by rw [e1, e2]; decide), qww (by decide), qww (by decide), qww (by decide), qww (by decide), qww (by decide), qww (by decide), qww (by decide), qww (by decide), qww (by decide), qfc (by omega)]; exact ⟨by simp [e1, qis], by rw [e3]; rfl⟩
theorem qld {d : Nat} {ρ : Env} {x k : M} {t : Int} (hk : x.Aa = [k]) (h : tyE (d + 1) ρ x = .ok t) : ∃ t1, tyE d ρ k = .ok t1 ∧ tyN ρ x [t1] = .ok t := by
 obtain ⟨ts, h1, h2⟩ := qjr h
 rw [hk, kidsE] at h1
 cases q : tyE d ρ k with
 | error e => rw [q] at h1; cases h1
 | ok t1 => rw [q] at h1; simp only [kidsE] at h1; cases h1; exact ⟨t1, rfl, h2⟩
theorem qle {d : Nat} {ρ : Env} {x k l : M} {t : Int} (hk : x.Aa = [k, l]) (h : tyE (d + 1) ρ x = .ok t) : ∃ t1 t2, tyE d ρ k = .ok t1 ∧ tyE d ρ l = .ok t2 ∧ tyN ρ x [t1, t2] = .ok t := by
 obtain ⟨ts, h1, h2⟩ := qjr h
 rw [hk, kidsE] at h1
 cases q : tyE d ρ k with
 | error e => rw [q] at h1; cases h1
 | ok t1 =>
  rw [q] at h1
  simp only [kidsE] at h1
  cases q2 : tyE d ρ l with
  | error e => rw [q2] at h1; cases h1
  | ok t2 => rw [q2] at h1; simp only at h1; cases h1; exact ⟨t1, t2, rfl, rfl, h2⟩
theorem qgn {j : In1} {ρ : Env} {σ : SgV} (hj : ∃ i, IOK i ∧ j = inp i) (hT : TyV ρ σ) : ∀ (d : Nat) (x : M) (t : Int), Rc.XE ρ d x → tyE d ρ x = .ok t → ((evE j σ d x).2 = none → (evE j σ d x).1.kind = t ∧ VOK 2048 (evE j σ d x).1) ∧ ((evE j σ d x).2 = none ∨ (evE j σ d x).2 = some 5)
 | 0, x, t, hx, _ => hx.elim
 | d + 1, x, t, hx, ht => by
  obtain ⟨htl, hx⟩ := hx
  obtain ⟨ts, hts, htn⟩ := qjr ht
  have hv := qsi htn
  rw [evE]
  rcases hx with ⟨hk, _, hkk⟩ | ⟨hk, _, hkk⟩ | ⟨hk, hkk⟩ | ⟨hk, hρ, hkk⟩ | ⟨hk, k, hkk, hxk⟩ | ⟨hk, k, l, hkk, hxk, hxl⟩
  ·rw [qwx hk]
   exact ⟨fun _ => ⟨(hv.1 hk).symm, ql0 _ _⟩, .inl rfl⟩
  ·rw [qww (by omega), qwx hk]
   exact qlc (qfe (by omega)) (hv.2.1 hk).symm
  ·rw [qww (by omega), qww (by omega), qwx hk]
   exact ⟨fun _ => ⟨(hv.2.2.1 hk).symm, qgo _ _⟩, .inl rfl⟩
  ·rw [qww (by omega), qww (by omega), qww (by omega), qwx hk]
   have e := hv.2.2.2.1 hk
   cases q : σ x.Ac with
   | some v =>
    obtain ⟨a1, a2⟩ := hT.some_ _ _ q
    exact ⟨fun _ => ⟨by rw [e]; exact a1, a2⟩, .inl rfl⟩
   | none =>
    have a1 := hT.none_ _ q
    obtain ⟨p1, p2⟩ := qrf (nm := x.Ac) hj
    refine qlc (p2.mono (by omega)) ?_
    rw [qqc, e, a1]
    rw [a1] at hρ
    unfold base at hρ ⊢
    split at hρ
    ·rename_i w; rw [qwx w]
    ·exact absurd rfl hρ
  ·obtain ⟨t1, ht1, hn1⟩ := qld hkk ht
   obtain ⟨ih1, ih2⟩ := qgn hj hT d k t1 hxk ht1
   rw [qww (by omega), qww (by omega), qww (by omega), qww (by omega), hkk]
   simp only
   rcases ih2 with q | q
   ·rw [qww (by rw [q]; simp)]
    obtain ⟨g1, g2⟩ := ih1 q
    rcases hk with ⟨hk, hf⟩ | hk
    ·rw [qwx hk]
     unfold tyN at hn1
     rw [qww (by omega), qww (by omega), qww (by omega), qww (by omega), qwx hk, qww hf] at hn1
     by_cases w : [t1] = [(fnc x.Ac).1]
     ·rw [qwx w] at hn1
      cases hn1
      have w1 : t1 = (fnc x.Ac).1 := by simpa using w
      obtain ⟨c1, c2⟩ := ql2 hj g2 hf (by rw [g1, w1])
      obtain ⟨c3, c4⟩ := qof (n := 0) (nm := x.Ac) hj (by omega) g2
      exact qlc (c4 c1) c2
     ·rw [qww w] at hn1; cases hn1
    ·rw [qww (by omega)]
     unfold tyN at hn1
     rw [qww (by omega), qww (by omega), qww (by omega), qww (by omega), qww (by omega)] at hn1
     by_cases w : opr x [t1] = 0
     ·rw [qwx w] at hn1; cases hn1
     ·rw [qww w] at hn1
      cases hn1
      have e15 : opr x [t1] = 3 := by
       unfold opr J1 at w ⊢
       rw [qww (by simp [hk]), qww (by simp [hk]), qww (by simp [hk]), qww (by simp [hk]), qww (by simp [hk]), qwx (by simp [hk])] at w ⊢
       unfold Jw at w ⊢
       rw [qaa (by simp [qav]), JK] at w ⊢
       by_cases w3 : t1 = 3
       ·rw [qww (by simpa using w3)]; rfl
       ·rw [qwx (by simpa using w3)] at w; exact absurd rfl w
      exact ⟨fun _ => ⟨by rw [e15]; rfl, qgo _ _⟩, .inl rfl⟩
   ·rw [qwx (by rw [q]; rfl)]
    exact ⟨(fun h => by rw [q] at h; cases h), .inr q⟩
  ·obtain ⟨t1, t2, ht1, ht2, hn1⟩ := qle hkk ht
   obtain ⟨ih1, ih2⟩ := qgn hj hT d k t1 hxk ht1
   obtain ⟨ih3, ih4⟩ := qgn hj hT d l t2 hxl ht2
   rw [qww (by omega), qww (by omega), qww (by omega), qww (by omega), hkk]
   simp only
   unfold tyN at hn1
   rw [qww (by omega), qww (by omega), qww (by omega), qww (by omega), qww (by omega)] at hn1
   rcases ih2 with q | q
   ·rw [qww (by rw [q]; simp)]
    obtain ⟨g1, g2⟩ := ih1 q
    by_cases w : opr x [t1, t2] = 0
    ·rw [qwx w] at hn1; cases hn1
    ·rw [qww w] at hn1
     cases hn1
     have lg : (x.Ab = 13 ∨ x.Ab = 14) → t1 = 3 ∧ t2 = 3 ∧ opr x [t1, t2] = 3 := fun hk => by
      unfold opr J1 at w ⊢
      rw [qww (by rcases hk with q | q <;> simp [q]), qww (by rcases hk with q | q <;> simp [q]), qww (by rcases hk with q | q <;> simp [q])] at w ⊢
      have e : (if decide (x.Ab = 13) = true then (Jw 3 [t1, t2]).bind fun x25 => if x25 = true then some 3 else some 0
       else if decide (x.Ab = 14) = true then (Jw 3 [t1, t2]).bind fun x25 => if x25 = true then some 3 else some 0 else none) = if (decide (t1 = 3) && decide (t2 = 3)) = true then some (3 : Int) else some 0 := by
       rw [qol]
       rcases hk with q | q <;> simp [q]
      have e2 : ∀ {o : Option Int}, (if decide (x.Ab = 13) = true then (Jw 3 [t1, t2]).bind fun x25 => if x25 = true then some 3 else some 0
       else if decide (x.Ab = 14) = true then (Jw 3 [t1, t2]).bind fun x25 => if x25 = true then some 3 else some 0 else o) = if (decide (t1 = 3) && decide (t2 = 3)) = true then some (3 : Int) else some 0 := by
       intro o
       rw [← e]
       rcases hk with q | q <;> simp [q]
      rw [e2] at w ⊢
      by_cases w3 : t1 = 3 ∧ t2 = 3
      ·rw [qwx (by simp [w3])]; exact ⟨w3.1, w3.2, rfl⟩
      ·rw [qww (by simpa using w3)] at w; exact absurd rfl w
     by_cases k14 : x.Ab = 14
     ·obtain ⟨l1, l2, l3⟩ := lg (.inr k14)
      rw [qwx k14, l3]
      split
      ·rw [← l2]; exact ⟨ih3, ih4⟩
      ·exact ⟨fun _ => ⟨by rw [g1, l1], g2⟩, .inl rfl⟩
     ·rw [qww k14]
      by_cases k13 : x.Ab = 13
      ·obtain ⟨l1, l2, l3⟩ := lg (.inl k13)
       rw [qwx k13, l3]
       split
       ·exact ⟨fun _ => ⟨by rw [g1, l1], g2⟩, .inl rfl⟩
       ·rw [← l2]; exact ⟨ih3, ih4⟩
      ·rw [qww k13]
       rcases ih4 with q4 | q4
       ·rw [qww (by rw [q4]; simp)]
        obtain ⟨g3, g4⟩ := ih3 q4
        have hk' : x.Ab = 17 ∨ x.Ab = 18 ∨ x.Ab = 19 ∨ (x.Ab = 16 ∧ cmp x.Ac = true) := by
         rcases hk with q | q | q | q | q | q
         ·exact absurd q k13
         ·exact absurd q k14
         ·exact .inl q
         ·exact .inr (.inl q)
         ·exact .inr (.inr (.inl q))
         ·exact .inr (.inr (.inr q))
        obtain ⟨c1, c2⟩ := qqd g2 g4 (t := opr x [t1, t2]) (by rw [g1, g3]) w hk'
        obtain ⟨c3, c4⟩ := qog (op := Rc.opw x) (by omega) g2 g4
        exact qlc (c4 c1) c2
       ·rw [qwx (by rw [q4]; rfl)]
        exact ⟨(fun h => by rw [q4] at h; cases h), .inr q4⟩
   ·rw [qwx (by rw [q]; rfl)]
    exact ⟨(fun h => by rw [q] at h; cases h), .inr q⟩
abbrev B1 := Jy
abbrev B2 := Jay
def sgV (env : List B1) : SgV := fun s => (env.reverse.find? (fun b => decide (b.name = s))).map (·.value)
theorem qs4 : sgV [] = fun _ => none := rfl
theorem qqe (env : List B1) (s : Str) (v : V1) : sgV (env ++ [⟨s, v⟩]) = fun q => if s = q then some v else sgV env q := by
 funext q
 unfold sgV
 rw [List.reverse_append]
 simp only [List.reverse_cons, List.reverse_nil, List.nil_append, List.singleton_append, List.find?_cons]
 by_cases w : s = q
 ·simp [w]
 ·simp [w]
theorem qun {env : List B1} {x : M} (hl : env.length ≤ 1000000) : ∀ (k m : Nat), k ≤ env.length → k < m → J6 env x m ((k : Int) - 1) = some (match (env.take k).reverse.find? (fun b => decide (b.name = x.Ac)) with
  | some b => .ret (b.value, none)
  | none => .go (-1))
 | k, 0, _, h => by omega
 | 0, m + 1, _, _ => by rw [J6, qww (by simp)]; rfl
 | k + 1, m + 1, hk, hm => by
  have hlt : k < env.length := by omega
  have e : ((k + 1 : Nat) : Int) - 1 = (k : Int) := by omega
  rw [J6, e, qwx (by simp), qiv hlt, qwv, List.take_add_one, List.getElem?_eq_getElem hlt]
  simp only [Option.toList_some, List.reverse_append, List.reverse_cons, List.reverse_nil, List.nil_append, List.singleton_append, List.find?_cons]
  by_cases w : env[k].name = x.Ac
  ·rw [qwx (by simpa using w), qwv, decide_eq_true w]
  ·rw [qww (by simpa using w), decide_eq_false w, qaa (by constructor <;> omega)]
   exact qun hl k m (by omega) (by omega)
theorem qlf (v : V1) : Jbu v = some (smE v) := by
 unfold Jbu smE
 by_cases q : v.s.length > 2048
 ·rw [qwx (by simp; omega), qwx q]; rfl
 ·rw [qww (by simp; omega), qww q]
theorem ql3 {x : M} {T : Type} {A B : Option (Fl T Str)} (n13 : x.Ab ≠ 13) (n14 : x.Ab ≠ 14) (n15 : x.Ab ≠ 15) (n24 : x.Ab ≠ 24) {C D : Option (Fl T Str)} :
  (if decide (x.Ab = 24) = true then A else if decide (x.Ab = 15) = true then B else if decide (x.Ab = 14) = true then C else if decide (x.Ab = 13) = true then D else
   if decide (x.Ab = 17) = true then some (Fl.go ([43] : Str)) else if decide (x.Ab = 18) = true then some (Fl.go ([45] : Str)) else if decide (x.Ab = 19) = true then some (Fl.go ([42] : Str)) else some (Fl.go x.Ac)) = some (Fl.go (Rc.opw x)) := by
 rw [qww (by simpa using n24), qww (by simpa using n15), qww (by simpa using n14), qww (by simpa using n13)]
 unfold Rc.opw
 by_cases q17 : x.Ab = 17
 ·rw [qwx (by simpa using q17), qwx q17]
 rw [qww (by simpa using q17), qww q17]
 by_cases q18 : x.Ab = 18
 ·rw [qwx (by simpa using q18), qwx q18]
 rw [qww (by simpa using q18), qww q18]
 by_cases q19 : x.Ab = 19
 ·rw [qwx (by simpa using q19), qwx q19]
 ·rw [qww (by simpa using q19), qww q19]
theorem qvq {j : In1} {σ : SgV} {d : Nat} {x k : M} (h20 : x.Ab ≠ 20) (h21 : x.Ab ≠ 21) (h22 : x.Ab ≠ 22) (h23 : x.Ab ≠ 23) (hkk : x.Aa = [k]) :
  evE j σ (d + 1) x = if (evE j σ d k).2.isSome = true then (z0, (evE j σ d k).2) else if x.Ab = 24 then smE (qgm x.Ac (evE j σ d k).1 j).1 else (tr' (!(evE j σ d k).1.At), none) := by
 rw [evE, qww h20, qww h21, qww h22, qww h23, hkk]
theorem qvr {j : In1} {σ : SgV} {d : Nat} {x k l : M} (h20 : x.Ab ≠ 20) (h21 : x.Ab ≠ 21) (h22 : x.Ab ≠ 22) (h23 : x.Ab ≠ 23) (hkk : x.Aa = [k, l]) :
  evE j σ (d + 1) x = if (evE j σ d k).2.isSome = true then (z0, (evE j σ d k).2)
    else if x.Ab = 14 then (if (evE j σ d k).1.At = true then evE j σ d l else ((evE j σ d k).1, none))
    else if x.Ab = 13 then (if (evE j σ d k).1.At = true then ((evE j σ d k).1, none) else evE j σ d l)
    else if (evE j σ d l).2.isSome = true then (z0, (evE j σ d l).2) else smE (opP (Rc.opw x) (evE j σ d k).1 (evE j σ d l).1).1 := by
 rw [evE, qww h20, qww h21, qww h22, qww h23, hkk]
theorem qqf {w : Jn} {ρ : Env} {env : List B1} (hj : ∃ i, IOK i ∧ w.Ar = inp i) (hT : TyV ρ (sgV env)) (hl : env.length ≤ 100000) : ∀ (d n : Nat) (x : M) (t : Int), Rc.XE ρ d x → tyE d ρ x = .ok t → d + 200000 ≤ n →
  JW n w x env = some (evE w.Ar (sgV env) d x)
 | 0, n, x, t, hx, _, _ => hx.elim
 | d + 1, 0, x, t, hx, ht, hn => by omega
 | d + 1, n + 1, x, t, hx, ht, hn => by
  obtain ⟨htl, hx⟩ := hx
  rw [JW]
  rcases hx with ⟨hk, _, hkk⟩ | ⟨hk, _, hkk⟩ | ⟨hk, hkk⟩ | ⟨hk, hρ, hkk⟩ | ⟨hk, k, hkk, hxk⟩ | ⟨hk, k, l, hkk, hxk, hxl⟩
  ·rw [qwx (by simpa using hk), evE, qwx hk, qst]; rfl
  ·rw [qww (by simp [hk]), qwx (by simpa using hk), evE, qww (by omega), qwx hk, quc, qwv, qlf]; rfl
  ·rw [qww (by simp [hk]), qww (by simp [hk]), qwx (by simpa using hk), evE, qww (by omega), qww (by omega), qwx hk]; rfl
  ·rw [qww (by simp [hk]), qww (by simp [hk]), qww (by simp [hk]), qwx (by simpa using hk), evE, qww (by omega), qww (by omega), qww (by omega), qwx hk, qaa (by constructor <;> omega), qun (by omega) env.length n (Nat.le_refl _) (by omega), qwv, List.take_length]
   unfold sgV
   cases q : env.reverse.find? (fun b => decide (b.name = x.Ac)) with
   | some b => rfl
   | none =>
    rw [Rt.el_go, (qrf hj).1, qwv, qlf]; rfl
  ·obtain ⟨t1, ht1, hn1⟩ := qld hkk ht
   have ih := qqf hj hT hl d n k t1 hxk ht1 (by omega)
   obtain ⟨g1, g2⟩ := qgn hj hT d k t1 hxk ht1
   have eE := qvq (j := w.Ar) (σ := sgV env) (d := d) (x := x) (k := k) (by omega) (by omega) (by omega) (by omega) hkk
   rw [qww (by rcases hk with ⟨h, _⟩ | h <;> simp [h]), qww (by rcases hk with ⟨h, _⟩ | h <;> simp [h]), qww (by rcases hk with ⟨h, _⟩ | h <;> simp [h]), qww (by rcases hk with ⟨h, _⟩ | h <;> simp [h]),
    hkk, Rc.ix0, qwv, ih, qwv]
   rcases g2 with q | q
   ·rw [qww (by rw [q]; simp)] at eE
    rw [qww (by rw [q]; simp)]
    obtain ⟨g3, g4⟩ := g1 q
    by_cases k24 : x.Ab = 24
    ·rw [qwx k24] at eE
     rw [eE, qwx (by simpa using k24), (qof (n := 0) (nm := x.Ac) hj (by omega) g4).1, qwv, qlf]; rfl
    ·have k15 : x.Ab = 15 := hk.elim (fun h => absurd h.1 k24) id
     rw [qww k24] at eE
     rw [eE, qww (by simpa using k24), qwx (by simpa using k15)]; rfl
   ·rw [qwx (by rw [q]; rfl)] at eE
    rw [eE, qwx (by rw [q]; rfl)]; rfl
  ·obtain ⟨t1, t2, ht1, ht2, hn1⟩ := qle hkk ht
   have ihk := qqf hj hT hl d n k t1 hxk ht1 (by omega)
   have ihl := qqf hj hT hl d n l t2 hxl ht2 (by omega)
   obtain ⟨g1, g2⟩ := qgn hj hT d k t1 hxk ht1
   obtain ⟨g5, g6⟩ := qgn hj hT d l t2 hxl ht2
   have eE := qvr (j := w.Ar) (σ := sgV env) (d := d) (x := x) (k := k) (l := l) (by omega) (by omega) (by omega) (by omega) hkk
   rw [qww (by simp; omega), qww (by simp; omega), qww (by simp; omega), qww (by simp; omega), hkk, Rc.ix0, qwv, ihk, qwv, Rc.ix1]
   simp only [qwv]
   rw [ihl]
   simp only [qwv]
   rcases g2 with q | q
   ·rw [qww (by rw [q]; simp)] at eE
    rw [qww (by rw [q]; simp)]
    obtain ⟨g3, g4⟩ := g1 q
    by_cases k14 : x.Ab = 14
    ·rw [qwx k14] at eE
     rw [eE, qww (by simp [k14]), qww (by simp [k14]), qwx (by simpa using k14)]
     cases hz : (evE w.Ar (sgV env) d k).1.At with
     | true => rw [qww (by simp)]; rfl
     | false => rw [qwx (by simp)]; rfl
    ·by_cases k13 : x.Ab = 13
     ·rw [qww k14, qwx k13] at eE
      rw [eE, qww (by simp [k13]), qww (by simp [k13]), qww (by simp [k13]), qwx (by simpa using k13)]
      cases hz : (evE w.Ar (sgV env) d k).1.At with
      | true => rw [qwx rfl]; rfl
      | false => rw [qww (by simp)]; rfl
     ·rw [qww k14, qww k13] at eE
      rw [eE, ql3 k13 k14 (by omega) (by omega), qwv, Rt.el_go]
      rcases g6 with q6 | q6
      ·rw [qww (by rw [q6]; simp), qww (by rw [q6]; simp)]
       obtain ⟨g7, g8⟩ := g5 q6
       rw [(qog (op := Rc.opw x) (by omega) g4 g8).1, qwv, qlf]; rfl
      ·rw [qwx (by rw [q6]; rfl), qwx (by rw [q6]; rfl)]; rfl
   ·rw [qwx (by rw [q]; rfl)] at eE
    rw [eE, qwx (by rw [q]; rfl)]; rfl
abbrev WSt := R1 × Bool
def evL (g : List B1 → WSt → M → List B1 × Err × WSt) : List B1 → WSt → List M → Err × WSt
 | E, s, [] => (none, s)
 | E, s, x :: l => if s.2 = true then (none, s) else match (g E s x).2.1 with
  | some e => (some e, (g E s x).2.2)
  | none => evL g (g E s x).1 (g E s x).2.2 l
noncomputable def hdV (j : In1) (d : Nat) (E : List B1) : List M → V1 × Err
 | [] => (z0, none)
 | k :: _ => evE j (sgV E) d k
def thn (x : M) : List M := match x.Aa with
 | _ :: t :: _ => t.Aa
 | _ => []
def els (x : M) : List M := match x.Aa with
 | _ :: _ :: o :: _ => brn o
 | _ => []
def wdP (x : M) : Str := (Rc.acw x).getD []
noncomputable def evS (j : In1) : Nat → List B1 → WSt → M → List B1 × Err × WSt
 | 0, E, s, x => (E, none, s)
 | d + 1, E, s, x =>
  if (hdV j d E x.Aa).2.isSome = true then (E, (hdV j d E x.Aa).2, s)
  else if x.Ab = 3 then (E ++ [⟨x.Ac, (hdV j d E x.Aa).1⟩], none, s)
  else if x.Ab = 2 then (E, evL (evS j d) E s (if (hdV j d E x.Aa).1.At = true then thn x else els x))
  else (E, (qhw s.1 (wdP x) (hdV j d E x.Aa).1).2, (qhw s.1 (wdP x) (hdV j d E x.Aa).1).1, decide (x.Ab = 9))
structure StF (d : Nat) (ρ ρ' : Env) (x : M) : Prop where
 tl : x.Ac.length ≤ 3000
 kid : (x.Aa = [] ∧ x.Ab ≠ 2 ∧ x.Ab ≠ 3) ∨ ∃ e ks t, x.Aa = e :: ks ∧ Rc.XE ρ d e ∧ tyE d ρ e = .ok t ∧ (x.Ab = 3 → ρ' = ext ρ x.Ac t)
 same : x.Ab ≠ 3 → ρ' = ρ
 brn2 : x.Ab = 2 → (∃ e t, t.Ab = 12 ∧ (x.Aa = [e, t] ∨ ∃ o, (o.Ab = 12 ∨ o.Ab = 2) ∧ x.Aa = [e, t, o])) ∧ ∀ l, l = thn x ∨ l = els x → (∀ y ∈ l, Gd d y) ∧ l.length ≤ 700 ∧ (∃ ρ1, foldS (stm d) ρ l = .ok ρ1) ∧ Rt.cntL d l + 1 ≤ Rt.cnt (d + 1) x
 word : x.Ab ≠ 2 → x.Ab ≠ 3 → ∃ w k, Rc.acw x = some w ∧ Rc.actK w = some k ∧ w.length ≤ 100000
theorem qri {d : Nat} {ρ ρ' : Env} {x : M} (hg : Gd (d + 1) x) (hs : stm (d + 1) ρ x = .ok ρ') : StF d ρ ρ' x := by
 obtain ⟨hok, m, hm⟩ := hg
 obtain ⟨h1, h2, h3⟩ := hok
 have hm' := hm
 obtain ⟨m', rfl, hv0, hv2⟩ := qc4 hm'
 have hSF := Rc.stated_form h1 hm
 have word : x.Ab ≠ 2 → x.Ab ≠ 3 → ∃ w k, Rc.acw x = some w ∧ Rc.actK w = some k ∧ w.length ≤ 100000 := fun n2 n3 => by
  obtain ⟨w, e1, e2⟩ := Rc.acs_eff hSF n2 n3
  have e3 := Rc.acs_S h1 ⟨11, 0, w⟩ (by rw [e1]; simp)
  unfold Rc.acs at e1
  cases q : Rc.acw x with
  | none => rw [q] at e1; cases e1
  | some w' =>
   rw [q] at e1
   simp only [List.cons.injEq, and_true] at e1
   have ew : w' = w := by injection e1
   subst ew
   have e4 : (Rc.actK w').map (fun k => (k, (0 : Int))) = some ((x.Aa.length : Int), 0) := e2
   cases hk : Rc.actK w' with
   | none => rw [hk] at e4; cases e4
   | some k => exact ⟨w', k, rfl, hk, e3⟩
 cases hkk : x.Aa with
 | nil =>
  have n2 : x.Ab ≠ 2 := fun q => by
   obtain ⟨e, t, _, hk⟩ := Rc.if_kids q hm
   rcases hk with hk | ⟨o, _, hk⟩ <;> (rw [hkk] at hk; cases hk)
  have n3 : x.Ab ≠ 3 := fun q => by
   unfold Rc.SF at hSF
   rcases hSF with h | ⟨_, h⟩ | ⟨h, _⟩ | ⟨h, _⟩ | ⟨h, _⟩ | ⟨h, _⟩ | ⟨h, _⟩
   ·omega
   ·rw [hkk] at h; cases h
   ·omega
   ·omega
   ·omega
   ·omega
   ·omega
  rw [stm, hkk] at hs
  cases hs
  exact ⟨h1, .inl ⟨hkk, n2, n3⟩, fun _ => rfl, fun q => absurd q n2, word⟩
 | cons e ks =>
  obtain ⟨t, ht, hst⟩ := qsj hkk hs
  have hE : Rc.XE ρ d e := Rc.XE_of (h3 e (by rw [hkk]; simp)) (hv0 e (by rw [hkk]; rfl)) ht
  refine ⟨h1, .inr ⟨e, ks, t, hkk, hE, ht, fun q3 => ?_⟩, fun n3 => ?_, fun q2 => ?_, word⟩
  ·rcases hst with ⟨_, h⟩ | ⟨q, _⟩ | ⟨q, _⟩
   ·exact h
   ·omega
   ·exact absurd q3 q
  ·rcases hst with ⟨q, _⟩ | ⟨_, h, _⟩ | ⟨_, _, h⟩
   ·exact absurd q n3
   ·exact h
   ·exact h
  ·obtain ⟨l2, hb⟩ := hv2 q2
   obtain ⟨e', t', ht12, hk⟩ := Rc.if_kids q2 hm
   refine ⟨⟨e', t', ht12, hk⟩, ?_⟩
   rcases hst with ⟨q, _⟩ | ⟨_, hρ, hbr⟩ | ⟨_, q, _⟩
   ·omega
   ·have hT := qk0 hbr
    have gd : ∀ k ∈ ks, (∀ q ∈ brn k, Gd d q) ∧ (brn k).length ≤ 700 := fun k hk1 => by
     have hk2 : k ∈ x.Aa := by rw [hkk]; simp [hk1]
     obtain ⟨l', e1, e2, e3⟩ := qgf (h3 k hk2) ((hb k (by rw [hkk]; simpa using hk1)).imp (fun h => ⟨h.1, fun q hq => ⟨m', h.2 q hq⟩⟩) fun h => ⟨h.1, m', h.2⟩)
     rw [qkz] at e1
     cases e1
     exact ⟨e3, e2⟩
    have main : ∀ k ∈ ks, (∀ y ∈ brn k, Gd d y) ∧ (brn k).length ≤ 700 ∧ (∃ ρ1, foldS (stm d) ρ (brn k) = .ok ρ1) ∧ Rt.cntL d (brn k) + 1 ≤ Rt.cnt (d + 1) x := fun k hk1 => by
     obtain ⟨g1, g2⟩ := gd k hk1
     refine ⟨g1, g2, hT k hk1, ?_⟩
     have hc := (Rt.brn_ok (d := d) (k := k) (h3 k (by rw [hkk]; simp [hk1]))).2
     have hm2 := Rt.cnt_mem (d := d) (l := x.Aa) (x := k) (by rw [hkk]; simp [hk1])
     rw [Rt.cnt_eq]; omega
    have nil : (∀ y ∈ ([] : List M), Gd d y) ∧ ([] : List M).length ≤ 700 ∧ (∃ ρ1, foldS (stm d) ρ [] = .ok ρ1) ∧ Rt.cntL d [] + 1 ≤ Rt.cnt (d + 1) x :=
     ⟨(fun y hy => by cases hy), by simp, ⟨ρ, rfl⟩, by rw [Rt.cnt_eq]; simp [Rt.cntL]⟩
    intro l hl
    rcases hk with hk | ⟨o, ho, hk⟩
    ·rw [hkk] at hk
     cases hk
     rcases hl with rfl | rfl
     ·have : thn x = brn t' := by unfold thn; rw [hkk, Rc.brn12 ht12]
      rw [this]; exact main t' (by simp)
     ·have : els x = [] := by unfold els; rw [hkk]
      rw [this]; exact nil
    ·rw [hkk] at hk
     cases hk
     rcases hl with rfl | rfl
     ·have : thn x = brn t' := by unfold thn; rw [hkk, Rc.brn12 ht12]
      rw [this]; exact main t' (by simp)
     ·have : els x = brn o := by unfold els; rw [hkk]
      rw [this]; exact main o (by simp)
   ·exact absurd q2 q
theorem qvs {d : Nat} {x : M} (hg : Gd (d + 1) x) : Rc.SF x := by
 obtain ⟨⟨h1, _, _⟩, m, hm⟩ := hg
 have hm' := hm
 obtain ⟨m', rfl, _, _⟩ := qc4 hm'
 exact Rc.stated_form h1 hm
theorem qqg {x : M} {w : Str} (h : Rc.SF x) (n2 : x.Ab ≠ 2) (n3 : x.Ab ≠ 3) (hw : Rc.acw x = some w) : x.Ab = 9 ↔ w = [100, 101, 110, 121] := by
 unfold Rc.acw at hw
 rcases h with q | ⟨q, _⟩ | ⟨q, _, ht⟩ | ⟨q, _⟩ | ⟨q, _⟩ | ⟨q, _⟩ | ⟨q, _⟩
 ·exact absurd q n2
 ·exact absurd q n3
 ·rw [qwx q] at hw
  cases hw
  rcases ht with e | e <;> rw [e, q] <;> decide
 ·rw [qww (by omega), qwx q] at hw
  cases hw
  rw [q]; simp
 ·rw [qww (by omega), qww (by omega), qwx q] at hw
  cases hw
  rw [q]; simp
 ·rcases q with q | q | q
  ·rw [qww (by omega), qww (by omega), qww (by omega), qwx q] at hw
   cases hw; rw [q]; decide
  ·rw [qww (by omega), qww (by omega), qww (by omega), qww (by omega), qwx q] at hw
   cases hw; rw [q]; decide
  ·rw [qww (by omega), qww (by omega), qww (by omega), qww (by omega), qww (by omega), qwx q] at hw
   cases hw; rw [q]; decide
 ·rcases q with q | q
  ·rw [qww (by omega), qww (by omega), qww (by omega), qww (by omega), qww (by omega), qww (by omega), qwx q] at hw
   cases hw; rw [q]; decide
  ·rw [qww (by omega), qww (by omega), qww (by omega), qww (by omega), qww (by omega), qww (by omega), qww (by omega), qwx q] at hw
   cases hw; rw [q]; decide
theorem qom (r : R1) (s : Str) (x : V1) : (qor r s x).1.Ai = r.Ai := by
 unfold qor
 split
 ·split <;> rfl
 ·split
  ·rfl
  ·split <;> rfl
theorem qs5 {r : R1} {w : Str} {x : V1} (h : (qhw r w x).2 = none) (h0 : r.Ai = 0) : (qhw r w x).1.Ai ≠ 0 ↔ w = [100, 101, 110, 121] := by
 unfold qhw at h ⊢
 by_cases q0 : x.kind ≠ ql1 w
 ·rw [qwx q0] at h; cases h
 rw [qww q0]
 by_cases q1 : w = [112, 97, 116, 104]
 ·rw [qwx q1]; simp [h0, q1]
 rw [qww q1]
 by_cases q2 : w = [113, 117, 101, 114, 121]
 ·rw [qwx q2]; simp [h0, q2]
 rw [qww q2]
 by_cases q3 : w = [116, 97, 103]
 ·rw [qwx q3]; simp [h0, q3]
 rw [qww q3]
 by_cases q4 : w = [116, 116, 108]
 ·rw [qwx q4]; simp [h0, q4]
 rw [qww q4]
 by_cases q5 : w = [100, 101, 110, 121]
 ·rw [qwx q5]
  refine ⟨fun _ => q5, fun _ => ?_⟩
  split
  ·show (403 : Int) ≠ 0; omega
  ·show x.n ≠ 0; omega
 rw [qww q5]
 refine ⟨fun e => absurd ?_ e, fun e => absurd e q5⟩
 split
 ·exact h0
 split
 ·exact h0
 rw [qom]; exact h0
structure qtd (k : Nat) (s : WSt) : Prop where
 r : ROK k s.1
 dn : s.2 = decide (s.1.Ai ≠ 0)
def qv5 (k : Nat) (o : Err × WSt) : Prop := ROK k o.2.1 ∧ o.1 ≠ some 0 ∧ (o.1 = none → o.2.2 = decide (o.2.1.Ai ≠ 0))
def LI (j : In1) (d : Nat) : Prop := ∀ (l : List M) (k : Nat) (ρ ρ' : Env) (E : List B1) (s : WSt), (∀ y ∈ l, Gd d y) → foldS (stm d) ρ l = .ok ρ' → TyV ρ (sgV E) → qtd k s → qv5 (k + Rt.cntL d l) (evL (evS j d) E s l)
theorem qrj {j : In1} {d : Nat} {ρ ρ' : Env} {E : List B1} {x : M} (hj : ∃ i, IOK i ∧ j = inp i) (hT : TyV ρ (sgV E)) (hF : StF d ρ ρ' x) :
  ((hdV j d E x.Aa).2 = none → VOK 2048 (hdV j d E x.Aa).1) ∧ ((hdV j d E x.Aa).2 = none ∨ (hdV j d E x.Aa).2 = some 5) ∧
  ((hdV j d E x.Aa).2 = none → x.Ab = 3 → TyV ρ' (sgV (E ++ [⟨x.Ac, (hdV j d E x.Aa).1⟩]))) := by
 rcases hF.kid with ⟨hk, _, n3⟩ | ⟨e, ks, t, hk, hE, ht, h3⟩
 ·rw [hk]
  exact ⟨(fun _ => ⟨Nat.zero_le _, (by show (-1099511627776 : Int) ≤ 0; omega), (by show (0 : Int) ≤ 1099511627776; omega)⟩), .inl rfl, fun _ q => absurd q n3⟩
 ·rw [hk]
  obtain ⟨g1, g2⟩ := qgn hj hT d e t hE ht
  refine ⟨fun h => (g1 h).2, g2, fun h q => ?_⟩
  obtain ⟨g3, g4⟩ := g1 h
  rw [h3 q, qqe]
  refine ⟨fun s v hv => ?_, fun s hv => ?_⟩
  ·have hv : (if x.Ac = s then some (hdV j d E (e :: ks)).1 else sgV E s) = some v := hv
   unfold ext
   by_cases w : x.Ac = s
   ·rw [qwx w] at hv ⊢
    cases hv
    exact ⟨g3, g4⟩
   ·rw [qww w] at hv ⊢
    exact hT.some_ s v hv
  ·have hv : (if x.Ac = s then some (hdV j d E (e :: ks)).1 else sgV E s) = none := hv
   unfold ext
   by_cases w : x.Ac = s
   ·rw [qwx w] at hv; cases hv
   ·rw [qww w] at hv ⊢
    exact hT.none_ s hv
theorem qon {j : In1} {d k : Nat} {ρ ρ1 : Env} {E : List B1} {s : WSt} {x : M} (hj : ∃ i, IOK i ∧ j = inp i) (hL : LI j d) (hg : Gd (d + 1) x) (hs : stm (d + 1) ρ x = .ok ρ1) (hT : TyV ρ (sgV E)) (hi : qtd k s) (he : s.2 = false) :
  ((evS j (d + 1) E s x).2.1 = none → TyV ρ1 (sgV (evS j (d + 1) E s x).1) ∧ qtd (k + Rt.cnt (d + 1) x) (evS j (d + 1) E s x).2.2) ∧ (evS j (d + 1) E s x).2.1 ≠ some 0 ∧ ROK (k + Rt.cnt (d + 1) x) (evS j (d + 1) E s x).2.2.1 ∧ (evS j (d + 1) E s x).1.length ≤ E.length + 1 := by
 have hF := qri hg hs
 have hSF := qvs hg
 obtain ⟨v1, v2, v3⟩ := qrj hj hT hF
 have hc : 1 ≤ Rt.cnt (d + 1) x := by rw [Rt.cnt_eq]; omega
 have h0 : s.1.Ai = 0 := by
  have := hi.dn
  rw [he] at this
  by_cases q : s.1.Ai = 0
  ·exact q
  ·rw [decide_eq_true q] at this; cases this
 rw [evS]
 by_cases q : (hdV j d E x.Aa).2.isSome = true
 ·rw [qwx q]
  refine ⟨fun h => ?_, ?_, hi.r.up (by omega), by show E.length ≤ _; omega⟩
  ·simp only at h; rw [h] at q; cases q
  ·rcases v2 with w | w
   ·rw [w] at q; cases q
   ·show (hdV j d E x.Aa).2 ≠ some 0
    rw [w]; decide
 rw [qww q]
 have qn : (hdV j d E x.Aa).2 = none := by
  cases w : (hdV j d E x.Aa).2 with
  | none => rfl
  | some e => rw [w] at q; exact absurd rfl q
 by_cases q3 : x.Ab = 3
 ·rw [qwx q3]
  exact ⟨fun _ => ⟨v3 qn q3, hi.r.up (by omega), hi.dn⟩, by simp, hi.r.up (by omega), by simp⟩
 rw [qww q3]
 by_cases q2 : x.Ab = 2
 ·rw [qwx q2]
  obtain ⟨_, hb⟩ := hF.brn2 q2
  have hB : (if (hdV j d E x.Aa).1.At = true then thn x else els x) = thn x ∨ (if (hdV j d E x.Aa).1.At = true then thn x else els x) = els x := by
   split
   ·exact .inl rfl
   ·exact .inr rfl
  generalize (if (hdV j d E x.Aa).1.At = true then thn x else els x) = B at hB
  obtain ⟨g1, g2, ⟨ρ2, g3⟩, g4⟩ := hb B hB
  obtain ⟨l1, l2, l3⟩ := hL B k ρ ρ2 E s g1 g3 hT hi
  exact ⟨fun h => ⟨(by rw [hF.same q3]; exact hT), l1.up (by omega), l3 h⟩, l2, l1.up (by omega), by show E.length ≤ _; omega⟩
 rw [qww q2]
 obtain ⟨w, t, e1, e2, e3⟩ := hF.word q2 q3
 have ew : wdP x = w := by unfold wdP; rw [e1]; rfl
 rw [ew]
 obtain ⟨a1, a2, _⟩ := qs0 (k := k) (s := w) (x := (hdV j d E x.Aa).1) hi.r
 refine ⟨fun h => ⟨(by rw [hF.same q3]; exact hT), a1.up (by omega), ?_⟩, a2, a1.up (by omega), by show E.length ≤ _; omega⟩
 have h1 := qs5 h h0
 have h2 := qqg hSF q2 q3 e1
 show decide (x.Ab = 9) = decide ((qhw s.1 w (hdV j d E x.Aa).1).1.Ai ≠ 0)
 exact decide_eq_decide.2 (h2.trans h1.symm)
theorem qj1 {j : In1} (hj : ∃ i, IOK i ∧ j = inp i) : ∀ d, LI j d
 | 0, [], k, ρ, ρ', E, s, _, _, _, hi => ⟨hi.r.up (by omega), by simp [evL], fun _ => hi.dn⟩
 | 0, x :: l, k, ρ, ρ', E, s, hg, _, _, _ => (hg x (by simp)).1.elim
 | d + 1, l, k, ρ, ρ', E, s, hg, hf, hT, hi => by
  have hL := qj1 hj d
  induction l generalizing k ρ E s with
  | nil => exact ⟨hi.r.up (by omega), by simp [evL], fun _ => hi.dn⟩
  | cons x l ih =>
   rw [foldS] at hf
   cases hx : stm (d + 1) ρ x with
   | error e => rw [hx] at hf; cases hf
   | ok ρ1 =>
    rw [hx] at hf
    simp only at hf
    rw [evL]
    rw [Rt.cntL_cons]
    by_cases q : s.2 = true
    ·rw [qwx q]
     exact ⟨hi.r.up (by omega), by simp, fun _ => hi.dn⟩
    rw [qww q]
    obtain ⟨g1, g2, g3, _⟩ := qon hj hL (hg x (by simp)) hx hT hi (by simpa using q)
    cases w : (evS j (d + 1) E s x).2.1 with
    | some e => exact ⟨g3.up (by omega), (by rw [w] at g2; exact g2), fun h => by cases h⟩
    | none =>
     obtain ⟨g4, g5⟩ := g1 w
     have := ih (k + Rt.cnt (d + 1) x) ρ1 _ _ (fun y hy => hg y (by simp [hy])) hf g4 g5
     rw [Nat.add_assoc] at this
     exact this
theorem qvt {x : M} {w : Str} (h : Rc.acw x = some w) (hl : x.Ac.length ≤ 3000) : JcA x = some w := by
 unfold Rc.acw at h
 unfold JcA
 by_cases q4 : x.Ab = 4
 ·rw [qwx q4] at h
  rw [qww (by simp [q4]), qww (by simp [q4]), qww (by simp [q4]), qww (by simp [q4]), qww (by simp [q4]), qww (by simp [q4]), qww (by simp [q4])]; exact h
 rw [qww q4] at h
 by_cases q5 : x.Ab = 5
 ·rw [qwx q5] at h
  rw [qwx (by simpa using q5), qaa (by simp [lim]; omega)]; exact h
 rw [qww q5] at h
 rw [qww (by simpa using q5)]
 by_cases q6 : x.Ab = 6
 ·rw [qwx q6] at h
  rw [qwx (by simpa using q6), qaa (by simp [lim]; omega)]; exact h
 rw [qww q6] at h
 rw [qww (by simpa using q6)]
 by_cases q7 : x.Ab = 7
 ·rw [qwx q7] at h
  rw [qwx (by simpa using q7)]; exact h
 rw [qww q7] at h
 rw [qww (by simpa using q7)]
 by_cases q8 : x.Ab = 8
 ·rw [qwx q8] at h
  rw [qwx (by simpa using q8)]; exact h
 rw [qww q8] at h
 rw [qww (by simpa using q8)]
 by_cases q9 : x.Ab = 9
 ·rw [qwx q9] at h
  rw [qwx (by simpa using q9)]; exact h
 rw [qww q9] at h
 rw [qww (by simpa using q9)]
 by_cases q10 : x.Ab = 10
 ·rw [qwx q10] at h
  rw [qwx (by simpa using q10)]; exact h
 rw [qww q10] at h
 rw [qww (by simpa using q10)]
 by_cases q11 : x.Ab = 11
 ·rw [qwx q11] at h
  rw [qwx (by simpa using q11)]; exact h
 rw [qww q11] at h
 cases h
theorem qs6 {x e t : M} (ht : t.Ab = 12) (h : x.Aa = [e, t] ∨ ∃ o, (o.Ab = 12 ∨ o.Ab = 2) ∧ x.Aa = [e, t, o]) :
  ix x.Aa 1 = some t ∧ thn x = t.Aa ∧ ((¬ (x.Aa.length : Int) > 2 ∧ els x = []) ∨ ∃ o, (x.Aa.length : Int) = 3 ∧ ix x.Aa 2 = some o ∧ subL x.Aa (2 : Int) (x.Aa.length : Int) = [o] ∧ ((o.Ab = 2 ∧ els x = [o]) ∨ (o.Ab = 12 ∧ els x = o.Aa))) := by
 rcases h with h | ⟨o, ho, h⟩
 ·unfold thn els
  rw [h]
  exact ⟨rfl, rfl, .inl ⟨by simp, rfl⟩⟩
 ·unfold thn els
  rw [h]
  refine ⟨rfl, rfl, .inr ⟨o, rfl, rfl, rfl, ?_⟩⟩
  rcases ho with ho | ho
  ·exact .inr ⟨ho, Rc.brn12 ho⟩
  ·refine .inl ⟨ho, ?_⟩
   show brn o = [o]
   unfold brn
   rw [qww (by omega)]
abbrev W (j : In1) (s : WSt) : Jn := ⟨j, s.1, s.2⟩
def WL (j : In1) (d n : Nat) : Prop := ∀ (l : List M) (k : Nat) (ρ ρ' : Env) (E : List B1) (s : WSt), (∀ y ∈ l, Gd d y) → l.length ≤ 700 → foldS (stm d) ρ l = .ok ρ' → TyV ρ (sgV E) → E.length + l.length + 700 * d ≤ 90000 → qtd k s → k + Rt.cntL d l ≤ 900 →
 JC n (W j s) l E = some ((evL (evS j d) E s l).1, W j (evL (evS j d) E s l).2)
set_option maxRecDepth 100000 in
theorem wL0 {j : In1} {d n : Nat} (hj : ∃ i, IOK i ∧ j = inp i) (hn : d + 200000 ≤ n) (hw : WL j d n) (s0 : WSt) : ∀ (l : List M) (i k : Nat) (ρ ρ' : Env) (E : List B1) (s : WSt), (∀ y ∈ l, Gd (d + 1) y) → foldS (stm (d + 1)) ρ l = .ok ρ' → TyV ρ (sgV E) → E.length + l.length + 700 * (d + 1) ≤ 90000 → qtd k s → k + Rt.cntL (d + 1) l ≤ 900 →
  ∃ r, JL (W j s0) n (JC n) l i E (W j s) = some r ∧ (r = Fl.ret ((evL (evS j (d + 1)) E s l).1, W j (evL (evS j (d + 1)) E s l).2) ∨ ∃ E', r = Fl.go (E', W j (evL (evS j (d + 1)) E s l).2) ∧ (evL (evS j (d + 1)) E s l).1 = none)
 | [], i, k, ρ, ρ', E, s, _, _, _, _, _, _ => ⟨_, rfl, .inr ⟨E, rfl, rfl⟩⟩
 | x :: l, i, k, ρ, ρ', E, s, hg, hf, hT, hl, hi, hc => by
  rw [JL]
  dsimp only [W]
  by_cases he : s.2 = true
  ·rw [qwx he]
   exact ⟨_, rfl, .inl (by rw [evL, qwx he])⟩
  rw [qww he]
  have hef : s.2 = false := by simpa using he
  rw [foldS] at hf
  cases hx : stm (d + 1) ρ x with
  | error e => rw [hx] at hf; cases hf
  | ok ρ1 =>
   rw [hx] at hf
   simp only at hf
   have hF := qri (hg x (by simp)) hx
   obtain ⟨v1, v2, v3⟩ := qrj hj hT hF
   obtain ⟨i1, i2, i3, i4⟩ := qon hj (qj1 hj d) (hg x (by simp)) hx hT hi hef
   rw [Rt.cntL_cons] at hc
   simp only [List.length_cons] at hl
   have hd0 : (if decide ((x.Aa.length : Int) > 0) = true then (ix x.Aa 0).bind fun x32 => (JW n (⟨j, s.1, s.2⟩ : Jn) x32 E).bind fun x35 => if x35.2.isSome = true then some (Fl.ret (x35.2, (⟨j, s.1, s.2⟩ : Jn))) else some (Fl.go (x35.1.kind, x35.1.n, x35.1.s, x35.1.At)) else some (Fl.go (0, 0, ([] : Str), false)) : Option (Fl (Err × Jn) (Int × Int × Str × Bool)))
     = some (if (hdV j d E x.Aa).2.isSome = true then Fl.ret ((hdV j d E x.Aa).2, (⟨j, s.1, s.2⟩ : Jn)) else Fl.go ((hdV j d E x.Aa).1.kind, (hdV j d E x.Aa).1.n, (hdV j d E x.Aa).1.s, (hdV j d E x.Aa).1.At)) := by
    rcases hF.kid with ⟨hk, _, _⟩ | ⟨e, ks, t, hk, hE, ht, _⟩
    ·rw [hk]; rfl
    ·rw [hk, qwx (by simp only [List.length_cons, decide_eq_true_eq]; omega), Rc.ix0, qwv, qqf (w := ⟨j, s.1, s.2⟩) hj hT (by omega) d n e t hE ht (by omega), qwv]
     show (if (evE j (sgV E) d e).2.isSome = true then _ else _) = some (if (evE j (sgV E) d e).2.isSome = true then _ else _)
     split <;> rfl
   rw [hd0, qwv]
   have fin : ∀ (E1 : List B1) (o : Err) (s1 : WSt), evS j (d + 1) E s x = (E1, o, s1) → ∃ r, (if o.isSome = true then some (Fl.ret (o, (⟨j, s1.1, s1.2⟩ : Jn))) else JL (W j s0) n (JC n) l (i + 1) E1 (⟨j, s1.1, s1.2⟩ : Jn)) = some r ∧
     (r = Fl.ret ((evL (evS j (d + 1)) E s (x :: l)).1, W j (evL (evS j (d + 1)) E s (x :: l)).2) ∨ ∃ E', r = Fl.go (E', W j (evL (evS j (d + 1)) E s (x :: l)).2) ∧ (evL (evS j (d + 1)) E s (x :: l)).1 = none) := by
    intro E1 o s1 hS
    rw [hS] at i1 i2 i3 i4
    cases o with
    | some e => exact ⟨_, qwx rfl, .inl (by rw [evL, qww he, hS])⟩
    | none =>
     obtain ⟨g1, g2⟩ := i1 rfl
     simp only at i4
     have := wL0 hj hn hw s0 l (i + 1) (k + Rt.cnt (d + 1) x) ρ1 ρ' E1 s1 (fun y hy => hg y (by simp [hy])) hf g1 (by omega) g2 (by omega)
     rw [qww (by simp), evL, qww he, hS]
     exact this
   by_cases q : (hdV j d E x.Aa).2.isSome = true
   ·rw [qwx q, Rt.el_ret]
    refine ⟨_, rfl, .inl ?_⟩
    obtain ⟨e, hq⟩ := Option.isSome_iff_exists.1 q
    have eS : evS j (d + 1) E s x = (E, some e, s) := by rw [evS, qwx q, hq]
    rw [evL, qww he, eS, hq]
   rw [qww q, Rt.el_go]
   dsimp only
   have qn : (hdV j d E x.Aa).2 = none := by
    cases w : (hdV j d E x.Aa).2 with
    | none => rfl
    | some e => rw [w] at q; exact absurd rfl q
   by_cases q3 : x.Ab = 3
   ·rw [qwx (by simpa using q3), qaa (by simp only [lim, List.length_singleton]; omega), qwv]
    exact fin _ none s (by rw [evS, qww q, qwx q3])
   rw [qww (by simpa using q3)]
   by_cases q2 : x.Ab = 2
   ·rw [qwx (by simpa using q2)]
    obtain ⟨⟨e, t, ht, hk⟩, hb⟩ := hF.brn2 q2
    obtain ⟨j1, j2, j3⟩ := qs6 ht hk
    have rec_ : ∀ B, B = thn x ∨ B = els x → JC n (⟨j, s.1, s.2⟩ : Jn) B E = some ((evL (evS j d) E s B).1, W j (evL (evS j d) E s B).2) := fun B hB => by
     obtain ⟨g1, g2, ⟨ρ2, g3⟩, g4⟩ := hb B hB
     exact hw B k ρ ρ2 E s g1 g2 g3 hT (by omega) hi (by omega)
    cases hz : (hdV j d E x.Aa).1.At with
    | true =>
     rw [qwx rfl, j1, qwv, ← j2, rec_ _ (.inl rfl), qwv, qwv]
     exact fin _ _ _ (by rw [evS, qww q, qww q3, qwx q2, hz, qwx rfl])
    | false =>
     have eS : evS j (d + 1) E s x = (E, evL (evS j d) E s (els x)) := by rw [evS, qww q, qww q3, qwx q2, hz, qww (by simp)]
     rw [qww (by simp)]
     rcases j3 with ⟨j4, j5⟩ | ⟨o, j4, j5, j6, j7⟩
     ·rw [qww (by simpa using j4), qwv, qww (by simp), qww (by simpa using j4), qwv]
      rw [j5] at eS
      exact fin _ _ _ eS
     ·have l3 : decide ((x.Aa.length : Int) > 2) = true := by rw [j4]; rfl
      rw [qwx l3, j5, qwv]
      rcases j7 with ⟨j7, j8⟩ | ⟨j7, j8⟩
      ·rw [qwv, qwx (by simpa using j7), qaa (by omega), j6, ← j8, rec_ _ (.inr rfl), qwv, qwv]
       exact fin _ _ _ eS
      ·rw [qwv, qww (by simp [j7]), qwx l3, qwv, ← j8, rec_ _ (.inr rfl), qwv, qwv]
       exact fin _ _ _ eS
   rw [qww (by simpa using q2)]
   obtain ⟨w, t, e1, e2, e3⟩ := hF.word q2 q3
   have ew : wdP x = w := by unfold wdP; rw [e1]; rfl
   have hcx : 1 ≤ Rt.cnt (d + 1) x := by rw [Rt.cnt_eq]; omega
   obtain ⟨hv1, hv2, hv3⟩ := v1 qn
   rw [qvt e1 hF.tl, qwv, qwt (k := k) (by omega) hi.r e3 (by show (hdV j d E x.Aa).1.s.length ≤ 100000; omega) e2, qwv, qwv]
   exact fin _ _ _ (by rw [evS, qww q, qww q3, qww q2, ew])
set_option maxRecDepth 100000 in
theorem qrk {j : In1} (hj : ∃ i, IOK i ∧ j = inp i) : ∀ (d n : Nat), d + 200001 ≤ n → WL j d n
 | d, 0, h => by omega
 | 0, n + 1, h => fun l k ρ ρ' E s hg hl hf hT hE hi hc => by
  cases l with
  | nil => rfl
  | cons x l => exact (hg x (by simp)).1.elim
 | d + 1, n + 1, h => fun l k ρ ρ' E s hg hl hf hT hE hi hc => by
  obtain ⟨r, h1, h2⟩ := wL0 hj (by omega) (qrk hj d n (by omega)) s l 0 k ρ ρ' E s hg hf hT hE hi hc
  rw [JC, qaa (by simp only [qav]; omega), h1, qwv]
  rcases h2 with rfl | ⟨E', rfl, h3⟩
  ·rfl
  ·rw [Rt.el_go, h3]
def zR1 : R1 := ⟨[], [], [], [], [], 0, 0, 0, false, false⟩
def b0 (i : In2) : WSt := (⟨i.Ae, i.Af, [], [], [], -1, 0, 0, false, false⟩, false)
theorem qup (i : In2) : qtd 0 (b0 i) := ⟨⟨⟨Nat.le_refl _, (fun x hx => by cases hx)⟩, Nat.le_refl _, Nat.le_refl _⟩, rfl⟩
theorem qv6 : TyV base (sgV []) := by
 rw [qs4]
 exact ⟨(fun s v h => by cases h), fun s _ => rfl⟩
theorem qrl : ∀ (l : List FF) (i : Nat) (y : List Jh), y.length + l.length ≤ 100000 → Jbv l i y = some (y ++ uff l)
 | [], i, y, _ => by rw [Jbv]; simp [uff]
 | x :: l, i, y, h => by
  simp only [List.length_cons] at h
  rw [Jbv, qaa (by simp only [lim, List.length_singleton]; omega), qrl l (i + 1) _ (by simp only [List.length_append, List.length_singleton]; omega)]
  simp [uff]
theorem quq {k : Nat} {r : R1} (h : ROK k r) (hk : k ≤ 1000) : Jdw r = some (r2 r) := by
 have := h.h.1
 unfold Jdw Jds
 rw [qaa (by simp only [qav]; omega), qrl _ _ _ (by simp only [List.length_nil]; omega)]; rfl
def BC (v : V1) : Prop := v.kind = 3 → v = tr' v.At
def OB (o : Option (V1 × Bool)) : Prop := ∀ r, o = some r → BC r.1
theorem OB.bind {α : Type} {o : Option α} {f : α → Option (V1 × Bool)} (h : ∀ a, o = some a → OB (f a)) : OB (o.bind f) := fun t ht => by
 cases o with
 | none => cases ht
 | some a => exact h a rfl t ht
theorem BC.text {s : Str} {v : V1} (h : Jac s = some v) : BC v := fun e => by unfold Jac at h; cases h; cases e
theorem BC.num {n : Int} {v : V1} (h : JaH n = some v) : BC v := fun e => by unfold JaH at h; cases h; cases e
theorem OB.z {b : Bool} : OB (some ((⟨0, 0, ([] : Str), false⟩ : V1), b)) := fun r h e => by cases h; cases e
theorem OB.some_ {v : V1} {b : Bool} (h : BC v) : OB (some (v, b)) := fun r e => by cases e; exact h
def PB (o : Option V1) : Prop := ∀ r, o = some r → BC r
theorem PB.bind {α : Type} {o : Option α} {f : α → Option V1} (h : ∀ a, PB (f a)) : PB (o.bind f) := fun t ht => by
 cases o with
 | none => cases ht
 | some a => exact h a t ht
theorem PB.num {n : Int} : PB ((JaH n).bind fun x => some x) := fun r e => by
 unfold JaH at e; cases e; intro q; cases q
def Frag (c : List I) (b : Nat) (l : List I) : Prop := ∀ (j : Nat) (x : I), l[j]? = some x → c[b + j]? = some x
theorem Frag.left {c : List I} {b : Nat} {l k : List I} (h : Frag c b (l ++ k)) : Frag c b l := fun j x hx => h j x (by
 rw [List.getElem?_append_left (List.getElem?_eq_some_iff.1 hx).1]; exact hx)
theorem Frag.right {c : List I} {b : Nat} {l k : List I} (h : Frag c b (l ++ k)) : Frag c (b + l.length) k := fun j x hx => by
 have := h (l.length + j) x (by rw [List.getElem?_append_right (by omega)]; simpa using hx)
 rwa [← Nat.add_assoc] at this
theorem Frag.head {c : List I} {b : Nat} {x : I} {l : List I} (h : Frag c b (x :: l)) : c[b]? = some x := by simpa using h 0 x rfl
theorem Frag.tail {c : List I} {b : Nat} {x : I} {l : List I} (h : Frag c b (x :: l)) : Frag c (b + 1) l := fun j y hy => by
 have := h (j + 1) y (by simpa using hy)
 rwa [show b + (j + 1) = b + 1 + j by omega] at this
def Rn (c : List I) (i : Nat) (m : M1) (k : Nat) (m' : M1) : Prop := ∀ f, c.length < f + i → ∃ f', c.length < f' + k ∧ ql8 c f i m = ql8 c f' k m'
def Re (c : List I) (i : Nat) (m : M1) (e : Int) : Prop := ∀ f, c.length < f + i → ql8 c f i m = (zR, some e)
theorem Rn.trans {c : List I} {i k l : Nat} {m m' m'' : M1} (h : Rn c i m k m') (h2 : Rn c k m' l m'') : Rn c i m l m'' := fun f hf =>
 let ⟨f1, a, b⟩ := h f hf; let ⟨f2, a2, b2⟩ := h2 f1 a; ⟨f2, a2, b.trans b2⟩
theorem Rn.err {c : List I} {i k : Nat} {m m' : M1} {e : Int} (h : Rn c i m k m') (h2 : Re c k m' e) : Re c i m e := fun f hf =>
 let ⟨f1, a, b⟩ := h f hf; b.trans (h2 f1 a)
theorem Rn.one {c : List I} {i k : Nat} {m m' : M1} {x : I} (hx : c[i]? = some x) (h : qez m (i : Int) x = ((k : Int), none, m')) (hk : i < k) : Rn c i m k m' := fun f hf => by
 have hi := (List.getElem?_eq_some_iff.1 hx).1
 obtain ⟨f', rfl⟩ : ∃ f', f = f' + 1 := ⟨f - 1, by omega⟩
 exact ⟨f', by omega, qs3 hx h⟩
theorem Re.one {c : List I} {i : Nat} {m : M1} {x : I} {e : Int} (hx : c[i]? = some x) (h : (qez m (i : Int) x).2.1 = some e) : Re c i m e := fun f hf => by
 have hi := (List.getElem?_eq_some_iff.1 hx).1
 obtain ⟨f', rfl⟩ : ∃ f', f = f' + 1 := ⟨f - 1, by omega⟩
 exact qqb hx h
structure Ex1 (c : List I) (b e' : Nat) (m : M1) (o : V1 × Err) (w : Int) : Prop where
 err : ∀ e, o.2 = some e → Re c b m e
 ok : o.2 = none → ∃ s, m.result.Aj ≤ s ∧ s ≤ m.result.Aj + w ∧ Rn c b m e' (put m s (m.stack ++ [o.1]))
theorem num_eq {s : Str} (h : Rt.nmr s = true) : qp6 s = Rc.num s := by
 obtain ⟨h1, h2, h3⟩ := Rc.nmr_all h
 have hd : ∀ c : UInt8, isD c = true → dig c = true ∧ ∀ n : Int, nst n c = 10 * n + ((c.toNat : Int) - 48) := fun c hc => by
  unfold isD at hc
  simp at hc
  have h48 : (48 : UInt8) ≤ c := by rw [UInt8.le_iff_toNat_le]; simp; omega
  refine ⟨by unfold dig; simp; omega, fun n => ?_⟩
  unfold nst
  rw [UInt8.toNat_sub_of_le _ _ h48]
  simp; omega
 unfold qp6 Rc.num
 rw [qwx ⟨by omega, List.all_eq_true.2 fun c hc => (hd c (List.all_eq_true.1 h1 c hc)).1⟩]
 clear h2 h3 h
 suffices ∀ (l : Str) (y : Int), (∀ c ∈ l, isD c = true) → l.foldl nst y = l.foldl (fun n c => 10 * n + ((c.toNat : Int) - 48)) y from this s 0 (List.all_eq_true.1 h1)
 intro l
 induction l with
 | nil => intro y _; rfl
 | cons c l ih =>
  intro y hl
  rw [List.foldl_cons, List.foldl_cons, (hd c (hl c (by simp))).2, ih _ fun c hc => hl c (by simp [hc])]
structure SlR (σ : Rc.Sg) (σv : SgV) (l : List V1) : Prop where
 none_ : ∀ s, σv s = none → σ s = none
 some_ : ∀ s v, σv s = some v → ∃ k : Nat, σ s = some (k : Int) ∧ l.getD k z0 = v ∧ BC v
theorem qur {m : M1} {k : Nat} {N : Int} {S : Str} (hs : m.result.Aj + 1 ≤ m.most) : qez m (k : Int) ⟨9, N, S⟩ = (N, none, put m (m.result.Aj + 1) m.stack) := by
 unfold qez; rw [qww (by omega), qww (by simp), qww (by simp), qww (by simp), qww (by simp), qww (by simp), qww (by simp), qww (by simp), qww (by simp), qwx rfl]; rfl
theorem Ex1.then {c : List I} {b e1 e2 : Nat} {m : M1} {o o' : V1 × Err} {w w' : Int} (h : Ex1 c b e1 m o w) (q : o.2 = none)
  (k : ∀ s, m.result.Aj ≤ s → s ≤ m.result.Aj + w → (∀ e, o'.2 = some e → Re c e1 (put m s (m.stack ++ [o.1])) e) ∧
   (o'.2 = none → ∃ s', m.result.Aj ≤ s' ∧ s' ≤ m.result.Aj + w' ∧ Rn c e1 (put m s (m.stack ++ [o.1])) e2 (put m s' (m.stack ++ [o'.1])))) : Ex1 c b e2 m o' w' := by
 obtain ⟨s, h1, h2, h3⟩ := h.ok q
 obtain ⟨k1, k2⟩ := k s h1 h2
 exact ⟨fun e he => h3.err (k1 e he), fun he => let ⟨s', a, b, d⟩ := k2 he; ⟨s', a, b, h3.trans d⟩⟩
def Rs (c : List I) (i : Nat) (m : M1) (r : R1) : Prop := ∀ f, c.length < f + i → ql8 c f i m = (r, none)
theorem Rn.stop {c : List I} {i k : Nat} {m m' : M1} {r : R1} (h : Rn c i m k m') (h2 : Rs c k m' r) : Rs c i m r := fun f hf =>
 let ⟨f1, a, b⟩ := h f hf; b.trans (h2 f1 a)
theorem Rs.one {c : List I} {i : Nat} {m M : M1} {x : I} (hx : c[i]? = some x) (h : qez m (i : Int) x = (-1, none, M)) : Rs c i m M.result := fun f hf => by
 have hi := (List.getElem?_eq_some_iff.1 hx).1
 obtain ⟨f', rfl⟩ : ∃ f', f = f' + 1 := ⟨f - 1, by omega⟩
 exact qok hx h
def stp (r : R1) (t : Int) : R1 := ⟨r.Ae, r.Af, r.Ag, r.Vary, r.Ah, r.TTL, r.Ai, t, r.Ak, r.Al⟩
def mkm (m : M1) (r : R1) (l : List V1) : M1 := ⟨m.Ar, m.most, r, m.stack, l⟩
structure SlS (σ : Rc.Sg) (σv : SgV) (l : List V1) (k : Int) : Prop where
 r : SlR σ σv l
 lt : ∀ s i, σ s = some i → 0 ≤ i ∧ i < k
 len : l.length = 512
theorem SlS.put {σ : Rc.Sg} {σv : SgV} {l : List V1} {k : Int} (h : SlS σ σv l k) (h0 : 0 ≤ k) (h1 : k < 512) {v : V1} (hv : BC v) (s : Str) : SlS (Rc.upd σ s k) (fun q => if s = q then some v else σv q) (l.set k.toNat v) (k + 1) := by
 have hlen := h.len
 refine ⟨⟨fun q hq => ?_, fun q w hq => ?_⟩, fun q i hi => ?_, by rw [List.length_set]; exact hlen⟩
 ·unfold Rc.upd
  by_cases e : s = q
  ·rw [qwx e] at hq; cases hq
  ·rw [qww e] at hq ⊢; exact h.r.none_ q hq
 ·unfold Rc.upd
  by_cases e : s = q
  ·rw [qwx e] at hq ⊢
   cases hq
   refine ⟨k.toNat, by rw [Int.toNat_of_nonneg h0], ?_, hv⟩
   rw [List.getD_eq_getElem?_getD, List.getElem?_set_self (by omega)]; rfl
  ·rw [qww e] at hq ⊢
   obtain ⟨i, a, b, c⟩ := h.r.some_ q w hq
   have := h.lt q i a
   refine ⟨i, a, ?_, c⟩
   rw [← b, List.getD_eq_getElem?_getD, List.getD_eq_getElem?_getD, List.getElem?_set_ne (by omega)]
 ·unfold Rc.upd at hi
  by_cases e : s = q
  ·rw [qwx e] at hi; cases hi; omega
  ·rw [qww e] at hi
   have := h.lt q i hi; omega
structure Ex2 (c : List I) (b e' : Nat) (m : M1) (o : Err × WSt) (w k : Int) (P : List V1 → Prop) : Prop where
 err : ∀ e, o.1 = some e → Re c b m e
 stop : o.1 = none → o.2.2 = true → ∃ t, m.result.Aj + 1 ≤ t ∧ t ≤ m.result.Aj + w ∧ Rs c b m (stp o.2.1 t)
 ok : o.1 = none → o.2.2 = false → ∃ t l, m.result.Aj ≤ t ∧ t ≤ m.result.Aj + w ∧ l.length = 512 ∧ (∀ i : Nat, (i : Int) < k → l.getD i z0 = m.Ap.getD i z0) ∧ P l ∧ Rn c b m e' (mkm m (stp o.2.1 t) l)
theorem Ex2.after {c : List I} {b b1 e' : Nat} {m m1 : M1} {o : Err × WSt} {w w1 k : Int} {P : List V1 → Prop} (h : Ex2 c b1 e' m1 o w1 k P) (r : Rn c b m b1 m1) (h1 : m1.Ar = m.Ar) (h2 : m1.most = m.most) (h3 : m1.stack = m.stack) (h4 : ∀ i : Nat, (i : Int) < k → m1.Ap.getD i z0 = m.Ap.getD i z0)
  (hs : m.result.Aj ≤ m1.result.Aj) (hw : m1.result.Aj + w1 ≤ m.result.Aj + w) : Ex2 c b e' m o w k P := by
 refine ⟨fun e he => r.err (h.err e he), fun a q => ?_, fun a q => ?_⟩
 ·obtain ⟨t, t1, t2, t3⟩ := h.stop a q
  exact ⟨t, by omega, by omega, r.stop t3⟩
 ·obtain ⟨t, l, t1, t2, t3, t4, t5, t6⟩ := h.ok a q
  refine ⟨t, l, by omega, by omega, t3, fun i hi => (t4 i hi).trans (h4 i hi), t5, ?_⟩
  have e : mkm m1 (stp o.2.1 t) l = mkm m (stp o.2.1 t) l := by unfold mkm; rw [h1, h2, h3]
  rw [← e]; exact r.trans t6
theorem Ex2.up {c : List I} {b e' : Nat} {m : M1} {o : Err × WSt} {w w' k k' : Int} {P Q : List V1 → Prop} (h : Ex2 c b e' m o w k' P) (hk : k ≤ k') (hw : w ≤ w') (hQ : ∀ l, l.length = 512 → (∀ i : Nat, (i : Int) < k → l.getD i z0 = m.Ap.getD i z0) → P l → Q l) : Ex2 c b e' m o w' k Q :=
 ⟨h.err, fun a q => (by obtain ⟨t, t1, t2, t3⟩ := h.stop a q; exact ⟨t, t1, by omega, t3⟩), fun a q => (by
  obtain ⟨t, l, t1, t2, t3, t4, t5, t6⟩ := h.ok a q
  have t7 : ∀ i : Nat, (i : Int) < k → l.getD i z0 = m.Ap.getD i z0 := fun i hi => t4 i (by omega)
  exact ⟨t, l, t1, by omega, t3, t7, hQ l t3 t7 t5, t6⟩)⟩
theorem Ex2.jump {c : List I} {b e1 e2 : Nat} {m : M1} {o : Err × WSt} {w k : Int} {P : List V1 → Prop} (h : Ex2 c b e1 m o w k P) (hx : c[e1]? = some ⟨9, (e2 : Int), []⟩) (hlt : e1 < e2) (hm : m.result.Aj + w + 1 ≤ m.most) : Ex2 c b e2 m o (w + 1) k P :=
 ⟨h.err, fun a q => (by obtain ⟨t, t1, t2, t3⟩ := h.stop a q; exact ⟨t, t1, by omega, t3⟩), fun a q => (by
  obtain ⟨t, l, t1, t2, t3, t4, t5, t6⟩ := h.ok a q
  refine ⟨t + 1, l, by omega, by omega, t3, t4, t5, t6.trans (Rn.one hx ?_ hlt)⟩
  exact qur (m := mkm m (stp o.2.1 t) l) (by show t + 1 ≤ m.most; omega))⟩
def wM (m : M1) (M : Int) : M1 := ⟨m.Ar, M, m.result, m.stack, m.Ap⟩
def Mst (m N : M1) (nx M : Int) (o : Int × Err × M1) : Prop := m.result.Aj + 1 ≤ N.result.Aj ∧ (m.result.Aj + 1 ≤ M → (N.result.Aj ≤ M → o = (nx, none, wM N M)) ∧ (N.result.Aj > M → o.2.1 = some 13))
theorem Mst.same {m m' N : M1} {nx' nx M : Int} (h : (nx', (none : Err), m') = (nx, none, N)) (e : m'.result.Aj = m.result.Aj + 1) : Mst m N nx M (nx', none, wM m' M) := by
 cases h
 exact ⟨by omega, fun w => ⟨fun _ => rfl, fun w2 => by omega⟩⟩
theorem qoo {n : Nat} {i : In2} {y : M} {ρ : Env} {o : Err × WSt} (hI : IOK i) (hok : Ok 40 y) (hn : 2000100 ≤ n) (hv : Jaw n y = some true) (q : foldS (stm 39) base y.Aa = .ok ρ) (ho : evL (evS (inp i) 39) [] (b0 i) y.Aa = o) :
  qv5 512 o ∧ JaL n y (inp i) = some (match o.1 with | some e => (zR1, some e) | none => (o.2.1, none)) := by
 have ck1 := qha (n := n) (d := 39) hok (by omega) (by omega) hv
 rw [qwx rfl] at ck1
 unfold quy at ck1
 rw [q] at ck1
 have hsm := Rc.Valid_small hv 40
 have hg : ∀ z ∈ y.Aa, Gd 39 z := fun z hz => ⟨hok.2.2 z hz, n, qih hv z hz⟩
 have hl := hok.2.1
 have hcl : Rt.cntL 39 y.Aa ≤ 512 := by rw [Rt.cnt_eq] at hsm; omega
 have hj : ∃ i', IOK i' ∧ inp i = inp i' := ⟨i, hI, rfl⟩
 have li := qj1 hj 39 y.Aa 0 base ρ [] (b0 i) hg q qv6 (qup i)
 have hw := qrk hj 39 n (by omega) y.Aa 0 base ρ [] (b0 i) hg hl q qv6 (by simp only [List.length_nil]; omega) (qup i) (by omega)
 rw [ho] at li hw
 refine ⟨⟨li.1.up (by omega), li.2⟩, ?_⟩
 unfold JaL
 rw [ck1, qwv, qww (by simp)]
 rw [show JC n (⟨inp i, (⟨(inp i).Ae, (inp i).Af, [], [], [], (-1), 0, 0, false, false⟩ : Je), false⟩ : Jn) y.Aa [] = _ from hw, qwv]
 cases w : o.1 with
 | some e => rfl
 | none => rfl
end Rt.Rv
