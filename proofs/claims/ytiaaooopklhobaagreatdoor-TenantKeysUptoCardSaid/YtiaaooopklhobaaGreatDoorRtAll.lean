import Derived.Test.YtiaaooopklhobaaGreatDoorR
import Derived.Test.YtiaaooopklhobaaGreatDoorPlain
import Derived.Lib.ItoaLen
set_option linter.unusedVariables false
set_option linter.unusedSimpArgs false
open Go Go.SL Go.Proofs Pl
namespace Tn
def hd (p : Str) : List Str → List Str
 | [] => [p]
 | x :: r => (p ++ x) :: r
def spl (c : UInt8) : Str → List Str
 | [] => [[]]
 | b :: s => if b = c then [] :: spl c s else hd [b] (spl c s)
theorem qgt (c : UInt8) (s : Str) : spl c s ≠ [] := by
 cases s with
 | nil => simp [spl]
 | cons b s =>
  rw [spl]
  split
  ·simp
  ·cases spl c s <;> simp [hd]
theorem qqx {l : List Str} (h : l ≠ []) : hd [] l = l := by
 cases l with
 | nil => exact absurd rfl h
 | cons a b => rfl
theorem qru (p q : Str) (l : List Str) : hd p (hd q l) = hd (p ++ q) l := by cases l <;> simp [hd]
theorem qpy (c b : UInt8) (l : Str) : ([c] : Str).isPrefixOf (b :: l) = (c == b) := by simp [List.isPrefixOf]
theorem qmm (c : UInt8) (l : Str) : Go.Lib.index (c :: l) [c] = 0 := by rw [Go.Lib.index, qsp (by simp [List.isPrefixOf])]
theorem qiw {c b : UInt8} (h : b ≠ c) (l : Str) : Go.Lib.index (b :: l) [c] = if Go.Lib.index l [c] = -1 then -1 else Go.Lib.index l [c] + 1 := by
 have : (c == b) = false := by simp; exact fun e => h e.symm
 rw [Go.Lib.index, qpy, this]
 simp
theorem qnx {b c : UInt8} (h : b ≠ c) (k : Nat) (l : Str) : Go.Lib.splitK [c] 0 k (b :: l) = hd [b] (Go.Lib.splitK [c] 0 k l) := by
 cases k with
 | zero => rfl
 | succ k =>
  have hg := Go.Lib.index_ge l [c]
  rw [Go.Lib.splitK, Go.Lib.splitK, qiw h]
  by_cases q : Go.Lib.index l [c] = -1
  ·rw [q]; simp [hd]
  ·rw [qso q]
   have e : (Go.Lib.index l [c] + 1).toNat = (Go.Lib.index l [c]).toNat + 1 := by omega
   rw [qso (by simp; omega), qso (by simpa using q), e]
   simp [hd, Nat.add_right_comm]
theorem qkq (c : UInt8) : ∀ s : Str, Go.Lib.split s [c] = spl c s
 | [] => by unfold Go.Lib.split; rw [Go.Lib.count_one]; rfl
 | b :: l => by
  have ih := qkq c l
  unfold Go.Lib.split at ih ⊢
  rw [spl]
  by_cases q : b = c
  ·subst q
   rw [qsp rfl, Go.Lib.count_cons_eq, Nat.add_comm, Go.Lib.splitK, qmm, qso (by decide), ← ih]
   simp
  ·rw [qso q, Go.Lib.count_cons_ne b c l q, qnx q, ih]
theorem index_spl (c : UInt8) : ∀ s : Str, (Go.Lib.index s [c] = -1 ∧ spl c s = [s] ∧ c ∉ s) ∨ (∃ i : Nat, Go.Lib.index s [c] = i ∧ i < s.length ∧ spl c s = s.take i :: spl c (s.drop (i + 1)))
 | [] => .inl ⟨rfl, rfl, by simp⟩
 | b :: l => by
  by_cases q : b = c
  ·subst q
   exact .inr ⟨0, qmm _ _, by simp, by rw [spl, qsp rfl]; simp⟩
  ·rcases index_spl c l with ⟨h1, h2, h3⟩ | ⟨i, h1, h2, h3⟩
   ·exact .inl ⟨by rw [qiw q, qsp h1], by rw [spl, qso q, h2]; rfl, by simp [h3]; exact fun e => q e.symm⟩
   ·refine .inr ⟨i + 1, by rw [qiw q, h1, qso (by omega)]; omega, by simp; omega, ?_⟩
    rw [spl, qso q, h3]
    simp [hd]
theorem qkr : qjt = 4294967281 := rfl
theorem qix {s : Str} (c : UInt8) (h : s.length ≤ 1000000) : qe6 s [c] = some (spl c s) := by
 unfold qe6
 rw [qsp ⟨by rw [qkr]; omega, by simp⟩, qkq]
theorem cut_spl (c : UInt8) (s : Str) : (Go.Lib.cut s [c] = (s, [], false) ∧ spl c s = [s]) ∨ (∃ i : Nat, i < s.length ∧ Go.Lib.cut s [c] = (s.take i, s.drop (i + 1), true) ∧ spl c s = s.take i :: spl c (s.drop (i + 1))) := by
 unfold Go.Lib.cut
 rcases index_spl c s with ⟨h1, h2, _⟩ | ⟨i, h1, h2, h3⟩
 ·left; rw [h1]; exact ⟨by simp, h2⟩
 ·right; rw [h1]; exact ⟨i, h2, by simp, h3⟩
theorem qgu {P : UInt8 → Prop} (h : ∀ n : Fin 256, P (UInt8.ofNat n.val)) (c : UInt8) : P c := by
 have := h ⟨c.toNat, c.toNat_lt⟩
 simpa using this
noncomputable def unr (c : UInt8) : Bool := (Jax c).getD false
theorem qop (c : UInt8) : Jax c = some (unr c) := by
 unfold unr Jax Jbb
 split
 ·rfl
 ·split <;> rfl
noncomputable def dgv (c : UInt8) : Int := (Jbh c).getD 0
theorem qks : ∀ c : UInt8, Jbh c = some (dgv c) := qgu (by unfold dgv; decide +kernel)
theorem qoq : ∀ c : UInt8, -1 ≤ dgv c ∧ dgv c ≤ 15 := qgu (by unfold dgv; decide +kernel)
noncomputable def okc (ot : Str) (c : UInt8) : Bool := unr c || !(decide (Go.Lib.indexByte ot c < 0))
def hexs : Str := [48, 49, 50, 51, 52, 53, 54, 55, 56, 57, 65, 66, 67, 68, 69, 70]
noncomputable def hx (a b : UInt8) : UInt8 := qhe (16 * dgv a + dgv b)
def enc (d : UInt8) : Str := [37, hexs.getD (d / 16).toNat 0, hexs.getD (d &&& 15).toNat 0]
theorem qsl : ∀ d : UInt8, ix hexs ((d / 16).toNat : Int) = some (hexs.getD (d / 16).toNat 0) := qgu (by decide +kernel)
theorem qsm : ∀ d : UInt8, ix hexs ((d &&& 15).toNat : Int) = some (hexs.getD (d &&& 15).toNat 0) := qgu (by decide +kernel)
noncomputable def can (ot : Str) : Str → Option Str
 | [] => some []
 | c :: s => if c ≠ 37 then (if okc ot c = true then (can ot s).map (c :: ·) else none)
  else match s with
   | a :: b :: t => if dgv a < 0 ∨ dgv b < 0 then none
    else if (hx a b).toNat < 32 ∨ (hx a b).toNat = 127 then none
    else if unr (hx a b) = true then (can ot t).map (hx a b :: ·) else (can ot t).map (enc (hx a b) ++ ·)
   | _ => none
theorem qhn {ot s : Str} {c : UInt8} (h : c ≠ 37) (u : okc ot c = true) : can ot (c :: s) = (can ot s).map (c :: ·) := by
 rcases s with _ | ⟨a, _ | ⟨b, t⟩⟩ <;> rw [can.eq_def] <;> simp only [qsp h, qsp u]
theorem qjv {ot s : Str} {c : UInt8} (h : c ≠ 37) (u : ¬ okc ot c = true) : can ot (c :: s) = none := by
 rcases s with _ | ⟨a, _ | ⟨b, t⟩⟩ <;> rw [can.eq_def] <;> simp only [qsp h, qso u]
theorem qjw {ot : Str} : can ot [37] = none := by rw [can.eq_def]; rfl
theorem qjx {ot : Str} {a : UInt8} : can ot [37, a] = none := by rw [can.eq_def]; rfl
theorem qh6 {ot t : Str} {a b : UInt8} (h : dgv a < 0 ∨ dgv b < 0) : can ot (37 :: a :: b :: t) = none := by rw [can, qso (by decide)]; rw [qsp h]
theorem qjy {ot t : Str} {a b : UInt8} (h : ¬ (dgv a < 0 ∨ dgv b < 0)) (w : (hx a b).toNat < 32 ∨ (hx a b).toNat = 127) : can ot (37 :: a :: b :: t) = none := by rw [can, qso (by decide)]; rw [qso h, qsp w]
theorem qjz {ot t : Str} {a b : UInt8} (h : ¬ (dgv a < 0 ∨ dgv b < 0)) (w : ¬ ((hx a b).toNat < 32 ∨ (hx a b).toNat = 127)) (u : unr (hx a b) = true) : can ot (37 :: a :: b :: t) = (can ot t).map (hx a b :: ·) := by rw [can, qso (by decide)]; rw [qso h, qso w, qsp u]
theorem qh7 {ot t : Str} {a b : UInt8} (h : ¬ (dgv a < 0 ∨ dgv b < 0)) (w : ¬ ((hx a b).toNat < 32 ∨ (hx a b).toNat = 127)) (u : ¬ unr (hx a b) = true) : can ot (37 :: a :: b :: t) = (can ot t).map (enc (hx a b) ++ ·) := by rw [can, qso (by decide)]; rw [qso h, qso w, qso u]
noncomputable def canR (y : Str) (k : Int) : Option Str → Fl (Str × Bool) (Str × Int)
 | none => .ret ([], false)
 | some r => .go (y ++ r, k)
theorem qny (y p : Str) (k : Int) (o : Option Str) : canR y k (o.map (p ++ ·)) = canR (y ++ p) k o := by cases o <;> simp [canR]
theorem qiy (y : Str) (c : UInt8) (k : Int) (o : Option Str) : canR y k (o.map (c :: ·)) = canR (y ++ [c]) k o := by cases o <;> simp [canR]
theorem qor {α : Type} {l : List α} {i : Nat} (h : i < l.length) : ix l (i : Int) = some l[i] := by
 unfold ix; rw [qsp (by omega), Int.toNat_natCast, List.getElem?_eq_getElem h]
set_option maxRecDepth 100000 in
theorem qkt {s ot : Str} (hs : s.length ≤ 100000) : ∀ (f p : Nat) (y : Str), p ≤ s.length → s.length - p < f → y.length + 3 * (s.length - p) ≤ 1000000 → J0 s ot f y (p : Int) = some (canR y (s.length : Int) (can ot (s.drop p)))
 | 0, p, y, _, h, _ => by omega
 | f + 1, p, y, hp, hf, hy => by
  generalize hR : can ot (s.drop p) = R
  rw [J0]
  by_cases q : p < s.length
  ·rw [List.drop_eq_getElem_cons q] at hR
   rw [qsp (by simpa using q), qor q, qsn]
   generalize hc : s[p] = c at hR ⊢
   by_cases q37 : c = 37
   ·subst q37
    rw [qso (by simp), qao (by constructor <;> omega)]
    by_cases q2 : p + 2 < s.length
    ·have e1 : ix s ((p : Int) + 1) = some s[p + 1] := by rw [show (p : Int) + 1 = ((p + 1 : Nat) : Int) by omega]; exact qor _
     have e2 : ix s ((p : Int) + 2) = some s[p + 2] := by rw [show (p : Int) + 2 = ((p + 2 : Nat) : Int) by omega]; exact qor _
     have ed : s.drop (p + 1) = s[p + 1] :: s[p + 2] :: s.drop (p + 3) := by rw [List.drop_eq_getElem_cons (by omega : p + 1 < s.length), List.drop_eq_getElem_cons (by omega : p + 1 + 1 < s.length)]
     rw [ed] at hR
     rw [e1, e2]
     generalize s[p + 1] = a at hR ⊢
     generalize s[p + 2] = b at hR ⊢
     have ha := qoq a
     have hb := qoq b
     rw [qso (by simp; omega), qao (by constructor <;> omega), qsn, qks a, qsn, qsn]
     by_cases da : dgv a < 0
     ·rw [qh6 (.inl da)] at hR
      rw [qsp (by simpa using da), qsn, qsn, qsp rfl, ← hR]; rfl
     rw [qso (by simpa using da), qao (by constructor <;> omega), qsn, qks b, qsn, qsn, qsn]
     by_cases db : dgv b < 0
     ·rw [qh6 (.inr db)] at hR
      rw [qsp (by simpa using db), ← hR]; rfl
     have dd : ¬ (dgv a < 0 ∨ dgv b < 0) := by omega
     rw [qso (by simpa using db), qao (by constructor <;> omega), qsn, qks a, qsn, qao (by constructor <;> omega), qao (by constructor <;> omega), qsn, qks b, qsn, qao (by constructor <;> omega), qao (by constructor <;> omega)]
     rw [show qhe (16 * dgv a + dgv b) = hx a b from rfl]
     by_cases w : (hx a b).toNat < 32 ∨ (hx a b).toNat = 127
     ·rw [qjy dd w] at hR
      rw [qsp (by simp; omega), ← hR]; rfl
     rw [qso (by simp; omega), qop, qsn]
     by_cases u : unr (hx a b) = true
     ·rw [qjz dd w u] at hR
      rw [qsp u, qao (by simp only [lim, List.length_singleton]; omega), qao (by constructor <;> omega), show ((p : Int) + 2) + 1 = ((p + 3 : Nat) : Int) by omega,
       qkt hs f (p + 3) _ (by omega) (by omega) (by simp only [List.length_append, List.length_singleton]; omega), ← hR, qiy]
     ·rw [qh7 dd w u] at hR
      rw [qso u, show ([48, 49, 50, 51, 52, 53, 54, 55, 56, 57, 65, 66, 67, 68, 69, 70] : Str) = hexs from rfl, qsl, qsn, qsm, qsn, qao (by simp only [lim, List.length_cons, List.length_nil]; omega), qao (by constructor <;> omega), show ((p : Int) + 2) + 1 = ((p + 3 : Nat) : Int) by omega,
       qkt hs f (p + 3) _ (by omega) (by omega) (by simp only [List.length_append, List.length_cons, List.length_nil]; omega), ← hR, qny]; rfl
    ·have hn : R = none := by
      have hl : (s.drop (p + 1)).length ≤ 1 := by rw [List.length_drop]; omega
      rw [← hR]
      cases h : s.drop (p + 1) with
      | nil => exact qjw
      | cons a t =>
       rw [h] at hl
       cases t with
       | nil => exact qjx
       | cons b t => simp at hl
     rw [qsp (by simp; omega), qsn, qsp rfl, qsn, qsn, qsp rfl, hn]; rfl
   ·have q37' : (c.toNat : Int) ≠ 37 := fun e => q37 (UInt8.toNat_inj.1 (by show c.toNat = 37; omega))
    rw [qsp (by simpa using q37'), qop, qsn]
    have eo : ((if (!unr c) = true then (ixByteM ot c).bind fun x26 => some (decide (x26 < 0)) else some false) : Option Bool) = some (!okc ot c) := by
     unfold okc ixByteM
     cases unr c <;> simp
    rw [eo, qsn]
    by_cases u : okc ot c = true
    ·rw [qhn q37 u] at hR
     rw [qso (by simp [u]), qao (by simp only [lim, List.length_singleton]; omega), qao (by constructor <;> omega), show (p : Int) + 1 = ((p + 1 : Nat) : Int) by omega,
      qkt hs f (p + 1) _ (by omega) (by omega) (by simp only [List.length_append, List.length_singleton]; omega), ← hR, qiy]
    ·rw [qjv q37 u] at hR
     rw [qsp (by simpa using u), ← hR]; rfl
  ·have : p = s.length := by omega
   subst this
   rw [List.drop_length, can] at hR
   rw [qso (by simp), ← hR]
   simp [canR]
theorem qos {n : Nat} {s ot : Str} (hs : s.length ≤ 100000) (hn : s.length < n) : Ja0 n s ot = some (match can ot s with | none => ([], false) | some r => (r, true)) := by
 unfold Ja0
 rw [show (0 : Int) = ((0 : Nat) : Int) from rfl, qkt hs n 0 [] (by omega) (by omega) (by simp only [List.length_nil]; omega), qsn, List.drop_zero]
 cases can ot s with
 | none => rfl
 | some r => rfl
theorem qrv : unr 37 = false := by unfold unr; decide +kernel
theorem qqy : ∀ d : UInt8, hx (hexs.getD (d / 16).toNat 0) (hexs.getD (d &&& 15).toNat 0) = d := qgu (by unfold hx dgv; decide +kernel)
theorem qqz : ∀ d : UInt8, ¬ dgv (hexs.getD (d / 16).toNat 0) < 0 := qgu (by unfold dgv; decide +kernel)
theorem qq0 : ∀ d : UInt8, ¬ dgv (hexs.getD (d &&& 15).toNat 0) < 0 := qgu (by unfold dgv; decide +kernel)
theorem qq1 : ∀ d : UInt8, unr (hexs.getD (d / 16).toNat 0) = true := qgu (by unfold unr; decide +kernel)
theorem qq2 : ∀ d : UInt8, unr (hexs.getD (d &&& 15).toNat 0) = true := qgu (by unfold unr; decide +kernel)
theorem okc_unr {ot : Str} {c : UInt8} (h : unr c = true) : okc ot c = true := by unfold okc; rw [h]; rfl
inductive Cn (ot : Str) : Str → Prop
 | nil : Cn ot []
 | one {c : UInt8} {s : Str} (h : c ≠ 37) (u : okc ot c = true) (t : Cn ot s) : Cn ot (c :: s)
 | esc {d : UInt8} {s : Str} (w : ¬ (d.toNat < 32 ∨ d.toNat = 127)) (u : ¬ unr d = true) (t : Cn ot s) : Cn ot (enc d ++ s)
theorem Cn.of {ot : Str} : ∀ (n : Nat) (s r : Str), s.length ≤ n → can ot s = some r → Cn ot r
 | n, [], r, _, h => by rw [can] at h; cases h; exact .nil
 | 0, c :: s, r, hn, h => by simp at hn
 | n + 1, c :: s, r, hn, h => by
  simp only [List.length_cons] at hn
  by_cases q : c = 37
  ·subst q
   rcases s with _ | ⟨a, _ | ⟨b, t⟩⟩
   ·rw [qjw] at h; cases h
   ·rw [qjx] at h; cases h
   ·simp only [List.length_cons] at hn
    by_cases dd : dgv a < 0 ∨ dgv b < 0
    ·rw [qh6 dd] at h; cases h
    by_cases w : (hx a b).toNat < 32 ∨ (hx a b).toNat = 127
    ·rw [qjy dd w] at h; cases h
    by_cases u : unr (hx a b) = true
    ·rw [qjz dd w u] at h
     obtain ⟨r', h1, h2⟩ := Option.map_eq_some_iff.1 h
     subst h2
     exact .one (fun e => by rw [e, qrv] at u; cases u) (okc_unr u) (Cn.of n t r' (by omega) h1)
    ·rw [qh7 dd w u] at h
     obtain ⟨r', h1, h2⟩ := Option.map_eq_some_iff.1 h
     subst h2
     exact .esc w u (Cn.of n t r' (by omega) h1)
  ·by_cases u : okc ot c = true
   ·rw [qhn q u] at h
    obtain ⟨r', h1, h2⟩ := Option.map_eq_some_iff.1 h
    subst h2
    exact .one q u (Cn.of n s r' (by omega) h1)
   ·rw [qjv q u] at h; cases h
theorem Cn.can_app {ot r : Str} (h : Cn ot r) (q : Str) : can ot (r ++ q) = (can ot q).map (r ++ ·) := by
 induction h with
 | nil => simp
 | one h u t ih => rw [List.cons_append, qhn h u, ih]; cases can ot q <;> rfl
 | @esc d s w u t ih =>
  rw [List.append_assoc]
  show can ot (37 :: hexs.getD (d / 16).toNat 0 :: hexs.getD (d &&& 15).toNat 0 :: (s ++ q)) = _
  have e := qqy d
  have d1 := qqz d
  have d2 := qq0 d
  rw [qh7 (by omega) (by rw [e]; exact w) (by rw [e]; exact u), e, ih]
  cases can ot q <;> simp
theorem Cn.fix {ot r : Str} (h : Cn ot r) : can ot r = some r := by
 have := h.can_app []
 rw [List.append_nil, can] at this
 simpa using this
theorem Cn.bytes {ot r : Str} (h : Cn ot r) : ∀ c ∈ r, c = 37 ∨ okc ot c = true := by
 induction h with
 | nil => simp
 | one h u t ih =>
  intro c hc
  rcases List.mem_cons.1 hc with e | e
  ·subst e; exact .inr u
  ·exact ih c e
 | @esc d s w u t ih =>
  intro c hc
  rcases List.mem_append.1 hc with e | e
  ·simp only [enc, List.mem_cons, List.not_mem_nil, or_false] at e
   rcases e with e | e | e
   ·exact .inl e
   ·subst e; exact .inr (okc_unr (qq1 d))
   ·subst e; exact .inr (okc_unr (qq2 d))
  ·exact ih c e
theorem Cn.app {ot a b : Str} (h : Cn ot a) (k : Cn ot b) : Cn ot (a ++ b) := by
 induction h with
 | nil => exact k
 | one h u t ih => exact .one h u ih
 | esc w u t ih => rw [List.append_assoc]; exact .esc w u ih
theorem qmn {P : Str → Prop} {p : Str} {l : List Str} (hn : l ≠ []) (h : ∀ x ∈ l, P x) (hp : ∀ x, P x → P (p ++ x)) : ∀ x ∈ hd p l, P x := by
 cases l with
 | nil => exact absurd rfl hn
 | cons y l =>
  intro x hx
  rcases List.mem_cons.1 hx with e | e
  ·subst e; exact hp y (h y (by simp))
  ·exact h x (by simp [e])
theorem qj0 {c : UInt8} {p : Str} (hp : c ∉ p) (s : Str) : spl c (p ++ s) = hd p (spl c s) := by
 induction p with
 | nil => rw [List.nil_append, qqx (qgt c s)]
 | cons b p ih =>
  rw [List.cons_append, spl, qso (fun e => hp (by simp [e])), ih (fun e => hp (by simp [e])), qru]; rfl
theorem qq3 : ∀ d : UInt8, (47 : UInt8) ∉ enc d := qgu (by unfold enc; decide +kernel)
theorem Cn.spl {ot r : Str} (h : Cn ot r) : ∀ p ∈ spl 47 r, Cn ot p := by
 induction h with
 | nil => intro p hp; simp only [Tn.spl, List.mem_singleton] at hp; subst hp; exact .nil
 | @one c s h u t ih =>
  rw [Tn.spl]
  split
  ·intro p hp
   rcases List.mem_cons.1 hp with e | e
   ·subst e; exact .nil
   ·exact ih p e
  ·exact qmn (qgt 47 s) ih fun x hx => .one h u hx
 | @esc d s w u t ih =>
  rw [qj0 (qq3 d)]
  exact qmn (qgt 47 s) ih fun x hx => .esc w u hx
def jn (c : UInt8) : List Str → Str
 | [] => []
 | [a] => a
 | a :: b :: l => a ++ c :: jn c (b :: l)
theorem Cn.jn {ot : Str} (h47 : okc ot 47 = true) : ∀ (l : List Str), (∀ p ∈ l, Cn ot p) → Cn ot (jn 47 l)
 | [], _ => .nil
 | [a], h => h a (by simp)
 | a :: b :: l, h => (h a (by simp)).app (.one (by decide) h47 (Cn.jn h47 (b :: l) fun p hp => h p (by simp at hp ⊢; exact .inr hp)))
theorem qot {c : UInt8} : ∀ (l : List Str), l ≠ [] → (∀ p ∈ l, c ∉ p) → spl c (jn c l) = l
 | [], h, _ => absurd rfl h
 | [a], _, h => by
  have := qj0 (h a (by simp)) []
  simpa [jn, spl, hd] using this
 | a :: b :: l, _, h => by
  rw [jn, qj0 (h a (by simp)), spl, qsp rfl, qot (b :: l) (by simp) fun p hp => h p (by simp at hp ⊢; exact .inr hp)]
  simp [hd]
theorem qmo (c : UInt8) : ∀ (s : Str), ∀ p ∈ spl c s, c ∉ p
 | [] => by simp [spl]
 | b :: s => by
  rw [spl]
  split
  ·rename_i e
   intro p hp
   rcases List.mem_cons.1 hp with e | e
   ·subst e; simp
   ·exact qmo c s p e
  ·rename_i e
   refine qmn (qgt c s) (qmo c s) fun x hx h => ?_
   rcases List.mem_append.1 h with h | h
   ·simp only [List.mem_singleton] at h; exact e h.symm
   ·exact hx h
theorem qnz (c : UInt8) : ∀ l : List Str, Go.Lib.join l [c] = jn c l
 | [] => rfl
 | [a] => Go.Lib.join_one a [c]
 | a :: b :: l => by
  rw [jn, ← qnz c (b :: l)]
  simp [Go.Lib.join, List.intercalate]
def qrw : Str := [46]
def qrx : Str := [46, 46]
def dts : List Str → List Str → Option (List Str)
 | y, [] => some y
 | y, e :: r => if e = qrw then (if r = [] then some (y ++ [[]]) else dts y r)
  else if e = qrx then (if y = [] then none else if r = [] then some (y.dropLast ++ [[]]) else dts y.dropLast r)
  else dts (y ++ [e]) r
def nd (p : Str) : Prop := p ≠ qrw ∧ p ≠ qrx
theorem qou : ∀ (r y : List Str), (∀ p ∈ r, nd p) → dts y r = some (y ++ r)
 | [], y, _ => by rw [dts, List.append_nil]
 | e :: r, y, h => by
  have he := h e (by simp)
  rw [dts, qso he.1, qso he.2, qou r _ fun p hp => h p (by simp [hp])]
  simp
theorem qh8 {P : Str → Prop} (h0 : P []) : ∀ (r y z : List Str), dts y r = some z → (∀ p ∈ y, P p ∧ nd p) → (∀ p ∈ r, P p) → ∀ p ∈ z, P p ∧ nd p
 | [], y, z, h, hy, _ => by rw [dts] at h; cases h; exact hy
 | e :: r, y, z, h, hy, hr => by
  have hn : P [] ∧ nd [] := ⟨h0, by decide, by decide⟩
  rw [dts] at h
  split at h
  ·split at h
   ·cases h
    intro p hp
    rcases List.mem_append.1 hp with e | e
    ·exact hy p e
    ·simp only [List.mem_singleton] at e; subst e; exact hn
   ·exact qh8 h0 r y z h hy fun p hp => hr p (by simp [hp])
  ·split at h
   ·split at h
    ·cases h
    ·split at h
     ·cases h
      intro p hp
      rcases List.mem_append.1 hp with e | e
      ·exact hy p (List.dropLast_subset _ e)
      ·simp only [List.mem_singleton] at e; subst e; exact hn
     ·exact qh8 h0 r _ z h (fun p hp => hy p (List.dropLast_subset _ hp)) fun p hp => hr p (by simp [hp])
   ·rename_i n1 n2
    refine qh8 h0 r _ z h (fun p hp => ?_) fun p hp => hr p (by simp [hp])
    rcases List.mem_append.1 hp with e | e
    ·exact hy p e
    ·simp only [List.mem_singleton] at e; subst e; exact ⟨hr p (by simp), n1, n2⟩
theorem qku : ∀ (r y z : List Str), dts y r = some z → r ≠ [] → z ≠ []
 | [], y, z, h, hr => absurd rfl hr
 | e :: r, y, z, h, _ => by
  rw [dts] at h
  by_cases q : r = []
  ·subst q
   simp only [if_true, dts] at h
   split at h
   ·cases h; simp
   ·split at h
    ·split at h <;> cases h; simp
    ·cases h; simp
  ·simp only [qso q] at h
   split at h
   ·exact qku r _ z h q
   ·split at h
    ·split at h
     ·cases h
     ·exact qku r _ z h q
    ·exact qku r _ z h q
def zAd : Jl := ⟨[], [], [], false⟩
def dtF : Option (List Str) → Fl (Jl × Err) (List Str)
 | none => .ret (zAd, some 27)
 | some z => .go z
theorem qkv (x : List Str) (hx : x.length ≤ 100000) : ∀ (r : List Str) (i : Nat) (y : List Str), i + r.length = x.length → y.length ≤ i → JF x r i y = some (dtF (dts y r))
 | [], i, y, _, _ => by rw [JF, dts]; rfl
 | e :: r, i, y, hi, hy => by
  simp only [List.length_cons] at hi
  have el : decide ((i : Int) = ((x.length : Int) - 1)) = decide (r = []) := by
   rw [decide_eq_decide]
   constructor
   ·intro h; exact List.eq_nil_of_length_eq_zero (by omega)
   ·rintro rfl; simp only [List.length_nil] at hi; omega
  have c1 : InI ((x.length : Int) - 1) := by constructor <;> omega
  have c3 : InI ((y.length : Int) - 1) := by constructor <;> omega
  rw [JF, dts]
  by_cases q1 : e = qrw
  ·have q2 : ¬ e = ([46, 46] : Str) := by subst q1; decide
   have q1' : e = ([46] : Str) := q1
   rw [qsp (by simpa using q1'), qso (by simpa using q2), qao c1, el, qsp q1]
   by_cases q3 : r = []
   ·subst q3
    rw [qsp (by simp), qsp rfl, qao (by simp only [lim, List.length_singleton]; omega), JF]; rfl
   ·rw [qso (by simpa using q3), qso q3, qkv x hx r (i + 1) y (by omega) (by omega)]
  ·have q1' : ¬ e = ([46] : Str) := q1
   rw [qso (by simpa using q1'), qso q1]
   by_cases q2 : e = qrx
   ·have q2' : e = ([46, 46] : Str) := q2
    rw [qsp (by simpa using q2'), qsp (by simpa using q2'), qsp q2]
    by_cases q4 : y = []
    ·subst q4
     rw [qsp (by simp), qsp rfl]; rfl
    ·have hl : 0 < y.length := List.length_pos_iff.2 q4
     have es : subL y (0 : Int) ((y.length : Int) - 1) = y.dropLast := by
      rw [List.dropLast_eq_take, show ((y.length : Int) - 1) = ((y.length - 1 : Nat) : Int) by omega]
      simp [subL]
     have dl : y.dropLast.length = y.length - 1 := List.length_dropLast
     rw [qso (by simp; exact q4), qso q4, qao c3, qao (by omega), qao c1, el, es]
     by_cases q3 : r = []
     ·subst q3
      rw [qsp (by simp), qsp rfl, qao (by simp only [lim, List.length_singleton]; omega), JF]; rfl
     ·rw [qso (by simpa using q3), qso q3, qkv x hx r (i + 1) _ (by omega) (by omega)]
   ·have q2' : ¬ e = ([46, 46] : Str) := q2
    rw [qso (by simpa using q2'), qso q2, qao (by simp only [lim, List.length_singleton]; omega), qkv x hx r (i + 1) _ (by omega) (by simp only [List.length_append, List.length_singleton]; omega)]
theorem qov {c : UInt8} {q : Str} : ∀ {p : Str}, c ∉ p → Go.Lib.index (p ++ c :: q) [c] = p.length
 | [], _ => qmm c q
 | b :: p, h => by
  rw [List.cons_append, qiw (fun e => h (by simp [e])), qov (fun e => h (by simp [e])), qso (by omega)]; simp
theorem qow {c : UInt8} : ∀ {p : Str}, c ∉ p → Go.Lib.index p [c] = -1
 | [], _ => by simp [Go.Lib.index, List.isPrefixOf]
 | b :: p, h => by
  rw [qiw (fun e => h (by simp [e])), qow (fun e => h (by simp [e])), qsp rfl]
theorem qq4 {c : UInt8} {p q : Str} (h : c ∉ p) : Go.Lib.cut (p ++ c :: q) [c] = (p, q, true) := by
 unfold Go.Lib.cut
 rw [qov h]
 simp
theorem qq5 {c : UInt8} {p : Str} (h : c ∉ p) : Go.Lib.cut p [c] = (p, [], false) := by
 unfold Go.Lib.cut
 rw [qow h]
 simp
theorem qiz (c : UInt8) (s : Str) : (Go.Lib.cut s [c]).1.length ≤ s.length ∧ (Go.Lib.cut s [c]).2.1.length ≤ s.length ∧ ((Go.Lib.cut s [c]).2.2 = false → (Go.Lib.cut s [c]).2.1 = []) := by
 rcases cut_spl c s with ⟨h, _⟩ | ⟨i, _, h, _⟩
 ·rw [h]; simp
 ·rw [h]
  refine ⟨?_, ?_, fun e => by cases e⟩
  ·show (s.take i).length ≤ _
   rw [List.length_take]; omega
  ·show (s.drop (i + 1)).length ≤ _
   rw [List.length_drop]; omega
def oP : Str := [33, 36, 38, 39, 40, 41, 42, 43, 44, 59, 61, 58, 64, 47]
def oQ : Str := [33, 36, 38, 39, 40, 41, 42, 43, 44, 59, 61, 58, 64, 47, 63]
def txl (a : Jl) : Nat := if a.HasQuery then a.An.length + a.Ae.length + 1 + a.Af.length else a.An.length + a.Ae.length
noncomputable def prs (h t : Str) : Jl × Err :=
 if ((Go.Lib.cut t [63]).1).head? ≠ some 47 then (zAd, some 27)
 else match can oP (Go.Lib.cut t [63]).1, can oQ (Go.Lib.cut t [63]).2.1 with
  | some p, some q => match dts [] (spl 47 (p.drop 1)) with
   | none => (zAd, some 27)
   | some z => if txl ⟨h, 47 :: jn 47 z, q, (Go.Lib.cut t [63]).2.2⟩ > 1024 then (zAd, some 5) else (⟨h, 47 :: jn 47 z, q, (Go.Lib.cut t [63]).2.2⟩, none)
  | _, _ => (zAd, some 27)
def tgt (a : Jl) : Str := if a.HasQuery then a.Ae ++ 63 :: a.Af else a.Ae
theorem qry : okc oP 63 = false := by unfold okc unr; decide +kernel
theorem qn0 : okc oP 47 = true := by unfold okc unr; decide +kernel
theorem Cn.no63 {r : Str} (h : Cn oP r) : (63 : UInt8) ∉ r := fun e => by
 rcases h.bytes 63 e with e | e
 ·exact absurd e (by decide)
 ·rw [qry] at e; cases e
theorem qq6 {h t : Str} {a : Jl} (e : prs h t = (a, none)) : a.An = h ∧ Cn oP a.Ae ∧ a.Ae.head? = some 47 ∧ txl a ≤ 1024 ∧ (a.HasQuery = false → a.Af = []) ∧ prs h (tgt a) = (a, none) := by
 unfold prs at e
 by_cases q0 : ((Go.Lib.cut t [63]).1).head? ≠ some 47
 ·rw [qsp q0] at e; cases e
 rw [qso q0] at e
 cases hp : can oP (Go.Lib.cut t [63]).1 with
 | none => rw [hp] at e; cases e
 | some p =>
  cases hq : can oQ (Go.Lib.cut t [63]).2.1 with
  | none => rw [hp, hq] at e; cases e
  | some q =>
   rw [hp, hq] at e
   dsimp only at e
   cases hz : dts [] (spl 47 (p.drop 1)) with
   | none => rw [hz] at e; cases e
   | some z =>
    rw [hz] at e
    dsimp only at e
    by_cases ql : txl ⟨h, 47 :: jn 47 z, q, (Go.Lib.cut t [63]).2.2⟩ > 1024
    ·rw [qsp ql] at e; cases e
    rw [qso ql] at e
    have cp := Cn.of _ _ _ (Nat.le_refl _) hp
    have cq := Cn.of _ _ _ (Nat.le_refl _) hq
    have hqn := (qiz 63 t).2.2
    generalize (Go.Lib.cut t [63]).2.2 = b at e ql hqn
    cases e
    have cd : Cn oP (p.drop 1) := by
     cases cp with
     | nil => exact .nil
     | one h u t => exact t
     | @esc d s w u t =>
      exfalso
      have hc : ∀ (s r : Str), s.head? = some 47 → can oP s = some r → r.head? = some 47 := by
       intro s r hs hr
       cases s with
       | nil => cases hs
       | cons c s =>
        cases hs
        rw [qhn (by decide) qn0] at hr
        obtain ⟨r', _, rfl⟩ := Option.map_eq_some_iff.1 hr
        rfl
      have := hc _ _ (Classical.not_not.1 q0) hp
      simp [enc] at this
    have all := qh8 (P := fun p => Cn oP p ∧ (47 : UInt8) ∉ p) ⟨.nil, by simp⟩ _ _ _ hz (by simp) fun p hp => ⟨cd.spl p hp, qmo 47 _ p hp⟩
    have zn := qku _ _ _ hz (qgt _ _)
    have cpath : Cn oP (47 :: jn 47 z) := .one (by decide) qn0 (Cn.jn qn0 z fun p hp => (all p hp).1.1)
    have hb : b = false → q = [] := by
     intro hb
     have := hqn hb
     rw [this, can] at hq
     exact (Option.some.inj hq).symm
    refine ⟨rfl, cpath, rfl, Nat.le_of_not_gt ql, hb, ?_⟩
    have ez : dts [] (spl 47 (jn 47 z)) = some z := by
     rw [qot z zn fun p hp => (all p hp).1.2, qou z [] fun p hp => (all p hp).2]; rfl
    unfold prs
    cases b with
    | true =>
     rw [show tgt ⟨h, 47 :: jn 47 z, q, true⟩ = (47 :: jn 47 z) ++ 63 :: q from rfl, qq4 cpath.no63, qso (by simp), cpath.fix, cq.fix]
     dsimp only [List.drop]
     rw [ez]
     dsimp only
     rw [qso ql]
    | false =>
     obtain rfl := hb rfl
     rw [show tgt ⟨h, 47 :: jn 47 z, [], false⟩ = 47 :: jn 47 z from rfl, qq5 cpath.no63, qso (by simp), cpath.fix, can]
     dsimp only [List.drop]
     rw [ez]
     dsimp only
     rw [qso ql]
theorem qgv {ot : Str} : ∀ (n : Nat) (s r : Str), s.length ≤ n → can ot s = some r → r.length ≤ s.length
 | n, [], r, _, h => by rw [can] at h; cases h; simp
 | 0, c :: s, r, hn, h => by simp at hn
 | n + 1, c :: s, r, hn, h => by
  simp only [List.length_cons] at hn ⊢
  by_cases q : c = 37
  ·subst q
   rcases s with _ | ⟨a, _ | ⟨b, t⟩⟩
   ·rw [qjw] at h; cases h
   ·rw [qjx] at h; cases h
   ·simp only [List.length_cons] at hn ⊢
    by_cases dd : dgv a < 0 ∨ dgv b < 0
    ·rw [qh6 dd] at h; cases h
    by_cases w : (hx a b).toNat < 32 ∨ (hx a b).toNat = 127
    ·rw [qjy dd w] at h; cases h
    by_cases u : unr (hx a b) = true
    ·rw [qjz dd w u] at h
     obtain ⟨r', h1, h2⟩ := Option.map_eq_some_iff.1 h
     subst h2
     have := qgv n t r' (by omega) h1
     simp only [List.length_cons]; omega
    ·rw [qh7 dd w u] at h
     obtain ⟨r', h1, h2⟩ := Option.map_eq_some_iff.1 h
     subst h2
     have := qgv n t r' (by omega) h1
     simp only [List.length_append, enc, List.length_cons, List.length_nil]; omega
  ·by_cases u : okc ot c = true
   ·rw [qhn q u] at h
    obtain ⟨r', h1, h2⟩ := Option.map_eq_some_iff.1 h
    subst h2
    have := qgv n s r' (by omega) h1
    simp only [List.length_cons]; omega
   ·rw [qjv q u] at h; cases h
def wt : List Str → Nat
 | [] => 0
 | a :: l => a.length + 1 + wt l
theorem wt_app : ∀ a b : List Str, wt (a ++ b) = wt a + wt b
 | [], b => by simp [wt]
 | x :: a, b => by rw [List.cons_append, wt, wt, wt_app a b]; omega
theorem qpz (l : List Str) (h : l ≠ []) : wt l.dropLast + 1 ≤ wt l := by
 have := List.dropLast_concat_getLast h
 have e := wt_app l.dropLast [l.getLast h]
 rw [this] at e
 simp only [wt] at e; omega
theorem qkw : ∀ l : List Str, l.length ≤ wt l ∧ (jn 47 l).length ≤ wt l
 | [] => by simp [wt, jn]
 | [a] => by simp [wt, jn]
 | a :: b :: l => by
  have := qkw (b :: l)
  rw [wt, jn]
  simp only [List.length_cons, List.length_append] at this ⊢; omega
theorem qrz (p : Str) (l : List Str) (h : l ≠ []) : wt (hd p l) = p.length + wt l := by
 cases l with
 | nil => exact absurd rfl h
 | cons a l => simp [hd, wt]; omega
theorem qkx (c : UInt8) : ∀ s : Str, wt (spl c s) = s.length + 1
 | [] => rfl
 | b :: s => by
  rw [spl]
  split
  ·rw [wt, qkx c s]; simp; omega
  ·rw [qrz _ _ (qgt c s), qkx c s]; simp; omega
theorem qky : ∀ (r y z : List Str), dts y r = some z → wt z ≤ wt y + wt r
 | [], y, z, h => by rw [dts] at h; cases h; simp [wt]
 | e :: r, y, z, h => by
  rw [dts] at h
  rw [wt]
  split at h
  ·split at h
   ·cases h; rw [wt_app]; simp [wt]
    omega
   ·have := qky r y z h; omega
  ·split at h
   ·split at h
    ·cases h
    ·rename_i hy
     have := qpz y hy
     split at h
     ·cases h; rw [wt_app]; simp [wt]; omega
     ·have := qky r _ z h; omega
   ·have := qky r _ z h
    rw [wt_app] at this
    simp [wt] at this; omega
theorem qq7 {a : Jl} (h : a.An.length + a.Ae.length + a.Af.length ≤ 100000) : ∃ t, JbA a = some t ∧ t.length = txl a := by
 unfold JbA txl
 cases a.HasQuery with
 | true =>
  rw [qsp rfl, qsp rfl, qao (by simp only [lim]; omega), qao (by simp only [lim, List.length_append, List.length_singleton]; omega), qao (by simp only [lim, List.length_append, List.length_singleton]; omega)]
  exact ⟨_, rfl, by simp only [List.length_append, List.length_singleton]⟩
 | false =>
  rw [qso (by simp), qso (by simp), qao (by simp only [lim]; omega)]
  exact ⟨_, rfl, List.length_append⟩
theorem qn1 {n : Nat} {h h' t : Str} (hh : JbV h = some (h', none)) (hl : h'.length ≤ 1000) (ht : t.length ≤ 9000) (hn : 9000 < n) : Jay n h t = some (prs h' t) := by
 unfold Jay prs
 have lc := qiz 63 t
 rw [hh, qsn, qso (by simp), show qon t ([63] : Str) = some (Go.Lib.cut t [63]) from by unfold qon; rw [qsp (by rw [qkr]; omega)], qsn]
 generalize Go.Lib.cut t [63] = c at lc ⊢
 obtain ⟨c1, c2, c3⟩ := c
 dsimp only at lc ⊢
 have e47 : ((if decide (c1 = ([] : Str)) then some true else (ix c1 0).bind fun x37 => some (decide ((x37.toNat : Int) ≠ 47))) : Option Bool) = some (decide (c1.head? ≠ some 47)) := by
  cases c1 with
  | nil => rfl
  | cons b c1 =>
   rw [qso (by simp), show ix (b :: c1) 0 = some b from rfl, qsn]
   congr 1
   rw [decide_eq_decide]
   simp only [List.head?_cons, ne_eq, Option.some.injEq]
   constructor
   ·intro h e; subst e; exact h rfl
   ·intro h e; exact h (UInt8.toNat_inj.1 (by show b.toNat = 47; omega))
 rw [e47, qsn]
 by_cases q0 : c1.head? ≠ some 47
 ·rw [qsp (by simpa using q0), qsp q0]; rfl
 rw [qso (by simpa using q0), qso q0]
 rw [show ([33, 36, 38, 39, 40, 41, 42, 43, 44, 59, 61, 58, 64, 47] : Str) = oP from rfl, show ([33, 36, 38, 39, 40, 41, 42, 43, 44, 59, 61, 58, 64, 47, 63] : Str) = oQ from rfl, qos (by omega) (by omega), qsn, qos (by omega) (by omega), qsn]
 cases hp : can oP c1 with
 | none => rw [qsp (by simp)]; rfl
 | some p =>
  cases hq : can oQ c2 with
  | none => rw [qsp (by simp)]; rfl
  | some q =>
   dsimp only
   rw [qso (by simp)]
   have lp := qgv _ _ _ (Nat.le_refl _) hp
   have lq := qgv _ _ _ (Nat.le_refl _) hq
   have hne : 1 ≤ p.length := by
    cases c1 with
    | nil => simp at q0
    | cons b c1 =>
     obtain rfl : b = 47 := by simpa using q0
     rw [qhn (by decide) qn0] at hp
     obtain ⟨r', _, rfl⟩ := Option.map_eq_some_iff.1 hp
     simp
   have es : subL p (1 : Int) (p.length : Int) = p.drop 1 := by
    unfold subL
    simp [List.take_of_length_le]
   have ls : (p.drop 1).length ≤ 9000 := by rw [List.length_drop]; omega
   rw [qao (by omega), es, qix 47 (by omega), qsn]
   have w1 := qkx 47 (p.drop 1)
   have w2 := qkw (spl 47 (p.drop 1))
   rw [qao (by simp only [qbg]; omega), qkv _ (by omega) _ 0 [] (by omega) (by simp), qsn]
   cases hz : dts [] (spl 47 (p.drop 1)) with
   | none => rfl
   | some z =>
    have w3 := qky _ _ _ hz
    have w4 := qkw z
    simp only [wt] at w3
    dsimp only [dtF, Fl.el]
    rw [show qe4 z ([47] : Str) = some (jn 47 z) from by unfold qe4; rw [qnz, qsp (by simp only [lim]; omega)], qsn, qao (by simp only [lim, List.length_singleton]; omega)]
    obtain ⟨x, x1, x2⟩ := qq7 (a := ⟨h', [47] ++ jn 47 z, q, c3⟩) (by simp only [List.length_append, List.length_singleton]; omega)
    rw [x1, qsn, x2]
    show (if decide ((txl ⟨h', 47 :: jn 47 z, q, c3⟩ : Int) > 1024) then _ else _) = _
    by_cases ql : txl ⟨h', 47 :: jn 47 z, q, c3⟩ > 1024
    ·rw [qsp (by simp; omega), qsp ql]; rfl
    ·rw [qso (by simp; omega), qso ql]; rfl
noncomputable def aln (c : UInt8) : Bool := (Jbb c).getD false
theorem qq8 (c : UInt8) : Jbb c = some (aln c) := by
 unfold aln Jbb
 split
 ·rfl
 ·split <;> rfl
noncomputable def hch (c : UInt8) : Bool := aln c || decide (c = 45)
theorem qr0 : hch 47 = false := by unfold hch aln; decide +kernel
theorem qmp : ∀ (l : Str) (i : Nat), ∃ f, Ja1 l i = some f ∧ (f = .ret ([], some 8) ∨ (f = .go () ∧ ∀ c ∈ l, hch c = true))
 | [], i => ⟨_, rfl, .inr ⟨rfl, fun c h => by cases h⟩⟩
 | c :: l, i => by
  rw [Ja1, qq8, qsn]
  have e : ((if (!aln c) = true then some (decide ((c.toNat : Int) ≠ 45)) else some false) : Option Bool) = some (!hch c) := by
   unfold hch
   cases aln c with
   | true => simp
   | false =>
    simp only [Bool.not_false, if_true, Bool.false_or]
    congr 1
    rw [← decide_not, decide_eq_decide]
    constructor
    ·intro h e; subst e; exact h rfl
    ·intro h e; exact h (UInt8.toNat_inj.1 (by show c.toNat = 45; omega))
  rw [e, qsn]
  by_cases q : hch c = true
  ·rw [qso (by simp [q])]
   obtain ⟨f, h1, h2⟩ := qmp l (i + 1)
   refine ⟨f, h1, ?_⟩
   rcases h2 with h2 | ⟨h2, h3⟩
   ·exact .inl h2
   ·refine .inr ⟨h2, fun x hx => ?_⟩
    rcases List.mem_cons.1 hx with e | e
    ·subst e; exact q
    ·exact h3 x e
  ·rw [qsp (by simpa using q)]
   exact ⟨_, rfl, .inl rfl⟩
theorem qmq : ∀ (l : List Str) (i : Nat), ∃ f, Ja2 l i = some f ∧ (f = .ret ([], some 8) ∨ (f = .go () ∧ ∀ p ∈ l, ∀ c ∈ p, hch c = true))
 | [], i => ⟨_, rfl, .inr ⟨rfl, fun c h => by cases h⟩⟩
 | p :: l, i => by
  rw [Ja2]
  by_cases q : (decide ((p.length : Int) < 1) || decide ((p.length : Int) > 63)) = true
  ·rw [qsp q, qsn, qsp rfl, qsn, qsn, qsp rfl]
   exact ⟨_, rfl, .inl rfl⟩
  ·have hl : 1 ≤ p.length ∧ p.length ≤ 63 := by simp at q; omega
   have e0 : ix p 0 = some p[0] := qor (i := 0) (by omega)
   have e1 : ix p ((p.length : Int) - 1) = some (p[p.length - 1]'(by omega)) := by
    rw [show ((p.length : Int) - 1) = ((p.length - 1 : Nat) : Int) by omega]; exact qor (by omega)
   rw [qso q, e0, qsn, qsn]
   obtain ⟨b, hb⟩ : ∃ b, ((if decide ((p[0].toNat : Int) = 45) = true then some true else (chk (InI ((p.length : Int) - 1))).bind fun _ => (ix p ((p.length : Int) - 1)).bind fun x39 => some (decide ((x39.toNat : Int) = 45))) : Option Bool) = some b := by
    split
    ·exact ⟨_, rfl⟩
    ·rw [qao (by constructor <;> omega), e1]; exact ⟨_, rfl⟩
   rw [hb, qsn, qsn]
   cases b with
   | true => rw [qsp rfl]; exact ⟨_, rfl, .inl rfl⟩
   | false =>
    rw [qso (by simp), qao (by simp only [qbg]; omega)]
    obtain ⟨f, h1, h2⟩ := qmp p 0
    rw [h1, qsn]
    rcases h2 with rfl | ⟨rfl, h3⟩
    ·exact ⟨_, rfl, .inl rfl⟩
    ·obtain ⟨g, g1, g2⟩ := qmq l (i + 1)
     refine ⟨g, g1, ?_⟩
     rcases g2 with g2 | ⟨g2, g3⟩
     ·exact .inl g2
     ·refine .inr ⟨g2, fun x hx => ?_⟩
      rcases List.mem_cons.1 hx with e | e
      ·subst e; exact h3
      ·exact g3 x e
theorem qr1 : ∀ c : UInt8, 65 ≤ c.toNat → c.toNat ≤ 90 → c + 32 ≠ 47 := qgu (by decide +kernel)
theorem qj1 : ∀ (k i : Nat) (s : Str), i + k ≤ s.length → ∃ r, JaM k i s = some r ∧ r.length = s.length ∧ ((47 : UInt8) ∉ s → (47 : UInt8) ∉ r)
 | 0, i, s, _ => ⟨_, rfl, rfl, id⟩
 | k + 1, i, s, h => by
  have hi : i < s.length := by omega
  rw [JaM, qor hi, qsn, qsn]
  split
  ·rename_i q
   obtain ⟨r, h1, h2, h3⟩ := qj1 k (i + 1) (s.set i (s[i] + 32)) (by rw [List.length_set]; omega)
   refine ⟨r, h1, by rw [h2, List.length_set], fun hs => h3 fun e => ?_⟩
   rcases List.mem_or_eq_of_mem_set e with e | e
   ·exact hs e
   ·simp only [Bool.and_eq_true, decide_eq_true_eq] at q
    exact qr1 s[i] (by omega) (by omega) e.symm
  ·exact qj1 k (i + 1) s (by omega)
theorem qj2 {c d : UInt8} (h : c ≠ d) : ∀ s : Str, c ∈ s → ∃ p ∈ spl d s, c ∈ p
 | [], e => by cases e
 | b :: s, e => by
  rw [spl]
  split
  ·rename_i q
   rcases List.mem_cons.1 e with e | e
   ·exact absurd (e.trans q) h
   ·obtain ⟨p, h1, h2⟩ := qj2 h s e
    exact ⟨p, by simp [h1], h2⟩
  ·cases hl : spl d s with
   | nil => exact absurd hl (qgt d s)
   | cons x l =>
    rcases List.mem_cons.1 e with e | e
    ·exact ⟨[b] ++ x, by simp [hd], by simp [e]⟩
    ·obtain ⟨p, h1, h2⟩ := qj2 h s e
     rw [hl] at h1
     rcases List.mem_cons.1 h1 with rfl | h1
     ·exact ⟨[b] ++ p, by simp [hd], by simp [h2]⟩
     ·exact ⟨p, by simp [hd, h1], h2⟩
theorem qn2 (s : Str) : ∃ r e, JbV s = some (r, e) ∧ (e = none → r.length ≤ 100 ∧ (47 : UInt8) ∉ r) := by
 unfold JbV
 by_cases q : (s.length : Int) > 100
 ·rw [qsp (by simpa using q)]; exact ⟨_, _, rfl, fun e => by cases e⟩
 rw [qso (by simpa using q), qix 46 (by omega), qsn]
 have w1 := qkx 46 s
 have w2 := qkw (spl 46 s)
 rw [qao (by simp only [qbg]; omega)]
 obtain ⟨f, h1, h2⟩ := qmq (spl 46 s) 0
 rw [h1, qsn]
 rcases h2 with rfl | ⟨rfl, h3⟩
 ·exact ⟨_, _, rfl, fun e => by cases e⟩
 dsimp only [Fl.el]
 rw [qao (by simp only [lim]; omega), qao (by constructor <;> omega), Int.toNat_natCast]
 obtain ⟨r, r1, rr, r3⟩ := qj1 s.length 0 s (by omega)
 rw [r1, qsn]
 refine ⟨_, _, rfl, fun _ => ⟨by omega, r3 fun e => ?_⟩⟩
 obtain ⟨p, p1, p2⟩ := qj2 (c := 47) (d := 46) (by decide) s e
 have := h3 p p1 47 p2
 rw [qr0] at this; cases this
def nv (l : Str) : Nat := l.foldl (fun a c => a * 10 + (c.toNat - 48)) 0
theorem qox {k : Nat} (h : k < 10) : (UInt8.ofNat (48 + k)).toNat = 48 + k := by
 rw [UInt8.toNat_ofNat']; omega
theorem qmr : ∀ (n u : Nat), u ≤ n → nv (Go.Lib.decDigits u) = u ∧ ∀ c ∈ Go.Lib.decDigits u, 48 ≤ c.toNat ∧ c.toNat ≤ 57 := by
 intro n
 induction n with
 | zero =>
  intro u h
  obtain rfl : u = 0 := by omega
  rw [Go.Lib.decDigits, dif_pos (by omega)]
  refine ⟨by decide, fun c hc => ?_⟩
  simp only [List.mem_singleton] at hc
  subst hc; decide
 | succ n ih =>
  intro u h
  by_cases q : u < 10
  ·rw [Go.Lib.decDigits, dif_pos q]
   have e := qox q
   refine ⟨?_, fun c hc => ?_⟩
   ·simp only [nv, List.foldl]; omega
   ·simp only [List.mem_singleton] at hc
    subst hc; omega
  ·rw [Go.Lib.decDigits, dif_neg q]
   obtain ⟨h1, h2⟩ := ih (u / 10) (by omega)
   have e := qox (k := u % 10) (by omega)
   refine ⟨?_, fun c hc => ?_⟩
   ·unfold nv at h1 ⊢
    rw [List.foldl_append, h1]
    simp only [List.foldl]; omega
   ·rcases List.mem_append.1 hc with hc | hc
    ·exact h2 c hc
    ·simp only [List.mem_singleton] at hc
     subst hc; omega
theorem qms {u v : Nat} (h : Go.Lib.decDigits u = Go.Lib.decDigits v) : u = v := by
 have := (qmr u u (Nat.le_refl _)).1
 rw [h, (qmr v v (Nat.le_refl _)).1] at this
 exact this.symm
theorem qmt {u : Nat} {c : UInt8} (h : c ∈ Go.Lib.decDigits u) : 48 ≤ c.toNat := ((qmr u u (Nat.le_refl _)).2 c h).1
theorem itoa_cases (n : Int) : (∃ u : Nat, n = u ∧ Go.Lib.itoa n = Go.Lib.decDigits u) ∨ (∃ u : Nat, 1 ≤ u ∧ n = -(u : Int) ∧ Go.Lib.itoa n = 45 :: Go.Lib.decDigits u) := by
 by_cases h : 0 ≤ n
 ·obtain ⟨u, rfl⟩ := Int.eq_ofNat_of_zero_le h
  exact .inl ⟨u, rfl, Go.Lib.itoa_nonneg u⟩
 ·obtain ⟨u, hu⟩ := Int.eq_ofNat_of_zero_le (show 0 ≤ -n by omega)
  obtain rfl : n = -(u : Int) := by omega
  exact .inr ⟨u, by omega, rfl, Go.Lib.itoa_neg u (by omega)⟩
theorem qn3 {m n : Int} (h : Go.Lib.itoa m = Go.Lib.itoa n) : m = n := by
 have no : ∀ u v : Nat, Go.Lib.decDigits u ≠ 45 :: Go.Lib.decDigits v := fun u v e => by
  have := qmt (u := u) (c := 45) (by rw [e]; simp)
  simp at this
 rcases itoa_cases m with ⟨u, rfl, hu⟩ | ⟨u, u1, rfl, hu⟩ <;> rcases itoa_cases n with ⟨v, rfl, hv⟩ | ⟨v, v1, rfl, hv⟩ <;> rw [hu, hv] at h
 ·rw [qms h]
 ·exact absurd h (no u v)
 ·exact absurd h.symm (no v u)
 ·rw [qms (List.cons.inj h).2]
theorem qi0 (n : Int) : (32 : UInt8) ∉ Go.Lib.itoa n := fun e => by
 rcases itoa_cases n with ⟨u, rfl, hu⟩ | ⟨u, u1, rfl, hu⟩ <;> rw [hu] at e
 ·have := qmt e; simp at this
 ·rcases List.mem_cons.1 e with e | e
  ·exact absurd e (by decide)
  ·have := qmt e; simp at this
theorem qh9 {c : UInt8} : ∀ {a b x y : Str}, c ∉ a → c ∉ b → a ++ c :: x = b ++ c :: y → a = b ∧ x = y
 | [], [], x, y, _, _, h => ⟨rfl, (List.cons.inj h).2⟩
 | [], d :: b, x, y, _, hb, h => absurd (List.cons.inj h).1 fun e => hb (by simp [← e])
 | d :: a, [], x, y, ha, _, h => absurd (List.cons.inj h).1 fun e => ha (by simp [e])
 | d :: a, e :: b, x, y, ha, hb, h => by
  obtain ⟨h1, h2⟩ := List.cons.inj h
  obtain ⟨h3, h4⟩ := qh9 (fun q => ha (by simp [q])) (fun q => hb (by simp [q])) h2
  exact ⟨by rw [h1, h3], h4⟩
theorem qp0 {a b : Jl} (ha : (63 : UInt8) ∉ a.Ae) (hb : (63 : UInt8) ∉ b.Ae) (qa : a.HasQuery = false → a.Af = []) (qb : b.HasQuery = false → b.Af = []) (h : tgt a = tgt b) : a.Ae = b.Ae ∧ a.Af = b.Af ∧ a.HasQuery = b.HasQuery := by
 unfold tgt at h
 cases p : a.HasQuery <;> cases q : b.HasQuery <;> rw [p, q] at h
 ·exact ⟨by simpa using h, by rw [qa p, qb q], rfl⟩
 ·simp only [if_true, Bool.false_eq_true, if_false] at h
  exact absurd (show (63 : UInt8) ∈ a.Ae by rw [h]; simp) ha
 ·simp only [if_true, Bool.false_eq_true, if_false] at h
  exact absurd (show (63 : UInt8) ∈ b.Ae by rw [← h]; simp) hb
 ·simp only [if_true] at h
  obtain ⟨h1, h2⟩ := qh9 ha hb h
  exact ⟨h1, h2, rfl⟩
theorem qp1 {a : Jl} (h : a.An.length + a.Ae.length + a.Af.length ≤ 100000) : JbA a = some (a.An ++ tgt a) := by
 unfold JbA tgt
 cases a.HasQuery with
 | true =>
  rw [qsp rfl, qsp rfl, qao (by simp only [lim]; omega), qao (by simp only [lim, List.length_append, List.length_singleton]; omega), qao (by simp only [lim, List.length_append, List.length_singleton]; omega)]
  simp
 | false => rw [qso (by simp), qso (by simp), qao (by simp only [lim]; omega)]
theorem qmu {n : Nat} {h t : Str} (ht : t.length ≤ 9000) (hn : 9000 < n) : ∃ a e, Jay n h t = some (a, e) ∧ (e = none → (47 : UInt8) ∉ a.An ∧ a.An.length ≤ 100 ∧ (63 : UInt8) ∉ a.Ae ∧ a.Ae.head? = some 47 ∧ (a.HasQuery = false → a.Af = [])) := by
 obtain ⟨r, e, h1, h2⟩ := qn2 h
 cases e with
 | some e =>
  unfold Jay
  rw [h1, qsn]
  exact ⟨_, some e, rfl, fun q => by cases q⟩
 | none =>
  obtain ⟨h3, h4⟩ := h2 rfl
  rw [qn1 h1 (by omega) ht hn]
  refine ⟨(prs r t).1, (prs r t).2, rfl, fun q => ?_⟩
  have hp : prs r t = ((prs r t).1, none) := by rw [← q]
  obtain ⟨g1, g2, g3, g4, g5, g6⟩ := qq6 hp
  rw [g1]
  exact ⟨h4, h3, g2.no63, g3, g5⟩
def okA (a : Jl) : Prop := (47 : UInt8) ∉ a.An ∧ a.An.length ≤ 100 ∧ (63 : UInt8) ∉ a.Ae ∧ a.Ae.head? = some 47 ∧ (a.HasQuery = false → a.Af = [])
theorem qkz {n : Nat} {a : Jl} (hl : a.Ae.length + a.Af.length ≤ 4500) (hn : 9000 < n) : ∃ b, Jbk n a = some b ∧ (b = true → okA a) := by
 unfold Jbk
 split
 ·exact ⟨_, rfl, fun q => by cases q⟩
 have fin : ∀ t : Str, t.length ≤ 9000 → ∃ b, ((Jay n a.An t).bind fun x27 => some (x27.2.isNone && (decide (a.An = x27.1.An) && (decide (a.Ae = x27.1.Ae) && (decide (a.Af = x27.1.Af) && (a.HasQuery == x27.1.HasQuery)))))) = some b ∧ (b = true → okA a) := by
  intro t ht
  obtain ⟨x, e, h1, h2⟩ := qmu (h := a.An) ht hn
  rw [h1, qsn]
  refine ⟨_, rfl, fun q => ?_⟩
  simp only [Bool.and_eq_true, decide_eq_true_eq, beq_iff_eq, Option.isNone_iff_eq_none] at q
  obtain ⟨q0, q1, q2, q3, q4⟩ := q
  have := h2 q0
  unfold okA
  rw [q1, q2, q3, q4]
  exact this
 split
 ·rw [qao (by simp only [lim, List.length_singleton]; omega), qao (by simp only [lim, List.length_append, List.length_singleton]; omega)]
  exact fin _ (by simp only [List.length_append, List.length_singleton]; omega)
 ·exact fin _ (by omega)
def bse (p : Jx) : Str := Go.Lib.itoa p.Tenant ++ 32 :: (p.Cache.An ++ tgt p.Cache)
theorem qk0 {n : Nat} {p : Jx} (hv : Jbk n p.Cache = some true) (hk : okA p.Cache) (ht : InI p.Tenant) (hl : p.Cache.Ae.length + p.Cache.Af.length ≤ 4500) : qbl n p = some (bse p) := by
 have := hk.2.1
 have l2 : (p.Cache.An ++ tgt p.Cache).length ≤ 9000 := by
  unfold tgt
  split <;> simp only [List.length_append, List.length_cons] <;> omega
 have l1 : (Go.Lib.itoa p.Tenant).length ≤ 21 := Go.Lib.itoa_length_le _ ht.1 ht.2
 unfold qbl JcJ
 rw [hv, qsn, qso (by simp), qp1 (by omega), qsn, qsn, qso (by simp), show qjs p.Tenant = some (Go.Lib.itoa p.Tenant) from qsp ht, qsn, qao (by simp only [lim, List.length_singleton]; omega), qao (by simp only [List.length_append, List.length_singleton, lim] at l2 ⊢; omega)]
 unfold bse
 simp
theorem qp2 {p q : Jx} (hp : okA p.Cache) (hq : okA q.Cache) (h : bse p = bse q) : p.Tenant = q.Tenant ∧ p.Cache.An = q.Cache.An ∧ p.Cache.Ae = q.Cache.Ae ∧ p.Cache.Af = q.Cache.Af ∧ p.Cache.HasQuery = q.Cache.HasQuery := by
 obtain ⟨h1, h2⟩ := qh9 (qi0 _) (qi0 _) h
 have hd : ∀ {a : Jl}, okA a → ∃ t, tgt a = 47 :: t := by
  intro a ha
  obtain ⟨_, _, _, h4, _⟩ := ha
  unfold tgt
  cases hpth : a.Ae with
  | nil => rw [hpth] at h4; cases h4
  | cons b t =>
   rw [hpth] at h4
   cases h4
   split
   ·exact ⟨_, rfl⟩
   ·exact ⟨_, rfl⟩
 obtain ⟨t, ht⟩ := hd hp
 obtain ⟨u, hu⟩ := hd hq
 rw [ht, hu] at h2
 obtain ⟨h3, h4⟩ := qh9 hp.1 hq.1 h2
 have h5 : tgt p.Cache = tgt q.Cache := by rw [ht, hu, h4]
 obtain ⟨h6, h7, h8⟩ := qp0 hp.2.2.1 hq.2.2.1 hp.2.2.2.2 hq.2.2.2.2 h5
 exact ⟨qn3 h1, h3, h6, h7, h8⟩
theorem qj3 : ∀ (k i : Nat) (s : Str), i + k ≤ s.length → ∃ r, JaX k i s = some r
 | 0, i, s, _ => ⟨_, rfl⟩
 | k + 1, i, s, h => by
  have hi : i < s.length := by omega
  rw [JaX, qor hi, qsn, qsn]
  split
  ·exact qj3 k (i + 1) _ (by rw [List.length_set]; omega)
  ·exact qj3 k (i + 1) s (by omega)
theorem qk1 {s : Str} (h : s.length ≤ 1000000000) : ∃ r, JaI s = some r := by
 obtain ⟨r, hr⟩ := qj3 s.length 0 s (by omega)
 unfold JaI
 rw [qao (by simp only [lim]; omega), qao (by constructor <;> omega), Int.toNat_natCast, hr]
 exact ⟨r, rfl⟩
def tf : List Jc → Nat
 | [] => 0
 | e :: l => e.Name.length + e.Value.length + 4 + tf l
theorem qj4 {x : Str} : ∀ (f : List Jc) (i : Nat) (y : List Str), tf f ≤ 100000 → y.length + f.length ≤ 1000000 → (∀ v ∈ y, v.length ≤ 100000) → ∃ l, Jbz x f i y = some l ∧ l.length ≤ y.length + f.length ∧ ∀ v ∈ l, v.length ≤ 100000
 | [], i, y, _, _, h => ⟨y, rfl, by simp, h⟩
 | e :: f, i, y, ht, hl, h => by
  simp only [tf, List.length_cons] at ht hl
  obtain ⟨r, hr⟩ := qk1 (s := e.Name) (by omega)
  rw [Jbz, hr, qsn]
  split
  ·rw [qao (by simp only [lim, List.length_singleton]; omega)]
   obtain ⟨l, l1, l2, l3⟩ := qj4 (x := x) f (i + 1) (y ++ [e.Value]) (by omega) (by simp only [List.length_append, List.length_singleton]; omega) (fun v hv => by
    rcases List.mem_append.1 hv with hv | hv
    ·exact h v hv
    ·simp only [List.mem_singleton] at hv; subst hv; omega)
   exact ⟨l, l1, by simp only [List.length_append, List.length_cons, List.length_nil] at l2 ⊢; omega, l3⟩
  ·obtain ⟨l, l1, l2, l3⟩ := qj4 (x := x) f (i + 1) y (by omega) (by omega) h
   exact ⟨l, l1, by simp only [List.length_cons]; omega, l3⟩
theorem qoy : ∀ f : List Jc, f.length ≤ tf f
 | [] => Nat.zero_le _
 | e :: f => by have := qoy f; simp only [tf, List.length_cons]; omega
theorem qn4 {f : List Jc} {m : Str} (hf : tf f ≤ 4000) (hm : m.length ≤ 1000000000) : ∃ l, Jcu f m = some l ∧ l.length ≤ 4000 ∧ ∀ v ∈ l, v.length ≤ 100000 := by
 obtain ⟨r, hr⟩ := qk1 hm
 have := qoy f
 obtain ⟨l, l1, l2, l3⟩ := qj4 (x := r) f 0 [] (by omega) (by simp; omega) (by simp)
 unfold Jcu
 rw [hr, qsn, qao (by simp only [qbg]; omega), l1]
 exact ⟨l, rfl, by simp at l2; omega, l3⟩
theorem qmv : ∀ (s : Str) (i : Nat) (y : Str) (b : Bool), y.length + 2 * s.length ≤ 1000000 → ∃ r, vary_normal_L0 s i y b = some r ∧ r.1.length ≤ y.length + 2 * s.length
 | [], i, y, b, _ => ⟨_, rfl, by simp⟩
 | c :: s, i, y, b, h => by
  simp only [List.length_cons] at h ⊢
  have go : ∀ (z : Str) (d : Bool), z.length ≤ y.length + 2 → ∃ r, vary_normal_L0 s (i + 1) z d = some r ∧ r.1.length ≤ y.length + 2 * (s.length + 1) := by
   intro z d hz
   obtain ⟨r, h1, h2⟩ := qmv s (i + 1) z d (by omega)
   exact ⟨r, h1, by omega⟩
  rw [vary_normal_L0]
  split
  ·exact go _ _ (by omega)
  ·split
   ·rw [qao (by simp only [lim, List.length_singleton]; omega)]
    split <;> rw [qao (by simp only [lim, List.length_append, List.length_singleton]; omega)] <;> exact go _ _ (by simp only [List.length_append, List.length_singleton]; omega)
   ·split <;> rw [qao (by simp only [lim, List.length_singleton]; omega)] <;> exact go _ _ (by simp only [List.length_append, List.length_singleton]; omega)
theorem qn5 {s : Str} (h : s.length ≤ 100000) : ∃ r, qc2 s = some r ∧ r.length ≤ 200000 := by
 obtain ⟨r, h1, h2⟩ := qmv s 0 [] false (by simp; omega)
 unfold qc2
 rw [qao (by simp only [lim]; omega), qao (by simp only [qbg]; omega), h1]
 exact ⟨_, rfl, by simp at h2; omega⟩
theorem qoz : ∀ (k i : Nat) (l : List Str), i + k = l.length → (∀ j (h : j < l.length), i ≤ j → l[j].length ≤ 100000) → (∀ v ∈ l, v.length ≤ 200000) → ∃ r, vary_Key_L2 k i l = some r ∧ r.length = l.length ∧ ∀ v ∈ r, v.length ≤ 200000
 | 0, i, l, _, _, h => ⟨l, rfl, rfl, h⟩
 | k + 1, i, l, hi, ha, hb => by
  have h1 : i < l.length := by omega
  obtain ⟨r, r1, r2⟩ := qn5 (ha i h1 (Nat.le_refl _))
  rw [vary_Key_L2, qor h1, qsn, r1, qsn, qsn]
  obtain ⟨z, z1, z2, z3⟩ := qoz k (i + 1) (l.set (((i : Int)).toNat) r) (by rw [List.length_set]; omega) (fun j hj hij => by
   rw [List.getElem_set_ne (by omega)]
   exact ha j _ (by omega)) (fun v hv => by
   rcases List.mem_or_eq_of_mem_set hv with e | e
   ·exact hb v e
   ·subst e; exact r2)
  exact ⟨z, z1, by rw [z2, List.length_set], z3⟩
theorem qp3 (c : UInt8) (M : Nat) : ∀ l : List Str, (∀ v ∈ l, v.length ≤ M) → (jn c l).length ≤ l.length * (M + 1)
 | [], _ => by simp [jn]
 | [a], h => by have := h a (by simp); simp [jn]; omega
 | a :: b :: l, h => by
  have h1 := h a (by simp)
  have := qp3 c M (b :: l) fun v hv => h v (by simp at hv ⊢; exact .inr hv)
  rw [jn]
  simp only [List.length_append, List.length_cons] at this ⊢
  have e : (l.length + 1 + 1) * (M + 1) = (l.length + 1) * (M + 1) + (M + 1) := Nat.succ_mul _ _
  omega
theorem qk2 : ∀ (s : Str) (i : Nat), ∃ f, syntax_clean_L0 s i = some f ∧ (f = .go () ∨ f = .ret false)
 | [], i => ⟨_, rfl, .inl rfl⟩
 | c :: s, i => by
  rw [syntax_clean_L0]
  unfold qck
  rw [qsn]
  split
  ·exact ⟨_, rfl, .inr rfl⟩
  ·exact qk2 s (i + 1)
theorem qmw {s : Str} (h : s.length ≤ 100000000000) : ∃ b, qca s = some b := by
 obtain ⟨f, h1, h2⟩ := qk2 s 0
 unfold qca
 rw [qao (by simp only [qbg]; omega), h1, qsn]
 rcases h2 with rfl | rfl
 ·exact ⟨_, rfl⟩
 ·exact ⟨_, rfl⟩
theorem qk3 : ∀ (s : Str) (i : Nat) (y : Str), y.length + 2 * s.length ≤ 10000000000 → ∃ r, syntax_Quote_L0 s i y = some r ∧ r.length ≤ y.length + 2 * s.length
 | [], i, y, _ => ⟨_, rfl, by simp⟩
 | c :: s, i, y, h => by
  simp only [List.length_cons] at h ⊢
  have go : ∀ z : Str, z.length ≤ y.length + 2 → ∃ r, syntax_Quote_L0 s (i + 1) z = some r ∧ r.length ≤ y.length + 2 * (s.length + 1) := by
   intro z hz
   obtain ⟨r, h1, h2⟩ := qk3 s (i + 1) z (by omega)
   exact ⟨r, h1, by omega⟩
  rw [syntax_Quote_L0]
  have e : ((if decide ((c.toNat : Int) = 34) then some true else some (decide ((c.toNat : Int) = 92))) : Option Bool) = some (decide ((c.toNat : Int) = 34) || decide ((c.toNat : Int) = 92)) := by
   cases decide ((c.toNat : Int) = 34) <;> rfl
  rw [e, qsn]
  split
  ·rw [qao (by simp only [lim, List.length_singleton]; omega), qao (by simp only [lim, List.length_append, List.length_singleton]; omega)]
   exact go _ (by simp only [List.length_append, List.length_singleton]; omega)
  ·rw [qao (by simp only [lim, List.length_singleton]; omega)]
   exact go _ (by simp only [List.length_append, List.length_singleton]; omega)
theorem qmx {s : Str} (h : s.length ≤ 1000000000) : ∃ r e, qcn s = some (r, e) ∧ r.length ≤ 2 * s.length + 2 := by
 obtain ⟨b, hb⟩ := qmw (s := s) (by omega)
 unfold qcn
 rw [hb, qsn]
 cases b with
 | false => exact ⟨_, _, rfl, by simp⟩
 | true =>
  obtain ⟨r, h1, h2⟩ := qk3 s 0 [34] (by simp; omega)
  simp only [List.length_singleton] at h2
  rw [qso (by simp), qao (by simp only [qbg]; omega), h1, qsn, qao (by simp only [lim, List.length_singleton]; omega)]
  exact ⟨_, _, rfl, by simp only [List.length_append, List.length_singleton]; omega⟩
theorem qo0 {f : List Jc} (hf : tf f ≤ 4000) : ∀ (l : List Str) (i : Nat) (y : List Str), (∀ v ∈ l, v.length ≤ 536870912) → y.length + l.length ≤ 1000 → (∀ v ∈ y, v.length ≤ 2500000000) → ∃ r, vary_Key_L0 f l i y = some r ∧ r.length = y.length + l.length ∧ ∀ v ∈ r, v.length ≤ 2500000000
 | [], i, y, _, _, h => ⟨y, rfl, by simp, h⟩
 | m :: l, i, y, hl, hy, h => by
  have hm := hl m (by simp)
  have go : ∀ w : Str, w.length ≤ 2500000000 → ∃ r, vary_Key_L0 f l (i + 1) (y ++ [w]) = some r ∧ r.length = y.length + (l.length + 1) ∧ ∀ v ∈ r, v.length ≤ 2500000000 := by
   intro w hw
   obtain ⟨r, r1, r2, r3⟩ := qo0 hf l (i + 1) (y ++ [w]) (fun v hv => hl v (by simp [hv])) (by simp at hy ⊢; omega) (fun v hv => by
    rcases List.mem_append.1 hv with hv | hv
    ·exact h v hv
    ·simp only [List.mem_singleton] at hv; subst hv; exact hw)
   exact ⟨r, r1, by rw [r2]; simp; omega, r3⟩
  simp only [List.length_cons] at hy ⊢
  have c1 : ∀ w : Str, y.length + [w].length ≤ lim := fun w => by simp only [lim, List.length_singleton]; omega
  obtain ⟨v, v1, v2, v3⟩ := qn4 (m := m) hf (by omega)
  rw [vary_Key_L0, v1, qsn]
  split
  ·rw [qao (c1 m)]; exact go m (by omega)
  ·obtain ⟨z, z1, z2, z3⟩ := qoz v.length 0 v (by omega) (fun j h _ => v3 _ (List.getElem_mem h)) (fun x hx => by have := v3 x hx; omega)
   have jb := qp3 44 200000 z z3
   have jb2 : z.length * (200000 + 1) ≤ 4000 * (200000 + 1) := Nat.mul_le_mul_right _ (by omega)
   rw [qao (by constructor <;> omega), Int.toNat_natCast, z1, qsn, show qe4 z ([44] : Str) = some (jn 44 z) from by unfold qe4; rw [qnz, qsp (by simp only [lim]; omega)], qsn]
   obtain ⟨q, e, q1, q2⟩ := qmx (s := jn 44 z) (by omega)
   rw [q1, qsn]
   split <;> rw [qao (by simp only [lim, List.length_singleton]; omega), qao (by simp only [lim, List.length_append, List.length_singleton, List.length_nil]; omega), qao (c1 _)] <;> exact go _ (by simp only [List.length_append, List.length_singleton, List.length_nil]; omega)
theorem qp4 {f : List Jc} {l : List Str} (hf : tf f ≤ 4000) (h1 : l.length ≤ 20) (h2 : ∀ v ∈ l, v.length ≤ 536870912) : ∃ r, vary_Key l f = some r ∧ r.length ≤ 60000000000 := by
 obtain ⟨r, r1, r2, r3⟩ := qo0 hf l 0 [] h2 (by simp; omega) (by simp)
 have jb := qp3 38 2500000000 r r3
 have hr : r.length ≤ 20 := by simpa [r2] using h1
 have jb2 : r.length * (2500000000 + 1) ≤ 20 * (2500000000 + 1) := Nat.mul_le_mul_right _ hr
 unfold vary_Key
 rw [qao (by simp only [qbg]; omega), r1, qsn, show qe4 r ([38] : Str) = some (jn 38 r) from by unfold qe4; rw [qnz, qsp (by simp only [lim]; omega)]]
 exact ⟨_, rfl, by omega⟩
end Tn
