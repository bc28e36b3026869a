import Derived.Test.YtiaaooopklhobaaGreatDoorG2
import Derived.Test.YtiaaooopklhobaaGreatDoorPlain
import Derived.Test.YtiaaooopklhobaaGreatDoorR
set_option linter.unusedVariables false
set_option linter.unusedSimpArgs false
open Go Go.SL Go.Proofs Pl
namespace Vary
def lowB (c : UInt8) : UInt8 := if (decide ((c.toNat : Int) ≥ 65) && decide ((c.toNat : Int) ≤ 90)) then c + 32 else c
def low (s : Str) : Str := s.map lowB
theorem qmt {α : Type} (p r : List α) (c : α) : ix (p ++ c :: r) (p.length : Int) = some c := by
 unfold ix
 rw [qte (by omega)]
 simp
theorem qmu {α : Type} (p r : List α) (c v : α) : (p ++ c :: r).set (((p.length : Nat) : Int).toNat) v = (p ++ [v]) ++ r := by
 simp [List.set_append]
theorem qi5 : ∀ (r p : Str), JaN r.length p.length (p ++ r) = some (p ++ low r)
 | [], p => by simp [JaN, low]
 | c :: r, p => by
  rw [List.length_cons, JaN, qmt, qtc]
  have ih := qi5 r (p ++ [lowB c])
  simp only [List.length_append, List.length_cons, List.length_nil, Nat.zero_add] at ih
  have e : p ++ low (c :: r) = p ++ [lowB c] ++ low r := by simp [low]
  split
  ·rename_i h
   rw [qtc, qmu, e]
   rw [show c + 32 = lowB c from by unfold lowB; rw [qte h]]
   exact ih
  ·rename_i h
   rw [e, show p ++ c :: r = p ++ [lowB c] ++ r from by unfold lowB; rw [qtd h]; simp]
   exact ih
theorem qe6 {s : Str} (h : s.length ≤ 1073741824) : JaK s = some (low s) := by
 unfold JaK
 rw [qap (by simp only [lim]; omega), qap (by constructor <;> omega)]
 have := qi5 s []
 simp only [List.nil_append, List.length_nil] at this
 rw [show ((s.length : Int)).toNat = s.length from by omega, this]; rfl
def isB (c : UInt8) : Bool := decide ((c.toNat : Int) = 32) || decide ((c.toNat : Int) = 9)
structure Inv (y : Str) : Prop where
 hd : ∀ a r, y = a :: r → isB a = false
 lt : ∀ r z, y = r ++ [z] → isB z = false
theorem Inv.nil : Inv [] := ⟨fun a r e => absurd e (by simp), fun r z e => absurd e (by simp)⟩
end Vary
namespace Tn
def hd (p : Str) : List Str → List Str
 | [] => [p]
 | x :: r => (p ++ x) :: r
def spl (c : UInt8) : Str → List Str
 | [] => [[]]
 | b :: s => if b = c then [] :: spl c s else hd [b] (spl c s)
theorem qhq (c : UInt8) (s : Str) : spl c s ≠ [] := by
 cases s with
 | nil => simp [spl]
 | cons b s =>
  rw [spl]
  split
  ·simp
  ·cases spl c s <;> simp [hd]
theorem qrc {l : List Str} (h : l ≠ []) : hd [] l = l := by
 cases l with
 | nil => exact absurd rfl h
 | cons a b => rfl
theorem qsd (p q : Str) (l : List Str) : hd p (hd q l) = hd (p ++ q) l := by cases l <;> simp [hd]
theorem qqe (c b : UInt8) (l : Str) : ([c] : Str).isPrefixOf (b :: l) = (c == b) := by simp [List.isPrefixOf]
theorem qmv (c : UInt8) (l : Str) : Go.Lib.index (c :: l) [c] = 0 := by rw [Go.Lib.index, qte (by simp [List.isPrefixOf])]
theorem qi6 {c b : UInt8} (h : b ≠ c) (l : Str) : Go.Lib.index (b :: l) [c] = if Go.Lib.index l [c] = -1 then -1 else Go.Lib.index l [c] + 1 := by
 have : (c == b) = false := by simp; exact fun e => h e.symm
 rw [Go.Lib.index, qqe, this]
 simp
theorem qob {b c : UInt8} (h : b ≠ c) (k : Nat) (l : Str) : Go.Lib.splitK [c] 0 k (b :: l) = hd [b] (Go.Lib.splitK [c] 0 k l) := by
 cases k with
 | zero => rfl
 | succ k =>
  have hg := Go.Lib.index_ge l [c]
  rw [Go.Lib.splitK, Go.Lib.splitK, qi6 h]
  by_cases q : Go.Lib.index l [c] = -1
  ·rw [q]; simp [hd]
  ·rw [qtd q]
   have e : (Go.Lib.index l [c] + 1).toNat = (Go.Lib.index l [c]).toNat + 1 := by omega
   rw [qtd (by simp; omega), qtd (by simpa using q), e]
   simp [hd, Nat.add_right_comm]
theorem qkz (c : UInt8) : ∀ s : Str, Go.Lib.split s [c] = spl c s
 | [] => by unfold Go.Lib.split; rw [Go.Lib.count_one]; rfl
 | b :: l => by
  have ih := qkz c l
  unfold Go.Lib.split at ih ⊢
  rw [spl]
  by_cases q : b = c
  ·subst q
   rw [qte rfl, Go.Lib.count_cons_eq, Nat.add_comm, Go.Lib.splitK, qmv, qtd (by decide), ← ih]
   simp
  ·rw [qtd q, Go.Lib.count_cons_ne b c l q, qob q, ih]
theorem index_spl (c : UInt8) : ∀ s : Str, (Go.Lib.index s [c] = -1 ∧ spl c s = [s] ∧ c ∉ s) ∨ (∃ i : Nat, Go.Lib.index s [c] = i ∧ i < s.length ∧ spl c s = s.take i :: spl c (s.drop (i + 1)))
 | [] => .inl ⟨rfl, rfl, by simp⟩
 | b :: l => by
  by_cases q : b = c
  ·subst q
   exact .inr ⟨0, qmv _ _, by simp, by rw [spl, qte rfl]; simp⟩
  ·rcases index_spl c l with ⟨h1, h2, h3⟩ | ⟨i, h1, h2, h3⟩
   ·exact .inl ⟨by rw [qi6 q, qte h1], by rw [spl, qtd q, h2]; rfl, by simp [h3]; exact fun e => q e.symm⟩
   ·refine .inr ⟨i + 1, by rw [qi6 q, h1, qtd (by omega)]; omega, by simp; omega, ?_⟩
    rw [spl, qtd q, h3]
    simp [hd]
theorem qk0 : qj1 = 4294967281 := rfl
theorem qmw {s : Str} (c : UInt8) (h : s.length ≤ 1000000) : qe4 s [c] = some (spl c s) := by
 unfold qe4
 rw [qte ⟨by rw [qk0]; omega, by simp⟩, qkz]
theorem cut_spl (c : UInt8) (s : Str) : (Go.Lib.cut s [c] = (s, [], false) ∧ spl c s = [s]) ∨ (∃ i : Nat, i < s.length ∧ Go.Lib.cut s [c] = (s.take i, s.drop (i + 1), true) ∧ spl c s = s.take i :: spl c (s.drop (i + 1))) := by
 unfold Go.Lib.cut
 rcases index_spl c s with ⟨h1, h2, _⟩ | ⟨i, h1, h2, h3⟩
 ·left; rw [h1]; exact ⟨by simp, h2⟩
 ·right; rw [h1]; exact ⟨i, h2, by simp, h3⟩
theorem qgv {P : UInt8 → Prop} (h : ∀ n : Fin 256, P (UInt8.ofNat n.val)) (c : UInt8) : P c := by
 have := h ⟨c.toNat, c.toNat_lt⟩
 simpa using this
noncomputable def unr (c : UInt8) : Bool := (JaC c).getD false
theorem qo2 (c : UInt8) : JaC c = some (unr c) := by
 unfold unr JaC Jcu
 split
 ·rfl
 ·split <;> rfl
noncomputable def dgv (c : UInt8) : Int := (Jbn c).getD 0
theorem qk1 : ∀ c : UInt8, Jbn c = some (dgv c) := qgv (by unfold dgv; decide +kernel)
theorem qo3 : ∀ c : UInt8, -1 ≤ dgv c ∧ dgv c ≤ 15 := qgv (by unfold dgv; decide +kernel)
noncomputable def okc (ot : Str) (c : UInt8) : Bool := unr c || !(decide (Go.Lib.indexByte ot c < 0))
def hexs : Str := [48, 49, 50, 51, 52, 53, 54, 55, 56, 57, 65, 66, 67, 68, 69, 70]
noncomputable def hx (a b : UInt8) : UInt8 := qhf (16 * dgv a + dgv b)
def enc (d : UInt8) : Str := [37, hexs.getD (d / 16).toNat 0, hexs.getD (d &&& 15).toNat 0]
theorem qs8 : ∀ d : UInt8, ix hexs ((d / 16).toNat : Int) = some (hexs.getD (d / 16).toNat 0) := qgv (by decide +kernel)
theorem qs9 : ∀ d : UInt8, ix hexs ((d &&& 15).toNat : Int) = some (hexs.getD (d &&& 15).toNat 0) := qgv (by decide +kernel)
noncomputable def can (ot : Str) : Str → Option Str
 | [] => some []
 | c :: s => if c ≠ 37 then (if okc ot c = true then (can ot s).map (c :: ·) else none)
  else match s with
   | a :: b :: t => if dgv a < 0 ∨ dgv b < 0 then none
    else if (hx a b).toNat < 32 ∨ (hx a b).toNat = 127 then none
    else if unr (hx a b) = true then (can ot t).map (hx a b :: ·) else (can ot t).map (enc (hx a b) ++ ·)
   | _ => none
theorem qhr {ot s : Str} {c : UInt8} (h : c ≠ 37) (u : okc ot c = true) : can ot (c :: s) = (can ot s).map (c :: ·) := by
 rcases s with _ | ⟨a, _ | ⟨b, t⟩⟩ <;> rw [can.eq_def] <;> simp only [qte h, qte u]
theorem qj3 {ot s : Str} {c : UInt8} (h : c ≠ 37) (u : ¬ okc ot c = true) : can ot (c :: s) = none := by
 rcases s with _ | ⟨a, _ | ⟨b, t⟩⟩ <;> rw [can.eq_def] <;> simp only [qte h, qtd u]
theorem qj4 {ot : Str} : can ot [37] = none := by rw [can.eq_def]; rfl
theorem qj5 {ot : Str} {a : UInt8} : can ot [37, a] = none := by rw [can.eq_def]; rfl
theorem qia {ot t : Str} {a b : UInt8} (h : dgv a < 0 ∨ dgv b < 0) : can ot (37 :: a :: b :: t) = none := by rw [can, qtd (by decide)]; rw [qte h]
theorem qj6 {ot t : Str} {a b : UInt8} (h : ¬ (dgv a < 0 ∨ dgv b < 0)) (w : (hx a b).toNat < 32 ∨ (hx a b).toNat = 127) : can ot (37 :: a :: b :: t) = none := by rw [can, qtd (by decide)]; rw [qtd h, qte w]
theorem qj7 {ot t : Str} {a b : UInt8} (h : ¬ (dgv a < 0 ∨ dgv b < 0)) (w : ¬ ((hx a b).toNat < 32 ∨ (hx a b).toNat = 127)) (u : unr (hx a b) = true) : can ot (37 :: a :: b :: t) = (can ot t).map (hx a b :: ·) := by rw [can, qtd (by decide)]; rw [qtd h, qtd w, qte u]
theorem qib {ot t : Str} {a b : UInt8} (h : ¬ (dgv a < 0 ∨ dgv b < 0)) (w : ¬ ((hx a b).toNat < 32 ∨ (hx a b).toNat = 127)) (u : ¬ unr (hx a b) = true) : can ot (37 :: a :: b :: t) = (can ot t).map (enc (hx a b) ++ ·) := by rw [can, qtd (by decide)]; rw [qtd h, qtd w, qtd u]
noncomputable def canR (y : Str) (k : Int) : Option Str → Fl (Str × Bool) (Str × Int)
 | none => .ret ([], false)
 | some r => .go (y ++ r, k)
theorem qoc (y p : Str) (k : Int) (o : Option Str) : canR y k (o.map (p ++ ·)) = canR (y ++ p) k o := by cases o <;> simp [canR]
theorem qi7 (y : Str) (c : UInt8) (k : Int) (o : Option Str) : canR y k (o.map (c :: ·)) = canR (y ++ [c]) k o := by cases o <;> simp [canR]
theorem qse {α : Type} {l : List α} {i : Nat} (h : i < l.length) : ix l (i : Int) = some l[i] := by
 unfold ix; rw [qte (by omega), Int.toNat_natCast, List.getElem?_eq_getElem h]
set_option maxRecDepth 100000 in
theorem qk2 {s ot : Str} (hs : s.length ≤ 100000) : ∀ (f p : Nat) (y : Str), p ≤ s.length → s.length - p < f → y.length + 3 * (s.length - p) ≤ 1000000 → J7 s ot f y (p : Int) = some (canR y (s.length : Int) (can ot (s.drop p)))
 | 0, p, y, _, h, _ => by omega
 | f + 1, p, y, hp, hf, hy => by
  generalize hR : can ot (s.drop p) = R
  rw [J7]
  by_cases q : p < s.length
  ·rw [List.drop_eq_getElem_cons q] at hR
   rw [qte (by simpa using q), qse q, qtc]
   generalize hc : s[p] = c at hR ⊢
   by_cases q37 : c = 37
   ·subst q37
    rw [qtd (by simp), qap (by constructor <;> omega)]
    by_cases q2 : p + 2 < s.length
    ·have e1 : ix s ((p : Int) + 1) = some s[p + 1] := by rw [show (p : Int) + 1 = ((p + 1 : Nat) : Int) by omega]; exact qse _
     have e2 : ix s ((p : Int) + 2) = some s[p + 2] := by rw [show (p : Int) + 2 = ((p + 2 : Nat) : Int) by omega]; exact qse _
     have ed : s.drop (p + 1) = s[p + 1] :: s[p + 2] :: s.drop (p + 3) := by rw [List.drop_eq_getElem_cons (by omega : p + 1 < s.length), List.drop_eq_getElem_cons (by omega : p + 1 + 1 < s.length)]
     rw [ed] at hR
     rw [e1, e2]
     generalize s[p + 1] = a at hR ⊢
     generalize s[p + 2] = b at hR ⊢
     have ha := qo3 a
     have hb := qo3 b
     rw [qtd (by simp; omega), qap (by constructor <;> omega), qtc, qk1 a, qtc, qtc]
     by_cases da : dgv a < 0
     ·rw [qia (.inl da)] at hR
      rw [qte (by simpa using da), qtc, qtc, qte rfl, ← hR]; rfl
     rw [qtd (by simpa using da), qap (by constructor <;> omega), qtc, qk1 b, qtc, qtc, qtc]
     by_cases db : dgv b < 0
     ·rw [qia (.inr db)] at hR
      rw [qte (by simpa using db), ← hR]; rfl
     have dd : ¬ (dgv a < 0 ∨ dgv b < 0) := by omega
     rw [qtd (by simpa using db), qap (by constructor <;> omega), qtc, qk1 a, qtc, qap (by constructor <;> omega), qap (by constructor <;> omega), qtc, qk1 b, qtc, qap (by constructor <;> omega), qap (by constructor <;> omega)]
     rw [show qhf (16 * dgv a + dgv b) = hx a b from rfl]
     by_cases w : (hx a b).toNat < 32 ∨ (hx a b).toNat = 127
     ·rw [qj6 dd w] at hR
      rw [qte (by simp; omega), ← hR]; rfl
     rw [qtd (by simp; omega), qo2, qtc]
     by_cases u : unr (hx a b) = true
     ·rw [qj7 dd w u] at hR
      rw [qte u, qap (by simp only [lim, List.length_singleton]; omega), qap (by constructor <;> omega), show ((p : Int) + 2) + 1 = ((p + 3 : Nat) : Int) by omega,
       qk2 hs f (p + 3) _ (by omega) (by omega) (by simp only [List.length_append, List.length_singleton]; omega), ← hR, qi7]
     ·rw [qib dd w u] at hR
      rw [qtd u, show ([48, 49, 50, 51, 52, 53, 54, 55, 56, 57, 65, 66, 67, 68, 69, 70] : Str) = hexs from rfl, qs8, qtc, qs9, qtc, qap (by simp only [lim, List.length_cons, List.length_nil]; omega), qap (by constructor <;> omega), show ((p : Int) + 2) + 1 = ((p + 3 : Nat) : Int) by omega,
       qk2 hs f (p + 3) _ (by omega) (by omega) (by simp only [List.length_append, List.length_cons, List.length_nil]; omega), ← hR, qoc]; rfl
    ·have hn : R = none := by
      have hl : (s.drop (p + 1)).length ≤ 1 := by rw [List.length_drop]; omega
      rw [← hR]
      cases h : s.drop (p + 1) with
      | nil => exact qj4
      | cons a t =>
       rw [h] at hl
       cases t with
       | nil => exact qj5
       | cons b t => simp at hl
     rw [qte (by simp; omega), qtc, qte rfl, qtc, qtc, qte rfl, hn]; rfl
   ·have q37' : (c.toNat : Int) ≠ 37 := fun e => q37 (UInt8.toNat_inj.1 (by show c.toNat = 37; omega))
    rw [qte (by simpa using q37'), qo2, qtc]
    have eo : ((if (!unr c) = true then (ixByteM ot c).bind fun x26 => some (decide (x26 < 0)) else some false) : Option Bool) = some (!okc ot c) := by
     unfold okc ixByteM
     cases unr c <;> simp
    rw [eo, qtc]
    by_cases u : okc ot c = true
    ·rw [qhr q37 u] at hR
     rw [qtd (by simp [u]), qap (by simp only [lim, List.length_singleton]; omega), qap (by constructor <;> omega), show (p : Int) + 1 = ((p + 1 : Nat) : Int) by omega,
      qk2 hs f (p + 1) _ (by omega) (by omega) (by simp only [List.length_append, List.length_singleton]; omega), ← hR, qi7]
    ·rw [qj3 q37 u] at hR
     rw [qte (by simpa using u), ← hR]; rfl
  ·have : p = s.length := by omega
   subst this
   rw [List.drop_length, can] at hR
   rw [qtd (by simp), ← hR]
   simp [canR]
theorem qo4 {n : Nat} {s ot : Str} (hs : s.length ≤ 100000) (hn : s.length < n) : Ja9 n s ot = some (match can ot s with | none => ([], false) | some r => (r, true)) := by
 unfold Ja9
 rw [show (0 : Int) = ((0 : Nat) : Int) from rfl, qk2 hs n 0 [] (by omega) (by omega) (by simp only [List.length_nil]; omega), qtc, List.drop_zero]
 cases can ot s with
 | none => rfl
 | some r => rfl
theorem qsf : unr 37 = false := by unfold unr; decide +kernel
theorem qrd : ∀ d : UInt8, hx (hexs.getD (d / 16).toNat 0) (hexs.getD (d &&& 15).toNat 0) = d := qgv (by unfold hx dgv; decide +kernel)
theorem qre : ∀ d : UInt8, ¬ dgv (hexs.getD (d / 16).toNat 0) < 0 := qgv (by unfold dgv; decide +kernel)
theorem qrf : ∀ d : UInt8, ¬ dgv (hexs.getD (d &&& 15).toNat 0) < 0 := qgv (by unfold dgv; decide +kernel)
theorem qrg : ∀ d : UInt8, unr (hexs.getD (d / 16).toNat 0) = true := qgv (by unfold unr; decide +kernel)
theorem qrh : ∀ d : UInt8, unr (hexs.getD (d &&& 15).toNat 0) = true := qgv (by unfold unr; decide +kernel)
theorem okc_unr {ot : Str} {c : UInt8} (h : unr c = true) : okc ot c = true := by unfold okc; rw [h]; rfl
inductive Cn (ot : Str) : Str → Prop
 | nil : Cn ot []
 | one {c : UInt8} {s : Str} (h : c ≠ 37) (u : okc ot c = true) (t : Cn ot s) : Cn ot (c :: s)
 | esc {d : UInt8} {s : Str} (w : ¬ (d.toNat < 32 ∨ d.toNat = 127)) (u : ¬ unr d = true) (t : Cn ot s) : Cn ot (enc d ++ s)
theorem Cn.of {ot : Str} : ∀ (n : Nat) (s r : Str), s.length ≤ n → can ot s = some r → Cn ot r
 | n, [], r, _, h => by rw [can] at h; cases h; exact .nil
 | 0, c :: s, r, hn, h => by simp at hn
 | n + 1, c :: s, r, hn, h => by
  simp only [List.length_cons] at hn
  by_cases q : c = 37
  ·subst q
   rcases s with _ | ⟨a, _ | ⟨b, t⟩⟩
   ·rw [qj4] at h; cases h
   ·rw [qj5] at h; cases h
   ·simp only [List.length_cons] at hn
    by_cases dd : dgv a < 0 ∨ dgv b < 0
    ·rw [qia dd] at h; cases h
    by_cases w : (hx a b).toNat < 32 ∨ (hx a b).toNat = 127
    ·rw [qj6 dd w] at h; cases h
    by_cases u : unr (hx a b) = true
    ·rw [qj7 dd w u] at h
     obtain ⟨r', h1, h2⟩ := Option.map_eq_some_iff.1 h
     subst h2
     exact .one (fun e => by rw [e, qsf] at u; cases u) (okc_unr u) (Cn.of n t r' (by omega) h1)
    ·rw [qib dd w u] at h
     obtain ⟨r', h1, h2⟩ := Option.map_eq_some_iff.1 h
     subst h2
     exact .esc w u (Cn.of n t r' (by omega) h1)
  ·by_cases u : okc ot c = true
   ·rw [qhr q u] at h
    obtain ⟨r', h1, h2⟩ := Option.map_eq_some_iff.1 h
    subst h2
    exact .one q u (Cn.of n s r' (by omega) h1)
   ·rw [qj3 q u] at h; cases h
theorem Cn.can_app {ot r : Str} (h : Cn ot r) (q : Str) : can ot (r ++ q) = (can ot q).map (r ++ ·) := by
 induction h with
 | nil => simp
 | one h u t ih => rw [List.cons_append, qhr h u, ih]; cases can ot q <;> rfl
 | @esc d s w u t ih =>
  rw [List.append_assoc]
  show can ot (37 :: hexs.getD (d / 16).toNat 0 :: hexs.getD (d &&& 15).toNat 0 :: (s ++ q)) = _
  have e := qrd d
  have d1 := qre d
  have d2 := qrf d
  rw [qib (by omega) (by rw [e]; exact w) (by rw [e]; exact u), e, ih]
  cases can ot q <;> simp
theorem Cn.fix {ot r : Str} (h : Cn ot r) : can ot r = some r := by
 have := h.can_app []
 rw [List.append_nil, can] at this
 simpa using this
theorem Cn.bytes {ot r : Str} (h : Cn ot r) : ∀ c ∈ r, c = 37 ∨ okc ot c = true := by
 induction h with
 | nil => simp
 | one h u t ih =>
  intro c hc
  rcases List.mem_cons.1 hc with e | e
  ·subst e; exact .inr u
  ·exact ih c e
 | @esc d s w u t ih =>
  intro c hc
  rcases List.mem_append.1 hc with e | e
  ·simp only [enc, List.mem_cons, List.not_mem_nil, or_false] at e
   rcases e with e | e | e
   ·exact .inl e
   ·subst e; exact .inr (okc_unr (qrg d))
   ·subst e; exact .inr (okc_unr (qrh d))
  ·exact ih c e
theorem Cn.app {ot a b : Str} (h : Cn ot a) (k : Cn ot b) : Cn ot (a ++ b) := by
 induction h with
 | nil => exact k
 | one h u t ih => exact .one h u ih
 | esc w u t ih => rw [List.append_assoc]; exact .esc w u ih
theorem qmx {P : Str → Prop} {p : Str} {l : List Str} (hn : l ≠ []) (h : ∀ x ∈ l, P x) (hp : ∀ x, P x → P (p ++ x)) : ∀ x ∈ hd p l, P x := by
 cases l with
 | nil => exact absurd rfl hn
 | cons y l =>
  intro x hx
  rcases List.mem_cons.1 hx with e | e
  ·subst e; exact hp y (h y (by simp))
  ·exact h x (by simp [e])
theorem qj8 {c : UInt8} {p : Str} (hp : c ∉ p) (s : Str) : spl c (p ++ s) = hd p (spl c s) := by
 induction p with
 | nil => rw [List.nil_append, qrc (qhq c s)]
 | cons b p ih =>
  rw [List.cons_append, spl, qtd (fun e => hp (by simp [e])), ih (fun e => hp (by simp [e])), qsd]; rfl
theorem qri : ∀ d : UInt8, (47 : UInt8) ∉ enc d := qgv (by unfold enc; decide +kernel)
theorem Cn.spl {ot r : Str} (h : Cn ot r) : ∀ p ∈ spl 47 r, Cn ot p := by
 induction h with
 | nil => intro p hp; simp only [Tn.spl, List.mem_singleton] at hp; subst hp; exact .nil
 | @one c s h u t ih =>
  rw [Tn.spl]
  split
  ·intro p hp
   rcases List.mem_cons.1 hp with e | e
   ·subst e; exact .nil
   ·exact ih p e
  ·exact qmx (qhq 47 s) ih fun x hx => .one h u hx
 | @esc d s w u t ih =>
  rw [qj8 (qri d)]
  exact qmx (qhq 47 s) ih fun x hx => .esc w u hx
def jn (c : UInt8) : List Str → Str
 | [] => []
 | [a] => a
 | a :: b :: l => a ++ c :: jn c (b :: l)
theorem Cn.jn {ot : Str} (h47 : okc ot 47 = true) : ∀ (l : List Str), (∀ p ∈ l, Cn ot p) → Cn ot (jn 47 l)
 | [], _ => .nil
 | [a], h => h a (by simp)
 | a :: b :: l, h => (h a (by simp)).app (.one (by decide) h47 (Cn.jn h47 (b :: l) fun p hp => h p (by simp at hp ⊢; exact .inr hp)))
theorem qo5 {c : UInt8} : ∀ (l : List Str), l ≠ [] → (∀ p ∈ l, c ∉ p) → spl c (jn c l) = l
 | [], h, _ => absurd rfl h
 | [a], _, h => by
  have := qj8 (h a (by simp)) []
  simpa [jn, spl, hd] using this
 | a :: b :: l, _, h => by
  rw [jn, qj8 (h a (by simp)), spl, qte rfl, qo5 (b :: l) (by simp) fun p hp => h p (by simp at hp ⊢; exact .inr hp)]
  simp [hd]
theorem qmy (c : UInt8) : ∀ (s : Str), ∀ p ∈ spl c s, c ∉ p
 | [] => by simp [spl]
 | b :: s => by
  rw [spl]
  split
  ·rename_i e
   intro p hp
   rcases List.mem_cons.1 hp with e | e
   ·subst e; simp
   ·exact qmy c s p e
  ·rename_i e
   refine qmx (qhq c s) (qmy c s) fun x hx h => ?_
   rcases List.mem_append.1 h with h | h
   ·simp only [List.mem_singleton] at h; exact e h.symm
   ·exact hx h
theorem qrj (c : UInt8) : ∀ l : List Str, Go.Lib.join l [c] = jn c l
 | [] => rfl
 | [a] => Go.Lib.join_one a [c]
 | a :: b :: l => by
  rw [jn, ← qrj c (b :: l)]
  simp [Go.Lib.join, List.intercalate]
def qsg : Str := [46]
def qsh : Str := [46, 46]
def dts : List Str → List Str → Option (List Str)
 | y, [] => some y
 | y, e :: r => if e = qsg then (if r = [] then some (y ++ [[]]) else dts y r)
  else if e = qsh then (if y = [] then none else if r = [] then some (y.dropLast ++ [[]]) else dts y.dropLast r)
  else dts (y ++ [e]) r
def nd (p : Str) : Prop := p ≠ qsg ∧ p ≠ qsh
theorem qo6 : ∀ (r y : List Str), (∀ p ∈ r, nd p) → dts y r = some (y ++ r)
 | [], y, _ => by rw [dts, List.append_nil]
 | e :: r, y, h => by
  have he := h e (by simp)
  rw [dts, qtd he.1, qtd he.2, qo6 r _ fun p hp => h p (by simp [hp])]
  simp
theorem qic {P : Str → Prop} (h0 : P []) : ∀ (r y z : List Str), dts y r = some z → (∀ p ∈ y, P p ∧ nd p) → (∀ p ∈ r, P p) → ∀ p ∈ z, P p ∧ nd p
 | [], y, z, h, hy, _ => by rw [dts] at h; cases h; exact hy
 | e :: r, y, z, h, hy, hr => by
  have hn : P [] ∧ nd [] := ⟨h0, by decide, by decide⟩
  rw [dts] at h
  split at h
  ·split at h
   ·cases h
    intro p hp
    rcases List.mem_append.1 hp with e | e
    ·exact hy p e
    ·simp only [List.mem_singleton] at e; subst e; exact hn
   ·exact qic h0 r y z h hy fun p hp => hr p (by simp [hp])
  ·split at h
   ·split at h
    ·cases h
    ·split at h
     ·cases h
      intro p hp
      rcases List.mem_append.1 hp with e | e
      ·exact hy p (List.dropLast_subset _ e)
      ·simp only [List.mem_singleton] at e; subst e; exact hn
     ·exact qic h0 r _ z h (fun p hp => hy p (List.dropLast_subset _ hp)) fun p hp => hr p (by simp [hp])
   ·rename_i n1 n2
    refine qic h0 r _ z h (fun p hp => ?_) fun p hp => hr p (by simp [hp])
    rcases List.mem_append.1 hp with e | e
    ·exact hy p e
    ·simp only [List.mem_singleton] at e; subst e; exact ⟨hr p (by simp), n1, n2⟩
theorem qk3 : ∀ (r y z : List Str), dts y r = some z → r ≠ [] → z ≠ []
 | [], y, z, h, hr => absurd rfl hr
 | e :: r, y, z, h, _ => by
  rw [dts] at h
  by_cases q : r = []
  ·subst q
   simp only [if_true, dts] at h
   split at h
   ·cases h; simp
   ·split at h
    ·split at h <;> cases h; simp
    ·cases h; simp
  ·simp only [qtd q] at h
   split at h
   ·exact qk3 r _ z h q
   ·split at h
    ·split at h
     ·cases h
     ·exact qk3 r _ z h q
    ·exact qk3 r _ z h q
def zAd : Jn := ⟨[], [], [], false⟩
def dtF : Option (List Str) → Fl (Jn × Err) (List Str)
 | none => .ret (zAd, some 27)
 | some z => .go z
theorem qk4 (x : List Str) (hx : x.length ≤ 100000) : ∀ (r : List Str) (i : Nat) (y : List Str), i + r.length = x.length → y.length ≤ i → JJ x r i y = some (dtF (dts y r))
 | [], i, y, _, _ => by rw [JJ, dts]; rfl
 | e :: r, i, y, hi, hy => by
  simp only [List.length_cons] at hi
  have el : decide ((i : Int) = ((x.length : Int) - 1)) = decide (r = []) := by
   rw [decide_eq_decide]
   constructor
   ·intro h; exact List.eq_nil_of_length_eq_zero (by omega)
   ·rintro rfl; simp only [List.length_nil] at hi; omega
  have c1 : InI ((x.length : Int) - 1) := by constructor <;> omega
  have c3 : InI ((y.length : Int) - 1) := by constructor <;> omega
  rw [JJ, dts]
  by_cases q1 : e = qsg
  ·have q2 : ¬ e = ([46, 46] : Str) := by subst q1; decide
   have q1' : e = ([46] : Str) := q1
   rw [qte (by simpa using q1'), qtd (by simpa using q2), qap c1, el, qte q1]
   by_cases q3 : r = []
   ·subst q3
    rw [qte (by simp), qte rfl, qap (by simp only [lim, List.length_singleton]; omega), JJ]; rfl
   ·rw [qtd (by simpa using q3), qtd q3, qk4 x hx r (i + 1) y (by omega) (by omega)]
  ·have q1' : ¬ e = ([46] : Str) := q1
   rw [qtd (by simpa using q1'), qtd q1]
   by_cases q2 : e = qsh
   ·have q2' : e = ([46, 46] : Str) := q2
    rw [qte (by simpa using q2'), qte (by simpa using q2'), qte q2]
    by_cases q4 : y = []
    ·subst q4
     rw [qte (by simp), qte rfl]; rfl
    ·have hl : 0 < y.length := List.length_pos_iff.2 q4
     have es : subL y (0 : Int) ((y.length : Int) - 1) = y.dropLast := by
      rw [List.dropLast_eq_take, show ((y.length : Int) - 1) = ((y.length - 1 : Nat) : Int) by omega]
      simp [subL]
     have dl : y.dropLast.length = y.length - 1 := List.length_dropLast
     rw [qtd (by simp; exact q4), qtd q4, qap c3, qap (by omega), qap c1, el, es]
     by_cases q3 : r = []
     ·subst q3
      rw [qte (by simp), qte rfl, qap (by simp only [lim, List.length_singleton]; omega), JJ]; rfl
     ·rw [qtd (by simpa using q3), qtd q3, qk4 x hx r (i + 1) _ (by omega) (by omega)]
   ·have q2' : ¬ e = ([46, 46] : Str) := q2
    rw [qtd (by simpa using q2'), qtd q2, qap (by simp only [lim, List.length_singleton]; omega), qk4 x hx r (i + 1) _ (by omega) (by simp only [List.length_append, List.length_singleton]; omega)]
theorem qo7 {c : UInt8} {q : Str} : ∀ {p : Str}, c ∉ p → Go.Lib.index (p ++ c :: q) [c] = p.length
 | [], _ => qmv c q
 | b :: p, h => by
  rw [List.cons_append, qi6 (fun e => h (by simp [e])), qo7 (fun e => h (by simp [e])), qtd (by omega)]; simp
theorem qo8 {c : UInt8} : ∀ {p : Str}, c ∉ p → Go.Lib.index p [c] = -1
 | [], _ => by simp [Go.Lib.index, List.isPrefixOf]
 | b :: p, h => by
  rw [qi6 (fun e => h (by simp [e])), qo8 (fun e => h (by simp [e])), qte rfl]
theorem qrk {c : UInt8} {p q : Str} (h : c ∉ p) : Go.Lib.cut (p ++ c :: q) [c] = (p, q, true) := by
 unfold Go.Lib.cut
 rw [qo7 h]
 simp
theorem qrl {c : UInt8} {p : Str} (h : c ∉ p) : Go.Lib.cut p [c] = (p, [], false) := by
 unfold Go.Lib.cut
 rw [qo8 h]
 simp
theorem qi8 (c : UInt8) (s : Str) : (Go.Lib.cut s [c]).1.length ≤ s.length ∧ (Go.Lib.cut s [c]).2.1.length ≤ s.length ∧ ((Go.Lib.cut s [c]).2.2 = false → (Go.Lib.cut s [c]).2.1 = []) := by
 rcases cut_spl c s with ⟨h, _⟩ | ⟨i, _, h, _⟩
 ·rw [h]; simp
 ·rw [h]
  refine ⟨?_, ?_, fun e => by cases e⟩
  ·show (s.take i).length ≤ _
   rw [List.length_take]; omega
  ·show (s.drop (i + 1)).length ≤ _
   rw [List.length_drop]; omega
def oP : Str := [33, 36, 38, 39, 40, 41, 42, 43, 44, 59, 61, 58, 64, 47]
def oQ : Str := [33, 36, 38, 39, 40, 41, 42, 43, 44, 59, 61, 58, 64, 47, 63]
def txl (a : Jn) : Nat := if a.HasQuery then a.An.length + a.Ae.length + 1 + a.Af.length else a.An.length + a.Ae.length
noncomputable def prs (h t : Str) : Jn × Err :=
 if ((Go.Lib.cut t [63]).1).head? ≠ some 47 then (zAd, some 27)
 else match can oP (Go.Lib.cut t [63]).1, can oQ (Go.Lib.cut t [63]).2.1 with
  | some p, some q => match dts [] (spl 47 (p.drop 1)) with
   | none => (zAd, some 27)
   | some z => if txl ⟨h, 47 :: jn 47 z, q, (Go.Lib.cut t [63]).2.2⟩ > 1024 then (zAd, some 5) else (⟨h, 47 :: jn 47 z, q, (Go.Lib.cut t [63]).2.2⟩, none)
  | _, _ => (zAd, some 27)
def tgt (a : Jn) : Str := if a.HasQuery then a.Ae ++ 63 :: a.Af else a.Ae
theorem qsi : okc oP 63 = false := by unfold okc unr; decide +kernel
theorem qod : okc oP 47 = true := by unfold okc unr; decide +kernel
theorem Cn.no63 {r : Str} (h : Cn oP r) : (63 : UInt8) ∉ r := fun e => by
 rcases h.bytes 63 e with e | e
 ·exact absurd e (by decide)
 ·rw [qsi] at e; cases e
theorem qrm {h t : Str} {a : Jn} (e : prs h t = (a, none)) : a.An = h ∧ Cn oP a.Ae ∧ a.Ae.head? = some 47 ∧ txl a ≤ 1024 ∧ (a.HasQuery = false → a.Af = []) ∧ prs h (tgt a) = (a, none) := by
 unfold prs at e
 by_cases q0 : ((Go.Lib.cut t [63]).1).head? ≠ some 47
 ·rw [qte q0] at e; cases e
 rw [qtd q0] at e
 cases hp : can oP (Go.Lib.cut t [63]).1 with
 | none => rw [hp] at e; cases e
 | some p =>
  cases hq : can oQ (Go.Lib.cut t [63]).2.1 with
  | none => rw [hp, hq] at e; cases e
  | some q =>
   rw [hp, hq] at e
   dsimp only at e
   cases hz : dts [] (spl 47 (p.drop 1)) with
   | none => rw [hz] at e; cases e
   | some z =>
    rw [hz] at e
    dsimp only at e
    by_cases ql : txl ⟨h, 47 :: jn 47 z, q, (Go.Lib.cut t [63]).2.2⟩ > 1024
    ·rw [qte ql] at e; cases e
    rw [qtd ql] at e
    have cp := Cn.of _ _ _ (Nat.le_refl _) hp
    have cq := Cn.of _ _ _ (Nat.le_refl _) hq
    have hqn := (qi8 63 t).2.2
    generalize (Go.Lib.cut t [63]).2.2 = b at e ql hqn
    cases e
    have cd : Cn oP (p.drop 1) := by
     cases cp with
     | nil => exact .nil
     | one h u t => exact t
     | @esc d s w u t =>
      exfalso
      have hc : ∀ (s r : Str), s.head? = some 47 → can oP s = some r → r.head? = some 47 := by
       intro s r hs hr
       cases s with
       | nil => cases hs
       | cons c s =>
        cases hs
        rw [qhr (by decide) qod] at hr
        obtain ⟨r', _, rfl⟩ := Option.map_eq_some_iff.1 hr
        rfl
      have := hc _ _ (Classical.not_not.1 q0) hp
      simp [enc] at this
    have all := qic (P := fun p => Cn oP p ∧ (47 : UInt8) ∉ p) ⟨.nil, by simp⟩ _ _ _ hz (by simp) fun p hp => ⟨cd.spl p hp, qmy 47 _ p hp⟩
    have zn := qk3 _ _ _ hz (qhq _ _)
    have cpath : Cn oP (47 :: jn 47 z) := .one (by decide) qod (Cn.jn qod z fun p hp => (all p hp).1.1)
    have hb : b = false → q = [] := by
     intro hb
     have := hqn hb
     rw [this, can] at hq
     exact (Option.some.inj hq).symm
    refine ⟨rfl, cpath, rfl, Nat.le_of_not_gt ql, hb, ?_⟩
    have ez : dts [] (spl 47 (jn 47 z)) = some z := by
     rw [qo5 z zn fun p hp => (all p hp).1.2, qo6 z [] fun p hp => (all p hp).2]; rfl
    unfold prs
    cases b with
    | true =>
     rw [show tgt ⟨h, 47 :: jn 47 z, q, true⟩ = (47 :: jn 47 z) ++ 63 :: q from rfl, qrk cpath.no63, qtd (by simp), cpath.fix, cq.fix]
     dsimp only [List.drop]
     rw [ez]
     dsimp only
     rw [qtd ql]
    | false =>
     obtain rfl := hb rfl
     rw [show tgt ⟨h, 47 :: jn 47 z, [], false⟩ = 47 :: jn 47 z from rfl, qrl cpath.no63, qtd (by simp), cpath.fix, can]
     dsimp only [List.drop]
     rw [ez]
     dsimp only
     rw [qtd ql]
theorem qgw {ot : Str} : ∀ (n : Nat) (s r : Str), s.length ≤ n → can ot s = some r → r.length ≤ s.length
 | n, [], r, _, h => by rw [can] at h; cases h; simp
 | 0, c :: s, r, hn, h => by simp at hn
 | n + 1, c :: s, r, hn, h => by
  simp only [List.length_cons] at hn ⊢
  by_cases q : c = 37
  ·subst q
   rcases s with _ | ⟨a, _ | ⟨b, t⟩⟩
   ·rw [qj4] at h; cases h
   ·rw [qj5] at h; cases h
   ·simp only [List.length_cons] at hn ⊢
    by_cases dd : dgv a < 0 ∨ dgv b < 0
    ·rw [qia dd] at h; cases h
    by_cases w : (hx a b).toNat < 32 ∨ (hx a b).toNat = 127
    ·rw [qj6 dd w] at h; cases h
    by_cases u : unr (hx a b) = true
    ·rw [qj7 dd w u] at h
     obtain ⟨r', h1, h2⟩ := Option.map_eq_some_iff.1 h
     subst h2
     have := qgw n t r' (by omega) h1
     simp only [List.length_cons]; omega
    ·rw [qib dd w u] at h
     obtain ⟨r', h1, h2⟩ := Option.map_eq_some_iff.1 h
     subst h2
     have := qgw n t r' (by omega) h1
     simp only [List.length_append, enc, List.length_cons, List.length_nil]; omega
  ·by_cases u : okc ot c = true
   ·rw [qhr q u] at h
    obtain ⟨r', h1, h2⟩ := Option.map_eq_some_iff.1 h
    subst h2
    have := qgw n s r' (by omega) h1
    simp only [List.length_cons]; omega
   ·rw [qj3 q u] at h; cases h
def wt : List Str → Nat
 | [] => 0
 | a :: l => a.length + 1 + wt l
theorem wt_app : ∀ a b : List Str, wt (a ++ b) = wt a + wt b
 | [], b => by simp [wt]
 | x :: a, b => by rw [List.cons_append, wt, wt, wt_app a b]; omega
theorem qqf (l : List Str) (h : l ≠ []) : wt l.dropLast + 1 ≤ wt l := by
 have := List.dropLast_concat_getLast h
 have e := wt_app l.dropLast [l.getLast h]
 rw [this] at e
 simp only [wt] at e; omega
theorem qmz : ∀ l : List Str, l.length ≤ wt l ∧ (jn 47 l).length ≤ wt l
 | [] => by simp [wt, jn]
 | [a] => by simp [wt, jn]
 | a :: b :: l => by
  have := qmz (b :: l)
  rw [wt, jn]
  simp only [List.length_cons, List.length_append] at this ⊢; omega
theorem qsj (p : Str) (l : List Str) (h : l ≠ []) : wt (hd p l) = p.length + wt l := by
 cases l with
 | nil => exact absurd rfl h
 | cons a l => simp [hd, wt]; omega
theorem qm0 (c : UInt8) : ∀ s : Str, wt (spl c s) = s.length + 1
 | [] => rfl
 | b :: s => by
  rw [spl]
  split
  ·rw [wt, qm0 c s]; simp; omega
  ·rw [qsj _ _ (qhq c s), qm0 c s]; simp; omega
theorem qk5 : ∀ (r y z : List Str), dts y r = some z → wt z ≤ wt y + wt r
 | [], y, z, h => by rw [dts] at h; cases h; simp [wt]
 | e :: r, y, z, h => by
  rw [dts] at h
  rw [wt]
  split at h
  ·split at h
   ·cases h; rw [wt_app]; simp [wt]
    omega
   ·have := qk5 r y z h; omega
  ·split at h
   ·split at h
    ·cases h
    ·rename_i hy
     have := qqf y hy
     split at h
     ·cases h; rw [wt_app]; simp [wt]; omega
     ·have := qk5 r _ z h; omega
   ·have := qk5 r _ z h
    rw [wt_app] at this
    simp [wt] at this; omega
theorem qrn {a : Jn} (h : a.An.length + a.Ae.length + a.Af.length ≤ 100000) : ∃ t, Jct a = some t ∧ t.length = txl a := by
 unfold Jct txl
 cases a.HasQuery with
 | true =>
  rw [qte rfl, qte rfl, qap (by simp only [lim]; omega), qap (by simp only [lim, List.length_append, List.length_singleton]; omega), qap (by simp only [lim, List.length_append, List.length_singleton]; omega)]
  exact ⟨_, rfl, by simp only [List.length_append, List.length_singleton]⟩
 | false =>
  rw [qtd (by simp), qtd (by simp), qap (by simp only [lim]; omega)]
  exact ⟨_, rfl, List.length_append⟩
theorem qid {n : Nat} {h h' t : Str} (hh : Jcr h = some (h', none)) (hl : h'.length ≤ 1000) (ht : t.length ≤ 9000) (hn : 9000 < n) : Jbo n h t = some (prs h' t) := by
 unfold Jbo prs
 have lc := qi8 63 t
 rw [hh, qtc, qtd (by simp), show qoy t ([63] : Str) = some (Go.Lib.cut t [63]) from by unfold qoy; rw [qte (by rw [qk0]; omega)], qtc]
 generalize Go.Lib.cut t [63] = c at lc ⊢
 obtain ⟨c1, c2, c3⟩ := c
 dsimp only at lc ⊢
 have e47 : ((if decide (c1 = ([] : Str)) then some true else (ix c1 0).bind fun x37 => some (decide ((x37.toNat : Int) ≠ 47))) : Option Bool) = some (decide (c1.head? ≠ some 47)) := by
  cases c1 with
  | nil => rfl
  | cons b c1 =>
   rw [qtd (by simp), show ix (b :: c1) 0 = some b from rfl, qtc]
   congr 1
   rw [decide_eq_decide]
   simp only [List.head?_cons, ne_eq, Option.some.injEq]
   constructor
   ·intro h e; subst e; exact h rfl
   ·intro h e; exact h (UInt8.toNat_inj.1 (by show b.toNat = 47; omega))
 rw [e47, qtc]
 by_cases q0 : c1.head? ≠ some 47
 ·rw [qte (by simpa using q0), qte q0]; rfl
 rw [qtd (by simpa using q0), qtd q0]
 rw [show ([33, 36, 38, 39, 40, 41, 42, 43, 44, 59, 61, 58, 64, 47] : Str) = oP from rfl, show ([33, 36, 38, 39, 40, 41, 42, 43, 44, 59, 61, 58, 64, 47, 63] : Str) = oQ from rfl, qo4 (by omega) (by omega), qtc, qo4 (by omega) (by omega), qtc]
 cases hp : can oP c1 with
 | none => rw [qte (by simp)]; rfl
 | some p =>
  cases hq : can oQ c2 with
  | none => rw [qte (by simp)]; rfl
  | some q =>
   dsimp only
   rw [qtd (by simp)]
   have lp := qgw _ _ _ (Nat.le_refl _) hp
   have lq := qgw _ _ _ (Nat.le_refl _) hq
   have hne : 1 ≤ p.length := by
    cases c1 with
    | nil => simp at q0
    | cons b c1 =>
     obtain rfl : b = 47 := by simpa using q0
     rw [qhr (by decide) qod] at hp
     obtain ⟨r', _, rfl⟩ := Option.map_eq_some_iff.1 hp
     simp
   have es : subL p (1 : Int) (p.length : Int) = p.drop 1 := by
    unfold subL
    simp [List.take_of_length_le]
   have ls : (p.drop 1).length ≤ 9000 := by rw [List.length_drop]; omega
   rw [qap (by omega), es, qmw 47 (by omega), qtc]
   have w1 := qm0 47 (p.drop 1)
   have w2 := qmz (spl 47 (p.drop 1))
   rw [qap (by simp only [qa3]; omega), qk4 _ (by omega) _ 0 [] (by omega) (by simp), qtc]
   cases hz : dts [] (spl 47 (p.drop 1)) with
   | none => rfl
   | some z =>
    have w3 := qk5 _ _ _ hz
    have w4 := qmz z
    simp only [wt] at w3
    dsimp only [dtF, Fl.el]
    rw [show qi1 z ([47] : Str) = some (jn 47 z) from by unfold qi1; rw [qrj, qte (by simp only [lim]; omega)], qtc, qap (by simp only [lim, List.length_singleton]; omega)]
    obtain ⟨x, x1, x2⟩ := qrn (a := ⟨h', [47] ++ jn 47 z, q, c3⟩) (by simp only [List.length_append, List.length_singleton]; omega)
    rw [x1, qtc, x2]
    show (if decide ((txl ⟨h', 47 :: jn 47 z, q, c3⟩ : Int) > 1024) then _ else _) = _
    by_cases ql : txl ⟨h', 47 :: jn 47 z, q, c3⟩ > 1024
    ·rw [qte (by simp; omega), qte ql]; rfl
    ·rw [qtd (by simp; omega), qtd ql]; rfl
end Tn
open Go Go.SL Go.Proofs Pl Vary
namespace Tn
abbrev Fd := Jc
structure FOK (k : Nat) (f : List Fd) : Prop where
 n : f.length ≤ k
 b : ∀ x ∈ f, x.Name.length ≤ 10000 ∧ x.Value.length ≤ 10000
theorem FOK.tail {k : Nat} {x : Fd} {f : List Fd} (h : FOK (k + 1) (x :: f)) : FOK k f := ⟨by have := h.n; simp only [List.length_cons] at this; omega, fun y hy => h.b y (by simp [hy])⟩
theorem FOK.filter {k : Nat} {f : List Fd} (h : FOK k f) (p : Fd → Bool) : FOK k (f.filter p) := ⟨Nat.le_trans (List.length_filter_le _ _) h.n, fun x hx => h.b x (List.mem_filter.1 hx).1⟩
theorem qfj (s : Str) : (low s).length = s.length := by unfold low; rw [List.length_map]
theorem qi9 : ∀ (r p : Str), tenant_lower_L0 r.length p.length (p ++ r) = some (p ++ low r)
 | [], p => by simp [tenant_lower_L0, low]
 | c :: r, p => by
  have ih := qi9 r (p ++ [lowB c])
  rw [List.length_cons, tenant_lower_L0, qmt, qtc]
  have e : (p ++ [lowB c]) ++ r = p ++ lowB c :: r := by simp
  have e2 : p ++ low (c :: r) = (p ++ [lowB c]) ++ low r := by simp [low]
  rw [List.length_append, List.length_singleton] at ih
  by_cases q : (decide ((c.toNat : Int) ≥ 65) && decide ((c.toNat : Int) ≤ 90)) = true
  ·rw [qte q, qtc, qmu, e2, show c + (32 : UInt8) = lowB c from by unfold lowB; rw [qte q]]
   exact ih
  ·have : lowB c = c := by unfold lowB; rw [qtd q]
   rw [qtd q, e2, ← ih, this, List.append_assoc]; rfl
theorem qm1 {s : Str} (h : s.length ≤ 1073741824) : qcc s = some (low s) := by
 have := qi9 s []
 unfold qcc
 rw [qap (by simp only [lim]; omega), qap (by constructor <;> omega), Int.toNat_natCast]
 rw [List.nil_append, List.length_nil] at this
 rw [this]; rfl
def vls (f : List Fd) (n : Str) : List Str := (f.filter fun x => decide (low x.Name = n)).map (·.Value)
theorem qf2 (x : Fd) (f : List Fd) (n : Str) : vls (x :: f) n = (if low x.Name = n then [x.Value] else []) ++ vls f n := by
 unfold vls
 rw [List.filter_cons]
 by_cases q : low x.Name = n <;> simp [q]
theorem qj9 (f : List Fd) (n : Str) : (vls f n).length ≤ f.length := by unfold vls; rw [List.length_map]; exact List.length_filter_le _ _
theorem qqg {k : Nat} {f : List Fd} (h : FOK k f) {n v : Str} (hv : v ∈ vls f n) : v.length ≤ 10000 := by
 obtain ⟨x, hx, rfl⟩ := List.mem_map.1 hv
 exact (h.b x (List.mem_filter.1 hx).1).2
theorem qka {n : Str} : ∀ (f : List Fd) (i : Nat) (y : List Str), FOK f.length f → y.length + f.length ≤ 1000000 → Jbm n f i y = some (y ++ vls f n)
 | [], i, y, _, _ => by rw [Jbm]; simp [vls]
 | x :: f, i, y, h, hy => by
  simp only [List.length_cons] at hy
  have hx := (h.b x (by simp)).1
  rw [Jbm, qe6 (by omega), qtc, qf2]
  by_cases q : low x.Name = n
  ·rw [qte (decide_eq_true q), qte q, qap (by simp only [lim, List.length_singleton]; omega), qka f (i + 1) _ h.tail (by simp only [List.length_append, List.length_singleton]; omega)]
   simp
  ·rw [qtd (by simpa using q), qtd q, qka f (i + 1) _ h.tail (by omega)]
   simp
theorem FOK.self {k : Nat} {f : List Fd} (h : FOK k f) : FOK f.length f := ⟨Nat.le_refl _, h.b⟩
theorem qo9 {k : Nat} {f : List Fd} {n : Str} (h : FOK k f) (hk : k ≤ 100000) (hn : n.length ≤ 1000000) : JbS f n = some (vls f (low n)) := by
 have := h.n
 unfold JbS
 rw [qe6 (by omega), qtc, qap (by simp only [qa3]; omega), qka f 0 [] h.self (by simp; omega)]; rfl
def setP (n v : Str) : List Fd → Bool → List Fd × Bool
 | [], b => ([], b)
 | x :: l, b => if low x.Name = n then (if b = true then setP n v l b else (⟨n, v⟩ :: (setP n v l true).1, (setP n v l true).2)) else (x :: (setP n v l b).1, (setP n v l b).2)
def setQ (n v : Str) (f : List Fd) : List Fd := if (setP n v f false).2 = true then (setP n v f false).1 else (setP n v f false).1 ++ [⟨n, v⟩]
theorem qf3 (n v : Str) : ∀ (f : List Fd) (b : Bool), (setP n v f b).1.length ≤ f.length
 | [], b => by simp [setP]
 | x :: l, b => by
  have h1 := qf3 n v l b
  have h2 := qf3 n v l true
  rw [setP]
  split
  ·split
   ·simp only [List.length_cons]; omega
   ·simp only [List.length_cons]; omega
  ·simp only [List.length_cons]; omega
theorem setP_mem (n v : Str) : ∀ (f : List Fd) (b : Bool), ∀ x ∈ (setP n v f b).1, x ∈ f ∨ x = ⟨n, v⟩
 | [], b, x, h => by simp [setP] at h
 | y :: l, b, x, h => by
  rw [setP] at h
  split at h
  ·split at h
   ·rcases setP_mem n v l b x h with h | h
    ·exact .inl (by simp [h])
    ·exact .inr h
   ·rcases List.mem_cons.1 h with h | h
    ·exact .inr h
    ·rcases setP_mem n v l true x h with h | h
     ·exact .inl (by simp [h])
     ·exact .inr h
  ·rcases List.mem_cons.1 h with h | h
   ·exact .inl (by simp [h])
   ·rcases setP_mem n v l b x h with h | h
    ·exact .inl (by simp [h])
    ·exact .inr h
theorem FOK.setQ {k : Nat} {f : List Fd} (h : FOK k f) {n v : Str} (hn : n.length ≤ 10000) (hv : v.length ≤ 10000) : FOK (k + 1) (setQ n v f) := by
 have h1 := qf3 n v f false
 have hk := h.n
 have m : ∀ x ∈ (setP n v f false).1, x.Name.length ≤ 10000 ∧ x.Value.length ≤ 10000 := fun x hx => by
  rcases setP_mem n v f false x hx with h2 | rfl
  ·exact h.b x h2
  ·exact ⟨hn, hv⟩
 unfold Tn.setQ
 split
 ·exact ⟨by omega, m⟩
 ·refine ⟨by simp only [List.length_append, List.length_singleton]; omega, fun x hx => ?_⟩
  rcases List.mem_append.1 hx with hx | hx
  ·exact m x hx
  ·rw [List.mem_singleton] at hx; subst hx; exact ⟨hn, hv⟩
theorem qie (n v : Str) (hn : low n = n) : ∀ (f : List Fd) (b : Bool), vls (setP n v f b).1 n = (if (setP n v f b).2 = true ∧ b = false then [v] else []) ∧ (b = true → (setP n v f b).2 = true)
 | [], b => by simp [setP, vls]
 | x :: l, b => by
  obtain ⟨a1, a2⟩ := qie n v hn l b
  obtain ⟨b1, b2⟩ := qie n v hn l true
  rw [setP]
  split
  ·split
   ·exact ⟨a1, a2⟩
   ·rename_i q1 q2
    have : b = false := by simpa using q2
    subst this
    dsimp only
    rw [qf2, qte hn, b1, b2 rfl]; simp
  ·rename_i q
   dsimp only
   rw [qf2, qtd q, a1]
   exact ⟨rfl, a2⟩
theorem qoe {n v : Str} (hn : low n = n) (f : List Fd) : vls (setQ n v f) n = [v] := by
 obtain ⟨a, b⟩ := qie n v hn f false
 unfold setQ
 split
 ·rename_i q; rw [a, q]; rfl
 ·rename_i q
  have e : ∀ (l m : List Fd), vls (l ++ m) n = vls l n ++ vls m n := fun l m => by unfold vls; rw [List.filter_append, List.map_append]
  rw [e, a, qf2, qte hn, qtd (fun h => q h.1)]; rfl
theorem qm2 {n v : Str} : ∀ (f : List Fd) (i : Nat) (y : List Fd) (b : Bool), FOK f.length f → y.length + f.length ≤ 1000000 → Ja5 n v f i y b = some (y ++ (setP n v f b).1, (setP n v f b).2)
 | [], i, y, b, _, _ => by rw [Ja5]; simp [setP]
 | x :: f, i, y, b, h, hy => by
  simp only [List.length_cons] at hy
  have hx := (h.b x (by simp)).1
  have ih := fun z (hz : z.length + f.length ≤ 1000000) c => qm2 (n := n) (v := v) f (i + 1) z c h.tail hz
  rw [Ja5, qe6 (by omega), qtc, setP]
  by_cases q : low x.Name = n
  ·rw [qtd (by simpa using q), qte q]
   cases b with
   | false =>
    rw [qte (by simp), qtd (by simp), qap (by simp only [lim, List.length_singleton]; omega), ih _ (by simp only [List.length_append, List.length_singleton]; omega)]
    simp
   | true => rw [qtd (by simp), qte rfl, ih _ (by omega)]
  ·rw [qte (by simpa using q), qtd q, qap (by simp only [lim, List.length_singleton]; omega), ih _ (by simp only [List.length_append, List.length_singleton]; omega)]
   simp
theorem qsw {k : Nat} {f : List Fd} {n v : Str} (h : FOK k f) (hk : k ≤ 100000) (hn : n.length ≤ 1000000) : Jdh f n v = some (setQ (low n) v f) := by
 have h0 := h.n
 have := qf3 (low n) v f false
 unfold Jdh
 rw [qe6 (by omega), qtc, qap (by simp only [qa3]; omega), qm2 f 0 [] false h.self (by simp; omega), qtc]
 unfold setQ
 dsimp only
 cases q : (setP (low n) v f false).2 with
 | true => rw [qtd (by simp), qte rfl]; simp
 | false => rw [qte (by simp), qtd (by simp), qap (by simp only [lim, List.length_singleton, List.nil_append]; omega)]; simp
def rmv (n : Str) (f : List Fd) : List Fd := f.filter fun x => decide (low x.Name ≠ n)
theorem qkb {n : Str} : ∀ (f : List Fd) (i : Nat) (y : List Fd), FOK f.length f → y.length + f.length ≤ 1000000 → JaF n f i y = some (y ++ rmv n f)
 | [], i, y, _, _ => by rw [JaF]; simp [rmv]
 | x :: f, i, y, h, hy => by
  simp only [List.length_cons] at hy
  have hx := (h.b x (by simp)).1
  rw [JaF, qe6 (by omega), qtc]
  unfold rmv
  rw [List.filter_cons]
  by_cases q : low x.Name = n
  ·rw [qtd (by simpa using q), qtd (by simpa using q), qkb f (i + 1) _ h.tail (by omega)]; rfl
  ·rw [qte (by simpa using q), qte (by simpa using q), qap (by simp only [lim, List.length_singleton]; omega), qkb f (i + 1) _ h.tail (by simp only [List.length_append, List.length_singleton]; omega)]
   simp [rmv]
theorem qta {k : Nat} {f : List Fd} {n : Str} (h : FOK k f) (hk : k ≤ 100000) (hn : n.length ≤ 1000000) : JcS f n = some (rmv (low n) f) := by
 have := h.n
 unfold JcS
 rw [qe6 (by omega), qtc, qap (by simp only [qa3]; omega), qkb f 0 [] h.self (by simp; omega)]; rfl
theorem qif {s : Str} (h : s.length ≤ 100000000) : ∃ r, qh7 s ([32, 9] : Str) = some r ∧ r.length ≤ s.length := by
 unfold qh7
 rw [qte ⟨by omega, by simp, by decide⟩]
 refine ⟨_, rfl, ?_⟩
 show ((Go.Lib.trimRightS s [32, 9]).dropWhile (([32, 9] : Str).contains ·)).length ≤ _
 refine Nat.le_trans (List.dropWhile_suffix _).length_le ?_
 show (s.reverse.dropWhile _).reverse.length ≤ _
 rw [List.length_reverse]
 have := (List.dropWhile_suffix (l := s.reverse) (([32, 9] : Str).contains ·)).length_le
 rw [List.length_reverse] at this; exact this
theorem qro {α : Type} {s : List α} {i : Int} (h0 : 0 ≤ i) (h1 : i < (s.length : Int)) : ∃ x, ix s i = some x := by
 unfold ix
 rw [qte h0]
 exact ⟨s[i.toNat]'(by omega), List.getElem?_eq_getElem (by omega)⟩
theorem qig {α : Type} {b : Bool} {x y : Option α} {P : α → Prop} (h1 : b = true → ∃ r, x = some r ∧ P r) (h2 : b = false → ∃ r, y = some r ∧ P r) : ∃ r, (if b = true then x else y) = some r ∧ P r := by
 cases b with
 | true => exact h1 rfl
 | false => exact h2 rfl
theorem qe7 {s : Str} {c : UInt8} (hs : s.length ≤ 10000) : ∀ (n : Nat) (y : List Str) (a : Int) (q : Bool) (i : Int), 0 ≤ i → (s.length : Int) + 2 - i < n → 0 ≤ a → a ≤ i → a ≤ (s.length : Int) → (y.length : Int) ≤ i → i ≤ (s.length : Int) + 1 → (∀ x ∈ y, x.length ≤ 10000) →
  ∃ z, syntax_parts_L0 s c n y a q i = some z ∧ z.1.length ≤ 10001 ∧ 0 ≤ z.2.1 ∧ z.2.1 ≤ (s.length : Int) ∧ ∀ x ∈ z.1, x.length ≤ 10000
 | 0, y, a, q, i, h0, h2, h3, h4, h5, h6, h7, h8 => by omega
 | n + 1, y, a, q, i, h0, h2, h3, h4, h5, h6, h7, h8 => by
  rw [syntax_parts_L0]
  refine qig (fun hi => ?_) fun hi => ⟨_, rfl, by simp only; omega, h3, h5, h8⟩
  have hi := of_decide_eq_true hi
  obtain ⟨b, hb⟩ := qro h0 hi
  have eq1 : (if q = true then (ix s i).bind fun x25 => some (decide ((x25.toNat : Int) = 92)) else some false) = some (q && decide ((b.toNat : Int) = 92)) := by
   rw [hb]; cases q <;> rfl
  have eq2 : (if (!q) = true then (ix s i).bind fun x25 => some (decide ((x25.toNat : Int) = (c.toNat : Int))) else some false) = some (!q && decide ((b.toNat : Int) = (c.toNat : Int))) := by
   rw [hb]; cases q <;> rfl
  rw [eq1, qtc]
  refine qig (fun _ => ?_) fun _ => ?_
  ·rw [qap (by constructor <;> omega), qap (by constructor <;> omega)]
   exact qe7 hs n y a q _ (by omega) (by omega) h3 (by omega) h5 (by omega) (by omega) h8
  rw [eq2, hb, qtc]
  refine qig (fun _ => ?_) fun _ => ?_
  ·rw [qap (by constructor <;> omega)]
   exact qe7 hs n y a _ _ (by omega) (by omega) h3 (by omega) h5 (by omega) (by omega) h8
  rw [qtc]
  refine qig (fun _ => ?_) fun _ => ?_
  ·have hl : (subL s a i).length ≤ s.length := by unfold subL; rw [List.length_take, List.length_drop]; omega
   obtain ⟨r, hr, rl⟩ := qif (s := subL s a i) (by omega)
   rw [qap (by omega), hr, qtc, qap (by simp only [lim, List.length_singleton]; omega), qap (by constructor <;> omega), qap (by constructor <;> omega)]
   refine qe7 hs n _ _ _ _ (by omega) (by omega) (by omega) (by omega) (by omega) (by simp only [List.length_append, List.length_singleton]; omega) (by omega) fun x hx => ?_
   rcases List.mem_append.1 hx with hx | hx
   ·exact h8 x hx
   ·rw [List.mem_singleton] at hx; subst hx; omega
  ·rw [qap (by constructor <;> omega)]
   exact qe7 hs n y a q _ (by omega) (by omega) h3 (by omega) h5 (by omega) (by omega) h8
theorem qk6 : ∀ (s : Str) (i : Nat), ∃ f, syntax_clean_L0 s i = some f ∧ (f = .go () ∨ f = .ret false)
 | [], i => ⟨_, rfl, .inl rfl⟩
 | c :: s, i => by
  rw [syntax_clean_L0]
  have e : ∃ b, qb7 c = some b := by
   unfold qb7
   exact ⟨_, rfl⟩
  obtain ⟨b, hb⟩ := e
  rw [hb, qtc]
  exact qig (fun _ => ⟨_, rfl, .inr rfl⟩) fun _ => qk6 s (i + 1)
theorem qm3 {n : Nat} {s : Str} {c : UInt8} (hs : s.length ≤ 10000) (hn : 20000 ≤ n) : ∃ r, qcs n s c = some r ∧ (r.2 = none → r.1.length ≤ 20000 ∧ ∀ x ∈ r.1, x.length ≤ 10000) := by
 unfold qcs qda
 obtain ⟨f, hf, hf2⟩ := qk6 s 0
 rw [qap (by simp only [qa3]; omega), hf, qtc]
 obtain ⟨b, hb⟩ : ∃ b, ((f.el some fun t0 => some true) : Option Bool) = some b := by rcases hf2 with rfl | rfl <;> exact ⟨_, rfl⟩
 rw [hb, qtc]
 refine qig (fun _ => ⟨_, rfl, fun e => by cases e⟩) fun _ => ?_
 obtain ⟨z, hz, h1, h2, h3, h4⟩ := qe7 (c := c) hs n [] 0 false 0 (by omega) (by omega) (by omega) (by omega) (by omega) (by simp) (by omega) (fun x hx => by cases hx)
 rw [hz, qtc]
 refine qig (fun _ => ⟨_, rfl, fun e => by cases e⟩) fun _ => ?_
 have hl : (subL s z.2.1 (s.length : Int)).length ≤ s.length := by unfold subL; rw [List.length_take, List.length_drop]; omega
 obtain ⟨r, hr, rl⟩ := qif (s := subL s z.2.1 (s.length : Int)) (by omega)
 rw [qap (by omega), hr, qtc, qap (by simp only [lim, List.length_singleton]; omega)]
 refine ⟨_, rfl, fun _ => ⟨by simp only [List.length_append, List.length_singleton]; omega, fun x hx => ?_⟩⟩
 rcases List.mem_append.1 hx with hx | hx
 ·exact h4 x hx
 ·rw [List.mem_singleton] at hx; subst hx; omega
theorem qkc : ∀ (l : List Str) (i : Nat) (y : List Str), y.length + l.length ≤ 1000000 → syntax_List_L0 l i y = some (y ++ l.filter fun x => decide (x ≠ []))
 | [], i, y, _ => by rw [syntax_List_L0]; simp
 | x :: l, i, y, h => by
  simp only [List.length_cons] at h
  rw [syntax_List_L0, List.filter_cons]
  by_cases q : x = []
  ·rw [qtd (by simpa using q), qtd (by simpa using q), qkc l (i + 1) y (by omega)]
  ·rw [qte (by simpa using q), qte (by simpa using q), qap (by simp only [lim, List.length_singleton]; omega), qkc l (i + 1) _ (by simp only [List.length_append, List.length_singleton]; omega)]
   simp
theorem qof {n : Nat} {s : Str} (hs : s.length ≤ 10000) (hn : 20000 ≤ n) : ∃ r, qcl n s = some r ∧ (r.2 = none → r.1.length ≤ 20000 ∧ ∀ x ∈ r.1, x.length ≤ 10000) := by
 obtain ⟨r, hr, h⟩ := qm3 (c := 44) hs hn
 unfold qcl
 rw [hr, qtc]
 cases e : r.2 with
 | some e => rw [qte (by rfl)]; exact ⟨_, rfl, fun e => by cases e⟩
 | none =>
  obtain ⟨h1, h2⟩ := h e
  rw [qtd (by simp), qap (by simp only [qa3]; omega), qkc r.1 0 [] (by simp; omega)]
  refine ⟨_, rfl, fun _ => ⟨Nat.le_trans (List.length_filter_le _ _) h1, fun x hx => h2 x ?_⟩⟩
  exact (List.mem_filter.1 hx).1
noncomputable def els (n : Nat) (s : Str) : List Str := match qcl n s with
 | some (l, none) => l.map low
 | _ => []
theorem qk7 : ∀ (l : List Str) (i : Nat) (y : List Str), (∀ x ∈ l, x.length ≤ 10000) → y.length + l.length ≤ 100000000 → Ja6 l i y = some (y ++ l.map low)
 | [], i, y, _, _ => by rw [Ja6]; simp
 | x :: l, i, y, h, hy => by
  simp only [List.length_cons] at hy
  have := h x (by simp)
  rw [Ja6, qe6 (by omega), qtc, qap (by simp only [lim, List.length_singleton]; omega), qk7 l (i + 1) _ (fun z hz => h z (by simp [hz])) (by simp only [List.length_append, List.length_singleton]; omega)]
  simp
theorem qih {n : Nat} (hn : 20000 ≤ n) : ∀ (l : List Str) (i : Nat) (y : List Str), (∀ x ∈ l, x.length ≤ 10000) → y.length + 20000 * l.length ≤ 30000000 → Jaw n l i y = some (y ++ l.flatMap (els n)) ∧ (l.flatMap (els n)).length ≤ 20000 * l.length
 | [], i, y, _, _ => by rw [Jaw]; simp
 | x :: l, i, y, h, hy => by
  simp only [List.length_cons] at hy
  obtain ⟨r, hr, h1⟩ := qof (h x (by simp)) hn
  rw [Jaw, hr, qtc, List.flatMap_cons]
  have ht : ∀ z ∈ l, z.length ≤ 10000 := fun z hz => h z (by simp [hz])
  cases e : r.2 with
  | some e' =>
   have : els n x = [] := by unfold els; rw [hr, show r = (r.1, some e') from by rw [← e]]
   obtain ⟨a, b⟩ := qih hn l (i + 1) y ht (by omega)
   rw [qte (by rfl), a, this]
   exact ⟨rfl, by simp only [List.nil_append, List.length_cons]; omega⟩
  | none =>
   obtain ⟨h2, h3⟩ := h1 e
   have : els n x = r.1.map low := by unfold els; rw [hr, show r = (r.1, none) from by rw [← e]]
   obtain ⟨a, b⟩ := qih hn l (i + 1) (y ++ r.1.map low) ht (by simp only [List.length_append, List.length_map]; omega)
   rw [qtd (by simp), qap (by simp only [qa3]; omega), qk7 r.1 0 y h3 (by omega), qtc, a, this, List.append_assoc]
   exact ⟨rfl, by simp only [List.length_append, List.length_map, List.length_cons]; omega⟩
theorem qm4 (v : Str) : ∀ (l : List Str) (i : Nat), (v ∈ l → ∃ k : Nat, J1 v l i = some (Fl.ret (k : Int))) ∧ (v ∉ l → J1 v l i = some (Fl.go ()))
 | [], i => ⟨fun h => (by cases h), fun _ => rfl⟩
 | x :: l, i => by
  obtain ⟨a, b⟩ := qm4 v l (i + 1)
  rw [J1]
  by_cases q : v = x
  ·rw [qte (decide_eq_true q)]
   exact ⟨fun _ => ⟨i, rfl⟩, fun h => absurd (by simp [q]) h⟩
  ·rw [qtd (by simpa using q)]
   exact ⟨fun h => a (by simpa [q] using h), fun h => b (by simpa [q] using h)⟩
theorem qsk {l : List Str} {v : Str} (h : l.length ≤ 1000000000) : JE l v = some (decide (v ∈ l)) := by
 obtain ⟨a, b⟩ := qm4 v l 0
 unfold JE JbG
 rw [qap (by simp only [qa3]; omega)]
 by_cases q : v ∈ l
 ·obtain ⟨k, hk⟩ := a q
  rw [hk, qtc, decide_eq_true q]
  show some (decide ((k : Int) ≥ 0)) = _
  rw [decide_eq_true (by omega)]
 ·rw [b q, decide_eq_false q]; rfl
def hop : List Str := [([99, 111, 110, 110, 101, 99, 116, 105, 111, 110] : Str), ([107, 101, 101, 112, 45, 97, 108, 105, 118, 101] : Str), ([112, 114, 111, 120, 121, 45, 99, 111, 110, 110, 101, 99, 116, 105, 111, 110] : Str), ([112, 114, 111, 120, 121, 45, 97, 117, 116, 104, 101, 110, 116, 105, 99, 97, 116, 101] : Str), ([112, 114, 111, 120, 121, 45, 97, 117, 116, 104, 111, 114, 105, 122, 97, 116, 105, 111, 110] : Str), ([116, 101] : Str), ([116, 114, 97, 105, 108, 101, 114] : Str), ([116, 114, 97, 110, 115, 102, 101, 114, 45, 101, 110, 99, 111, 100, 105, 110, 103] : Str), ([117, 112, 103, 114, 97, 100, 101] : Str)]
def qrp : Str := [99, 111, 110, 110, 101, 99, 116, 105, 111, 110]
noncomputable def qsx (n : Nat) (f : List Fd) : List Str := hop ++ (vls f qrp).flatMap (els n)
noncomputable def strp (n : Nat) (f : List Fd) : List Fd := f.filter fun x => decide (low x.Name ∉ qsx n f)
theorem qii {t : List Str} (ht : t.length ≤ 1000000000) : ∀ (f : List Fd) (i : Nat) (y : List Fd), FOK f.length f → y.length + f.length ≤ 1000000 → JaR t f i y = some (y ++ f.filter fun x => decide (low x.Name ∉ t))
 | [], i, y, _, _ => by rw [JaR]; simp
 | x :: f, i, y, h, hy => by
  simp only [List.length_cons] at hy
  have hx := (h.b x (by simp)).1
  rw [JaR, qe6 (by omega), qtc, qsk ht, qtc, List.filter_cons]
  by_cases q : low x.Name ∈ t
  ·rw [qtd (by simpa using q), qtd (by simpa using q), qii ht f (i + 1) _ h.tail (by omega)]
  ·rw [qte (by simpa using q), qte (by simpa using q), qap (by simp only [lim, List.length_singleton]; omega), qii ht f (i + 1) _ h.tail (by simp only [List.length_append, List.length_singleton]; omega)]
   simp
theorem qpa {n k : Nat} {f : List Fd} (h : FOK k f) (hk : k ≤ 1000) (hn : 20000 ≤ n) : Jcq n f = some (strp n f) := by
 have h0 := h.n
 have vl := qj9 f qrp
 obtain ⟨a, b⟩ := qih hn (vls f qrp) 0 hop (fun x hx => qqg h hx) (by show 9 + _ ≤ _; omega)
 unfold Jcq
 rw [qo9 h (by omega) (by simp), show low ([99, 111, 110, 110, 101, 99, 116, 105, 111, 110] : Str) = qrp from by decide, qtc, qap (by simp only [qa3]; omega)]
 show ((Jaw n (vls f qrp) 0 hop).bind _) = _
 rw [a, qtc, qap (by simp only [qa3]; omega), qii (by show (hop ++ _).length ≤ _; rw [List.length_append]; show 9 + _ ≤ _; omega) f 0 [] h.self (by simp; omega)]
 rfl
def cut7 : List Str := [([104, 111, 115, 116] : Str), ([114, 97, 110, 103, 101] : Str), ([105, 102, 45, 114, 97, 110, 103, 101] : Str), ([105, 102, 45, 109, 97, 116, 99, 104] : Str), ([105, 102, 45, 110, 111, 110, 101, 45, 109, 97, 116, 99, 104] : Str), ([105, 102, 45, 109, 111, 100, 105, 102, 105, 101, 100, 45, 115, 105, 110, 99, 101] : Str), ([105, 102, 45, 117, 110, 109, 111, 100, 105, 102, 105, 101, 100, 45, 115, 105, 110, 99, 101] : Str)]
theorem qrq {k : Nat} (hk : k ≤ 1000) : ∀ (m i : Nat) (y : List Fd), m + i = 7 → FOK k y → tenant_upstream_L0 m i y = some (y.filter fun x => decide (low x.Name ∉ cut7.drop i))
 | 0, i, y, hm, h => by
  have : i = 7 := by omega
  subst this
  rw [tenant_upstream_L0, show cut7.drop 7 = [] from rfl]
  exact congrArg some (List.filter_eq_self.2 fun x _ => by simp).symm
 | m + 1, i, y, hm, h => by
  have hi : i < cut7.length := by show i < 7; omega
  have hw : ∀ w ∈ cut7, low w = w ∧ w.length ≤ 1000 := by decide
  have hd := List.drop_eq_getElem_cons hi
  have hm2 := hw _ (List.getElem_mem hi)
  rw [tenant_upstream_L0]
  show ((ix cut7 (i : Int)).bind _) = _
  rw [show ix cut7 (i : Int) = some cut7[i] from by unfold ix; rw [qte (by omega), Int.toNat_natCast, List.getElem?_eq_getElem hi], qtc, qta h (by omega) (by omega), qtc, hm2.1, qrq hk m (i + 1) (rmv cut7[i] y) (by omega) (h.filter _), hd]
  unfold rmv
  rw [List.filter_filter]
  congr 1
  apply List.filter_congr
  intro x _
  generalize cut7[i] = w
  generalize cut7.drop (i + 1) = L
  by_cases q1 : low x.Name = w <;> by_cases q2 : low x.Name ∈ L <;> simp [q1, q2]
def quay : Str := [113, 117, 97, 121, 45]
def isq (x : Fd) : Bool := decide (quay.length ≤ x.Name.length) && decide ((low x.Name).take 5 = quay)
theorem qpb {x : Fd} (h : x.Name.length ≤ 10000) : qbh x = some (isq x) := by
 unfold qbh Jak J8 isq
 rw [qm1 (by omega), qtc]
 have ql : quay.length = 5 := rfl
 by_cases q : 5 ≤ x.Name.length
 ·rw [qte (by rw [decide_eq_true_eq, qfj]; simp; omega), qap (by rw [qfj]; simp; omega)]
  have e : decide (quay.length ≤ x.Name.length) = true := decide_eq_true (by rw [ql]; exact q)
  rw [e, Bool.true_and]
  simp only [qtc]
  rfl
 ·rw [qtd (by rw [decide_eq_true_eq, qfj]; simp; omega), decide_eq_false (by rw [ql]; exact q)]; rfl
theorem tidxf_L0 : ∀ (l : List Fd) (i : Nat), (∀ x ∈ l, x.Name.length ≤ 10000) → (Jw l i = some (Fl.go ()) ∧ ∀ x ∈ l, isq x = false) ∨ ∃ a x b, l = a ++ x :: b ∧ (∀ y ∈ a, isq y = false) ∧ isq x = true ∧ Jw l i = some (Fl.ret ((i + a.length : Nat) : Int))
 | [], i, _ => .inl ⟨rfl, fun x h => by cases h⟩
 | x :: l, i, h => by
  rw [Jw, qpb (h x (by simp)), qtc]
  cases q : isq x with
  | true => exact .inr ⟨[], x, l, rfl, fun y hy => (by cases hy), q, by rw [qte rfl]; simp⟩
  | false =>
   rw [qtd (by simp)]
   rcases tidxf_L0 l (i + 1) (fun y hy => h y (by simp [hy])) with ⟨h1, h2⟩ | ⟨a, z, b, h1, h2, h3, h4⟩
   ·exact .inl ⟨h1, fun y hy => by rcases List.mem_cons.1 hy with rfl | hy; exact q; exact h2 y hy⟩
   ·exact .inr ⟨x :: a, z, b, by rw [h1]; rfl, fun y hy => by rcases List.mem_cons.1 hy with rfl | hy; exact q; exact h2 y hy, h3, by rw [h4, List.length_cons]; congr 3; omega⟩
def kq (x : Fd) : Bool := !isq x
theorem qkd {l : List Fd} (hl : l.length ≤ 100000) (hb : ∀ x ∈ l, x.Name.length ≤ 10000) : ∀ (c fuel i j : Nat) (d : List Fd), j + c = l.length → c < fuel → i ≤ j → d.length = l.length → d.take i = (l.take j).filter kq → d.drop j = l.drop j →
  ∃ (i' : Nat) (d' : List Fd), Jt l fuel (i : Int) (j : Int) d = some ((i' : Int), (l.length : Int), d') ∧ i' ≤ l.length ∧ d'.length = l.length ∧ d'.take i' = l.filter kq
 | 0, fuel + 1, i, j, d, hj, hc, hi, hd, ht, hr => by
  rw [Jt, qtd (by simp; omega)]
  refine ⟨i, d, by rw [show (j : Int) = (l.length : Int) from by omega], by omega, hd, ?_⟩
  rw [ht, List.take_of_length_le (by omega)]
 | c + 1, fuel + 1, i, j, d, hj, hc, hi, hd, ht, hr => by
  have hjl : j < l.length := by omega
  have hjd : j < d.length := by omega
  have h1 : d[j]? = some l[j] := by
   have := congrArg List.head? hr
   rw [List.head?_drop, List.head?_drop, List.getElem?_eq_getElem hjl] at this; exact this
  have hx : ix d (j : Int) = some l[j] := by unfold ix; rw [qte (by omega)]; simpa using h1
  have hr2 : d.drop (j + 1) = l.drop (j + 1) := by
   have := congrArg (List.drop 1) hr
   rwa [List.drop_drop, List.drop_drop] at this
  have htk : (l.take (j + 1)).filter kq = (l.take j).filter kq ++ [l[j]].filter kq := by rw [List.take_succ_eq_append_getElem hjl, List.filter_append]
  have e1 : ((j : Int) + 1) = ((j + 1 : Nat) : Int) := by omega
  have e2 : ((i : Int) + 1) = ((i + 1 : Nat) : Int) := by omega
  rw [Jt, qte (by simp; omega), hx, qtc, qpb (hb _ (List.getElem_mem hjl)), qtc]
  cases k : isq l[j] with
  | true =>
   have hk : kq l[j] = false := by simp [kq, k]
   rw [qtd (by simp), qap (by constructor <;> omega), e1]
   exact qkd hl hb c fuel i (j + 1) d (by omega) (by omega) (by omega) hd (by rw [htk, ht]; simp [hk]) hr2
  | false =>
   have hk : kq l[j] = true := by simp [kq, k]
   obtain ⟨w, hw⟩ : ∃ w, ix d (i : Int) = some w := qro (by omega) (by omega)
   rw [qte (by simp), hw, qtc, qap (by constructor <;> omega), qap (by constructor <;> omega), e1, e2, show ((i : Int)).toNat = i from rfl]
   refine qkd hl hb c fuel (i + 1) (j + 1) (d.set i l[j]) (by omega) (by omega) (by omega) (by rw [List.length_set]; exact hd) ?_ ?_
   ·rw [htk, ← ht, List.take_succ_eq_append_getElem (by rw [List.length_set]; omega), List.take_set_of_le (Nat.le_refl i)]
    simp [hk]
   ·rw [List.drop_set_of_lt (by omega)]; exact hr2
theorem qtb {n : Nat} {l : List Fd} (hn : 20000 ≤ n) (hl : l.length ≤ 10000) (hb : ∀ x ∈ l, x.Name.length ≤ 10000) : JM n l = some (l.filter kq) := by
 unfold JM JZ
 rw [qap (by simp only [qa3]; omega)]
 rcases tidxf_L0 l 0 hb with ⟨h1, h2⟩ | ⟨a, x, b, h1, h2, h3, h4⟩
 ·rw [h1, List.filter_eq_self.2 fun x hx => by unfold kq; rw [h2 x hx]; rfl]
  rfl
 ·rw [h4, qtc]
  show ((some ((0 + a.length : Nat) : Int)).bind _) = _
  have hal : a.length < l.length := by rw [h1]; simp
  rw [qtc, qtd (by rw [decide_eq_true_eq]; omega), qap (by constructor <;> omega), Nat.zero_add, show ((a.length : Int) + 1) = ((a.length + 1 : Nat) : Int) from by omega]
  obtain ⟨i', d', hr, q1, q2, q3⟩ := qkd (l := l) (by omega) hb (l.length - (a.length + 1)) n a.length (a.length + 1) l (by omega) (by omega) (by omega) rfl (by
   have e1 : l.take a.length = a := by rw [h1]; simp
   have e2 : l.take (a.length + 1) = a ++ [x] := by rw [h1, show a ++ x :: b = (a ++ [x]) ++ b from by simp, List.take_append_of_le_length (by simp), List.take_of_length_le (by simp)]
   rw [e1, e2, List.filter_append, List.filter_eq_self.2 fun y hy => by unfold kq; rw [h2 y hy]; rfl]
   simp [kq, h3]) rfl
  rw [hr, qtc]
  have hcl : (SL.clr d' i' (⟨([] : Str), ([] : Str)⟩ : Fd)).length = l.length := by unfold SL.clr; simp; omega
  rw [qap (by simp only; omega)]
  show ((chk (0 ≤ (0 : Int) ∧ (0 : Int) ≤ (i' : Int) ∧ (i' : Int) ≤ ((SL.clr d' i' (⟨([] : Str), ([] : Str)⟩ : Fd)).length : Int))).bind fun _ => some (subL (SL.clr d' i' (⟨([] : Str), ([] : Str)⟩ : Fd)) (0 : Int) (i' : Int))) = _
  rw [qap (by rw [hcl]; omega)]
  have e3 : subL (SL.clr d' i' (⟨([] : Str), ([] : Str)⟩ : Fd)) (0 : Int) (i' : Int) = d'.take i' := by
   unfold subL SL.clr
   rw [show ((0 : Int)).toNat = 0 from rfl, List.drop_zero, show ((i' : Int) - 0).toNat = i' from by omega, List.take_append_of_le_length (by simp; omega), List.take_of_length_le (by simp; omega)]
  rw [e3, q3]
def qjd (x : Fd) : Bool := decide (low x.Name ∉ cut7) && kq x
def qql : List Fd → List Fd → List Fd
 | f, [] => f
 | f, x :: h => qql (setQ (low x.Name) x.Value f) h
noncomputable def ups (n : Nat) (f h : List Fd) : List Fd := qql ((strp n f).filter qjd) h
theorem qrr : ∀ (h : List Fd) (i : Nat) (y : List Fd) (k : Nat), FOK k y → k + h.length ≤ 100000 → FOK h.length h → tenant_upstream_L2 h i y = some (qql y h)
 | [], i, y, k, _, _, _ => by rw [tenant_upstream_L2, qql]
 | x :: h, i, y, k, hy, hk, hh => by
  simp only [List.length_cons] at hk
  have hx := hh.b x (by simp)
  rw [tenant_upstream_L2, qsw hy (by omega) (by omega), qtc, qql]
  exact qrr h (i + 1) _ (k + 1) (hy.setQ (by rw [qfj]; exact hx.1) hx.2) (by omega) hh.tail
theorem tup {n k : Nat} {f h : List Fd} (hf : FOK k f) (hk : k ≤ 1000) (hn : 20000 ≤ n) (hh : FOK 10000 h) : qby n f h = some (ups n f h) := by
 have hs : FOK k (strp n f) := hf.filter _
 have h7 : FOK k ((strp n f).filter fun x => decide (low x.Name ∉ cut7)) := hs.filter _
 have n7 := h7.n
 have hhn := hh.n
 unfold qby
 rw [qpa hf hk hn, qtc, qap (by constructor <;> omega), show ((7 : Int)).toNat = 7 from rfl, qrq hk 7 0 (strp n f) rfl hs, qtc, List.drop_zero, qtb hn (by omega) (fun x hx => (h7.b x hx).1), qtc, qap (by simp only [qa3]; omega), List.filter_filter, qrr h 0 _ k (hs.filter _) (by omega) hh.self]
 rw [show ups n f h = qql ((strp n f).filter qjd) h from rfl, show ((strp n f).filter fun a => kq a && decide (low a.Name ∉ cut7)) = (strp n f).filter qjd from List.filter_congr fun x _ => by unfold qjd; rw [Bool.and_comm]]
 rfl
theorem qpc : ∀ (s : Str) (i : Nat), ∃ f, syntax_Token_L0 s i = some f ∧ (f = .go () ∨ f = .ret false)
 | [], i => ⟨_, rfl, .inl rfl⟩
 | c :: s, i => by
  rw [syntax_Token_L0]
  have e : ∃ b, qcr c = some b := by
   revert c; exact qgv (by unfold qcr; decide +kernel)
  obtain ⟨b, hb⟩ := e
  rw [hb, qtc]
  exact qig (fun _ => ⟨_, rfl, .inr rfl⟩) fun _ => qpc s (i + 1)
theorem qpd : ∀ (s : Str) (i : Nat), ∃ f, JaY s i = some f ∧ (f = .go () ∨ f = .ret true)
 | [], i => ⟨_, rfl, .inl rfl⟩
 | c :: s, i => by
  rw [JaY]
  have e1 : ∃ b, (if decide ((c.toNat : Int) < 32) = true then some (decide ((c.toNat : Int) ≠ 9)) else some false) = some b := by split <;> exact ⟨_, rfl⟩
  obtain ⟨b, hb⟩ := e1
  have e2 : ∃ d, (if b = true then some true else some (decide ((c.toNat : Int) = 127))) = some d := by split <;> exact ⟨_, rfl⟩
  obtain ⟨d, hd⟩ := e2
  rw [hb, qtc, hd, qtc]
  exact qig (fun _ => ⟨_, rfl, .inr rfl⟩) fun _ => qpd s (i + 1)
theorem qog {s : Str} (h : s.length ≤ 10000) : ∃ e, Jc7 s = some e := by
 unfold Jc7 qc9
 obtain ⟨f, hf, hf2⟩ := qpc s 0
 obtain ⟨b, hb⟩ : ∃ b, ((f.el some fun t0 => some (decide (s ≠ ([] : Str)))) : Option Bool) = some b := by rcases hf2 with rfl | rfl <;> exact ⟨_, rfl⟩
 rw [qap (by simp only [qa3]; omega), hf, qtc, hb, qtc, qe6 (by omega)]
 repeat' split
 all_goals exact ⟨_, rfl⟩
theorem qm5 {s : Str} (h : s.length ≤ 10000) : ∃ e, JcI s = some e := by
 unfold JcI Jc2
 obtain ⟨f, hf, hf2⟩ := qpd s 0
 obtain ⟨r, hr, _⟩ := qif (s := s) (by omega)
 obtain ⟨b, hb⟩ : ∃ b, ((f.el some fun t0 => some false) : Option Bool) = some b := by rcases hf2 with rfl | rfl <;> exact ⟨_, rfl⟩
 rw [qap (by simp only [qa3]; omega), hf, qtc, hb, qtc, hr, qtc]
 repeat' split
 all_goals exact ⟨_, rfl⟩
theorem qln {x : Fd} (h : x.Name.length ≤ 10000 ∧ x.Value.length ≤ 10000) : ∃ e, Jda x = some e := by
 obtain ⟨a, ha⟩ := qog h.1
 obtain ⟨b, hb⟩ := qm5 h.2
 unfold Jda
 rw [ha, qtc, hb, qtc]
 repeat' split
 all_goals exact ⟨_, rfl⟩
theorem qk8 : ∀ (l : List Fd) (i : Nat), (∀ x ∈ l, x.Name.length ≤ 10000 ∧ x.Value.length ≤ 10000) → ∃ f, Jbr l i = some f
 | [], i, _ => ⟨_, rfl⟩
 | x :: l, i, h => by
  obtain ⟨e, he⟩ := qln (h x (by simp))
  rw [Jbr, he, qtc]
  split
  ·exact ⟨_, rfl⟩
  ·exact qk8 l (i + 1) fun y hy => h y (by simp [hy])
theorem qm6 {k : Nat} {f : List Fd} (h : FOK k f) (hk : k ≤ 1000) : ∃ e, Jdb f = some e := by
 obtain ⟨r, hr⟩ := qk8 f 0 h.b
 have := h.n
 unfold Jdb
 split
 ·exact ⟨_, rfl⟩
 ·rw [qap (by simp only [qa3]; omega), hr, qtc]
  cases r <;> exact ⟨_, rfl⟩
theorem qpe : ∀ (f : List Fd) (i : Nat) (y : Int), ∃ t, Ja3 f i y = some t
 | [], i, y => ⟨_, rfl⟩
 | x :: f, i, y => qpe f (i + 1) _
theorem qpf : ∀ (f : List JK) (i : Nat) (y : Int), ∃ t, Ja4 f i y = some t
 | [], i, y => ⟨_, rfl⟩
 | x :: f, i, y => qpf f (i + 1) _
theorem qpg : ∀ (f : List Fd) (i : Nat) (y : Int), (∀ x ∈ f, x.Name.length ≤ qa3 ∧ x.Value.length ≤ qa3) → 0 ≤ y → y + 281474976702464 * f.length ≤ 4611686018427387904 → ∃ t, Ja3 f i y = some t ∧ y ≤ t ∧ t ≤ y + 281474976702464 * f.length ∧ ∀ x ∈ f, (x.Name.length : Int) + x.Value.length ≤ t - y
 | [], i, y, _, _, _ => ⟨_, rfl, Int.le_refl _, by simp, fun x hx => by cases hx⟩
 | x :: f, i, y, h, h0, h1 => by
  have hx := h x (by simp)
  simp only [qa3, List.length_cons] at hx h1 ⊢
  have e : IntKind.i64.wrap (y + IntKind.i64.wrap ((x.Name.length : Int) + (x.Value.length : Int))) = y + ((x.Name.length : Int) + (x.Value.length : Int)) := by
   rw [qdh (show InK .i64 ((x.Name.length : Int) + (x.Value.length : Int)) by simp only [InK]; omega), qdh (by simp only [InK]; omega)]
  obtain ⟨t, t1, t2, t3, t4⟩ := qpg f (i + 1) (y + ((x.Name.length : Int) + (x.Value.length : Int))) (fun z hz => h z (by simp [hz])) (by omega) (by omega)
  refine ⟨t, by rw [Ja3, e, t1], by omega, by omega, fun z hz => ?_⟩
  rcases List.mem_cons.1 hz with rfl | hz
  ·omega
  ·have := t4 z hz; omega
theorem qph : ∀ (f : List JK) (i : Nat) (y : Int), (∀ x ∈ f, x.An.length ≤ qa3 ∧ x.Program.length ≤ qa3) → 0 ≤ y → y + 281474976702464 * f.length ≤ 4611686018427387904 → ∃ t, Ja4 f i y = some t ∧ y ≤ t ∧ ∀ x ∈ f, (x.An.length : Int) + x.Program.length ≤ t - y
 | [], i, y, _, _, _ => ⟨_, rfl, Int.le_refl _, fun x hx => by cases hx⟩
 | x :: f, i, y, h, h0, h1 => by
  have hx := h x (by simp)
  simp only [qa3, List.length_cons] at hx h1
  have e : IntKind.i64.wrap (y + IntKind.i64.wrap ((x.An.length : Int) + (x.Program.length : Int))) = y + ((x.An.length : Int) + (x.Program.length : Int)) := by
   rw [qdh (show InK .i64 ((x.An.length : Int) + (x.Program.length : Int)) by simp only [InK]; omega), qdh (by simp only [InK]; omega)]
  obtain ⟨t, t1, t2, t4⟩ := qph f (i + 1) (y + ((x.An.length : Int) + (x.Program.length : Int))) (fun z hz => h z (by simp [hz])) (by omega) (by omega)
  refine ⟨t, by rw [Ja4, e, t1], by omega, fun z hz => ?_⟩
  rcases List.mem_cons.1 hz with rfl | hz
  ·omega
  ·have := t4 z hz; omega
structure Small (l : List JK) (r : JA) : Prop where
 t : r.Target.length ≤ 8000
 f : FOK 40 r.Ao
 n : l.length ≤ 8
 s : ∀ x ∈ l, x.An.length ≤ 8000 ∧ x.Program.length ≤ 8000
theorem qoh {l : List JK} {r : JA} (hl : l.length ≤ qa3) (hl2 : ∀ x ∈ l, x.An.length ≤ qa3 ∧ x.Program.length ≤ qa3) (hr : r.Target.length ≤ qa3 ∧ r.Ao.length ≤ qa3 ∧ ∀ x ∈ r.Ao, x.Name.length ≤ qa3 ∧ x.Value.length ≤ qa3) : ∃ b, Jc9 l r = some b ∧ (b = false → Small l r) := by
 obtain ⟨ht, hf, hf2⟩ := hr
 unfold Jc9
 obtain ⟨t0, h0⟩ := qpe r.Ao 0 (r.Target.length : Int)
 obtain ⟨t2, h2⟩ := qpf l 0 t0
 rw [qap hf, h0, qtc, qap hl, h2, qtc]
 refine ⟨_, rfl, fun hb => ?_⟩
 simp only [Bool.or_eq_false_iff, decide_eq_false_iff_not] at hb
 obtain ⟨⟨b1, b2⟩, b3⟩ := hb
 have ht' := ht
 simp only [qa3] at ht'
 obtain ⟨u0, v0, v1, v2, v3⟩ := qpg r.Ao 0 (r.Target.length : Int) hf2 (by omega) (by omega)
 have e0 : u0 = t0 := by rw [h0] at v0; exact (Option.some.inj v0).symm
 subst e0
 obtain ⟨u2, w0, w1, w2⟩ := qph l 0 u0 hl2 (by omega) (by omega)
 have e2 : u2 = t2 := by rw [h2] at w0; exact (Option.some.inj w0).symm
 subst e2
 exact ⟨by omega, ⟨by omega, fun x hx => by have := v3 x hx; omega⟩, by omega, fun x hx => by have := w2 x hx; omega⟩
theorem qk9 : ∀ (r p : List Str), JbM (p ++ r) r p.length = some (Fl.go ())
 | [], p => rfl
 | x :: r, p => by
  have ih := qk9 r (p ++ [x])
  rw [JbM, qmt, qtc, qtd (by simp)]
  simpa using ih
theorem qhs {l : List Str} (h : l.length ≤ qa3) : Jc8 l l = some true := by
 have := qk9 l []
 unfold Jc8
 rw [qtd (by simp), qap h]
 rw [List.nil_append, List.length_nil] at this
 rw [this]; rfl
end Tn
