import Derived.Test.YtmpdebfckeahmaaGreatDoorRtAll
set_option linter.unusedVariables false
set_option linter.unusedSimpArgs false
open Go Go.SL Go.Proofs Pl
namespace Vary
abbrev RF := Jq
abbrev FF := Jj
def lowB (c : UInt8) : UInt8 := if (decide ((c.toNat : Int) ≥ 65) && decide ((c.toNat : Int) ≤ 90)) then c + 32 else c
def low (s : Str) : Str := s.map lowB
theorem qtp {α : Type} (p r : List α) (c : α) : ix (p ++ c :: r) (p.length : Int) = some c := by
 unfold ix
 rw [qA1 (by omega)]
 simp
theorem qpy {α : Type} (p r : List α) (c v : α) : (p ++ c :: r).set (((p.length : Nat) : Int).toNat) v = (p ++ [v]) ++ r := by
 simp [List.set_append]
theorem qjw : ∀ (r p : Str), Ja6 r.length p.length (p ++ r) = some (p ++ low r)
 | [], p => by simp [Ja6, low]
 | c :: r, p => by
  rw [List.length_cons, Ja6, qtp, qAz]
  have ih := qjw r (p ++ [lowB c])
  simp only [List.length_append, List.length_cons, List.length_nil, Nat.zero_add] at ih
  have e : p ++ low (c :: r) = p ++ [lowB c] ++ low r := by simp [low]
  split
  ·rename_i h
   rw [qAz, qpy, e]
   rw [show c + 32 = lowB c from by unfold lowB; rw [qA1 h]]
   exact ih
  ·rename_i h
   rw [e, show p ++ c :: r = p ++ [lowB c] ++ r from by unfold lowB; rw [qA0 h]; simp]
   exact ih
theorem qh5 {s : Str} (h : s.length ≤ 1073741824) : JbN s = some (low s) := by
 unfold JbN
 rw [qaa (by simp only [lim]; omega), qaa (by constructor <;> omega)]
 have := qjw s []
 simp only [List.nil_append, List.length_nil] at this
 rw [show ((s.length : Int)).toNat = s.length from by omega, this]; rfl
theorem qjx : ∀ (s : Str) (i : Nat) (y : Str), y.length + s.length ≤ 1073741824 → JbT s i y = some (y ++ low s)
 | [], i, y, h => by simp [JbT, low]
 | c :: r, i, y, h => by
  simp only [List.length_cons] at h
  have ih := qjx r (i + 1) (y ++ [lowB c]) (by simp <;> omega)
  have e : y ++ low (c :: r) = y ++ [lowB c] ++ low r := by simp [low]
  rw [JbT, e, ← ih]
  split
  ·rename_i k
   rw [qaa (by simp only [lim, List.length_cons, List.length_nil]; omega)]
   rw [show c + 32 = lowB c from by unfold lowB; rw [qA1 k]]
  ·rename_i k
   rw [qaa (by simp only [lim, List.length_cons, List.length_nil]; omega)]
   rw [show lowB c = c from by unfold lowB; rw [qA0 k]]
theorem qmn {s : Str} (h : s.length ≤ 536870912) : Jcf s = some (low s) := by
 unfold Jcf
 rw [qaa (by simp only [qau]; omega), qjx s 0 [] (by simp <;> omega)]; rfl
def ffs (f : List RF) : List FF := f.map fun x => ⟨x.Name, x.Value⟩
def vals (f : List RF) (n : Str) : List Str := (f.filter fun x => decide (low x.Name = low n)).map (·.Value)
def tot (f : List RF) : Nat := (f.map fun x => x.Name.length + x.Value.length + 2).sum
theorem qe6 (x : RF) (f : List RF) : tot (x :: f) = x.Name.length + x.Value.length + 2 + tot f := by simp [tot]
theorem qg8 : ∀ (f : List RF), f.length ≤ tot f
 | [] => Nat.zero_le _
 | x :: f => by have := qg8 f; rw [qe6, List.length_cons]; omega
theorem qg9 (x : RF) (f : List RF) (n : Str) : vals (x :: f) n = (if decide (low x.Name = low n) then [x.Value] else []) ++ vals f n := by
 unfold vals
 by_cases h : low x.Name = low n
 ·simp [h]
 ·simp [h]
theorem qpz {n : Str} : ∀ (f : List RF) (i : Nat) (y : List Str), tot f ≤ 1000000 → y.length + f.length ≤ 1073741824 → Jbo (low n) (ffs f) i y = some (y ++ vals f n)
 | [], i, y, _, _ => by simp [ffs, Jbo, vals]
 | x :: f, i, y, h, hy => by
  rw [qe6] at h
  simp only [List.length_cons] at hy
  have ih := qpz (n := n) f (i + 1) (y ++ (if decide (low x.Name = low n) then [x.Value] else [])) (by omega) (by split <;> simp <;> omega)
  rw [List.append_assoc, ← qg9] at ih
  rw [← ih]
  show Jbo (low n) (⟨x.Name, x.Value⟩ :: ffs f) i y = _
  rw [Jbo, qh5 (by show x.Name.length ≤ _; omega), qAz]
  by_cases k : low x.Name = low n
  ·rw [qA1 (by simpa using k), qA1 (by simpa using k), qaa (by simp only [lim, List.length_cons, List.length_nil]; omega)]
  ·rw [qA0 (by simpa using k), qA0 (by simpa using k), List.append_nil]
theorem qAt {f : List RF} {n : Str} (h : tot f ≤ 1000000) (hn : n.length ≤ 1000000) : Jdy (ffs f) n = some (vals f n) := by
 have := qg8 f
 unfold Jdy
 rw [qh5 (by omega), qAz, qaa (by simp only [ffs, List.length_map, qau]; omega), qpz f 0 [] h (by simp <;> omega)]; rfl
theorem qp0 {n : Str} (hn : n.length ≤ 1000000) : ∀ (f : List RF) (i : Nat) (y : List Str), tot f ≤ 1000000 → y.length + f.length ≤ 1073741824 → Jcj n f i y = some (y ++ vals f n)
 | [], i, y, _, _ => by simp [Jcj, vals]
 | x :: f, i, y, h, hy => by
  rw [qe6] at h
  simp only [List.length_cons] at hy
  have ih := qp0 hn f (i + 1) (y ++ (if decide (low x.Name = low n) then [x.Value] else [])) (by omega) (by split <;> simp <;> omega)
  rw [List.append_assoc, ← qg9] at ih
  rw [← ih, Jcj]
  unfold JeK
  rw [qmn (by omega), qAz, qmn (by omega), qAz, qAz]
  by_cases k : low x.Name = low n
  ·rw [qA1 (by simpa using k), qA1 (by simpa using k), qaa (by simp only [lim, List.length_cons, List.length_nil]; omega)]
  ·rw [qA0 (by simpa using k), qA0 (by simpa using k), List.append_nil]
theorem qAu {f : List RF} {n : Str} (h : tot f ≤ 1000000) (hn : n.length ≤ 1000000) : JeQ f n = some (vals f n) := by
 have := qg8 f
 unfold JeQ
 rw [qaa (by simp only [qau]; omega), qp0 hn f 0 [] h (by simp <;> omega)]; rfl
def isB (c : UInt8) : Bool := decide ((c.toNat : Int) = 32) || decide ((c.toNat : Int) = 9)
def cl (c : UInt8) : UInt8 := if (decide ((c.toNat : Int) < 32) || decide ((c.toNat : Int) = 127)) then 63 else c
def rel (y : Str) (b : Bool) : Str := if (b && decide ((y.length : Int) > 0)) then y ++ [32] else y
def nst (p : Str × Bool) (c : UInt8) : Str × Bool := if isB c then (p.1, true) else (rel p.1 p.2 ++ [cl c], false)
def qAv (s : Str) : Str := (s.foldl nst ([], false)).1
structure Inv (y : Str) : Prop where
 hd : ∀ a r, y = a :: r → isB a = false
 lt : ∀ r z, y = r ++ [z] → isB z = false
theorem qxr {c : UInt8} (h : isB c = false) : isB (cl c) = false := by
 unfold cl; split
 ·decide
 ·exact h
theorem qsa {y : Str} {b : Bool} (h : y ≠ []) : ∃ r, rel y b = y ++ r := by
 unfold rel; split
 ·exact ⟨_, rfl⟩
 ·exact ⟨[], by simp⟩
theorem Inv.step {y : Str} {b : Bool} {c : UInt8} (h : Inv y) (hc : isB c = false) : Inv (rel y b ++ [cl c]) := by
 refine ⟨fun a r e => ?_, fun r z e => ?_⟩
 ·cases y with
  | nil =>
   have : rel [] b = [] := by unfold rel; simp
   rw [this] at e
   simp at e
   rw [← e.1]; exact qxr hc
  | cons x y =>
   obtain ⟨q, hq⟩ := qsa (y := x :: y) (b := b) (by simp)
   rw [hq] at e
   simp at e
   exact e.1 ▸ h.hd x y rfl
 ·have := List.append_inj' e rfl
  simp at this
  rw [← this.2]; exact qxr hc
theorem Inv.nil : Inv [] := ⟨fun a r e => absurd e (by simp), fun r z e => absurd e (by simp)⟩
abbrev jn := Go.Lib.join
abbrev jt := Go.Lib.joinTail
theorem qp1 (sep x : Str) (r : List Str) : jt sep (x :: r) = sep ++ x ++ jt sep r := by simp [jt, Go.Lib.joinTail]
theorem qtq (sep : Str) : jt sep [] = [] := rfl
theorem qk7 (sep x : Str) (r : List Str) : jn (x :: r) sep = x ++ jt sep r := Go.Lib.join_cons x r sep
theorem qxs (sep : Str) : jn [] sep = [] := Go.Lib.join_nil sep
def qn6 (l : List Str) : Nat := (l.map fun x => x.length + 1).sum
theorem qe7 (x : Str) (l : List Str) : qn6 (x :: l) = x.length + 1 + qn6 l := by simp [qn6]
theorem qmo : qn6 [] = 0 := rfl
theorem qgb : ∀ (l : List Str), l.length ≤ qn6 l
 | [] => Nat.zero_le _
 | x :: l => by have := qgb l; rw [qe7, List.length_cons]; omega
theorem qk8 (l k : List Str) : qn6 (l ++ k) = qn6 l + qn6 k := by simp [qn6]
theorem qe8 (n : Str) : ∀ (f : List RF), qn6 (vals f n) ≤ tot f
 | [] => Nat.zero_le _
 | x :: f => by
  have := qe8 n f
  rw [qg9, qk8, qe6]
  split
  ·rw [qe7, qmo]; omega
  ·rw [qmo]; omega
def esc (c : UInt8) : Str := if (decide ((c.toNat : Int) = 34) || decide ((c.toNat : Int) = 92)) then [92, c] else [c]
def quo (s : Str) : Str := [34] ++ s.flatMap esc ++ [34]
theorem el_go {ρ σ γ : Type} {y : σ} {f : ρ → Option γ} {g : σ → Option γ} : (Fl.go y : Fl ρ σ).el f g = g y := rfl
def qAw (f : List RF) (m : Str) : Str := if vals f m = [] then m else m ++ [61] ++ quo (jn ((vals f m).map qAv) [44])
def key (names : List Str) (f : List RF) : Str := jn (names.map (qAw f)) [38]
theorem qva {l : List Str} {sep : Str} (h1 : l.length ≤ 1000000) (h2 : (jn l sep).length ≤ 1000000000) : qkp l sep = some (jn l sep) := by
 unfold qkp; rw [qA1 ⟨by simp only [lim]; omega, by show (jn l sep).length ≤ _; simp only [lim]; omega⟩]
theorem qjy : ∀ (l : List RF) (i : Nat) (y : List FF), y.length + l.length ≤ 1073741824 → Jbc l i y = some (y ++ ffs l)
 | [], i, y, _ => by simp [Jbc, ffs]
 | x :: l, i, y, h => by
  simp only [List.length_cons] at h
  have ih := qjy l (i + 1) (y ++ [⟨x.Name, x.Value⟩]) (by simp only [List.length_append, List.length_cons, List.length_nil]; omega)
  rw [Jbc, qaa (by simp only [lim, List.length_cons, List.length_nil]; omega), ih]
  simp [ffs]
theorem qp2 {l : List RF} (h : l.length ≤ 536870912) : JcD l = some (ffs l) := by
 unfold JcD
 rw [qaa (by simp only [qau]; omega), qjy l 0 [] (by simp <;> omega)]; rfl
def bl9 (c : UInt8) : Bool := ([32, 9] : Str).contains c
def rd : Str → Str
 | [] => []
 | x :: t => match rd t with
  | [] => if bl9 x = true then [] else [x]
  | y :: ys => x :: y :: ys
theorem qvb (r : Str) (z : UInt8) : rd (r ++ [z]) = if bl9 z = true then rd r else r ++ [z] := by
 induction r with
 | nil => simp [rd]
 | cons x r ih =>
  rw [List.cons_append, rd, ih]
  by_cases q : bl9 z = true
  ·rw [qA1 q, qA1 q, rd]
  ·rw [qA0 q, qA0 q]
   cases h : r ++ [z] with
   | nil => simp at h
   | cons a b => rfl
theorem qxt (s : Str) : (s.reverse.dropWhile bl9).reverse = rd s := by
 have : ∀ r : Str, rd r.reverse = (r.dropWhile bl9).reverse := fun r => by
  induction r with
  | nil => rfl
  | cons x r ih =>
   rw [List.reverse_cons, qvb, List.dropWhile_cons]
   by_cases q : bl9 x = true
   ·rw [qA1 q, qA1 q, ih]
   ·rw [qA0 q, qA0 q, List.reverse_cons]
 rw [← this, List.reverse_reverse]
theorem qxu : ∀ s : Str, (rd s).dropWhile bl9 = rd (s.dropWhile bl9)
 | [] => rfl
 | x :: t => by
  rw [rd, List.dropWhile_cons]
  by_cases q : bl9 x = true
  ·rw [qA1 q, qA1 q, ← qxu t]
   cases rd t with
   | nil => rfl
   | cons a b => simp only; rw [List.dropWhile_cons, qA1 q]
  ·rw [qA0 q, qA0 q, rd, qA0 q]
   cases rd t with
   | nil => simp only; rw [List.dropWhile_cons, qA0 q]
   | cons a b => simp only; rw [List.dropWhile_cons, qA0 q]
def trm (s : Str) : Str := rd (s.dropWhile bl9)
theorem qsb {s : Str} (h : s.length ≤ 100000000) : qkq s ([32, 9] : Str) = some (trm s) := by
 unfold qkq
 rw [qA1 ⟨by omega, by simp, by decide⟩]
 show some ((Go.Lib.trimRightS s [32, 9]).dropWhile (([32, 9] : Str).contains ·)) = _
 have e : Go.Lib.trimRightS s [32, 9] = rd s := qxt s
 rw [e]
 exact congrArg some (qxu s)
theorem tl {c : UInt8} {t : Str} : subL (c :: t) (1 : Int) (((c :: t).length : Nat) : Int) = t := by
 unfold subL
 rw [show ((1 : Int)).toNat = 1 from rfl, List.drop_succ_cons, List.drop_zero, List.take_of_length_le (by simp only [List.length_cons]; omega)]
theorem qvc : ∀ n : Fin 256, ∃ b, qbt (UInt8.ofNat n.val) = some b ∧ Jdm (UInt8.ofNat n.val) = some b := by
 have h : ∀ n : Fin 256, qbt (UInt8.ofNat n.val) = Jdm (UInt8.ofNat n.val) ∧ (qbt (UInt8.ofNat n.val)).isSome = true := by decide +kernel
 intro n
 obtain ⟨h1, h2⟩ := h n
 obtain ⟨b, hb⟩ := Option.isSome_iff_exists.1 h2
 exact ⟨b, hb, by rw [← h1, hb]⟩
theorem tch (c : UInt8) : ∃ b, qbt c = some b ∧ Jdm c = some b := by
 have := qvc ⟨c.toNat, c.toNat_lt⟩
 simpa using this
theorem qtr : ∀ (s : Str) (i j : Nat), ∃ b : Bool, syntax_Token_L0 s i = some (if b = true then Fl.go () else Fl.ret false) ∧ Jcz s j = some (if b = true then Fl.go () else Fl.ret false)
 | [], i, j => ⟨true, rfl, rfl⟩
 | c :: s, i, j => by
  obtain ⟨b, h1, h2⟩ := tch c
  rw [syntax_Token_L0, Jcz, h1, h2, qAz, qAz]
  cases b with
  | false => exact ⟨false, rfl, rfl⟩
  | true => exact qtr s (i + 1) (j + 1)
theorem tok {s : Str} (h : s.length ≤ 100000000) : ∃ b, qb1 s = some b ∧ JcT s = some b := by
 obtain ⟨b, h1, h2⟩ := qtr s 0 0
 unfold qb1 JcT
 rw [qaa (by simp only [qau]; omega), qaa (by simp only [qau]; omega), h1, h2, qAz, qAz]
 cases b with
 | false => exact ⟨false, rfl, rfl⟩
 | true =>
  refine ⟨decide (s ≠ []), rfl, ?_⟩
  simp only [if_true, el_go]
  congr 1
  apply decide_eq_decide.2
  cases s <;> simp
theorem qpo {s : Str} (h : s.length ≤ 100000000) : ∃ o : Option Str, ∃ e1 : Int, ∃ e2 : Int, e2 ≠ 0 ∧ Jcu s = some (match o with | some m => (m, none) | none => ([], some e1)) ∧ Jeq s = some (match o with | some m => (m, 0) | none => ([], e2)) := by
 obtain ⟨b, h1, h2⟩ := tok h
 unfold Jcu Jeq
 rw [h1, h2, qAz, qAz]
 cases b with
 | false => exact ⟨none, 8, 8, by omega, rfl, rfl⟩
 | true =>
  simp only [Bool.not_true, Bool.false_eq_true, if_false]
  by_cases q : (s.length : Int) > 64
  ·rw [qA1 (by simpa using q), qA1 (by simpa using q)]
   exact ⟨none, 5, 5, by omega, rfl, rfl⟩
  ·rw [qA0 (by simpa using q), qA0 (by simpa using q), qh5 (by omega), qmn (by omega)]
   exact ⟨some (low s), 0, 1, by omega, rfl, rfl⟩
theorem qcq {α : Type} {s : List α} {i : Int} (h0 : 0 ≤ i) (h1 : i < (s.length : Int)) : ∃ x, ix s i = some x := by
 unfold ix
 rw [qA1 h0]
 exact ⟨s[i.toNat]'(by omega), List.getElem?_eq_getElem (by omega)⟩
def ctl (s : Str) : Bool := s.any fun c => (decide ((c.toNat : Int) < 32) && decide ((c.toNat : Int) ≠ 9)) || decide ((c.toNat : Int) = 127)
end Vary
open Go Go.SL Go.Proofs Pl Vary
namespace Rt.Rv
def hd (p : Str) : List Str → List Str
 | [] => [p]
 | x :: r => (p ++ x) :: r
def spl (c : UInt8) : Str → List Str
 | [] => [[]]
 | b :: s => if b = c then [] :: spl c s else hd [b] (spl c s)
theorem qmp (c : UInt8) (s : Str) : spl c s ≠ [] := by
 cases s with
 | nil => simp [spl]
 | cons b s =>
  rw [spl]
  split
  ·simp
  ·cases spl c s <;> simp [hd]
theorem qts {l : List Str} (h : l ≠ []) : hd [] l = l := by
 cases l with
 | nil => exact absurd rfl h
 | cons a b => rfl
theorem qzj (p q : Str) (l : List Str) : hd p (hd q l) = hd (p ++ q) l := by cases l <;> simp [hd]
theorem qvd (c b : UInt8) (l : Str) : ([c] : Str).isPrefixOf (b :: l) = (c == b) := by simp [List.isPrefixOf]
theorem qtt (c : UInt8) (l : Str) : Go.Lib.index (c :: l) [c] = 0 := by rw [Go.Lib.index, qA1 (by simp [List.isPrefixOf])]
theorem qp3 {c b : UInt8} (h : b ≠ c) (l : Str) : Go.Lib.index (b :: l) [c] = if Go.Lib.index l [c] = -1 then -1 else Go.Lib.index l [c] + 1 := by
 have : (c == b) = false := by simp; exact fun e => h e.symm
 rw [Go.Lib.index, qvd, this]
 simp
theorem qsc {b c : UInt8} (h : b ≠ c) (k : Nat) (l : Str) : Go.Lib.splitK [c] 0 k (b :: l) = hd [b] (Go.Lib.splitK [c] 0 k l) := by
 cases k with
 | zero => rfl
 | succ k =>
  have hg := Go.Lib.index_ge l [c]
  rw [Go.Lib.splitK, Go.Lib.splitK, qp3 h]
  by_cases q : Go.Lib.index l [c] = -1
  ·rw [q]; simp [hd]
  ·rw [qA0 q]
   have e : (Go.Lib.index l [c] + 1).toNat = (Go.Lib.index l [c]).toNat + 1 := by omega
   rw [qA0 (by simp; omega), qA0 (by simpa using q), e]
   simp [hd, Nat.add_right_comm]
theorem qmq (c : UInt8) : ∀ s : Str, Go.Lib.split s [c] = spl c s
 | [] => by unfold Go.Lib.split; rw [Go.Lib.count_one]; rfl
 | b :: l => by
  have ih := qmq c l
  unfold Go.Lib.split at ih ⊢
  rw [spl]
  by_cases q : b = c
  ·subst q
   rw [qA1 rfl, Go.Lib.count_cons_eq, Nat.add_comm, Go.Lib.splitK, qtt, qA0 (by decide), ← ih]
   simp
  ·rw [qA0 q, Go.Lib.count_cons_ne b c l q, qsc q, ih]
theorem index_spl (c : UInt8) : ∀ s : Str, (Go.Lib.index s [c] = -1 ∧ spl c s = [s] ∧ c ∉ s) ∨ (∃ i : Nat, Go.Lib.index s [c] = i ∧ i < s.length ∧ spl c s = s.take i :: spl c (s.drop (i + 1)))
 | [] => .inl ⟨rfl, rfl, by simp⟩
 | b :: l => by
  by_cases q : b = c
  ·subst q
   exact .inr ⟨0, qtt _ _, by simp, by rw [spl, qA1 rfl]; simp⟩
  ·rcases index_spl c l with ⟨h1, h2, h3⟩ | ⟨i, h1, h2, h3⟩
   ·exact .inl ⟨by rw [qp3 q, qA1 h1], by rw [spl, qA0 q, h2]; rfl, by simp [h3]; exact fun e => q e.symm⟩
   ·refine .inr ⟨i + 1, by rw [qp3 q, h1, qA0 (by omega)]; omega, by simp; omega, ?_⟩
    rw [spl, qA0 q, h3]
    simp [hd]
theorem qe9 : qio = 4294967281 := rfl
theorem qjz {s : Str} (c : UInt8) (h : s.length ≤ 1000000) : qgx s [c] = some (spl c s) := by
 unfold qgx
 rw [qA1 ⟨by rw [qe9]; omega, by simp⟩, qmq]
def qnz (s : Str) : List Str := (spl 47 s).tail
theorem cut_spl (c : UInt8) (s : Str) : (Go.Lib.cut s [c] = (s, [], false) ∧ spl c s = [s]) ∨ (∃ i : Nat, i < s.length ∧ Go.Lib.cut s [c] = (s.take i, s.drop (i + 1), true) ∧ spl c s = s.take i :: spl c (s.drop (i + 1))) := by
 unfold Go.Lib.cut
 rcases index_spl c s with ⟨h1, h2, _⟩ | ⟨i, h1, h2, h3⟩
 ·left; rw [h1]; exact ⟨by simp, h2⟩
 ·right; rw [h1]; exact ⟨i, h2, by simp, h3⟩
theorem qp4 {s : Str} (h : s.length ≤ 1000000) : JbR s = some (qnz s) := by
 unfold JbR cutM qnz
 rw [qA1 (by rw [qe9]; omega), qAz]
 rcases cut_spl 47 s with ⟨h1, h2⟩ | ⟨i, h2, h1, h3⟩
 ·rw [h1, h2]; rfl
 ·rw [h1, h3, qA0 (by simp)]
  simp only
  rw [qjz 47 (by rw [List.length_drop]; omega)]; rfl
theorem qp5 {a b : UInt8} : decide ((a.toNat : Int) = (b.toNat : Int)) = decide (a = b) := by
 rw [decide_eq_decide]
 exact ⟨fun e => UInt8.toNat_inj.1 (by omega), fun e => by rw [e]⟩
theorem qp6 (q p r : Str) : subL (q ++ p ++ r) (q.length : Int) ((q ++ p).length : Int) = p := by
 unfold subL
 rw [List.append_assoc, Int.toNat_natCast, List.drop_left, List.length_append]
 have : (((q.length + p.length : Nat) : Int) - (q.length : Int)).toNat = p.length := by omega
 rw [this, List.take_left]
theorem qp7 {c : UInt8} {s : Str} (hs : s.length ≤ 1000000) : ∀ (r q p : Str) (y : List Str), s = q ++ p ++ r → y.length ≤ q.length →
  ∃ z a, Jci c s r (q ++ p).length y (q.length : Int) = some (z, a) ∧ 0 ≤ a ∧ a ≤ (s.length : Int) ∧ z.length ≤ s.length ∧ z ++ [subL s a (s.length : Int)] = y ++ hd p (spl c r)
 | [], q, p, y, e, hy => by
  have hl : s.length = (q ++ p).length := by rw [e]; simp
  have hq : q.length ≤ s.length := by rw [hl]; simp
  refine ⟨y, q.length, rfl, by omega, by omega, by omega, ?_⟩
  rw [hl, e, qp6]; simp [spl, hd]
 | b :: r, q, p, y, e, hy => by
  have hl : s.length = q.length + p.length + (r.length + 1) := by rw [e]; simp; omega
  rw [Jci, qp5]
  by_cases h : b = c
  ·subst h
   have hsub : subL s (q.length : Int) ((q ++ p).length : Int) = p := by rw [e, qp6]
   rw [qA1 (by simp), qaa (by simp only [List.length_append]; omega), hsub, qaa (by simp only [lim, List.length_cons, List.length_nil]; omega)]
   have ih := qp7 (c := b) hs r (q ++ p ++ [b]) [] (y ++ [p]) (by rw [e]; simp) (by simp; omega)
   have e1 : ((q ++ p ++ [b]) ++ ([] : Str)).length = (q ++ p).length + 1 := by simp; omega
   have e2 : (((q ++ p ++ [b]).length : Nat) : Int) = ((q ++ p).length : Int) + 1 := by simp; omega
   rw [e1, e2] at ih
   obtain ⟨z, a, h1, h2, h3, h4, h5⟩ := ih
   refine ⟨z, a, h1, h2, h3, h4, ?_⟩
   rw [h5, spl, qA1 rfl, qts (qmp _ _)]; simp [hd]
  ·rw [qA0 (by simpa using h)]
   have ih := qp7 (c := c) hs r q (p ++ [b]) y (by rw [e]; simp) hy
   have e1 : (q ++ (p ++ [b])).length = (q ++ p).length + 1 := by simp; omega
   rw [e1] at ih
   obtain ⟨z, a, h1, h2, h3, h4, h5⟩ := ih
   refine ⟨z, a, h1, h2, h3, h4, ?_⟩
   rw [h5, spl, qA0 h, qzj]
theorem qp8 {s : Str} (c : UInt8) (hs : s.length ≤ 1000000) : Jd3 s c = some (spl c s) := by
 unfold Jd3
 obtain ⟨z, a, h1, h2, h3, h4, h5⟩ := qp7 (c := c) hs s [] [] [] rfl (Nat.le_refl _)
 have h1' : Jci c s s 0 [] 0 = some (z, a) := h1
 rw [qaa (by simp only [qau]; omega), h1', qAz, qaa (by omega), qaa (by simp only [lim, List.length_cons, List.length_nil]; omega)]
 simp only
 rw [h5, qts (qmp _ _)]; rfl
theorem qxv (p : Str) {l : List Str} (h : l ≠ []) : (hd p l).length = l.length := by
 cases l with
 | nil => exact absurd rfl h
 | cons a b => rfl
theorem qha (c : UInt8) : ∀ s : Str, 1 ≤ (spl c s).length ∧ (spl c s).length ≤ s.length + 1
 | [] => by simp [spl]
 | b :: l => by
  have := qha c l
  rw [spl]
  split
  ·simp; omega
  ·rw [qxv _ (qmp _ _)]; simp; omega
theorem qk9 (c : UInt8) : ∀ (s x : Str), x ∈ spl c s → x.length ≤ s.length
 | [], x, h => by simp [spl] at h; subst h; simp
 | b :: l, x, h => by
  have ih := qk9 c l
  rw [spl] at h
  split at h
  ·rcases List.mem_cons.1 h with rfl | h
   ·simp
   ·have := ih x h; simp; omega
  ·cases e : spl c l with
   | nil => exact absurd e (qmp _ _)
   | cons a r =>
    rw [e] at h ih
    rcases List.mem_cons.1 h with rfl | h
    ·have := ih a (by simp); simp; omega
    ·have := ih x (by simp [h]); simp; omega
theorem qsd {s : Str} (hs : s.length ≤ 1000000) : Jc5 s = some (qnz s) := by
 unfold Jc5 qnz
 have h := qha 47 s
 rw [qp8 47 hs, qAz, qaa (by omega)]
 congr 1
 unfold subL
 rw [show ((1 : Int)).toNat = 1 from rfl, List.drop_one, List.take_of_length_le (by rw [List.length_tail]; omega)]
theorem qse {s x : Str} (h : x ∈ qnz s) : x.length ≤ s.length := qk9 _ _ _ (List.mem_of_mem_tail h)
theorem qmr (s : Str) : (qnz s).length ≤ s.length := by have := qha 47 s; unfold qnz; rw [List.length_tail]; omega
def argL (nm : Str) : List Str → Str
 | [] => []
 | x :: r => if Rc.hp x (nm ++ [61]) = true then x.drop (nm.length + 1) else argL nm r
def argB (nm : Str) : List Str → Bool
 | [] => false
 | x :: r => if Rc.hp x (nm ++ [61]) = true then true else argB nm r
theorem qms (x : Str) (n : Nat) : subL x ((n : Int) + 1) (x.length : Int) = x.drop (n + 1) := by
 unfold subL
 rw [show ((n : Int) + 1).toNat = n + 1 by omega, List.take_of_length_le (by rw [List.length_drop]; omega)]
theorem qtu {nm : Str} (hn : nm.length ≤ 1000000) : ∀ (l : List Str) (i : Nat), JbD nm l i = some (if argB nm l = true then Fl.ret (argL nm l, true) else Fl.go ())
 | [], i => rfl
 | x :: l, i => by
  have hpx : JS x (nm ++ ([61] : Str)) = some (Rc.hp x (nm ++ [61])) := by rw [qew, Rc.hp_eq]
  rw [JbD, qaa (by simp only [lim, List.length_cons, List.length_nil]; omega), hpx, qAz, argL, argB]
  by_cases q : Rc.hp x (nm ++ [61]) = true
  ·have hl : nm.length + 1 ≤ x.length := by
    have := q; unfold Rc.hp at this; simp at this; omega
   rw [qA1 q, qA1 q, qA1 q, qaa (by constructor <;> omega), qaa (by omega), qms]; rfl
  ·rw [qA0 q, qA0 q, qA0 q, qtu hn l (i + 1)]
theorem qxw (x nm : Str) : Rc.hp x (nm ++ [61]) = ((decide ((x.length : Int) > (nm.length : Int)) && decide (x.take nm.length = nm)) && decide (x[nm.length]? = some 61)) := by
 unfold Rc.hp
 by_cases h : nm.length < x.length
 ·have e : x.take (nm ++ [61]).length = x.take nm.length ++ [x[nm.length]] := by
   rw [List.length_append, List.length_cons, List.length_nil, List.take_add_one, List.getElem?_eq_getElem h]; rfl
  rw [e, List.getElem?_eq_getElem h]
  have hl : decide (x.length ≥ (nm ++ [61]).length) = true := by simp; omega
  have hl2 : decide ((x.length : Int) > (nm.length : Int)) = true := by simp; omega
  rw [hl, hl2, Bool.true_and, Bool.true_and]
  have : (x.take nm.length ++ [x[nm.length]] = nm ++ [61]) ↔ (x.take nm.length = nm ∧ x[nm.length] = 61) := by
   constructor
   ·intro h2
    have h3 := List.append_inj h2 (by simp; omega)
    exact ⟨h3.1, by simpa using h3.2⟩
   ·rintro ⟨h1, h2⟩; rw [h1, h2]
  rw [decide_eq_decide.2 this, Bool.decide_and]
  simp
 ·have h1 : decide (x.length ≥ (nm ++ [61]).length) = false := by simp; omega
  have h2 : decide ((x.length : Int) > (nm.length : Int)) = false := by simp; omega
  rw [h1, h2]; rfl
theorem qp9 {nm : Str} (hn : nm.length ≤ 1000000) : ∀ (l : List Str) (i : Nat), Jc0 nm l i = some (if argB nm l = true then Fl.ret (argL nm l, true) else Fl.go ())
 | [], i => rfl
 | x :: l, i => by
  have hc : ((((if decide ((x.length : Int) > (nm.length : Int)) then (chk (0 ≤ (0 : Int) ∧ (0 : Int) ≤ (nm.length : Int) ∧ (nm.length : Int) ≤ (x.length : Int))).bind fun _ =>
    some (decide ((subL x (0 : Int) (nm.length : Int)) = nm)) else some false).bind fun x37 =>
    (if x37 then (ix x (nm.length : Int)).bind fun x45 => some (decide ((x45.toNat : Int) = 61)) else some false).bind fun x47 => some x47) : Option (Bool))) = some (Rc.hp x (nm ++ [61])) := by
   rw [qxw]
   by_cases h : nm.length < x.length
   ·rw [qA1 (by simpa using h), qaa (by omega), qAz, Rc.sub0, decide_eq_true (show (x.length : Int) > (nm.length : Int) by omega), Bool.true_and]
    by_cases h2 : x.take nm.length = nm
    ·rw [decide_eq_true h2, qA1 rfl]
     unfold ix
     rw [qA1 (by omega), Int.toNat_natCast, List.getElem?_eq_getElem h, qAz, qAz, Bool.true_and]
     have := @qp5 (x[nm.length]) 61
     simpa using this
    ·rw [decide_eq_false h2, qA0 (by simp), qAz, Bool.false_and]
   ·rw [qA0 (by simpa using h), qAz, qA0 (by simp), decide_eq_false (by omega)]; rfl
  rw [Jc0, hc, qAz, argL, argB]
  by_cases q : Rc.hp x (nm ++ [61]) = true
  ·have hl : nm.length + 1 ≤ x.length := by
    have := q; unfold Rc.hp at this; simp at this; omega
   rw [qA1 q, qA1 q, qA1 q, qaa (by constructor <;> omega), qaa (by omega), qms]; rfl
  ·rw [qA0 q, qA0 q, qA0 q, qp9 hn l (i + 1)]
def qve (q nm : Str) : Str := argL nm (spl 38 q)
theorem qqa {nm : Str} : ∀ {l : List Str}, argB nm l = false → argL nm l = []
 | [], _ => rfl
 | x :: l, h => by
  rw [argB] at h
  split at h
  ·cases h
  ·rename_i q; rw [argL, qA0 q]; exact qqa h
theorem qmt {nm : Str} {m : Nat} : ∀ {l : List Str}, (∀ x ∈ l, x.length ≤ m) → (argL nm l).length ≤ m
 | [], _ => Nat.zero_le _
 | x :: l, h => by
  rw [argL]
  split
  ·have := h x (by simp); rw [List.length_drop]; omega
  ·exact qmt fun y hy => h y (by simp [hy])
theorem qsf (q nm : Str) : (qve q nm).length ≤ q.length := qmt (qk9 _ _)
theorem qtv {q nm : Str} (hq : q.length ≤ 1000000) (hn : nm.length ≤ 1000000) : ∃ b, JcN ⟨[], [], q, true⟩ nm = some (qve q nm, b) := by
 have h := qha 38 q
 unfold JcN qve
 rw [qA0 (by simp), qjz 38 hq, qAz, qaa (by simp only [qau]; omega), qtu hn, qAz]
 cases e : argB nm (spl 38 q) with
 | true => rw [qA1 rfl]; exact ⟨_, rfl⟩
 | false => rw [qA0 (by simp), qqa e]; exact ⟨_, rfl⟩
theorem qvf {q nm : Str} (hq : q.length ≤ 1000000) (hn : nm.length ≤ 1000000) : ∃ b, JeR ⟨[], [], q, true⟩ nm = some (qve q nm, b) := by
 have h := qha 38 q
 unfold JeR qve
 rw [qA0 (by simp), qp8 38 hq, qAz, qaa (by simp only [qau]; omega), qp9 hn, qAz]
 cases e : argB nm (spl 38 q) with
 | true => rw [qA1 rfl]; exact ⟨_, rfl⟩
 | false => rw [qA0 (by simp), qqa e]; exact ⟨_, rfl⟩
theorem qsg (s : Str) {i n : Nat} : subL s (i : Int) ((i : Int) + (n : Int)) = (s.drop i).take n := by
 unfold subL
 rw [Int.toNat_natCast, show ((i : Int) + (n : Int) - (i : Int)).toNat = n by omega]
theorem qg7 {t s : Str} (hs : s.length ≤ 1000000) (ht : t.length ≤ 1000000) : ∀ (m i : Nat), s.length + 1 - i < m → i ≤ s.length + 1 → (∀ j, j < i → Go.Lib.occAt s t j = false) →
  ∃ r, Jb7 t s m (i : Int) = some r ∧ (Go.Lib.contains s t = true → r = .ret true) ∧ (Go.Lib.contains s t = false → ∃ z, r = .go z)
 | 0, i, h, _, _ => by omega
 | m + 1, i, h, hi, hn => by
  rw [Jb7, qaa (by constructor <;> omega)]
  by_cases q : i + t.length ≤ s.length
  ·rw [qA1 (by simp; omega), qaa (by constructor <;> omega), qaa (by omega), qsg]
   by_cases q2 : (s.drop i).take t.length = t
   ·rw [qA1 (by simpa using q2)]
    have ho : Go.Lib.occAt s t i = true := by rw [Go.Lib.occAt_iff_take s t i q]; simpa using q2
    have hc : Go.Lib.contains s t = true := by
     unfold Go.Lib.contains
     rw [Go.Lib.index_first (by omega) ho hn]; simp
    exact ⟨_, rfl, fun _ => rfl, fun e => by rw [hc] at e; cases e⟩
   ·rw [qA0 (by simpa using q2), qaa (by constructor <;> omega)]
    have ho : Go.Lib.occAt s t i = false := by rw [Go.Lib.occAt_iff_take s t i q]; simpa using q2
    exact qg7 hs ht m (i + 1) (by omega) (by omega) fun j hj => by
     by_cases e : j = i
     ·rw [e]; exact ho
     ·exact hn j (by omega)
  ·rw [qA0 (by simp; omega)]
   have hc : Go.Lib.contains s t = false := by
    unfold Go.Lib.contains
    rw [Go.Lib.index_none fun j hj => ?_]; · rfl
    by_cases e : j < i
    ·exact hn j e
    ·cases ho : Go.Lib.occAt s t j with
     | false => rfl
     | true =>
      rcases Go.Lib.occAt_room ho with h1 | h1
      ·omega
      ·subst h1; simp at q; omega
   exact ⟨_, rfl, (fun e => by rw [hc] at e; cases e), fun _ => ⟨_, rfl⟩⟩
theorem qsh {n : Nat} {s t : Str} (hn : 1000002 ≤ n) (hs : s.length ≤ 1000000) (ht : t.length ≤ 1000000) : Jc6 n s t = some (Go.Lib.contains s t) := by
 unfold Jc6
 obtain ⟨r, h1, h2, h3⟩ := qg7 hs ht n 0 (by omega) (by omega) (fun j hj => by omega)
 rw [show (0 : Int) = ((0 : Nat) : Int) from rfl, h1, qAz]
 cases e : Go.Lib.contains s t with
 | true => rw [h2 e]; rfl
 | false => obtain ⟨z, rfl⟩ := h3 e; rfl
theorem qf2 {s t : Str} (hs : s.length ≤ 1000000) : qc4 s t = some (Go.Lib.contains s t) := by
 unfold qc4; rw [qA1 (by rw [qe9]; omega)]
theorem qhb : ∀ (m u : Nat), u < 10 ^ (m + 1) → (Go.Lib.decDigits u).length ≤ m + 1
 | 0, u, h => by rw [Go.Lib.decDigits, dif_pos (by omega)]; simp
 | m + 1, u, h => by
  rw [Go.Lib.decDigits]
  split
  ·simp
  ·have := qhb m (u / 10) (by rw [Nat.pow_succ] at h; omega)
   simp; omega
theorem qqb (u : Nat) : qs7 (48 + Int.tmod (u : Int) 10) = UInt8.ofNat (48 + u % 10) := by
 have e : Int.tmod (u : Int) 10 = ((u % 10 : Nat) : Int) := by rw [Int.tmod_eq_emod_of_nonneg (by omega)]; omega
 unfold qs7
 rw [e]
 congr 1
 omega
theorem qvg : ∀ (m u : Nat) (k : Nat), u < 10 ^ (m + 1) → m ≤ 17 → m < k → JbC k (u : Int) = some (Go.Lib.decDigits u)
 | m, u, 0, h, hm, hk => by omega
 | 0, u, k + 1, h, hm, hk => by
  have hu : u < 10 := by omega
  have e : Int.tmod (u : Int) 10 = ((u % 10 : Nat) : Int) := by rw [Int.tmod_eq_emod_of_nonneg (by omega)]; omega
  rw [JbC, qA0 (by simp), qaa (by rw [e]; constructor <;> omega), qA1 (by simp; omega), qqb, Go.Lib.decDigits, dif_pos hu, Nat.mod_eq_of_lt hu]
 | m + 1, u, k + 1, h, hm, hk => by
  have e : Int.tmod (u : Int) 10 = ((u % 10 : Nat) : Int) := by rw [Int.tmod_eq_emod_of_nonneg (by omega)]; omega
  have e2 : Int.tdiv (u : Int) 10 = ((u / 10 : Nat) : Int) := by rw [Int.tdiv_eq_ediv_of_nonneg (by omega)]; omega
  have hp : (10 : Nat) ^ (m + 1 + 1) ≤ 10 ^ 19 := Nat.pow_le_pow_right (by decide) (by omega)
  rw [JbC, qA0 (by simp), qaa (by rw [e]; constructor <;> omega), Go.Lib.decDigits]
  by_cases hu : u < 10
  ·rw [qA1 (by simp; omega), qqb, dif_pos hu, Nat.mod_eq_of_lt hu]
  ·have hu2 : u / 10 < 10 ^ (m + 1) := by rw [Nat.pow_succ] at h; omega
   have hp2 : (10 : Nat) ^ (m + 1) ≤ 10 ^ 18 := Nat.pow_le_pow_right (by decide) (by omega)
   have hl := qhb m (u / 10) hu2
   rw [qA0 (by simp; omega), e2, qaa ⟨by decide, by constructor <;> omega⟩, qvg m (u / 10) k hu2 (by omega) (by omega), qAz, qaa (by simp only [lim, List.length_cons, List.length_nil]; omega), qqb, dif_neg hu]
theorem qxx {n : Nat} {x : Int} (hn : 30 ≤ n) (h0 : -1099511627776 ≤ x) (h1 : x ≤ 1099511627776) : JbC n x = some (Go.Lib.itoa x) := by
 unfold Go.Lib.itoa
 by_cases q : x < 0
 ·obtain ⟨k, rfl⟩ : ∃ k, n = k + 1 := ⟨n - 1, by omega⟩
  obtain ⟨u, hu⟩ : ∃ u : Nat, -x = (u : Int) := ⟨(-x).toNat, by omega⟩
  have h10 : (10 : Nat) ^ (17 + 1) = 1000000000000000000 := by decide
  have hu2 : u < 10 ^ (17 + 1) := by omega
  have hl := qhb 17 u hu2
  rw [JbC, qA1 (by simpa using q), qaa (by constructor <;> omega), hu, qvg 17 u k hu2 (by omega) (by omega), qAz, qaa (by simp only [lim, List.length_cons, List.length_nil]; omega), qA1 q, show x.natAbs = u by omega]
  rfl
 ·obtain ⟨u, hu⟩ : ∃ u : Nat, x = (u : Int) := ⟨x.toNat, by omega⟩
  have h10 : (10 : Nat) ^ (17 + 1) = 1000000000000000000 := by decide
  have hu2 : u < 10 ^ (17 + 1) := by omega
  rw [qA0 q, hu, Int.toNat_natCast, qvg 17 u n hu2 (by omega) (by omega)]
theorem qsi {x : Int} (h0 : -1099511627776 ≤ x) (h1 : x ≤ 1099511627776) : (Go.Lib.itoa x).length ≤ 20 := by
 unfold Go.Lib.itoa
 have hp : (10 : Nat) ^ (17 + 1) = 1000000000000000000 := by decide
 split
 ·have := qhb 17 x.natAbs (by omega); simp; omega
 ·have := qhb 17 x.toNat (by omega); omega
theorem qmu {x : Int} (h0 : -1099511627776 ≤ x) (h1 : x ≤ 1099511627776) : qns x = some (Go.Lib.itoa x) := by
 unfold qns; rw [qA1 (by constructor <;> omega)]
def dig (c : UInt8) : Bool := !(decide ((c.toNat : Int) < 48) || decide ((c.toNat : Int) > 57))
def nst (n : Int) (c : UInt8) : Int := 10 * n + ((c - (48 : UInt8)).toNat : Int)
def qsj (s : Str) : Int := if s.length ≤ 15 ∧ s.all dig = true then s.foldl nst 0 else 0
theorem qtw (c : UInt8) : (if decide ((c.toNat : Int) < 48) then some true else some (decide ((c.toNat : Int) > 57))) = some (!dig c) := by
 unfold dig; cases decide ((c.toNat : Int) < 48) <;> simp
theorem qla {c : UInt8} (h : dig c = true) : 0 ≤ ((c - (48 : UInt8)).toNat : Int) ∧ ((c - (48 : UInt8)).toNat : Int) ≤ 9 := by
 unfold dig at h
 simp at h
 have h48 : (48 : UInt8) ≤ c := by rw [UInt8.le_iff_toNat_le]; simp; omega
 rw [UInt8.toNat_sub_of_le _ _ h48]
 simp; omega
theorem qtx {i : Nat} {y : Int} {c : UInt8} (hc : dig c = true) (h0 : 0 ≤ y) (h1 : y < 10 ^ i) : 0 ≤ nst y c ∧ nst y c < 10 ^ (i + 1) := by
 have := qla hc
 unfold nst
 rw [Int.pow_succ]
 omega
theorem p15 {i : Nat} (h : i ≤ 15) : (10 : Int) ^ i ≤ 1000000000000000 := by
 have h1 : (10 : Nat) ^ i ≤ 10 ^ 15 := Nat.pow_le_pow_right (by decide) h
 have h2 : ((10 ^ i : Nat) : Int) = (10 : Int) ^ i := by rw [Int.natCast_pow]; rfl
 rw [← h2]
 have h3 : (10 : Nat) ^ 15 = 1000000000000000 := by decide
 omega
theorem qty : ∀ (r : Str) (i : Nat) (j : Nat) (y : Int), 0 ≤ y → y < 10 ^ i → i + r.length ≤ 15 → Jbg r j y = some (if r.all dig = true then .go (r.foldl nst y) else .ret 0)
 | [], i, j, y, _, _, _ => rfl
 | c :: r, i, j, y, h0, h1, h => by
  simp only [List.length_cons] at h
  rw [Jbg, qtw, qAz, List.all_cons]
  cases q : dig c with
  | false => rw [qA1 (by simp)]; simp
  | true =>
   have hb := qtx q h0 h1
   have hp := p15 (show i ≤ 15 by omega)
   have hp1 := p15 (show i + 1 ≤ 15 by omega)
   have hd := qla q
   have e : (10 * y) + ((c - (48 : UInt8)).toNat : Int) = nst y c := rfl
   rw [qA0 (by simp), qaa (by constructor <;> omega), e, qaa (by constructor <;> omega), qty r (i + 1) (j + 1) _ hb.1 hb.2 (by omega), Bool.true_and, List.foldl_cons]
theorem qvh (s : Str) : Jb3 s = some (qsj s) := by
 unfold Jb3 qsj
 by_cases q : s.length < 1 ∨ s.length > 15
 ·rw [qA1 (by simp; omega)]
  rcases q with q | q
  ·have : s = [] := List.length_eq_zero_iff.1 (by omega)
   subst this; rfl
  ·rw [qA0 (by omega)]
 ·rw [qA0 (by simp; omega), qaa (by simp only [qau]; omega), qty s 0 0 0 (by omega) (by decide) (by omega), qAz]
  by_cases q2 : s.all dig = true
  ·rw [qA1 q2, qA1 ⟨by omega, q2⟩]; rfl
  ·rw [qA0 q2, qA0 (by simp [q2])]; rfl
theorem qqc {s : Str} (hs : s.length ≤ 1000000) : ∀ (m j : Nat) (y : Int), 0 ≤ y → y < 10 ^ j → j ≤ 15 → j ≤ s.length → s.length - j < m →
  Jct s m y (j : Int) = some (if s.length ≤ 15 ∧ (s.drop j).all dig = true then .go ((s.drop j).foldl nst y, (s.length : Int)) else .ret 0)
 | 0, j, y, _, _, _, _, h => by omega
 | m + 1, j, y, h0, h1, hj, hl, h => by
  rw [Jct]
  by_cases q : j < s.length
  ·have hix : ix s (j : Int) = some s[j] := by unfold ix; rw [qA1 (by omega), Int.toNat_natCast, List.getElem?_eq_getElem q]
   have hc : (((ix s (j : Int)).bind fun x13 =>
     (if decide ((x13.toNat : Int) < 48) then some true else (ix s (j : Int)).bind fun x18 => some (decide ((x18.toNat : Int) > 57))).bind fun x20 =>
     some (x20 || decide ((j : Int) = 15))) : Option (Bool)) = some (!dig s[j] || decide ((j : Int) = 15)) := by
    rw [hix, qAz, qAz, qtw, qAz]
   rw [qA1 (by simpa using q), hc, qAz, hix, List.drop_eq_getElem_cons q, List.all_cons, List.foldl_cons]
   cases qd : dig s[j] with
   | false => rw [qA1 (by simp), qA0 (by simp)]
   | true =>
    by_cases q15 : j = 15
    ·rw [qA1 (by simp; omega), qA0 (by omega)]
    ·have hb := qtx qd h0 h1
     have hp := p15 (show j ≤ 15 by omega)
     have hp1 := p15 (show j + 1 ≤ 15 by omega)
     have hd := qla qd
     have e : (10 * y) + ((s[j] - (48 : UInt8)).toNat : Int) = nst y s[j] := rfl
     rw [qA0 (by simp; omega), qaa (by constructor <;> omega), qAz, e, qaa (by constructor <;> omega), qaa (by constructor <;> omega)]
     have ih := qqc hs m (j + 1) (nst y s[j]) hb.1 hb.2 (by omega) (by omega) (by omega)
     rw [show ((j : Int) + 1) = ((j + 1 : Nat) : Int) by omega, ih, Bool.true_and]
  ·have e : j = s.length := by omega
   subst e
   rw [qA0 (by simp), List.drop_length, qA1 ⟨hj, rfl⟩]; rfl
theorem qzk {n : Nat} {s : Str} (hn : 1000002 ≤ n) (hs : s.length ≤ 1000000) : Jc1 n s = some (qsj s) := by
 unfold Jc1 qsj
 have h := qqc hs n 0 0 (by omega) (by decide) (by omega) (by omega) (by omega)
 rw [show ((0 : Nat) : Int) = 0 from rfl] at h
 rw [h, qAz, List.drop_zero]
 by_cases q : s.length ≤ 15 ∧ s.all dig = true
 ·rw [qA1 q, qA1 q]; rfl
 ·rw [qA0 q, qA0 q]; rfl
theorem qhc : ∀ (r p : Str), JaV r.length p.length (p ++ r) = some (p ++ low r)
 | [], p => by simp [JaV, low]
 | c :: r, p => by
  rw [List.length_cons, JaV, qtp, qAz]
  have hl : (p ++ [lowB c]).length = p.length + 1 := by simp
  by_cases q : (decide ((c.toNat : Int) ≥ 65) && decide ((c.toNat : Int) ≤ 90)) = true
  ·have e : lowB c = c + 32 := by unfold lowB; rw [qA1 q]
   rw [qA1 q, qAz, qpy, ← e, ← hl, qhc r (p ++ [lowB c])]; simp [low]
  ·have e : lowB c = c := by unfold lowB; rw [qA0 q]
   have e2 : p ++ c :: r = (p ++ [lowB c]) ++ r := by rw [e]; simp
   rw [qA0 q, e2, ← hl, qhc r (p ++ [lowB c])]; simp [low]
theorem qtz {s : Str} (h : s.length ≤ 1073741824) : JcB s = some (low s) := by
 unfold JcB
 have := qhc s []
 simp only [List.length_nil, List.nil_append] at this
 rw [qaa (by simp only [lim]; omega), qaa (by constructor <;> omega), Int.toNat_natCast, this]; rfl
theorem low_len (s : Str) : (low s).length = s.length := by simp [low]
theorem qqd (sep : Str) : ∀ l : List Str, (jt sep l).length ≤ sep.length * l.length + qn6 l
 | [] => by simp [qtq]
 | x :: l => by
  have := qqd sep l
  rw [qp1, qe7, List.length_append, List.length_append, List.length_cons, Nat.mul_succ]
  omega
theorem qvi (sep : Str) (l : List Str) : (jn l sep).length ≤ sep.length * l.length + qn6 l := by
 cases l with
 | nil => rw [qxs]; simp
 | cons x l =>
  have := qqd sep l
  rw [qk7, qe7, List.length_append, List.length_cons, Nat.mul_succ]; omega
def qq2 (f : List RF) (nm : Str) : Str := jn (vals f nm) [44, 32]
theorem qiv (f : List RF) (nm : Str) : (qq2 f nm).length ≤ 3 * tot f := by
 have h1 := qvi [44, 32] (vals f nm)
 have h2 := qe8 nm f
 have h3 := qgb (vals f nm)
 unfold qq2
 simp only [List.length_cons, List.length_nil] at h1
 omega
theorem qmv {f : List RF} {nm : Str} (h : tot f ≤ 1000000) (hn : nm.length ≤ 1000000) : Jc8 (ffs f) nm = some (qq2 f nm, decide (((vals f nm).length : Int) > 0)) := by
 have h1 := qiv f nm
 have h2 := qe8 nm f
 have h3 := qgb (vals f nm)
 unfold qq2 at h1
 unfold Jc8 qq2
 rw [qAt h hn, qAz, qva (by omega) (by omega), qAz]
theorem qt0 : ∀ (l : List Str) (i : Nat) (y : Str), 0 < i → y.length + (jt [44, 32] l).length ≤ 100000000 → Jb2 l i y = some (y ++ jt [44, 32] l)
 | [], i, y, _, _ => by simp [Jb2, qtq]
 | x :: l, i, y, hi, h => by
  rw [qp1] at h ⊢
  simp only [List.length_append, List.length_cons, List.length_nil] at h
  rw [Jb2, qA1 (by simpa using hi), qaa (by simp only [lim, List.length_cons, List.length_nil]; omega), qaa (by simp only [lim, List.length_append, List.length_cons, List.length_nil]; omega), qt0 l (i + 1) _ (by omega) (by simp only [List.length_append, List.length_cons, List.length_nil]; omega)]
  simp
theorem qqe {f : List RF} {nm : Str} (h : tot f ≤ 1000000) (hn : nm.length ≤ 1000000) : Jd4 f nm = some (qq2 f nm, decide (((vals f nm).length : Int) > 0)) := by
 have h1 := qiv f nm
 have h2 := qe8 nm f
 have h3 := qgb (vals f nm)
 unfold qq2 at h1
 unfold Jd4 qq2
 rw [qAu h hn, qAz, qaa (by simp only [qau]; omega)]
 cases e : vals f nm with
 | nil => rfl
 | cons x l =>
  rw [e, qk7] at h1
  simp only [List.length_append] at h1
  rw [Jb2, qA0 (by simp), qaa (by simp only [lim, List.length_nil]; omega), qt0 l _ _ (by omega) (by simp; omega), qk7]; rfl
abbrev V1 := Jf
abbrev V2 := Jt
abbrev In1 := JI
abbrev In2 := Jw
def clip (n : Int) : Int := max (-1099511627776) (min n 1099511627776)
theorem qqf (n : Int) : -1099511627776 ≤ clip n ∧ clip n ≤ 1099511627776 := by unfold clip; omega
def nm' (n : Int) : V1 := ⟨2, clip n, [], false⟩
def tx' (s : Str) : V1 := ⟨1, 0, s, false⟩
def tr' (b : Bool) : V1 := ⟨3, 0, [], b⟩
def cv2 (x : V1) : V2 := ⟨x.kind, x.n, x.s, x.Au⟩
def inp (i : In2) : In1 := ⟨i.Am, i.An, i.Ae, i.Af, ffs i.Ao⟩
structure IOK (i : In2) : Prop where
 m : i.Am.length ≤ 10000
 h : i.An.length ≤ 10000
 p : i.Ae.length ≤ 10000
 q : i.Af.length ≤ 10000
 f : tot i.Ao ≤ 10000
def VOK (m : Nat) (x : V1) : Prop := x.s.length ≤ m ∧ -1099511627776 ≤ x.n ∧ x.n ≤ 1099511627776
theorem qq3 (n : Int) : JaZ n = some (nm' n) := rfl
theorem qvj (s : Str) : Jaq s = some (tx' s) := rfl
theorem qh6 (b : Bool) : Jaj b = some (tr' b) := rfl
theorem qwd (n : Int) : Jcd n = some (cv2 (nm' n)) := rfl
theorem qzl (s : Str) : Jbf s = some (cv2 (tx' s)) := rfl
theorem qlb (m : Nat) (n : Int) : VOK m (nm' n) := ⟨Nat.zero_le _, (qqf n).1, (qqf n).2⟩
theorem qhd (m : Nat) (b : Bool) : VOK m (tr' b) := ⟨Nat.zero_le _, by simp [tr'], by simp [tr']⟩
theorem qfm {m : Nat} {s : Str} (h : s.length ≤ m) : VOK m (tx' s) := ⟨h, by simp [tx'], by simp [tx']⟩
theorem qqg (a b : Int) : 0 ≤ max a (-a) * max b (-b) ∧ ((decide (a < 0) == decide (b < 0)) = true → a * b = max a (-a) * max b (-b)) ∧ ((decide (a < 0) == decide (b < 0)) = false → a * b = -(max a (-a) * max b (-b))) := by
 have ha : 0 ≤ max a (-a) := by omega
 have hb : 0 ≤ max b (-b) := by omega
 refine ⟨Int.mul_nonneg ha hb, ?_, ?_⟩
 ·intro h
  by_cases qa : a < 0 <;> by_cases qb : b < 0
  ·rw [show max a (-a) = -a by omega, show max b (-b) = -b by omega, Int.neg_mul_neg]
  ·simp [qa, qb] at h
  ·simp [qa, qb] at h
  ·rw [show max a (-a) = a by omega, show max b (-b) = b by omega]
 ·intro h
  by_cases qa : a < 0 <;> by_cases qb : b < 0
  ·simp [qa, qb] at h
  ·rw [show max a (-a) = -a by omega, show max b (-b) = b by omega, Int.neg_mul, Int.neg_neg]
  ·rw [show max a (-a) = a by omega, show max b (-b) = -b by omega, Int.mul_neg, Int.neg_neg]
  ·simp [qa, qb] at h
theorem qqh {a b : Int} (a0 : -1099511627776 ≤ a) (a1 : a ≤ 1099511627776) (b0 : -1099511627776 ≤ b) (b1 : b ≤ 1099511627776) : JbE a b = some (nm' (a * b)) := by
 unfold JbE
 by_cases q0 : a = 0 ∨ b = 0
 ·rw [qA1 (by simpa using q0), qq3, qAz]
  rcases q0 with rfl | rfl <;> simp
 ·rw [qA0 (by simpa using q0), qaa (by constructor <;> omega), qaa (by constructor <;> omega)]
  obtain ⟨p0, p1, p2⟩ := qqg a b
  have hx : 0 < max a (-a) := by omega
  have hy : 0 < max b (-b) := by omega
  have hx1 : max a (-a) ≤ 1099511627776 := by omega
  have hy1 : max b (-b) ≤ 1099511627776 := by omega
  have hng : (!(decide (a < 0) == decide (b < 0))) = true ↔ (decide (a < 0) == decide (b < 0)) = false := by simp
  generalize max a (-a) = x at *
  generalize max b (-b) = y at *
  have ed : Int.tdiv 1099511627776 y = 1099511627776 / y := Int.tdiv_eq_ediv_of_nonneg (by omega)
  have hq0 : 0 ≤ 1099511627776 / y := Int.ediv_nonneg (by omega) (by omega)
  have hq1 : 1099511627776 / y ≤ 1099511627776 := Int.ediv_le_self _ (by omega)
  rw [ed, qaa ⟨by omega, by omega, by omega⟩]
  by_cases q : x > 1099511627776 / y
  ·have hxy : 1099511627776 < x * y := (Int.ediv_lt_iff_lt_mul hy).1 q
   rw [qA1 (by simpa using q), qAz]
   by_cases qs : (decide (a < 0) == decide (b < 0)) = true
   ·rw [qA0 (by simp [qs]), qaa (by decide), qq3, qAz, p1 qs]
    congr 1
    unfold nm' clip; congr 1; omega
   ·have qs : (decide (a < 0) == decide (b < 0)) = false := by simpa using qs
    rw [qA1 (hng.2 qs), qaa (by decide), qaa (by decide), qq3, qAz, p2 qs]
    congr 1
    unfold nm' clip; congr 1; omega
  ·have hxy : x * y ≤ 1099511627776 := by
    by_cases w : 1099511627776 < x * y
    ·exact absurd ((Int.ediv_lt_iff_lt_mul hy).2 w) q
    ·omega
   rw [qA0 (by simpa using q), qAz]
   by_cases qs : (decide (a < 0) == decide (b < 0)) = true
   ·rw [qA0 (by simp [qs]), qaa (by simp only; constructor <;> omega), qq3, qAz, p1 qs]
   ·have qs : (decide (a < 0) == decide (b < 0)) = false := by simpa using qs
    rw [qA1 (hng.2 qs), qaa (by simp only; constructor <;> omega), qaa (by simp only; rw [Int.neg_mul]; constructor <;> omega), qq3, qAz, p2 qs]
    simp only [Int.neg_mul]
theorem qsk {a b : Int} (a0 : -1099511627776 ≤ a) (a1 : a ≤ 1099511627776) (b0 : -1099511627776 ≤ b) (b1 : b ≤ 1099511627776) : Jdl a b = some (cv2 (nm' (a * b))) := by
 unfold Jdl
 by_cases q0 : a = 0
 ·subst q0
  rw [qA0 (by simp), qAz, qA0 (by simp), Int.zero_mul, qaa (by decide), qwd]; rfl
 ·obtain ⟨p0, p1, p2⟩ := qqg a b
  have hx : 0 < max a (-a) := by omega
  have hx1 : max a (-a) ≤ 1099511627776 := by omega
  have hy0 : 0 ≤ max b (-b) := by omega
  have ed : Int.tdiv 2199023255552 (max a (-a)) = 2199023255552 / max a (-a) := Int.tdiv_eq_ediv_of_nonneg (by omega)
  have hq0 : 0 ≤ 2199023255552 / max a (-a) := Int.ediv_nonneg (by omega) (by omega)
  have hq1 : 2199023255552 / max a (-a) ≤ 2199023255552 := Int.ediv_le_self _ (by omega)
  have hc : ((if decide (a ≠ 0) then
   (chk (InI (-a))).bind fun _ =>
   (chk ((max a (-a)) ≠ 0 ∧ InI (Int.tdiv 2199023255552 (max a (-a))))).bind fun _ =>
   (if decide (b > (Int.tdiv 2199023255552 (max a (-a)))) then some true else (chk (InI (-a))).bind fun _ =>
   (chk ((max a (-a)) ≠ 0 ∧ InI (Int.tdiv 2199023255552 (max a (-a))))).bind fun _ =>
   (chk (InI (-(Int.tdiv 2199023255552 (max a (-a)))))).bind fun _ =>
   some (decide (b < (-(Int.tdiv 2199023255552 (max a (-a))))))).bind fun x24 =>
   some x24
   else
   some false) : Option (Bool)) = some (decide (max b (-b) > 2199023255552 / max a (-a))) := by
   rw [ed, qA1 (by simpa using q0), qaa (by constructor <;> omega), qaa ⟨by omega, by omega, by omega⟩]
   by_cases q : b > 2199023255552 / max a (-a)
   ·rw [qA1 (by simpa using q), qAz, decide_eq_true (by omega)]
   ·rw [qA0 (by simpa using q), qaa (by constructor <;> omega), qaa ⟨by omega, by omega, by omega⟩, qaa (by constructor <;> omega), qAz]
    congr 1
    rw [decide_eq_decide]; omega
  rw [hc, qAz]
  by_cases q : max b (-b) > 2199023255552 / max a (-a)
  ·have hxy : 2199023255552 < max a (-a) * max b (-b) := by rw [Int.mul_comm]; exact (Int.ediv_lt_iff_lt_mul hx).1 q
   have hb0 : b ≠ 0 := fun e => by subst e; omega
   rw [qA1 (by simpa using q)]
   have es : (decide (a > 0) == decide (b > 0)) = (decide (a < 0) == decide (b < 0)) := by
    by_cases qa : a < 0 <;> by_cases qb : b < 0
    ·rw [decide_eq_false (show ¬ a > 0 by omega), decide_eq_false (show ¬ b > 0 by omega), decide_eq_true qa, decide_eq_true qb]; rfl
    ·rw [decide_eq_false (show ¬ a > 0 by omega), decide_eq_true (show b > 0 by omega), decide_eq_true qa, decide_eq_false qb]; rfl
    ·rw [decide_eq_true (show a > 0 by omega), decide_eq_false (show ¬ b > 0 by omega), decide_eq_false qa, decide_eq_true qb]; rfl
    ·rw [decide_eq_true (show a > 0 by omega), decide_eq_true (show b > 0 by omega), decide_eq_false qa, decide_eq_false qb]; rfl
   rw [es]
   by_cases qs : (decide (a < 0) == decide (b < 0)) = true
   ·rw [qA1 qs, qwd, qAz, p1 qs]
    congr 2
    unfold nm' clip; congr 1; omega
   ·have qs : (decide (a < 0) == decide (b < 0)) = false := by simpa using qs
    rw [qA0 (by simp [qs]), qwd, qAz, p2 qs]
    congr 2
    unfold nm' clip; congr 1; omega
  ·have hxy : max a (-a) * max b (-b) ≤ 2199023255552 := by
    by_cases w : 2199023255552 < max a (-a) * max b (-b)
    ·exact absurd ((Int.ediv_lt_iff_lt_mul hx).2 (by rw [Int.mul_comm]; exact w)) q
    ·omega
   have hin : InI (a * b) := by
    by_cases qs : (decide (a < 0) == decide (b < 0)) = true
    ·rw [p1 qs]; constructor <;> omega
    ·rw [p2 (by simpa using qs)]; constructor <;> omega
   rw [qA0 (by simpa using q), qaa hin, qwd]; rfl
theorem qsl {n m : Nat} {nm : Str} {x : V1} {i : In2} (hn : 1000002 ≤ n) (hm : m ≤ 20000) (hi : IOK i) (hx : VOK m x) :
  ∃ v ok, JD nm x (inp i) = some (v, ok) ∧ (∃ w, Jbr n nm (cv2 x) i = some (w, ok) ∧ (ok = true → w = cv2 v)) ∧ (ok = true → VOK 40000 v) := by
 obtain ⟨hx0, hx1, hx2⟩ := hx
 have hsg := qmr i.Ae
 have hip := hi.p
 have hsl : x.s.length ≤ 1000000 := by omega
 have hft : tot i.Ao ≤ 1000000 := by have := hi.f; omega
 have hgl := qiv i.Ao x.s
 have hif := hi.f
 have hs2 : (cv2 x).N = x.n := rfl
 have main2 : ∀ {b : V1}, VOK 40000 b → ∀ {o1 : Option (V1 × Bool)} {o2 : Option (V2 × Bool)}, o1 = (if decide (x.kind ≠ 2) = true then some (⟨0, 0, [], false⟩, false) else some (b, true)) → (∃ w, o2 = some (w, decide ((cv2 x).As = 2)) ∧ (x.kind = 2 → w = cv2 b)) →
   ∃ v ok, o1 = some (v, ok) ∧ (∃ w, o2 = some (w, ok) ∧ (ok = true → w = cv2 v)) ∧ (ok = true → VOK 40000 v) := by
  rintro b hb o1 o2 h1 ⟨w, h2, h3⟩
  by_cases k : x.kind = 2
  ·rw [qA0 (by simpa using k)] at h1
   rw [decide_eq_true (show (cv2 x).As = 2 from k)] at h2
   exact ⟨_, _, h1, ⟨_, h2, fun _ => h3 k⟩, fun _ => hb⟩
  ·rw [qA1 (by simpa using k)] at h1
   rw [decide_eq_false (show ¬ (cv2 x).As = 2 from k)] at h2
   exact ⟨_, _, h1, ⟨_, h2, fun h => by cases h⟩, fun h => by cases h⟩
 by_cases q1 : nm = [112, 97, 114, 116]
 ·subst q1
  have e1 : JD [112, 97, 114, 116] x (inp i) = if decide (x.kind ≠ 2) = true then some (⟨0, 0, [], false⟩, false) else if (decide (x.n < 0) || decide (x.n ≥ ((qnz i.Ae).length : Int))) = true then some (tx' [], true) else (ix (qnz i.Ae) x.n).bind fun z => some (tx' z, true) := by
   unfold JD
   rw [qA1 (by decide), qA0 (show ¬ decide (([112, 97, 114, 116] : Str) = [116, 101, 120, 116]) = true by decide), show (inp i).Ae = i.Ae from rfl, qp4 (by omega)]
   rfl
  have e2 : Jbr n [112, 97, 114, 116] (cv2 x) i = if ((decide ((cv2 x).As = 2) && decide (x.n ≥ 0)) && decide (x.n < ((qnz i.Ae).length : Int))) = true then (ix (qnz i.Ae) x.n).bind fun z => some (cv2 (tx' z), true) else some (cv2 (tx' []), decide ((cv2 x).As = 2)) := by
   unfold Jbr
   rw [qA1 (by decide), qsd (by omega)]
   rfl
  by_cases r : 0 ≤ x.n ∧ x.n < (qnz i.Ae).length
  ·obtain ⟨z, hz⟩ := qcq r.1 r.2
   have hzl : z.length ≤ i.Ae.length := by
    unfold ix at hz
    rw [qA1 r.1] at hz
    exact qse (List.mem_of_getElem? hz)
   rw [hz, qAz] at e1 e2
   refine main2 (b := tx' z) (qfm (by omega)) ?_ ?_
   ·rw [e1]; congr 1; rw [qA0 (by simp; omega)]
   ·rw [e2]
    by_cases k : x.kind = 2
    ·rw [qA1 (by simp [cv2, k]; omega)]
     exact ⟨_, by rw [decide_eq_true (show (cv2 x).As = 2 from k)], fun _ => rfl⟩
    ·rw [qA0 (by simp [cv2, k])]
     exact ⟨_, rfl, fun h => absurd h k⟩
  ·refine main2 (b := tx' []) (qfm (by simp)) ?_ ?_
   ·rw [e1]; congr 1; rw [qA1 (by simp; omega)]
   ·rw [e2, qA0 (by simp; omega)]
    exact ⟨_, rfl, fun _ => rfl⟩
 by_cases q2 : nm = [116, 101, 120, 116]
 ·subst q2
  have hil := qsi hx1 hx2
  refine main2 (b := tx' (Go.Lib.itoa x.n)) (qfm (by omega)) ?_ ?_
  ·unfold JD
   rw [qA1 (by decide), qA1 (show decide (([116, 101, 120, 116] : Str) = [116, 101, 120, 116]) = true by decide), qmu hx1 hx2]; rfl
  ·unfold Jbr
   rw [qA0 (by decide), qA1 (by decide), hs2, qxx (by omega) hx1 hx2]
   exact ⟨_, rfl, fun _ => rfl⟩
 have hs : (cv2 x).S = x.s := rfl
 have main : ∀ {b : V1}, VOK 40000 b → ∀ {o1 : Option (V1 × Bool)} {o2 : Option (V2 × Bool)}, o1 = (if decide (x.kind ≠ 1) = true then some (⟨0, 0, [], false⟩, false) else some (b, true)) → o2 = some (cv2 b, decide ((cv2 x).As = 1)) →
   ∃ v ok, o1 = some (v, ok) ∧ (∃ w, o2 = some (w, ok) ∧ (ok = true → w = cv2 v)) ∧ (ok = true → VOK 40000 v) := by
  intro b hb o1 o2 h1 h2
  by_cases k : x.kind = 1
  ·rw [qA0 (by simpa using k)] at h1
   rw [decide_eq_true (show (cv2 x).As = 1 from k)] at h2
   exact ⟨_, _, h1, ⟨_, h2, fun _ => rfl⟩, fun _ => hb⟩
  ·rw [qA1 (by simpa using k)] at h1
   rw [decide_eq_false (show ¬ (cv2 x).As = 1 from k)] at h2
   exact ⟨_, _, h1, ⟨_, h2, fun h => by cases h⟩, fun h => by cases h⟩
 by_cases q3 : nm = [104, 101, 97, 100, 101, 114]
 ·subst q3
  refine main (b := tx' (qq2 i.Ao x.s)) (qfm (by omega)) ?_ ?_
  ·unfold JD
   rw [qA0 (by decide)]
   congr 1
   rw [qA1 (by decide), show (inp i).Ao = ffs i.Ao from rfl, qmv hft hsl]; rfl
  ·unfold Jbr
   rw [qA0 (by decide), qA0 (by decide), qA1 (by decide), hs, qqe hft hsl]; rfl
 by_cases q4 : nm = [104, 97, 115]
 ·subst q4
  refine main (b := tr' (decide (((vals i.Ao x.s).length : Int) > 0))) (qhd _ _) ?_ ?_
  ·unfold JD
   rw [qA0 (by decide)]
   congr 1
   rw [qA0 (by decide), qA1 (by decide), show (inp i).Ao = ffs i.Ao from rfl, qmv hft hsl]; rfl
  ·unfold Jbr
   rw [qA0 (by decide), qA0 (by decide), qA0 (by decide), qA1 (by decide), hs, qqe hft hsl]; rfl
 by_cases q5 : nm = [97, 114, 103]
 ·subst q5
  have hqq := hi.q
  have hal := qsf i.Af x.s
  obtain ⟨b1, h1⟩ := qtv (q := i.Af) (nm := x.s) (by omega) hsl
  obtain ⟨b2, h2⟩ := qvf (q := i.Af) (nm := x.s) (by omega) hsl
  refine main (b := tx' (qve i.Af x.s)) (qfm (by omega)) ?_ ?_
  ·unfold JD
   rw [qA0 (by decide)]
   congr 1
   rw [qA0 (by decide), qA0 (by decide), qA1 (by decide), show (inp i).Af = i.Af from rfl, h1]; rfl
  ·unfold Jbr
   rw [qA0 (by decide), qA0 (by decide), qA0 (by decide), qA0 (by decide), qA1 (by decide), hs, h2]; rfl
 by_cases q6 : nm = [108, 101, 110]
 ·subst q6
  refine main (b := nm' (x.s.length : Int)) (qlb _ _) ?_ ?_
  ·unfold JD
   rw [qA0 (by decide)]
   congr 1
  ·unfold Jbr
   rw [qA0 (by decide), qA0 (by decide), qA0 (by decide), qA0 (by decide), qA0 (by decide), qA1 (by decide)]; rfl
 by_cases q7 : nm = [108, 111, 119, 101, 114]
 ·subst q7
  refine main (b := tx' (low x.s)) (qfm (by rw [low_len]; omega)) ?_ ?_
  ·unfold JD
   rw [qA0 (by decide)]
   congr 1
   rw [qA0 (by decide), qA0 (by decide), qA0 (by decide), qA0 (by decide), qA1 (by decide), qtz (by omega)]; rfl
  ·unfold Jbr
   rw [qA0 (by decide), qA0 (by decide), qA0 (by decide), qA0 (by decide), qA0 (by decide), qA0 (by decide), qA1 (by decide), hs, qmn (by omega)]; rfl
 refine main (b := nm' (qsj x.s)) (qlb _ _) ?_ ?_
 ·unfold JD
  rw [qA0 (by simp [q1, q2])]
  congr 1
  rw [qA0 (by simpa using q3), qA0 (by simpa using q4), qA0 (by simpa using q5), qA0 (by simpa using q6), qA0 (by simpa using q7), qvh]; rfl
 ·unfold Jbr
  rw [qA0 (by simpa using q1), qA0 (by simpa using q2), qA0 (by simpa using q3), qA0 (by simpa using q4), qA0 (by simpa using q5), qA0 (by simpa using q6), qA0 (by simpa using q7), hs, qzk hn hsl]; rfl
def qxy (a b : Str) : Bool := decide ((a.length : Int) ≥ (b.length : Int)) && decide (subL a ((a.length : Int) - (b.length : Int)) (a.length : Int) = b)
theorem sfx {a b : Str} (h : a.length ≤ 1000000) (hb : b.length ≤ 1000000) : JbK a b = some (qxy a b) := by
 unfold JbK JaK qxy
 by_cases h : (a.length : Int) ≥ (b.length : Int)
 ·rw [qA1 (by simpa using h), qaa (by constructor <;> omega), qaa (by omega)]; simp [h]
 ·rw [qA0 (by simpa using h)]
  have : ¬ b.length ≤ a.length := by omega
  simp [this]
theorem pfx (a b : Str) : JS a b = some (Rc.hp a b) := by rw [qew, Rc.hp_eq]
theorem qAx (a b : Str) : (if decide ((a.length : Int) ≥ (b.length : Int)) then (chk (0 ≤ (0 : Int) ∧ (0 : Int) ≤ (min (a.length : Int) (b.length : Int)) ∧ (min (a.length : Int) (b.length : Int)) ≤ (a.length : Int))).bind fun _ =>
 some (decide ((subL a (0 : Int) (min (a.length : Int) (b.length : Int))) = b)) else some false) = some (Rc.hp a b) := by
 rw [← Rc.hp_eq]
 by_cases h : (a.length : Int) ≥ (b.length : Int)
 ·rw [qA1 (by simpa using h), qaa (by omega), decide_eq_true h, Bool.true_and, show min (a.length : Int) (b.length : Int) = b.length by omega]
 ·rw [qA0 (by simpa using h), decide_eq_false h, Bool.false_and]
theorem qAy {a b : Str} (ha : a.length ≤ 1000000) (hb : b.length ≤ 1000000) : (if decide ((a.length : Int) ≥ (b.length : Int)) then (chk (InI ((a.length : Int) - (b.length : Int)))).bind fun _ =>
 (chk (0 ≤ (max 0 ((a.length : Int) - (b.length : Int))) ∧ (max 0 ((a.length : Int) - (b.length : Int))) ≤ (a.length : Int) ∧ (a.length : Int) ≤ (a.length : Int))).bind fun _ =>
 some (decide ((subL a (max 0 ((a.length : Int) - (b.length : Int))) (a.length : Int)) = b)) else some false) = some (qxy a b) := by
 unfold qxy
 by_cases h : (a.length : Int) ≥ (b.length : Int)
 ·rw [qA1 (by simpa using h), qaa (by constructor <;> omega), qaa (by omega), decide_eq_true h, Bool.true_and, show max 0 ((a.length : Int) - (b.length : Int)) = (a.length : Int) - (b.length : Int) by omega]
 ·rw [qA0 (by simpa using h), decide_eq_false h, Bool.false_and]
def eqB (a b : V1) : Bool := decide (a.kind = b.kind) && (decide (a.n = b.n) && (decide (a.s = b.s) && (a.Au == b.Au)))
theorem qxz {n m : Nat} {op : Str} {a b : V1} (hn : 1000002 ≤ n) (hm : m ≤ 20000) (ha : VOK m a) (hb : VOK m b) :
  ∃ v ok, JG op a b = some (v, ok) ∧ (∃ w, J5 n op (cv2 a) (cv2 b) = some (w, ok) ∧ (ok = true → w = cv2 v)) ∧ (ok = true → VOK 40000 v) := by
 obtain ⟨ha0, ha1, ha2⟩ := ha
 obtain ⟨hb0, hb1, hb2⟩ := hb
 have hA : a.s.length ≤ 1000000 := by omega
 have hB : b.s.length ≤ 1000000 := by omega
 have main : ∀ {T : Int} {v : V1}, VOK 40000 v → ∀ {o1 : Option (V1 × Bool)} {o2 : Option (V2 × Bool)}, o1 = (if decide (a.kind ≠ b.kind) = true then some (⟨0, 0, [], false⟩, false) else some (v, decide (a.kind = T))) → o2 = some (cv2 v, decide (a.kind = T) && decide (b.kind = T)) →
   ∃ v ok, o1 = some (v, ok) ∧ (∃ w, o2 = some (w, ok) ∧ (ok = true → w = cv2 v)) ∧ (ok = true → VOK 40000 v) := by
  intro T v hv o1 o2 h1 h2
  by_cases k : a.kind = b.kind
  ·rw [qA0 (by simpa using k)] at h1
   rw [← k, Bool.and_self] at h2
   exact ⟨_, _, h1, ⟨_, h2, fun _ => rfl⟩, fun _ => hv⟩
  ·rw [qA1 (by simpa using k)] at h1
   have : (decide (a.kind = T) && decide (b.kind = T)) = false := by
    by_cases q : a.kind = T
    ·have : ¬ b.kind = T := fun e => k (by rw [q, e])
     simp [this]
    ·simp [q]
   rw [this] at h2
   exact ⟨_, _, h1, ⟨_, h2, fun h => by cases h⟩, fun h => by cases h⟩
 have mainE : ∀ {v : V1}, VOK 40000 v → ∀ {o1 : Option (V1 × Bool)} {o2 : Option (V2 × Bool)}, o1 = (if decide (a.kind ≠ b.kind) = true then some (⟨0, 0, [], false⟩, false) else some (v, true)) → o2 = some (cv2 v, decide (a.kind = b.kind)) →
   ∃ v ok, o1 = some (v, ok) ∧ (∃ w, o2 = some (w, ok) ∧ (ok = true → w = cv2 v)) ∧ (ok = true → VOK 40000 v) := by
  intro v hv o1 o2 h1 h2
  by_cases k : a.kind = b.kind
  ·rw [qA0 (by simpa using k)] at h1
   rw [decide_eq_true k] at h2
   exact ⟨_, _, h1, ⟨_, h2, fun _ => rfl⟩, fun _ => hv⟩
  ·rw [qA1 (by simpa using k)] at h1
   rw [decide_eq_false k] at h2
   exact ⟨_, _, h1, ⟨_, h2, fun h => by cases h⟩, fun h => by cases h⟩
 by_cases q1 : op = [43]
 ·subst q1
  have e1 : JG [43] a b = if decide (a.kind ≠ b.kind) = true then some (⟨0, 0, [], false⟩, false) else if decide (a.kind = 1) = true then some (tx' (a.s ++ b.s), true) else some (nm' (a.n + b.n), decide (a.kind = 2)) := by
   unfold JG
   congr 1
   rw [qA1 (by decide)]
   congr 1
   ·rw [qaa (by simp only [lim]; omega), qvj]; rfl
   ·rw [qaa (by constructor <;> omega), qq3]; rfl
  have e2 : J5 n [43] (cv2 a) (cv2 b) = if (decide (a.kind = 1) && decide (b.kind = 1)) = true then some (cv2 (tx' (a.s ++ b.s)), true) else some (cv2 (nm' (a.n + b.n)), (decide (a.kind = 2) && decide (b.kind = 2))) := by
   unfold J5
   rw [qA1 (by decide)]
   congr 1
   ·rw [qaa (by simp only [lim, cv2]; omega), qzl]; rfl
   ·rw [qaa (by simp only [cv2]; constructor <;> omega), qwd]; rfl
  by_cases k : a.kind = 1
  ·by_cases k2 : b.kind = 1
   ·rw [qA0 (by simp [k, k2]), qA1 (by simpa using k)] at e1
    rw [qA1 (by simp [k, k2])] at e2
    exact ⟨_, _, e1, ⟨_, e2, fun _ => rfl⟩, fun _ => qfm (by simp; omega)⟩
   ·rw [qA1 (by rw [k]; simp; exact fun e => k2 e.symm)] at e1
    rw [qA0 (by simp [k2]), show (decide (a.kind = 2) && decide (b.kind = 2)) = false by simp [k]] at e2
    exact ⟨_, _, e1, ⟨_, e2, fun h => by cases h⟩, fun h => by cases h⟩
  ·exact main (qlb 40000 (a.n + b.n)) (by rw [e1]; congr 1; rw [qA0 (by simpa using k)]) (by rw [e2, qA0 (by simp [k])])
 by_cases q2 : op = [45]
 ·subst q2
  refine main (T := 2) (qlb 40000 (a.n - b.n)) ?_ ?_
  ·unfold JG
   congr 1
   rw [qA0 (by decide), qA1 (by decide), qaa (by constructor <;> omega), qq3]; rfl
  ·unfold J5
   rw [qA0 (by decide), qA1 (by decide), qaa (by simp only [cv2]; constructor <;> omega), qwd]; rfl
 by_cases q3 : op = [42]
 ·subst q3
  have e1 : JG [42] a b = if decide (a.kind ≠ b.kind) = true then some (⟨0, 0, [], false⟩, false) else if (!decide (a.kind = 2)) = true then some (⟨0, 0, [], false⟩, false) else some (nm' (a.n * b.n), true) := by
   unfold JG
   congr 1
   rw [qA0 (by decide), qA0 (by decide), qA1 (by decide), qqh ha1 ha2 hb1 hb2]; rfl
  have e2 : J5 n [42] (cv2 a) (cv2 b) = some (cv2 (nm' (a.n * b.n)), (decide (a.kind = 2) && decide (b.kind = 2))) := by
   unfold J5
   rw [qA0 (by decide), qA0 (by decide), qA1 (by decide), show (cv2 a).N = a.n from rfl, show (cv2 b).N = b.n from rfl, qsk ha1 ha2 hb1 hb2]; rfl
  by_cases k : a.kind = 2
  ·exact main (T := 2) (qlb 40000 (a.n * b.n)) (by rw [e1]; congr 1; rw [qA0 (by simp [k]), decide_eq_true k]) e2
  ·rw [qA1 (show (!decide (a.kind = 2)) = true by simp [k])] at e1
   rw [show (decide (a.kind = 2) && decide (b.kind = 2)) = false by simp [k]] at e2
   refine ⟨⟨0, 0, [], false⟩, false, ?_, ⟨_, e2, fun h => by cases h⟩, fun h => by cases h⟩
   rw [e1]; split <;> rfl
 by_cases q4 : op = [61, 61]
 ·subst q4
  refine mainE (qhd 40000 (eqB a b)) ?_ ?_
  ·unfold JG
   congr 1
  ·unfold J5
   rw [qA0 (by decide), qA0 (by decide), qA0 (by decide), qA1 (by decide)]; rfl
 by_cases q5 : op = [33, 61]
 ·subst q5
  refine mainE (qhd 40000 (!eqB a b)) ?_ ?_
  ·unfold JG
   congr 1
  ·unfold J5
   rw [qA0 (by decide), qA0 (by decide), qA0 (by decide), qA0 (by decide), qA1 (by decide)]; rfl
 by_cases q6 : op = [60]
 ·subst q6
  refine main (T := 2) (qhd 40000 (decide (a.n < b.n))) ?_ ?_
  ·unfold JG
   congr 1
  ·unfold J5
   rw [qA0 (by decide), qA0 (by decide), qA0 (by decide), qA0 (by decide), qA0 (by decide), qA1 (by decide)]; rfl
 by_cases q7 : op = [60, 61]
 ·subst q7
  refine main (T := 2) (qhd 40000 (decide (a.n ≤ b.n))) ?_ ?_
  ·unfold JG
   congr 1
  ·unfold J5
   rw [qA0 (by decide), qA0 (by decide), qA0 (by decide), qA0 (by decide), qA0 (by decide), qA0 (by decide), qA1 (by decide)]; rfl
 by_cases q8 : op = [115, 116, 97, 114, 116, 115]
 ·subst q8
  refine main (T := 1) (qhd 40000 (Rc.hp a.s b.s)) ?_ ?_
  ·unfold JG
   congr 1
   rw [qA0 (by decide), qA0 (by decide), qA0 (by decide), qA0 (by decide), qA0 (by decide), qA0 (by decide), qA0 (by decide), qA1 (by decide), pfx]; rfl
  ·unfold J5
   rw [qA0 (by decide), qA0 (by decide), qA0 (by decide), qA0 (by decide), qA0 (by decide), qA0 (by decide), qA0 (by decide), qA1 (by decide), show (cv2 a).S = a.s from rfl, show (cv2 b).S = b.s from rfl, qAx]; rfl
 by_cases q9 : op = [101, 110, 100, 115]
 ·subst q9
  refine main (T := 1) (qhd 40000 (qxy a.s b.s)) ?_ ?_
  ·unfold JG
   congr 1
   rw [qA0 (by decide), qA0 (by decide), qA0 (by decide), qA0 (by decide), qA0 (by decide), qA0 (by decide), qA0 (by decide), qA0 (by decide), qA1 (by decide), sfx hA hB]; rfl
  ·unfold J5
   rw [qA0 (by decide), qA0 (by decide), qA0 (by decide), qA0 (by decide), qA0 (by decide), qA0 (by decide), qA0 (by decide), qA0 (by decide), qA1 (by decide), show (cv2 a).S = a.s from rfl, show (cv2 b).S = b.s from rfl, qAy hA hB]; rfl
 refine main (T := 1) (qhd 40000 (Go.Lib.contains a.s b.s)) ?_ ?_
 ·unfold JG
  congr 1
  rw [qA0 (by simpa using q1), qA0 (by simpa using q2), qA0 (by simpa using q3), qA0 (by simpa using q4), qA0 (by simpa using q5), qA0 (by simpa using q6), qA0 (by simpa using q7), qA0 (by simpa using q8), qA0 (by simpa using q9), qf2 hA]; rfl
 ·unfold J5
  rw [qA0 (by simpa using q1), qA0 (by simpa using q2), qA0 (by simpa using q3), qA0 (by simpa using q4), qA0 (by simpa using q5), qA0 (by simpa using q6), qA0 (by simpa using q7), qA0 (by simpa using q8), qA0 (by simpa using q9), show (cv2 a).S = a.s from rfl, show (cv2 b).S = b.s from rfl, qsh hn hA hB]; rfl
theorem qvk {nm : Str} {i : In2} (hi : IOK i) : ∃ v, Jar nm (inp i) = some v ∧ Jdk nm i = some (cv2 v) ∧ VOK 10000 v := by
 unfold Jar Jdk
 by_cases q1 : nm = [109, 101, 116, 104, 111, 100]
 ·subst q1; exact ⟨_, rfl, rfl, qfm hi.m⟩
 by_cases q2 : nm = [104, 111, 115, 116]
 ·subst q2; exact ⟨_, rfl, rfl, qfm hi.h⟩
 by_cases q3 : nm = [112, 97, 116, 104]
 ·subst q3; exact ⟨_, rfl, rfl, qfm hi.p⟩
 rw [qA0 (by simpa using q1), qA0 (by simpa using q2), qA0 (by simpa using q3), qA0 (by simpa using q1), qA0 (by simpa using q2), qA0 (by simpa using q3)]
 exact ⟨_, rfl, rfl, qfm hi.q⟩
noncomputable def tokB (s : Str) : Bool := (JcT s).getD false
theorem qvl {s : Str} (h : s.length ≤ 100000000) : qb1 s = some (tokB s) ∧ JcT s = some (tokB s) := by
 obtain ⟨b, h1, h2⟩ := tok h
 unfold tokB
 rw [h1, h2]; exact ⟨rfl, rfl⟩
noncomputable def nmO (s : Str) : Option Str := if tokB s = true ∧ s.length ≤ 64 then some (low s) else none
noncomputable def nmC (s : Str) : Int := if tokB s = true then 5 else 8
theorem qqi {s m : Str} (h : nmO s = some m) : m.length ≤ 64 := by
 unfold nmO at h
 split at h
 ·rename_i k; cases h; rw [low_len]; exact k.2
 ·cases h
theorem qx0 {s : Str} (h : s.length ≤ 100000000) : Jcu s = some ((nmO s).getD [], if (nmO s).isSome = true then none else some (nmC s)) := by
 unfold Jcu nmO nmC
 rw [(qvl h).1, qAz]
 cases q : tokB s with
 | false => rfl
 | true =>
  rw [qA0 (by simp)]
  by_cases k : s.length ≤ 64
  ·rw [qA0 (by simp; omega), qh5 (by omega), qA1 ⟨rfl, k⟩]; rfl
  ·rw [qA1 (by simp; omega), qA0 (by simp [k])]; rfl
def vlO (s : Str) : Option Str := if ctl s = false ∧ (trm s).length ≤ 2048 then some (trm s) else none
def vlC (s : Str) : Int := if ctl s = true then 2 else 5
theorem qx1 (s : Str) : vlC s ≠ 0 := by unfold vlC; split <;> decide
theorem qvm {s m : Str} (h : vlO s = some m) : m.length ≤ 2048 := by
 unfold vlO at h
 split at h
 ·rename_i k; cases h; exact k.2
 ·cases h
theorem qhe : ∀ (s : Str) (i : Nat), Jbh s i = some (if ctl s = true then Fl.ret true else Fl.go ())
 | [], i => rfl
 | c :: s, i => by
  have e : ctl (c :: s) = (((decide ((c.toNat : Int) < 32) && decide ((c.toNat : Int) ≠ 9)) || decide ((c.toNat : Int) = 127)) || ctl s) := rfl
  rw [Jbh, qhe s (i + 1), e]
  cases q1 : decide ((c.toNat : Int) < 32) <;> cases q2 : decide ((c.toNat : Int) ≠ 9) <;> cases q3 : decide ((c.toNat : Int) = 127) <;> simp
theorem qlc {s : Str} (h : s.length ≤ 100000000) : Jco s = some (ctl s) := by
 unfold Jco
 rw [qaa (by simp only [qau]; omega), qhe, qAz]
 cases ctl s <;> rfl
theorem qx2 {s : Str} (h : s.length ≤ 1000000) : JcO s = some ((vlO s).getD [], if (vlO s).isSome = true then none else some (vlC s)) := by
 unfold JcO vlO vlC
 rw [qlc (by omega), qAz]
 cases q : ctl s with
 | true => rfl
 | false =>
  rw [qA0 (by simp), qsb (by omega), qAz]
  by_cases k : (trm s).length ≤ 2048
  ·rw [qA0 (by simp; omega), qA1 ⟨rfl, k⟩]; rfl
  ·rw [qA1 (by simp; omega), qA0 (by simp [k])]; rfl
def uff (l : List FF) : List RF := l.map fun x => ⟨x.Name, x.Value⟩
theorem qvn (l : List FF) : (uff l).length = l.length := by simp [uff]
def HOK (k : Nat) (l : List FF) : Prop := l.length ≤ k ∧ ∀ x ∈ l, x.Name.length ≤ 64 ∧ x.Value.length ≤ 2048
def stP (nm v : Str) : List FF → Bool → List FF
 | [], _ => []
 | x :: r, d => if low x.Name = nm then (if d = true then stP nm v r d else ⟨nm, v⟩ :: stP nm v r true) else x :: stP nm v r d
def stD (nm : Str) (l : List FF) : Bool := l.any fun x => decide (low x.Name = nm)
def qx3 (l : List FF) (nm v : Str) : List FF := if stD nm l = true then stP nm v l false else l ++ [⟨nm, v⟩]
theorem qld (nm v : Str) : ∀ (l : List FF) (d : Bool), (stP nm v l d).length ≤ l.length
 | [], d => Nat.le_refl _
 | x :: r, d => by
  have h1 := qld nm v r d
  have h2 := qld nm v r true
  rw [stP]
  split
  ·split <;> simp <;> omega
  ·simp; omega
theorem stP_mem {nm v : Str} {y : FF} : ∀ {l : List FF} {d : Bool}, y ∈ stP nm v l d → y ∈ l ∨ y = ⟨nm, v⟩
 | [], d, h => by cases h
 | x :: r, d, h => by
  rw [stP] at h
  split at h
  ·split at h
   ·rcases stP_mem h with h | h
    ·exact .inl (by simp [h])
    ·exact .inr h
   ·rcases List.mem_cons.1 h with rfl | h
    ·exact .inr rfl
    ·rcases stP_mem h with h | h
     ·exact .inl (by simp [h])
     ·exact .inr h
  ·rcases List.mem_cons.1 h with rfl | h
   ·exact .inl (by simp)
   ·rcases stP_mem h with h | h
    ·exact .inl (by simp [h])
    ·exact .inr h
theorem qvo {k : Nat} {l : List FF} {nm v : Str} (h : HOK k l) (hn : nm.length ≤ 64) (hv : v.length ≤ 2048) : HOK (k + 1) (qx3 l nm v) := by
 unfold qx3
 split
 ·refine ⟨?_, fun y hy => ?_⟩
  ·have := qld nm v l false; have := h.1; omega
  ·rcases stP_mem hy with hy | rfl
   ·exact h.2 y hy
   ·exact ⟨hn, hv⟩
 ·refine ⟨by have := h.1; simp; omega, fun y hy => ?_⟩
  rcases List.mem_append.1 hy with hy | hy
  ·exact h.2 y hy
  ·rw [List.mem_singleton] at hy; subst hy; exact ⟨hn, hv⟩
theorem qmw {nm v : Str} : ∀ (l : List FF) (i : Nat) (y : List FF) (d : Bool), (∀ x ∈ l, x.Name.length ≤ 1000) → y.length + l.length ≤ 1000000 → Jbp nm v l i y d = some (y ++ stP nm v l d, d || stD nm l)
 | [], i, y, d, _, _ => by simp [Jbp, stP, stD]
 | x :: l, i, y, d, h, hy => by
  have hx := h x (by simp)
  have hl := fun z hz => h z (List.mem_cons_of_mem _ hz)
  simp only [List.length_cons] at hy
  rw [Jbp, qh5 (by omega), qAz, stP]
  have e : stD nm (x :: l) = (decide (low x.Name = nm) || stD nm l) := rfl
  by_cases q : low x.Name = nm
  ·rw [qA0 (by simpa using q), qA1 q, e, decide_eq_true q]
   cases d with
   | true => rw [qA0 (by simp), qA1 rfl, qmw l (i + 1) y true hl (by omega)]; simp
   | false => rw [qA1 (by simp), qA0 (by simp), qaa (by simp only [lim, List.length_cons, List.length_nil]; omega), qmw l (i + 1) _ true hl (by simp; omega)]; simp
  ·rw [qA1 (by simpa using q), qA0 q, qaa (by simp only [lim, List.length_cons, List.length_nil]; omega), qmw l (i + 1) _ d hl (by simp; omega), e, decide_eq_false q]; simp
theorem qmx {nm v : Str} : ∀ {l : List FF}, stD nm l = false → stP nm v l false = l
 | [], _ => rfl
 | x :: r, h => by
  have e : stD nm (x :: r) = (decide (low x.Name = nm) || stD nm r) := rfl
  rw [e] at h
  simp only [Bool.or_eq_false_iff, decide_eq_false_iff_not] at h
  rw [stP, qA0 h.1, qmx h.2]
theorem qx4 {k : Nat} {l : List FF} {nm v : Str} (hk : k ≤ 3000) (h : HOK k l) (hn : nm.length ≤ 64) : Jdz l nm v = some (qx3 l (low nm) v) := by
 have h1 := h.1
 unfold Jdz qx3
 rw [qh5 (by omega), qAz, qaa (by simp only [qau]; omega), qmw l 0 [] false (fun x hx => by have := (h.2 x hx).1; omega) (by simp; omega), qAz]
 simp only [Bool.false_or, List.nil_append]
 cases q : stD (low nm) l with
 | true => rw [qA0 (by simp), qA1 rfl]
 | false => rw [qA1 (by simp), qA0 (by simp), qmx q, qaa (by simp only [lim, List.length_cons, List.length_nil]; omega)]
def qj0 (l : List Str) (s : Str) : List Str := if s ∈ l then l else l ++ [s]
theorem qj1 (l : List Str) (s : Str) : (qj0 l s).length ≤ l.length + 1 := by unfold qj0; split <;> simp
abbrev R1 := Jl
abbrev R2 := Jp
def r2 (r : R1) : R2 := ⟨r.Ae, r.Af, uff r.Ag, r.Vary, r.Ah, r.TTL, r.Ai, r.Aj, r.Ak, r.Al⟩
structure ROK (k : Nat) (r : R1) : Prop where
 h : HOK k r.Ag
 v : r.Vary.length ≤ k
 t : r.Ah.length ≤ k
theorem ROK.up {k k' : Nat} {r : R1} (h : ROK k r) (hk : k ≤ k') : ROK k' r := ⟨⟨Nat.le_trans h.h.1 hk, h.h.2⟩, Nat.le_trans h.v hk, Nat.le_trans h.t hk⟩
def needP (s : Str) : Int := if s = [112, 97, 115, 115] ∨ s = [116, 111, 107, 101, 110] ∨ Rc.hp s Rc.sVary = true then 0 else if s = [116, 116, 108] ∨ s = [100, 101, 110, 121] then 2 else 1
theorem qzm (s : Str) : (((if (decide (s = ([112, 97, 115, 115] : Str)) || decide (s = ([116, 111, 107, 101, 110] : Str))) then some true else (JS s ([118, 97, 114, 121, 58] : Str)).bind fun x17 =>
 some x17).bind fun t902 =>
 if t902 then
 some 0
 else
 if (decide (s = ([116, 116, 108] : Str)) || decide (s = ([100, 101, 110, 121] : Str))) then
 some 2
 else
 some 1 : Option (Int))) = some (needP s) := by
 unfold needP
 rw [pfx, qAz, show ([118, 97, 114, 121, 58] : Str) = Rc.sVary from rfl]
 by_cases q1 : s = [112, 97, 115, 115] ∨ s = [116, 111, 107, 101, 110]
 ·rw [qA1 (by simpa using q1), qAz, qA1 rfl, qA1 (by rcases q1 with q | q; exact .inl q; exact .inr (.inl q))]
 ·rw [qA0 (by simpa using q1), qAz]
  by_cases q2 : Rc.hp s Rc.sVary = true
  ·rw [qA1 q2, qA1 (.inr (.inr q2))]
  ·rw [qA0 q2, qA0 (show ¬ (s = [112, 97, 115, 115] ∨ s = [116, 111, 107, 101, 110] ∨ Rc.hp s Rc.sVary = true) from fun h => h.elim (fun h => q1 (.inl h)) fun h => h.elim (fun h => q1 (.inr h)) q2)]
   by_cases q3 : s = [116, 116, 108] ∨ s = [100, 101, 110, 121]
   ·rw [qA1 (by simpa using q3), qA1 q3]
   ·rw [qA0 (by simpa using q3), qA0 q3]
theorem qzn (r : Str) : cutM ([104, 101, 97, 100, 101, 114, 58] ++ r) [58] = if ([104, 101, 97, 100, 101, 114, 58] ++ r).length < qio then some ([104, 101, 97, 100, 101, 114], r, true) else none := by
 unfold cutM
 congr 1
theorem qzo (r : Str) : cutM ([118, 97, 114, 121, 58] ++ r) [58] = if ([118, 97, 114, 121, 58] ++ r).length < qio then some ([118, 97, 114, 121], r, true) else none := by
 unfold cutM
 congr 1
noncomputable def qj8 (r : R1) (s : Str) (x : V1) : R1 × Err :=
 if Rc.hp s Rc.sVary = true then (match nmO (s.drop 5) with
  | none => (r, some 8)
  | some m => ({ r with Vary := qj0 r.Vary m }, none))
 else match nmO (s.drop 7) with
  | none => (r, some 8)
  | some m => match vlO x.s with
   | none => (r, some (vlC x.s))
   | some v => ({ r with Ag := qx3 r.Ag (low m) v }, none)
theorem qx5 {l : List Str} {s : Str} (h : l.length ≤ 3000) (h2 : l.length + 1 ≤ lim) {γ : Type} {f : List Str → γ} : ((JL l s).bind fun x => if (!x) = true then (chk (l.length + [s].length ≤ lim)).bind fun _ => some (f (l ++ [s])) else some (f l)) = some (f (qj0 l s)) := by
 rw [Rc.cont_eq h, qAz]
 unfold qj0
 by_cases q : s ∈ l
 ·rw [qA0 (by simp [q]), qA1 q]
 ·rw [qA1 (by simp [q]), qA0 q, qaa (show l.length + [s].length ≤ lim from h2)]
theorem qx6 {k : Nat} {r : R1} {s : Str} {x : V1} (hk : k ≤ 2900) (hr : ROK k r) (hs : s.length ≤ 100000) (hx : x.s.length ≤ 100000) (hp : Rc.hp s Rc.sHeader = true ∨ Rc.hp s Rc.sVary = true) : Jbb r s x = some ((qj8 r s x).2, (qj8 r s x).1) := by
 have hv := hr.v
 unfold Jbb qj8
 by_cases q : Rc.hp s Rc.sVary = true
 ·have e := Rc.hp_app q
  rw [qA1 q]
  have el : Rc.sVary.length = 5 := rfl
  rw [el] at e
  have hd : (s.drop 5).length ≤ 100000 := by rw [List.length_drop]; omega
  have hc : cutM s [58] = some ([118, 97, 114, 121], s.drop 5, true) := by
   conv => lhs; rw [e]
   rw [show Rc.sVary = [118, 97, 114, 121, 58] from rfl, qzo, qA1 (by rw [qe9]; simp only [List.length_append, List.length_cons, List.length_nil]; omega)]
  rw [hc, qAz]
  simp only
  rw [qx0 (by omega), qAz]
  cases hm : nmO (s.drop 5) with
  | none => rfl
  | some m =>
   simp only [Option.isSome_some, if_true, Option.getD_some]
   rw [qA0 (by simp), qA1 (by decide)]
   exact qx5 (f := fun l => ((none : Err), (⟨r.Ae, r.Af, r.Ag, l, r.Ah, r.TTL, r.Ai, r.Aj, r.Ak, r.Al⟩ : R1))) (by omega) (by simp only [lim]; omega)
 ·have hh : Rc.hp s Rc.sHeader = true := hp.resolve_right q
  have e := Rc.hp_app hh
  rw [qA0 q]
  have el : Rc.sHeader.length = 7 := rfl
  rw [el] at e
  have hd : (s.drop 7).length ≤ 100000 := by rw [List.length_drop]; omega
  have hc : cutM s [58] = some ([104, 101, 97, 100, 101, 114], s.drop 7, true) := by
   conv => lhs; rw [e]
   rw [show Rc.sHeader = [104, 101, 97, 100, 101, 114, 58] from rfl, qzn, qA1 (by rw [qe9]; simp only [List.length_append, List.length_cons, List.length_nil]; omega)]
  rw [hc, qAz]
  simp only
  rw [qx0 (by omega), qAz]
  cases hm : nmO (s.drop 7) with
  | none => rfl
  | some m =>
   simp only [Option.isSome_some, if_true, Option.getD_some]
   rw [qA0 (by simp), qA0 (by simp), qx2 (by omega), qAz]
   cases hvl : vlO x.s with
   | none => rfl
   | some v =>
    simp only [Option.isSome_some, if_true, Option.getD_some]
    rw [qA0 (by simp), qx4 (k := k) (by omega) hr.h (qqi hm)]; rfl
noncomputable def actP (r : R1) (s : Str) (x : V1) : R1 × Err :=
 if x.kind ≠ needP s then (r, some 9)
 else if s = [112, 97, 116, 104] then ({ r with Ae := x.s }, none)
 else if s = [113, 117, 101, 114, 121] then ({ r with Af := x.s }, none)
 else if s = [116, 97, 103] then ({ r with Ah := qj0 r.Ah x.s }, none)
 else if s = [116, 116, 108] then ({ r with TTL := max 0 x.n }, none)
 else if s = [100, 101, 110, 121] then (if x.n < 400 ∨ x.n > 499 then ({ r with Ai := 403 }, none) else ({ r with Ai := x.n }, none))
 else if s = [112, 97, 115, 115] then ({ r with Ak := true }, none)
 else if s = [116, 111, 107, 101, 110] then ({ r with Al := true }, none)
 else qj8 r s x
theorem actK_cases {s : Str} {t : Int} (h : Rc.actK s = some t) : (s ∈ Rc.acts1 ∧ t = 1) ∨ (s ∈ Rc.acts0 ∧ t = 0) ∨ (Rc.hp s Rc.sHeader = true ∧ t = 1) ∨ (Rc.hp s Rc.sVary = true ∧ t = 0) := by
 unfold Rc.actK at h
 split at h
 ·rename_i q; cases h; exact .inl ⟨q, rfl⟩
 ·split at h
  ·rename_i q; cases h; exact .inr (.inl ⟨q, rfl⟩)
  ·split at h
   ·rename_i q
    split at h
    ·cases h; exact .inr (.inr (.inl ⟨q, rfl⟩))
    ·cases h
   ·split at h
    ·rename_i q; cases h
     rw [Bool.and_eq_true] at q
     exact .inr (.inr (.inr ⟨q.1, rfl⟩))
    ·cases h
theorem qqj {s : Str} {t : Int} (h : Rc.actK s = some t) (h1 : s ≠ [112, 97, 116, 104]) (h2 : s ≠ [113, 117, 101, 114, 121]) (h3 : s ≠ [116, 97, 103]) (h4 : s ≠ [116, 116, 108]) (h5 : s ≠ [100, 101, 110, 121]) (h6 : s ≠ [112, 97, 115, 115]) (h7 : s ≠ [116, 111, 107, 101, 110]) : Rc.hp s Rc.sHeader = true ∨ Rc.hp s Rc.sVary = true := by
 rcases actK_cases h with ⟨q, _⟩ | ⟨q, _⟩ | ⟨q, _⟩ | ⟨q, _⟩
 ·unfold Rc.acts1 at q; simp [h1, h2, h3, h4, h5] at q
 ·unfold Rc.acts0 at q; simp [h6, h7] at q
 ·exact .inl q
 ·exact .inr q
theorem qAb {k : Nat} {r : R1} {s : Str} {x : V1} {t : Int} (hk : k ≤ 2900) (hr : ROK k r) (hs : s.length ≤ 100000) (hx : x.s.length ≤ 100000) (ha : Rc.actK s = some t) : JaP r s x = some ((actP r s x).2, (actP r s x).1) := by
 have ht := hr.t
 unfold JaP actP
 rw [qzm, qAz]
 by_cases q0 : x.kind ≠ needP s
 ·rw [qA1 (by simpa using q0), qA1 q0]
 rw [qA0 (by simpa using q0), qA0 q0]
 by_cases q1 : s = [112, 97, 116, 104]
 ·rw [qA1 (by simpa using q1), qA1 q1]
 rw [qA0 (by simpa using q1), qA0 q1]
 by_cases q2 : s = [113, 117, 101, 114, 121]
 ·rw [qA1 (by simpa using q2), qA1 q2]
 rw [qA0 (by simpa using q2), qA0 q2]
 by_cases q3 : s = [116, 97, 103]
 ·rw [qA1 (by simpa using q3), qA1 q3]
  exact qx5 (f := fun l => ((none : Err), (⟨r.Ae, r.Af, r.Ag, r.Vary, l, r.TTL, r.Ai, r.Aj, r.Ak, r.Al⟩ : R1))) (by omega) (by simp only [lim]; omega)
 rw [qA0 (by simpa using q3), qA0 q3]
 by_cases q4 : s = [116, 116, 108]
 ·rw [qA1 (by simpa using q4), qA1 q4]
 rw [qA0 (by simpa using q4), qA0 q4]
 by_cases q5 : s = [100, 101, 110, 121]
 ·rw [qA1 (by simpa using q5), qA1 q5]
  by_cases w : x.n < 400 ∨ x.n > 499
  ·rw [qA1 (by simpa using w), qA1 w]
  ·rw [qA0 (by simpa using w), qA0 w]
 rw [qA0 (by simpa using q5), qA0 q5]
 by_cases q6 : s = [112, 97, 115, 115]
 ·rw [qA1 (by simpa using q6), qA1 q6]
 rw [qA0 (by simpa using q6), qA0 q6]
 by_cases q7 : s = [116, 111, 107, 101, 110]
 ·rw [qA1 (by simpa using q7), qA1 q7]
 rw [qA0 (by simpa using q7), qA0 q7, qx6 hk hr hs hx (qqj ha q1 q2 q3 q4 q5 q6 q7)]; rfl
theorem qvp {k : Nat} {r : R1} {s : Str} {x : V1} (hr : ROK k r) : ROK (k + 1) (qj8 r s x).1 ∧ (qj8 r s x).2 ≠ some 0 ∧ (qj8 r s x).1.Aj = r.Aj := by
 have hu := hr.up (Nat.le_succ k)
 unfold qj8
 split
 ·split
  ·exact ⟨hu, by simp, rfl⟩
  ·refine ⟨⟨hu.h, ?_, hu.t⟩, by simp, rfl⟩
   have := qj1 r.Vary ‹Str›
   have := hr.v
   show (qj0 _ _).length ≤ k + 1
   omega
 ·split
  ·exact ⟨hu, by simp, rfl⟩
  ·rename_i m hm
   split
   ·exact ⟨hu, by simpa using qx1 x.s, rfl⟩
   ·rename_i v hv
    exact ⟨⟨qvo hr.h (by rw [low_len]; exact qqi hm) (qvm hv), hu.v, hu.t⟩, by simp, rfl⟩
theorem qqk {k : Nat} {r : R1} {s : Str} {x : V1} (hr : ROK k r) : ROK (k + 1) (actP r s x).1 ∧ (actP r s x).2 ≠ some 0 ∧ (actP r s x).1.Aj = r.Aj := by
 have hu := hr.up (Nat.le_succ k)
 unfold actP
 split
 ·exact ⟨hu, by simp, rfl⟩
 split
 ·exact ⟨⟨hu.h, hu.v, hu.t⟩, by simp, rfl⟩
 split
 ·exact ⟨⟨hu.h, hu.v, hu.t⟩, by simp, rfl⟩
 split
 ·refine ⟨⟨hu.h, hu.v, ?_⟩, by simp, rfl⟩
  have := qj1 r.Ah x.s
  have := hr.t
  show (qj0 _ _).length ≤ k + 1
  omega
 split
 ·exact ⟨⟨hu.h, hu.v, hu.t⟩, by simp, rfl⟩
 split
 ·split
  ·exact ⟨⟨hu.h, hu.v, hu.t⟩, by simp, rfl⟩
  ·exact ⟨⟨hu.h, hu.v, hu.t⟩, by simp, rfl⟩
 split
 ·exact ⟨⟨hu.h, hu.v, hu.t⟩, by simp, rfl⟩
 split
 ·exact ⟨⟨hu.h, hu.v, hu.t⟩, by simp, rfl⟩
 exact qvp hr
abbrev M1 := Jg
abbrev M2 := JC
abbrev I := Rt.Rc.I
def z0 : V1 := ⟨0, 0, [], false⟩
noncomputable def callP (nm : Str) (x : V1) (j : In1) : V1 × Bool := (JD nm x j).getD (z0, false)
noncomputable def opP (op : Str) (a b : V1) : V1 × Bool := (JG op a b).getD (z0, false)
noncomputable def qsm (nm : Str) (j : In1) : V1 := (Jar nm j).getD z0
def wS (m : M1) (s : Int) : M1 := ⟨m.Ar, m.most, ⟨m.result.Ae, m.result.Af, m.result.Ag, m.result.Vary, m.result.Ah, m.result.TTL, m.result.Ai, s, m.result.Ak, m.result.Al⟩, m.stack, m.Ap⟩
def wT (m : M1) (l : List V1) : M1 := ⟨m.Ar, m.most, m.result, l, m.Ap⟩
def wR (m : M1) (r : R1) : M1 := ⟨m.Ar, m.most, r, m.stack, m.Ap⟩
def wL (m : M1) (l : List V1) : M1 := ⟨m.Ar, m.most, m.result, m.stack, l⟩
def top (m : M1) : V1 := m.stack.getLastD z0
def pop (m : M1) : M1 := wT m m.stack.dropLast
def pushP (m : M1) (v : V1) (o : Bool) : Err × M1 :=
 if v.s.length > 2048 then (some 5, m)
 else if o = true ∧ v.kind = 1 then (if m.result.Aj + ((v.s.length / 64 : Nat) : Int) > m.most then (some 13, wS m (m.result.Aj + ((v.s.length / 64 : Nat) : Int))) else (none, wT (wS m (m.result.Aj + ((v.s.length / 64 : Nat) : Int))) (m.stack ++ [v])))
 else (none, wT m (m.stack ++ [v]))
def nxP (at' : Int) (p : Err × M1) : Int × Err × M1 := (at' + 1, p.1, p.2)
noncomputable def qq4 (m0 : M1) (at' : Int) (s : Str) (p : V1 × M1) : Int × Err × M1 :=
 if (actP p.2.result s p.1).2.isSome = true then (0, (actP p.2.result s p.1).2, wR p.2 (actP p.2.result s p.1).1)
 else if s = [100, 101, 110, 121] then (-1, none, wR p.2 (actP p.2.result s p.1).1)
 else (at' + 1, none, wR p.2 (actP p.2.result s p.1).1)
noncomputable def stepP (m : M1) (at' : Int) (x : I) : Int × Err × M1 :=
 if m.result.Aj + 1 > m.most then (0, some 13, wS m (m.result.Aj + 1)) else
 if x.Op = 1 then nxP at' (pushP (wS m (m.result.Aj + 1)) (nm' x.N) false) else
 if x.Op = 2 then nxP at' (pushP (wS m (m.result.Aj + 1)) (tx' x.S) false) else
 if x.Op = 3 then nxP at' (pushP (wS m (m.result.Aj + 1)) (m.Ap.getD x.N.toNat z0) false) else
 if x.Op = 5 then nxP at' (pushP (wS m (m.result.Aj + 1)) (qsm x.S m.Ar) false) else
 if x.Op = 4 then (at' + 1, none, wL (pop (wS m (m.result.Aj + 1))) (m.Ap.set x.N.toNat (top m))) else
 if x.Op = 6 then (if (callP x.S (top m) m.Ar).2 = true then nxP at' (pushP (pop (wS m (m.result.Aj + 1))) (callP x.S (top m) m.Ar).1 true) else (0, some 9, pop (wS m (m.result.Aj + 1)))) else
 if x.Op = 7 then (if (opP x.S (top (pop m)) (top m)).2 = true then nxP at' (pushP (pop (pop (wS m (m.result.Aj + 1)))) (opP x.S (top (pop m)) (top m)).1 true) else (0, some 9, pop (pop (wS m (m.result.Aj + 1))))) else
 if x.Op = 8 then (if (top m).kind = 3 then nxP at' (pushP (pop (wS m (m.result.Aj + 1))) (tr' (!(top m).Au)) false) else (0, some 9, pop (wS m (m.result.Aj + 1)))) else
 if x.Op = 9 then (x.N, none, wS m (m.result.Aj + 1)) else
 if x.Op = 10 then (if (top m).kind = 3 then (if (top m).Au = true then (at' + 1, none, pop (wS m (m.result.Aj + 1))) else (x.N, none, pop (wS m (m.result.Aj + 1)))) else (0, some 9, pop (wS m (m.result.Aj + 1)))) else
 if x.Op = 11 then qq4 m at' x.S (if needP x.S = 0 then (z0, wS m (m.result.Aj + 1)) else (top m, pop (wS m (m.result.Aj + 1)))) else
 (-1, none, wS m (m.result.Aj + 1))
structure MOK (k : Nat) (m : M1) : Prop where
 i : ∃ i, IOK i ∧ m.Ar = inp i
 r : ROK k m.result
 st : ∀ v ∈ m.stack, VOK 2048 v
 sl : ∀ v ∈ m.Ap, VOK 2048 v
 sn : m.Ap.length = 512
 tn : m.stack.length ≤ k
 s0 : 0 ≤ m.result.Aj
 s1 : m.result.Aj ≤ 40 * k
 k : k ≤ 2800
theorem qx7 (m : Nat) : VOK m z0 := ⟨Nat.zero_le _, by decide, by decide⟩
theorem MOK.top {k : Nat} {m : M1} (h : MOK k m) : VOK 2048 (top m) := by
 unfold Rv.top
 cases e : m.stack with
 | nil => exact qx7 _
 | cons a l =>
  rw [List.getLastD_cons, List.getLastD_eq_getLast?]
  cases e2 : (l.getLast?) with
  | none => exact h.st _ (by rw [e]; simp)
  | some y => exact h.st _ (by rw [e]; simp [List.mem_of_getLast? e2])
theorem MOK.top2 {k : Nat} {m : M1} (h : MOK k m) : VOK 2048 (Rv.top (pop m)) := by
 have h2 : MOK k (pop m) := ⟨h.i, h.r, fun v hv => h.st v (List.dropLast_subset _ hv), h.sl, h.sn, by have := h.tn; show (m.stack.dropLast).length ≤ k; rw [List.length_dropLast]; omega, h.s0, h.s1, h.k⟩
 exact h2.top
theorem qsn {α : Type} {l : List α} (d : α) (h : 1 ≤ l.length) : ix l ((l.length : Int) - 1) = some (l.getLastD d) := by
 unfold ix
 rw [qA1 (by omega), show ((l.length : Int) - 1).toNat = l.length - 1 by omega, ← List.getLast?_eq_getElem?, List.getLastD_eq_getLast?]
 cases e : l.getLast? with
 | none => rw [List.getLast?_eq_none_iff] at e; subst e; simp at h
 | some y => rfl
theorem pop_eq {m : M1} (h : 1 ≤ m.stack.length) (h2 : m.stack.length ≤ 100000) : JP m = some (top m, pop m) := by
 unfold JP
 rw [qaa (by constructor <;> omega), qsn z0 h, qAz, qaa (by constructor <;> omega), qaa (by omega)]
 have : subL m.stack (0 : Int) ((m.stack.length : Int) - 1) = m.stack.dropLast := by
  unfold subL
  rw [List.dropLast_eq_take]
  simp
 rw [this]; rfl
theorem qle {k : Nat} {m : M1} {v : V1} {o : Bool} (h0 : 0 ≤ m.result.Aj) (h1 : m.result.Aj ≤ 1000000) (h2 : m.stack.length ≤ 100000) (hv : v.s.length ≤ 100000) : JO m v o = some (pushP m v o) := by
 unfold JO pushP
 have et : Int.tdiv (v.s.length : Int) 64 = ((v.s.length / 64 : Nat) : Int) := by rw [Int.tdiv_eq_ediv_of_nonneg (by omega)]; omega
 rw [et]
 by_cases q : v.s.length > 2048
 ·rw [qA1 (by simp; omega), qA1 q]
 ·rw [qA0 (by simp; omega), qA0 q]
  by_cases q2 : o = true ∧ v.kind = 1
  ·rw [qA1 (by simp [q2.1, q2.2]), qA1 q2, qaa ⟨by decide, by omega, by omega⟩, qaa (by constructor <;> omega)]
   by_cases q3 : m.result.Aj + ((v.s.length / 64 : Nat) : Int) > m.most
   ·rw [qA1 (by simpa using q3), qA1 q3]; rfl
   ·rw [qA0 (by simpa using q3), qA0 q3, qAz, Rt.el_go, qaa (by simp only [lim, List.length_cons, List.length_nil]; omega)]; rfl
  ·rw [qA0 (by simpa using q2), qA0 q2, qAz, Rt.el_go, qaa (by simp only [lim, List.length_cons, List.length_nil]; omega)]; rfl
theorem qiw {m n : Nat} {nm : Str} {x : V1} {j : In1} (hi : ∃ i, IOK i ∧ j = inp i) (hm : m ≤ 20000) (hx : VOK m x) : JD nm x j = some (callP nm x j) ∧ ((callP nm x j).2 = true → VOK 40000 (callP nm x j).1) := by
 obtain ⟨i, hi, rfl⟩ := hi
 obtain ⟨v, ok, h1, _, h3⟩ := qsl (n := 1000002) (nm := nm) (by omega) hm hi hx
 unfold callP
 rw [h1]; exact ⟨rfl, h3⟩
theorem qix {m : Nat} {op : Str} {a b : V1} (hm : m ≤ 20000) (ha : VOK m a) (hb : VOK m b) : JG op a b = some (opP op a b) ∧ ((opP op a b).2 = true → VOK 40000 (opP op a b).1) := by
 obtain ⟨v, ok, h1, _, h3⟩ := qxz (n := 1000002) (op := op) (by omega) hm ha hb
 unfold opP
 rw [h1]; exact ⟨rfl, h3⟩
theorem qmy {nm : Str} {j : In1} (hi : ∃ i, IOK i ∧ j = inp i) : Jar nm j = some (qsm nm j) ∧ VOK 10000 (qsm nm j) := by
 obtain ⟨i, hi, rfl⟩ := hi
 obtain ⟨v, h1, _, h3⟩ := qvk (nm := nm) hi
 unfold qsm
 rw [h1]; exact ⟨rfl, h3⟩
theorem qmz {s : Str} {t : Int} (h : Rc.actK s = some t) : t = if needP s = 0 then 0 else 1 := by
 have hn : needP s = 0 ↔ (s = [112, 97, 115, 115] ∨ s = [116, 111, 107, 101, 110] ∨ Rc.hp s Rc.sVary = true) := by
  unfold needP
  split
  ·rename_i q; simp [q]
  ·rename_i q; split <;> simp [q]
 rcases actK_cases h with ⟨q, rfl⟩ | ⟨q, rfl⟩ | ⟨q, rfl⟩ | ⟨q, rfl⟩
 ·unfold Rc.acts1 at q
  rw [qA0]
  rw [hn]
  simp only [List.mem_cons, List.not_mem_nil, or_false] at q
  rcases q with rfl | rfl | rfl | rfl | rfl <;> decide
 ·unfold Rc.acts0 at q
  simp only [List.mem_cons, List.not_mem_nil, or_false] at q
  rw [qA1 (hn.2 (by rcases q with q | q; exact .inl q; exact .inr (.inl q)))]
 ·rw [qA0]
  rw [hn]
  rintro (rfl | rfl | e)
  ·exact absurd q (by decide)
  ·exact absurd q (by decide)
  ·have := Rc.hdvary s e; rw [q] at this; cases this
 ·rw [qA1 (hn.2 (.inr (.inr q)))]
theorem qzp (s : Str) : (if (decide (s ≠ ([112, 97, 115, 115] : Str)) && decide (s ≠ ([116, 111, 107, 101, 110] : Str))) then (JS s ([118, 97, 114, 121, 58] : Str)).bind fun x179 =>
 some (!x179) else some false) = some (decide (needP s ≠ 0)) := by
 rw [pfx, qAz, show ([118, 97, 114, 121, 58] : Str) = Rc.sVary from rfl]
 unfold needP
 by_cases q1 : s = [112, 97, 115, 115] ∨ s = [116, 111, 107, 101, 110]
 ·rw [qA0 (by rcases q1 with q | q <;> simp [q]), qA1 (by rcases q1 with q | q; exact .inl q; exact .inr (.inl q))]; rfl
 ·have q2 : ¬ s = [112, 97, 115, 115] := fun e => q1 (.inl e)
  have q3 : ¬ s = [116, 111, 107, 101, 110] := fun e => q1 (.inr e)
  rw [qA1 (by simp [q2, q3])]
  cases q : Rc.hp s Rc.sVary with
  | true => rw [qA1 (.inr (.inr rfl))]; rfl
  | false =>
   rw [qA0 (by simp [q2, q3])]
   split <;> rfl
theorem qzq {k : Nat} {m : M1} {x : I} {t l at' : Int} (h : MOK k m) (hx : x.S.length ≤ 100000) (he : Rc.eff x = some (t, l)) (ht : t ≤ m.stack.length) (ha0 : 0 ≤ at') (ha1 : at' ≤ 100000) :
  Jbt m at' x = some (stepP m at' x) := by
 have hs0 := h.s0
 have hs1 := h.s1
 have hk := h.k
 have hn := h.tn
 have hsn := h.sn
 unfold Jbt stepP
 rw [qaa (by constructor <;> omega)]
 by_cases q0 : m.result.Aj + 1 > m.most
 ·rw [qA1 (by simpa using q0), qA1 q0]; rfl
 rw [qA0 (by simpa using q0), qA0 q0, qaa (by constructor <;> omega)]
 have hw : (wS m (m.result.Aj + 1)).result.Aj = m.result.Aj + 1 := rfl
 have hpm : JP (wS m (m.result.Aj + 1)) = if 1 ≤ m.stack.length then some (top m, pop (wS m (m.result.Aj + 1))) else JP (wS m (m.result.Aj + 1)) := by
  split
  ·rename_i w; exact pop_eq (m := wS m (m.result.Aj + 1)) w (by show m.stack.length ≤ 100000; omega)
  ·rfl
 have hpu : ∀ (v : V1) (o : Bool), v.s.length ≤ 100000 → JO (wS m (m.result.Aj + 1)) v o = some (pushP (wS m (m.result.Aj + 1)) v o) := fun v o hv =>
  qle (k := k) (by rw [hw]; omega) (by rw [hw]; omega) (by show m.stack.length ≤ 100000; omega) hv
 have hpu1 : ∀ (v : V1) (o : Bool), v.s.length ≤ 100000 → JO (pop (wS m (m.result.Aj + 1))) v o = some (pushP (pop (wS m (m.result.Aj + 1))) v o) := fun v o hv =>
  qle (k := k) (by show 0 ≤ m.result.Aj + 1; omega) (by show m.result.Aj + 1 ≤ _; omega) (by show (m.stack.dropLast).length ≤ 100000; rw [List.length_dropLast]; omega) hv
 have eta : ∀ p : Err × M1, p.2.Ar = m.Ar → ((some ((at' + 1), p.1, (⟨m.Ar, p.2.most, p.2.result, p.2.stack, p.2.Ap⟩ : M1))) : Option (Int × Err × M1)) = some (nxP at' p) := fun p hp => by
  unfold nxP; rw [← hp]
 have hpi : ∀ (M : M1) (v : V1) (o : Bool), (pushP M v o).2.Ar = M.Ar := fun M v o => by
  unfold pushP
  split
  ·rfl
  ·split
   ·split <;> rfl
   ·rfl
 by_cases q1 : x.Op = 1
 ·rw [qA1 (by simpa using q1), qA1 q1, qq3, qAz]
  refine (congrArg (fun o => Option.bind o _) (hpu _ _ (by simp [nm']))).trans ?_
  rw [qAz]
  exact eta _ (hpi _ _ _)
 rw [qA0 (by simpa using q1), qA0 q1]
 by_cases q2 : x.Op = 2
 ·rw [qA1 (by simpa using q2), qA1 q2, qvj, qAz]
  refine (congrArg (fun o => Option.bind o _) (hpu _ _ (by simpa [tx'] using hx))).trans ?_
  rw [qAz]
  exact eta _ (hpi _ _ _)
 rw [qA0 (by simpa using q2), qA0 q2]
 by_cases q3 : x.Op = 3
 ·have hb := (Rc.eff_bd he).2.2.2.2.2 (.inl q3)
  have hix : ix m.Ap x.N = some (m.Ap.getD x.N.toNat z0) := by
   unfold ix
   rw [qA1 hb.1, List.getElem?_eq_getElem (by omega), List.getD_eq_getElem?_getD, List.getElem?_eq_getElem (by omega)]; rfl
  have hvl : VOK 2048 (m.Ap.getD x.N.toNat z0) := by
   rw [List.getD_eq_getElem?_getD, List.getElem?_eq_getElem (by omega)]; exact h.sl _ (List.getElem_mem _)
  rw [qA1 (by simpa using q3), qA1 q3, hix, qAz]
  refine (congrArg (fun o => Option.bind o _) (hpu _ _ (by have := hvl.1; omega))).trans ?_
  rw [qAz]
  exact eta _ (hpi _ _ _)
 rw [qA0 (by simpa using q3), qA0 q3]
 by_cases q5 : x.Op = 5
 ·obtain ⟨hp1, hp2⟩ := qmy (nm := x.S) h.i
  rw [qA1 (by simpa using q5), qA1 q5, hp1, qAz]
  refine (congrArg (fun o => Option.bind o _) (hpu _ _ (by have := hp2.1; omega))).trans ?_
  rw [qAz]
  exact eta _ (hpi _ _ _)
 rw [qA0 (by simpa using q5), qA0 q5]
 by_cases q4 : x.Op = 4
 ·have hb := (Rc.eff_bd he).2.2.2.2.2 (.inr q4)
  have htt : 1 ≤ m.stack.length := by
   have e := he
   unfold Rc.eff at e
   rw [qA0 q1, qA0 q2, qA0 q3, qA1 q4] at e
   split at e
   ·cases e; omega
   ·cases e
  rw [qA1 htt] at hpm
  rw [qA1 (by simpa using q4), qA1 q4]
  refine (congrArg (fun o => Option.bind o _) hpm).trans ?_
  rw [qAz]
  have hix : ∃ y, ix m.Ap x.N = some y := qcq hb.1 (by omega)
  obtain ⟨y, hy⟩ := hix
  refine (congrArg (fun o => Option.bind o _) hy).trans ?_
  rfl
 rw [qA0 (by simpa using q4), qA0 q4]
 by_cases q6 : x.Op = 6
 ·have htt : 1 ≤ m.stack.length := by
   have e := he
   unfold Rc.eff at e
   rw [qA0 q1, qA0 q2, qA0 q3, qA0 q4, qA0 q5, qA1 q6] at e
   split at e
   ·cases e; omega
   ·cases e
  rw [qA1 htt] at hpm
  obtain ⟨hc1, hc2⟩ := qiw (n := 0) (nm := x.S) h.i (by omega) h.top
  rw [qA1 (by simpa using q6), qA1 q6]
  refine (congrArg (fun o => Option.bind o _) hpm).trans ?_
  rw [qAz]
  refine (congrArg (fun o => Option.bind o _) hc1).trans ?_
  rw [qAz]
  cases hb : (callP x.S (top m) m.Ar).2 with
  | false => rw [qA1 (by simp), qA0 (by simp)]; rfl
  | true =>
   rw [qA0 (by simp), qA1 rfl]
   refine (congrArg (fun o => Option.bind o _) (hpu1 _ _ (by have := (hc2 hb).1; omega))).trans ?_
   rw [qAz]
   exact eta _ (hpi _ _ _)
 rw [qA0 (by simpa using q6), qA0 q6]
 by_cases q7 : x.Op = 7
 ·have htt : 2 ≤ m.stack.length := by
   have e := he
   unfold Rc.eff at e
   rw [qA0 q1, qA0 q2, qA0 q3, qA0 q4, qA0 q5, qA0 q6, qA1 q7] at e
   split at e
   ·cases e; omega
   ·cases e
  rw [qA1 (by omega)] at hpm
  have hpm2 : JP (pop (wS m (m.result.Aj + 1))) = some (top (pop m), pop (pop (wS m (m.result.Aj + 1)))) :=
   pop_eq (m := pop (wS m (m.result.Aj + 1))) (by show 1 ≤ (m.stack.dropLast).length; rw [List.length_dropLast]; omega) (by show (m.stack.dropLast).length ≤ 100000; rw [List.length_dropLast]; omega)
  obtain ⟨hc1, hc2⟩ := qix (op := x.S) (by omega) h.top2 h.top
  rw [qA1 (by simpa using q7), qA1 q7]
  refine (congrArg (fun o => Option.bind o _) hpm).trans ?_
  rw [qAz]
  refine (congrArg (fun o => Option.bind o _) hpm2).trans ?_
  rw [qAz]
  refine (congrArg (fun o => Option.bind o _) hc1).trans ?_
  rw [qAz]
  cases hb : (opP x.S (top (pop m)) (top m)).2 with
  | false => rw [qA1 (by simp), qA0 (by simp)]; rfl
  | true =>
   rw [qA0 (by simp), qA1 rfl]
   have hpu2 : JO (pop (pop (wS m (m.result.Aj + 1)))) (opP x.S (top (pop m)) (top m)).1 true = some (pushP (pop (pop (wS m (m.result.Aj + 1)))) (opP x.S (top (pop m)) (top m)).1 true) :=
    qle (k := k) (by show 0 ≤ m.result.Aj + 1; omega) (by show m.result.Aj + 1 ≤ _; omega) (by show (m.stack.dropLast.dropLast).length ≤ 100000; rw [List.length_dropLast, List.length_dropLast]; omega) (by have := (hc2 hb).1; omega)
   refine (congrArg (fun o => Option.bind o _) hpu2).trans ?_
   rw [qAz]
   exact eta _ (hpi _ _ _)
 rw [qA0 (by simpa using q7), qA0 q7]
 by_cases q8 : x.Op = 8
 ·have htt : 1 ≤ m.stack.length := by
   have e := he
   unfold Rc.eff at e
   rw [qA0 q1, qA0 q2, qA0 q3, qA0 q4, qA0 q5, qA0 q6, qA0 q7, qA1 q8] at e
   split at e
   ·cases e; omega
   ·cases e
  rw [qA1 htt] at hpm
  rw [qA1 (by simpa using q8), qA1 q8]
  refine (congrArg (fun o => Option.bind o _) hpm).trans ?_
  rw [qAz]
  by_cases hb : (top m).kind = 3
  ·rw [qA0 (by simpa using hb), qA1 hb, qh6, qAz]
   refine (congrArg (fun o => Option.bind o _) (hpu1 _ _ (by simp [tr']))).trans ?_
   rw [qAz]
   exact eta _ (hpi _ _ _)
  ·rw [qA1 (by simpa using hb), qA0 hb]; rfl
 rw [qA0 (by simpa using q8), qA0 q8]
 by_cases q9 : x.Op = 9
 ·rw [qA1 (by simpa using q9), qA1 q9]; rfl
 rw [qA0 (by simpa using q9), qA0 q9]
 by_cases q10 : x.Op = 10
 ·have htt : 1 ≤ m.stack.length := by
   have e := he
   unfold Rc.eff at e
   rw [qA0 q1, qA0 q2, qA0 q3, qA0 q4, qA0 q5, qA0 q6, qA0 q7, qA0 q8, qA0 q9, qA1 q10] at e
   split at e
   ·cases e; omega
   ·cases e
  rw [qA1 htt] at hpm
  rw [qA1 (by simpa using q10), qA1 q10]
  refine (congrArg (fun o => Option.bind o _) hpm).trans ?_
  rw [qAz]
  by_cases hb : (top m).kind = 3
  ·rw [qA0 (by simpa using hb), qA1 hb]
   cases hz : (top m).Au with
   | true => rw [qA0 (by simp), qA1 rfl]; rfl
   | false => rw [qA1 (by simp), qA0 (by simp)]; rfl
  ·rw [qA1 (by simpa using hb), qA0 hb]; rfl
 rw [qA0 (by simpa using q10), qA0 q10]
 by_cases q11 : x.Op = 11
 ·rw [qA1 (by simpa using q11), qA1 q11, qzp, qAz]
  have hK : Rc.actK x.S = some t := by
   have e := he
   unfold Rc.eff at e
   rw [qA0 q1, qA0 q2, qA0 q3, qA0 q4, qA0 q5, qA0 q6, qA0 q7, qA0 q8, qA0 q9, qA0 q10, qA1 q11] at e
   split at e
   ·obtain ⟨y, hy, e2⟩ := Option.map_eq_some_iff.1 e
    cases e2; exact hy
   ·cases e
  have htn := qmz hK
  have fin : ∀ p : V1 × M1, p.2.Ar = m.Ar → p.2.result = (wS m (m.result.Aj + 1)).result → p.1.s.length ≤ 100000 →
    ((JaP p.2.result x.S p.1).bind fun x190 =>
     if x190.1.isSome then
     some (0, x190.1, (⟨m.Ar, p.2.most, x190.2, p.2.stack, p.2.Ap⟩ : M1))
     else
     if decide (x.S = ([100, 101, 110, 121] : Str)) then
     some ((-1), none, (⟨m.Ar, p.2.most, x190.2, p.2.stack, p.2.Ap⟩ : M1))
     else
     some ((at' + 1), none, (⟨m.Ar, p.2.most, x190.2, p.2.stack, p.2.Ap⟩ : M1))) = some (qq4 m at' x.S p) := by
   intro p h1 h2 h3
   have hr : ROK k p.2.result := by rw [h2]; exact ⟨h.r.h, h.r.v, h.r.t⟩
   rw [qAb (k := k) (by omega) hr hx h3 hK, qAz]
   unfold qq4
   cases hA : (actP p.2.result x.S p.1).2 with
   | some c => rw [qA1 (by simp), qA1 (by simp)]; unfold wR; rw [h1]
   | none =>
    simp only [Option.isSome_none, Bool.false_eq_true, if_false]
    unfold wR
    rw [h1]
    by_cases qd : x.S = [100, 101, 110, 121]
    ·rw [qA1 (by simpa using qd), qA1 qd]
    ·rw [qA0 (by simpa using qd), qA0 qd]
  by_cases qn : needP x.S = 0
  ·rw [qA0 (by simpa using qn), qA1 qn, qAz]
   exact fin (z0, wS m (m.result.Aj + 1)) rfl rfl (by simp [z0])
  ·rw [qA0 qn] at htn
   rw [qA1 (show 1 ≤ m.stack.length by omega)] at hpm
   rw [qA1 (by simpa using qn), qA0 qn]
   have := h.top
   have e : ((JP (wS m (m.result.Aj + 1))).bind fun x183 =>
    some (x183.1.kind, x183.1.n, x183.1.s, x183.1.Au, (⟨m.Ar, x183.2.most, x183.2.result, x183.2.stack, x183.2.Ap⟩ : Jg))) = some ((top m).kind, (top m).n, (top m).s, (top m).Au, pop (wS m (m.result.Aj + 1))) := by
    rw [hpm]; rfl
   refine (congrArg (fun o => Option.bind o _) e).trans ?_
   rw [qAz]
   exact fin (top m, pop (wS m (m.result.Aj + 1))) rfl rfl (by have := this.1; show (top m).s.length ≤ 100000; omega)
 rw [qA0 (by simpa using q11), qA0 q11]
 have q12 : x.Op = 12 := by
  have e := he
  unfold Rc.eff at e
  rw [qA0 q1, qA0 q2, qA0 q3, qA0 q4, qA0 q5, qA0 q6, qA0 q7, qA0 q8, qA0 q9, qA0 q10, qA0 q11] at e
  by_cases w : x.Op = 12
  ·exact w
  ·rw [qA0 w] at e; cases e
 rw [qA1 (by simpa using q12)]; rfl
abbrev w2 (m : M1) (at' : Int) : M2 := ⟨m.stack.map cv2, m.Ap.map cv2, at', r2 m.result, false, 0⟩
theorem VOK.mono {a b : Nat} {v : V1} (h : VOK a v) (hab : a ≤ b) : VOK b v := ⟨Nat.le_trans h.1 hab, h.2⟩
theorem MOK.up {k k' : Nat} {m : M1} (h : MOK k m) (hk : k ≤ k') (h8 : k' ≤ 2800) : MOK k' m := ⟨h.i, h.r.up hk, h.st, h.sl, h.sn, Nat.le_trans h.tn hk, h.s0, by have := h.s1; omega, h8⟩
theorem MOK.steps {k : Nat} {m : M1} (h : MOK k m) {s : Int} (h0 : 0 ≤ s) (h1 : s ≤ 40 * k) : MOK k (wS m s) := ⟨h.i, ⟨h.r.h, h.r.v, h.r.t⟩, h.st, h.sl, h.sn, h.tn, h0, h1, h.k⟩
theorem MOK.pop {k : Nat} {m : M1} (h : MOK k m) : MOK k (Rv.pop m) :=
 ⟨h.i, h.r, fun v hv => h.st v (List.dropLast_subset _ hv), h.sl, h.sn, by have := h.tn; show (m.stack.dropLast).length ≤ k; rw [List.length_dropLast]; omega, h.s0, h.s1, h.k⟩
theorem qvq {k : Nat} {m : M1} {v : V1} {o : Bool} {M : M1} (h : MOK k m) (h8 : k + 1 ≤ 2800) (hv : VOK 40000 v) (he : pushP m v o = (none, M)) :
  MOK (k + 1) M ∧ M.Ar = m.Ar ∧ M.most = m.most ∧ M.stack = m.stack ++ [v] ∧ M.result.Aj ≤ m.result.Aj + 32 ∧ M.Ap = m.Ap := by
 unfold pushP at he
 by_cases q : v.s.length > 2048
 ·rw [qA1 q] at he; cases he
 ·rw [qA0 q] at he
  have hv2 : VOK 2048 v := ⟨by omega, hv.2⟩
  have hst : ∀ y ∈ m.stack ++ [v], VOK 2048 y := fun y hy => by
   rcases List.mem_append.1 hy with hy | hy
   ·exact h.st y hy
   ·rw [List.mem_singleton] at hy; subst hy; exact hv2
  have htn : (m.stack ++ [v]).length ≤ k + 1 := by have := h.tn; simp; omega
  have hr := h.r.up (Nat.le_succ k)
  have h0 := h.s0
  have h1 := h.s1
  split at he
  ·split at he
   ·cases he
   ·cases he
    refine ⟨⟨h.i, ⟨hr.h, hr.v, hr.t⟩, hst, h.sl, h.sn, htn, ?_, ?_, h8⟩, rfl, rfl, rfl, ?_, rfl⟩
    ·show 0 ≤ m.result.Aj + ((v.s.length / 64 : Nat) : Int); omega
    ·show m.result.Aj + ((v.s.length / 64 : Nat) : Int) ≤ 40 * ((k + 1 : Nat) : Int); omega
    ·show m.result.Aj + ((v.s.length / 64 : Nat) : Int) ≤ m.result.Aj + 32; omega
  ·cases he
   refine ⟨⟨h.i, hr, hst, h.sl, h.sn, htn, h0, by show m.result.Aj ≤ _; omega, h8⟩, rfl, rfl, rfl, ?_, rfl⟩
   show m.result.Aj ≤ m.result.Aj + 32; omega
structure Kp (k : Nat) (m : M1) (at' : Int) (x : I) (t l : Int) (nx : Int) (M : M1) : Prop where
 ok : MOK (k + 1) M
 inz : M.Ar = m.Ar
 most : M.most = m.most
 len : nx ≠ -1 → (M.stack.length : Int) = m.stack.length + (l - t)
 nx : nx = -1 ∨ (x.Op ≠ 9 ∧ x.Op ≠ 12 ∧ nx = at' + 1) ∨ (Rc.isJ x = true ∧ nx = x.N)
theorem qm0 {at' nx : Int} {p : Err × M1} {M : M1} (h : nxP at' p = (nx, none, M)) : nx = at' + 1 ∧ p = (none, M) := by
 unfold nxP at h
 obtain ⟨a, b⟩ := p
 cases h; exact ⟨rfl, rfl⟩
theorem qeg {k : Nat} {m m0 : M1} {x : I} {v : V1} {o : Bool} {at' nx t l : Int} {M : M1} (h : nxP at' (pushP m0 v o) = (nx, none, M)) (hm : MOK (k + 1) m0) (h8 : k + 2 ≤ 2800)
  (hs : m0.result.Aj ≤ m.result.Aj + 1) (hs1 : m.result.Aj ≤ 40 * k) (hin : m0.Ar = m.Ar) (hmo : m0.most = m.most) (hv : VOK 40000 v) (hl : ((m0.stack.length : Int) + 1) = m.stack.length + (l - t)) (hk : m0.stack.length ≤ k) (h9 : x.Op ≠ 9 ∧ x.Op ≠ 12) (hR : ROK k m0.result) : Kp k m at' x t l nx M := by
 obtain ⟨rfl, h2⟩ := qm0 h
 obtain ⟨h3, h4, h5, h6, h7, h8'⟩ := qvq hm (by omega) hv h2
 refine ⟨⟨h3.i, ?_, h3.st, h3.sl, h3.sn, ?_, h3.s0, by omega, by omega⟩, by rw [h4, hin], by rw [h5, hmo], fun _ => by rw [h6]; simp; omega, .inr (.inl ⟨h9.1, h9.2, rfl⟩)⟩
 ·have : M.result.Ag = m0.result.Ag ∧ M.result.Vary = m0.result.Vary ∧ M.result.Ah = m0.result.Ah := by
   unfold pushP at h2
   split at h2
   ·cases h2
   ·split at h2
    ·split at h2
     ·cases h2
     ·cases h2; exact ⟨rfl, rfl, rfl⟩
    ·cases h2; exact ⟨rfl, rfl, rfl⟩
  have hR2 := hR.up (Nat.le_succ k)
  exact ⟨by rw [this.1]; exact hR2.h, by rw [this.2.1]; exact hR2.v, by rw [this.2.2]; exact hR2.t⟩
 ·rw [h6]; simp; omega
theorem keep {k : Nat} {m : M1} {x : I} {t l at' nx : Int} {M : M1} (h : MOK k m) (h8 : k + 2 ≤ 2800) (hx : x.S.length ≤ 100000) (he : Rc.eff x = some (t, l)) (ht : t ≤ m.stack.length) (hs : stepP m at' x = (nx, none, M)) : Kp k m at' x t l nx M := by
 have hs0 := h.s0
 have hs1 := h.s1
 have hk := h.k
 have htn := h.tn
 have h1 : MOK (k + 1) (wS m (m.result.Aj + 1)) := (h.up (Nat.le_succ k) (by omega)).steps (by omega) (by omega)
 have hR : ROK k (wS m (m.result.Aj + 1)).result := ⟨h.r.h, h.r.v, h.r.t⟩
 have eS : (wS m (m.result.Aj + 1)).result.Aj = m.result.Aj + 1 := rfl
 have ePl : ((pop (wS m (m.result.Aj + 1))).stack.length : Int) = (m.stack.length - 1 : Nat) := by show ((m.stack.dropLast.length : Nat) : Int) = _; rw [List.length_dropLast]
 have hpn : (pop (wS m (m.result.Aj + 1))).stack.length ≤ k := by omega
 unfold stepP at hs
 by_cases q0 : m.result.Aj + 1 > m.most
 ·rw [qA1 q0] at hs; cases hs
 rw [qA0 q0] at hs
 have ev := he
 unfold Rc.eff at ev
 by_cases q1 : x.Op = 1
 ·rw [qA1 q1] at hs
  rw [qA1 q1] at ev
  split at ev
  ·cases ev
   exact qeg hs h1 h8 (by rw [eS]; omega) hs1 rfl rfl (qlb _ _) (by show ((m.stack.length : Int) + 1) = _; omega) htn (by omega) hR
  ·cases ev
 rw [qA0 q1] at hs ev
 by_cases q2 : x.Op = 2
 ·rw [qA1 q2] at hs ev
  split at ev
  ·cases ev
   by_cases w : x.S.length ≤ 40000
   ·exact qeg hs h1 h8 (by rw [eS]; omega) hs1 rfl rfl (qfm w) (by show ((m.stack.length : Int) + 1) = _; omega) htn (by omega) hR
   ·obtain ⟨_, h2⟩ := qm0 hs
    unfold pushP at h2
    rw [qA1 (by show x.S.length > 2048; omega)] at h2; cases h2
  ·cases ev
 rw [qA0 q2] at hs ev
 by_cases q3 : x.Op = 3
 ·rw [qA1 q3] at hs ev
  split at ev
  ·rename_i w
   cases ev
   have hvl : VOK 2048 (m.Ap.getD x.N.toNat z0) := by
    have hsn := h.sn
    rw [List.getD_eq_getElem?_getD, List.getElem?_eq_getElem (by omega)]; exact h.sl _ (List.getElem_mem _)
   exact qeg hs h1 h8 (by rw [eS]; omega) hs1 rfl rfl (hvl.mono (by omega)) (by show ((m.stack.length : Int) + 1) = _; omega) htn (by omega) hR
  ·cases ev
 rw [qA0 q3] at hs ev
 by_cases q5 : x.Op = 5
 ·rw [qA1 q5] at hs
  rw [qA0 (by omega), qA1 q5] at ev
  split at ev
  ·cases ev
   obtain ⟨hp1, hp2⟩ := qmy (nm := x.S) h.i
   exact qeg hs h1 h8 (by rw [eS]; omega) hs1 rfl rfl (hp2.mono (by omega)) (by show ((m.stack.length : Int) + 1) = _; omega) htn (by omega) hR
  ·cases ev
 rw [qA0 q5] at hs
 by_cases q4 : x.Op = 4
 ·rw [qA1 q4] at hs ev
  split at ev
  ·cases ev
   cases hs
   have h2 := h1.pop
   refine ⟨⟨h2.i, h2.r, h2.st, fun y hy => ?_, ?_, h2.tn, h2.s0, h2.s1, h2.k⟩, rfl, rfl, fun _ => ?_, .inr (.inl ⟨by omega, by omega, rfl⟩)⟩
   ·rcases List.mem_or_eq_of_mem_set hy with hy | rfl
    ·exact h.sl y hy
    ·exact h.top
   ·show (m.Ap.set x.N.toNat (top m)).length = 512
    rw [List.length_set]; exact h.sn
   ·show ((pop (wS m (m.result.Aj + 1))).stack.length : Int) = _
    rw [ePl]; omega
  ·cases ev
 rw [qA0 q4] at hs ev
 rw [qA0 q5] at ev
 by_cases q6 : x.Op = 6
 ·rw [qA1 q6] at hs ev
  split at ev
  ·cases ev
   obtain ⟨hc1, hc2⟩ := qiw (n := 0) (nm := x.S) h.i (by omega) h.top
   split at hs
   ·rename_i w
    exact qeg hs h1.pop h8 (by show m.result.Aj + 1 ≤ _; omega) hs1 rfl rfl (hc2 w) (by rw [ePl]; omega) hpn (by omega) hR
   ·cases hs
  ·cases ev
 rw [qA0 q6] at hs ev
 by_cases q7 : x.Op = 7
 ·rw [qA1 q7] at hs ev
  split at ev
  ·cases ev
   obtain ⟨hc1, hc2⟩ := qix (op := x.S) (by omega) h.top2 h.top
   split at hs
   ·rename_i w
    have e2 : ((pop (pop (wS m (m.result.Aj + 1)))).stack.length : Int) = (m.stack.length - 1 - 1 : Nat) := by show ((m.stack.dropLast.dropLast.length : Nat) : Int) = _; rw [List.length_dropLast, List.length_dropLast]
    exact qeg hs h1.pop.pop h8 (by show m.result.Aj + 1 ≤ _; omega) hs1 rfl rfl (hc2 w) (by rw [e2]; omega) (by omega) (by omega) hR
   ·cases hs
  ·cases ev
 rw [qA0 q7] at hs ev
 by_cases q8 : x.Op = 8
 ·rw [qA1 q8] at hs ev
  split at ev
  ·cases ev
   split at hs
   ·exact qeg hs h1.pop h8 (by show m.result.Aj + 1 ≤ _; omega) hs1 rfl rfl (qhd _ _) (by rw [ePl]; omega) hpn (by omega) hR
   ·cases hs
  ·cases ev
 rw [qA0 q8] at hs ev
 by_cases q9 : x.Op = 9
 ·rw [qA1 q9] at hs ev
  split at ev
  ·cases ev
   cases hs
   exact ⟨h1, rfl, rfl, fun _ => by show (m.stack.length : Int) = _; omega, .inr (.inr ⟨by simp [Rc.isJ, q9], rfl⟩)⟩
  ·cases ev
 rw [qA0 q9] at hs ev
 by_cases q10 : x.Op = 10
 ·rw [qA1 q10] at hs ev
  split at ev
  ·cases ev
   split at hs
   ·split at hs
    ·cases hs
     exact ⟨h1.pop, rfl, rfl, fun _ => by rw [ePl]; omega, .inr (.inl ⟨by omega, by omega, rfl⟩)⟩
    ·cases hs
     exact ⟨h1.pop, rfl, rfl, fun _ => by rw [ePl]; omega, .inr (.inr ⟨by simp [Rc.isJ, q10], rfl⟩)⟩
   ·cases hs
  ·cases ev
 rw [qA0 q10] at hs ev
 by_cases q11 : x.Op = 11
 ·rw [qA1 q11] at hs ev
  split at ev
  ·obtain ⟨y, hy, e2⟩ := Option.map_eq_some_iff.1 ev
   cases e2
   have hyt := qmz hy
   have fin : ∀ p : V1 × M1, MOK (k + 1) p.2 → ROK k p.2.result → p.2.Ar = m.Ar → p.2.most = m.most → ((p.2.stack.length : Int) = m.stack.length + (0 - t)) → qq4 m at' x.S p = (nx, none, M) → Kp k m at' x t 0 nx M := by
    intro p hp hr hi hmo hl e
    obtain ⟨a1, a2, a3⟩ := qqk (s := x.S) (x := p.1) hr
    have hM : MOK (k + 1) (wR p.2 (actP p.2.result x.S p.1).1) := ⟨hp.i, a1, hp.st, hp.sl, hp.sn, hp.tn, by show 0 ≤ (actP p.2.result x.S p.1).1.Aj; rw [a3]; exact hp.s0, by show (actP p.2.result x.S p.1).1.Aj ≤ _; rw [a3]; exact hp.s1, hp.k⟩
    unfold qq4 at e
    split at e
    ·rename_i w
     have e2 := congrArg (fun z => z.2.1) e
     dsimp only at e2
     rw [e2] at w; cases w
    ·split at e
     ·cases e
      exact ⟨hM, hi, hmo, fun h => absurd rfl h, .inl rfl⟩
     ·cases e
      exact ⟨hM, hi, hmo, fun _ => hl, .inr (.inl ⟨by omega, by omega, rfl⟩)⟩
   by_cases qn : needP x.S = 0
   ·rw [qA1 qn] at hs hyt
    exact fin (z0, wS m (m.result.Aj + 1)) h1 hR rfl rfl (by show (m.stack.length : Int) = _; omega) hs
   ·rw [qA0 qn] at hs hyt
    exact fin (top m, pop (wS m (m.result.Aj + 1))) h1.pop hR rfl rfl (by rw [ePl]; omega) hs
  ·cases ev
 rw [qA0 q11] at hs
 cases hs
 exact ⟨h1, rfl, rfl, fun h => absurd rfl h, .inl rfl⟩
theorem qj2 {a a' : Rc.AS} {d : Int} {σ : Int → Bool} (h : Rc.joinA a d σ = some a') : ∃ σ', a' = some (d, σ') := by
 unfold Rc.joinA at h
 split at h
 ·cases h; exact ⟨_, rfl⟩
 ·split at h
  ·rename_i e; cases h; exact ⟨_, by rw [e]⟩
  ·cases h
theorem qh7 {a' : Rc.AS} {d d' : Int} {σ σ' : Int → Bool} (h : Rc.joinA (some (d, σ)) d' σ' = some a') : ∃ σ'', a' = some (d, σ'') := by
 unfold Rc.joinA at h
 simp only at h
 split at h
 ·cases h; exact ⟨_, rfl⟩
 ·cases h
theorem qso {len i k : Nat} {x : I} {B B1 : Rc.AB} {d d' : Int} {σ σ' : Int → Bool} (h : Rc.far len i x B d' σ' = some B1) (hk : B k = some (d, σ)) : ∃ σ'', B1 k = some (d, σ'') := by
 unfold Rc.far at h
 split at h
 ·split at h
  ·cases h
  ·obtain ⟨a, ha, rfl⟩ := Option.map_eq_some_iff.1 h
   unfold Rc.updA
   split
   ·rename_i e
    rw [← e, hk] at ha
    exact qh7 ha
   ·exact ⟨_, hk⟩
 ·cases h; exact ⟨_, hk⟩
theorem qj3 {i k : Nat} {x : I} {B B1 : Rc.AB} {d d' : Int} {σ σ' : Int → Bool} (h : Rc.near i x B d' σ' = some B1) (hk : B k = some (d, σ)) : ∃ σ'', B1 k = some (d, σ'') := by
 unfold Rc.near at h
 split at h
 ·cases h; exact ⟨_, hk⟩
 ·obtain ⟨a, ha, rfl⟩ := Option.map_eq_some_iff.1 h
  unfold Rc.updA
  split
  ·rename_i e
   rw [← e, hk] at ha
   exact qh7 ha
  ·exact ⟨_, hk⟩
def At (c : List I) (k : Nat) (d : Int) : Prop := k < c.length ∧ ∃ B g σ G, Rc.wk c.length k (c.drop k) B g = some G ∧ B k = some (d, σ)
theorem adv {c : List I} : ∀ (j i k : Nat) (B : Rc.AB) (g d G : Int) (σ : Int → Bool), i + j = k → k < c.length → Rc.wk c.length i (c.drop i) B g = some G → B k = some (d, σ) → At c k d
 | 0, i, k, B, g, d, G, σ, e, hk, h, hB => by
  have : i = k := by omega
  subst this
  exact ⟨hk, B, g, σ, G, h, hB⟩
 | j + 1, i, k, B, g, d, G, σ, e, hk, h, hB => by
  rw [List.drop_eq_getElem_cons (by omega), Rc.wk_cons] at h
  obtain ⟨r, hr, h2⟩ := Option.bind_eq_some_iff.1 h
  obtain ⟨t, l, d0, σ0, he, hb, htd, h12, h3, h4, h5⟩ := Rc.stA_inv hr
  have n12 : c[i].Op ≠ 12 := fun q => by have := h12.1 q; omega
  obtain ⟨B1, hf, hn, _⟩ := h5 n12
  obtain ⟨σ1, hB1⟩ := qso hf hB
  obtain ⟨σ2, hB2⟩ := qj3 hn hB1
  exact adv j (i + 1) k r.1 r.2 d G σ2 (by omega) hk h2 hB2
theorem At.next {c : List I} {i : Nat} {d : Int} (h : At c i d) : ∃ t l, Rc.eff (c[i]'h.1) = some (t, l) ∧ t ≤ d ∧ (((c[i]'h.1).Op = 12) ↔ (i + 1 = c.length)) ∧ ((c[i]'h.1).Op ≠ 12 → ((c[i]'h.1).Op ≠ 9 → At c (i + 1) (d + (l - t))) ∧
  (Rc.isJ (c[i]'h.1) = true → (i : Int) < (c[i]'h.1).N ∧ (c[i]'h.1).N < c.length ∧ At c (c[i]'h.1).N.toNat (d + (l - t)))) := by
 obtain ⟨hi, B, g, σ, G, hw, hB⟩ := h
 rw [List.drop_eq_getElem_cons hi, Rc.wk_cons] at hw
 obtain ⟨r, hr, h2⟩ := Option.bind_eq_some_iff.1 hw
 obtain ⟨t, l, d0, σ0, he, hb, htd, h12, h3, h4, h5⟩ := Rc.stA_inv hr
 rw [hB] at hb
 cases hb
 refine ⟨t, l, he, htd, h12, fun n12 => ?_⟩
 obtain ⟨B1, hf, hn, _⟩ := h5 n12
 have hlt : i + 1 < c.length := by
  have : ¬ i + 1 = c.length := fun q => n12 (h12.2 q)
  omega
 refine ⟨fun n9 => ?_, fun hj => ?_⟩
 ·unfold Rc.near at hn
  rw [qA0 n9] at hn
  obtain ⟨a, ha, e⟩ := Option.map_eq_some_iff.1 hn
  obtain ⟨σ', ea⟩ := qj2 ha
  refine ⟨hlt, r.1, r.2, σ', G, h2, ?_⟩
  rw [← e, ea]; simp [Rc.updA]
 ·unfold Rc.far at hf
  rw [qA1 hj] at hf
  split at hf
  ·cases hf
  ·rename_i hN
   obtain ⟨a, ha, e⟩ := Option.map_eq_some_iff.1 hf
   obtain ⟨σ', ea⟩ := qj2 ha
   have hB1 : B1 (c[i]).N.toNat = some (d + (l - t), σ') := by rw [← e, ea]; simp [Rc.updA]
   obtain ⟨σ2, hB2⟩ := qj3 hn hB1
   exact ⟨by omega, by omega, adv ((c[i]).N.toNat - (i + 1)) (i + 1) _ r.1 r.2 _ G σ2 (by omega) (by omega) h2 hB2⟩
theorem at0 {c : List I} {G : Int} (h : Rc.depthOf c = some G) : At c 0 0 ∧ c.length ≤ 2048 := by
 unfold Rc.depthOf at h
 split at h
 ·cases h
 ·exact ⟨⟨by omega, Rc.B0, 0, fun _ => false, G, by simpa using h, rfl⟩, by omega⟩
def zR : R1 := ⟨[], [], [], [], [], 0, 0, 0, false, false⟩
noncomputable def runP (c : List I) : Nat → Nat → M1 → R1 × Err
 | 0, _, m => (m.result, none)
 | f + 1, i, m => match c[i]? with
  | none => (m.result, none)
  | some x => match (stepP m (i : Int) x).2.1 with
   | some e => (zR, some e)
   | none => if (stepP m (i : Int) x).1 = -1 then ((stepP m (i : Int) x).2.2.result, none) else runP c f (stepP m (i : Int) x).1.toNat (stepP m (i : Int) x).2.2
def qzr (p : R1 × Err) (o : Fl (R1 × Err) (Int × M1)) : Prop := match p.2 with
 | some e => o = .ret (zR, some e)
 | none => ∃ a m, o = .go (a, m) ∧ m.result = p.1
theorem qql {α : Type} {c : List α} {i : Nat} (h : i < c.length) : ix c (i : Int) = some c[i] := by
 unfold ix; rw [qA1 (by omega), Int.toNat_natCast, List.getElem?_eq_getElem h]
def qyx (l : List RF) : Int := (tot l : Int) - 2 * l.length
theorem qqm {i : In2} (hl : i.Ao.length ≤ qau) (h : ∀ x ∈ i.Ao, x.Name.length ≤ qau ∧ x.Value.length ≤ qau) : ∀ (f j : Nat) (y : Int), j ≤ i.Ao.length → i.Ao.length - j < f →
  ∃ z, JbP i f y (j : Int) = some (z, (i.Ao.length : Int)) ∧ (i.Ao.length ≤ 40 → 0 ≤ y → y ≤ 281474976710656 * (j + 2) → z = y + qyx (i.Ao.drop j))
 | 0, j, y, _, h => by omega
 | f + 1, j, y, hj, hf => by
  simp only [qau] at hl h
  rw [JbP]
  by_cases q : j < i.Ao.length
  ·have hx := h _ (List.getElem_mem q)
   have e1 : IntKind.i64.wrap ((j : Int) + 1) = ((j + 1 : Nat) : Int) := qco (by simp only [InK]; omega)
   have e3 : IntKind.i64.wrap ((i.Ao[j].Name.length : Int) + (i.Ao[j].Value.length : Int)) = (i.Ao[j].Name.length : Int) + (i.Ao[j].Value.length : Int) := qco (by simp only [InK]; omega)
   rw [qA1 (by simpa using q), qql q, qAz, qAz, e1, e3]
   obtain ⟨z, hz, h2⟩ := qqm (by simpa only [qau] using hl) (by simpa only [qau] using h) f (j + 1) (IntKind.i64.wrap (y + ((i.Ao[j].Name.length : Int) + (i.Ao[j].Value.length : Int)))) (by omega) (by omega)
   refine ⟨z, hz, fun h3 h0 hy => ?_⟩
   have e2 : IntKind.i64.wrap (y + ((i.Ao[j].Name.length : Int) + (i.Ao[j].Value.length : Int))) = y + ((i.Ao[j].Name.length : Int) + (i.Ao[j].Value.length : Int)) := qco (by simp only [InK]; omega)
   rw [e2] at h2
   have g1 := h2 h3 (by omega) (by omega)
   rw [g1, List.drop_eq_getElem_cons q]
   unfold qyx
   rw [qe6]
   simp only [List.length_cons]
   omega
  ·have : j = i.Ao.length := by omega
   subst this
   rw [qA0 (by simp)]
   exact ⟨y, rfl, fun _ _ _ => by simp [qyx, tot]⟩
theorem qvr {n : Nat} {i : In2} (hn : i.Ao.length < n) (h : Jw.ok i) : ∃ b, Jb4 n i = some b ∧ (b = true → IOK i) := by
 obtain ⟨o1, o2, o3, o4, o5, o6⟩ := h
 simp only [qau] at o1 o2 o3 o4
 have w1 : IntKind.i64.wrap ((i.Am.length : Int) + (i.An.length : Int)) = (i.Am.length : Int) + (i.An.length : Int) := qco (by simp only [InK]; omega)
 have w2 : IntKind.i64.wrap ((i.Am.length : Int) + (i.An.length : Int) + (i.Ae.length : Int)) = (i.Am.length : Int) + (i.An.length : Int) + (i.Ae.length : Int) := qco (by simp only [InK]; omega)
 have w3 : IntKind.i64.wrap ((i.Am.length : Int) + (i.An.length : Int) + (i.Ae.length : Int) + (i.Af.length : Int)) = (i.Am.length : Int) + (i.An.length : Int) + (i.Ae.length : Int) + (i.Af.length : Int) := qco (by simp only [InK]; omega)
 obtain ⟨z, hz, h2⟩ := qqm o5 (fun x hx => o6 x hx) n 0 ((i.Am.length : Int) + (i.An.length : Int) + (i.Ae.length : Int) + (i.Af.length : Int)) (by omega) (by omega)
 unfold Jb4
 rw [w1, w2, w3]
 rw [show ((0 : Nat) : Int) = 0 from rfl] at hz
 rw [hz, qAz]
 refine ⟨_, rfl, fun hb => ?_⟩
 simp only [Bool.and_eq_true, decide_eq_true_eq] at hb
 have g := h2 (by omega) (by omega) (by omega)
 rw [List.drop_zero] at g
 unfold qyx at g
 have := qg8 i.Ao
 exact ⟨by omega, by omega, by omega, by omega, by omega⟩
theorem qsp {i : In2} (h : IOK i) : Ja4 i = some (inp i) := by
 unfold Ja4
 have := qg8 i.Ao
 have := h.f
 rw [qp2 (by omega)]; rfl
theorem qt1 (b : List FF) : ∀ (l p : List FF), b = p ++ l → Jb1 (uff b) l p.length = some (.go ())
 | [], p, h => rfl
 | x :: l, p, h => by
  have ih := qt1 b l (p ++ [x]) (by simp [h])
  have e : ix (uff b) (p.length : Int) = some ⟨x.Name, x.Value⟩ := by
   unfold ix uff; rw [qA1 (by omega), h]; simp
  rw [show (p ++ [x]).length = p.length + 1 by simp] at ih
  rw [Jb1, e, qAz, qAz, qA0 (by simp), qAz, qA0 (by simp)]
  exact ih
theorem qx8 {l : List FF} (h : l.length ≤ 100000) : JdA l (uff l) = some true := by
 unfold JdA
 rw [qA0 (by simp [qvn]), qaa (by simp only [qau]; omega), show (0 : Nat) = ([] : List FF).length from rfl, qt1 l l [] rfl]; rfl
theorem qj4 (b : List Str) : ∀ (l p : List Str), b = p ++ l → JbQ b l p.length = some (.go ())
 | [], p, h => rfl
 | x :: l, p, h => by
  have ih := qj4 b l (p ++ [x]) (by simp [h])
  have e : ix b (p.length : Int) = some x := by
   unfold ix; rw [qA1 (by omega), h]; simp
  rw [show (p ++ [x]).length = p.length + 1 by simp] at ih
  rw [JbQ, e, qAz, qA0 (by simp)]
  exact ih
theorem qj5 {l : List Str} (h : l.length ≤ 100000) : JcL l l = some true := by
 unfold JcL
 rw [qA0 (by simp), qaa (by simp only [qau]; omega), show (0 : Nat) = ([] : List Str).length from rfl, qj4 l l [] rfl]; rfl
theorem qx9 {k : Nat} {r : R1} (h : ROK k r) (hk : k ≤ 100000) : Jb6 r (r2 r) = some true := by
 have h1 := h.h.1
 have h2 := h.v
 have h3 := h.t
 unfold Jb6 r2
 dsimp only
 rw [qx8 (by omega), qj5 (by omega), qj5 (by omega)]
 simp
theorem qm1 {c : List I} {i : In1} : ∀ (f f' : Nat) (a : Int) (m : M1) (r : Fl (R1 × Err) (Int × M1)), f ≤ f' → Jas c i f a m = some r → Jas c i f' a m = some r
 | 0, f', a, m, r, _, h => by rw [Jas] at h; cases h
 | f + 1, 0, a, m, r, hf, h => by omega
 | f + 1, f' + 1, a, m, r, hf, h => by
  rw [Jas] at h ⊢
  by_cases q : decide (a ≥ 0) = true
  ·rw [qA1 q] at h ⊢
   obtain ⟨x, hx, h⟩ := Option.bind_eq_some_iff.1 h
   obtain ⟨p, hp, h⟩ := Option.bind_eq_some_iff.1 h
   rw [hx, qAz, hp, qAz]
   by_cases q2 : p.2.1.isSome = true
   ·rw [qA1 q2] at h ⊢; exact h
   ·rw [qA0 q2] at h ⊢
    exact qm1 f f' _ _ r (by omega) h
  ·rw [qA0 q] at h ⊢; exact h
theorem qqn {c : List I} {i : In1} {most : Int} {f f' : Nat} {r : R1 × Err} (hf : f ≤ f') (h : JaM f c i most = some r) : JaM f' c i most = some r := by
 unfold JaM at h ⊢
 obtain ⟨x, hx, h⟩ := Option.bind_eq_some_iff.1 h
 rw [hx, qAz]
 by_cases q : x.isSome = true
 ·rw [qA1 q] at h ⊢; exact h
 ·rw [qA0 q] at h ⊢
  obtain ⟨s, hs, h⟩ := Option.bind_eq_some_iff.1 h
  rw [qm1 f f' _ _ _ hf hs, qAz]; exact h
theorem qya : JaI 10 = some true := by decide +kernel
theorem qqo {n : Nat} (hn : 10 ≤ n) : JaI n = some true := by
 have h := qya
 unfold JaI at h ⊢
 obtain ⟨x, hx, h⟩ := Option.bind_eq_some_iff.1 h
 rw [qqn hn hx, qAz]; exact h
def m0 (i : In2) (most : Int) : M1 := ⟨inp i, most, ⟨i.Ae, i.Af, [], [], [], -1, 0, 0, false, false⟩, [], List.replicate 512 z0⟩
theorem qzs {i : In2} {most : Int} (h : IOK i) : MOK 0 (m0 i most) :=
 ⟨⟨i, h, rfl⟩, ⟨⟨Nat.le_refl _, (fun x hx => by cases hx)⟩, Nat.le_refl _, Nat.le_refl _⟩, (fun v hv => by cases hv), (fun v hv => by rw [show v = z0 from (List.mem_replicate.1 hv).2]; exact qx7 _), List.length_replicate, Nat.le_refl _, Int.le_refl _, (by show (0 : Int) ≤ 40 * ((0 : Nat) : Int); omega), by omega⟩
theorem qvs {c : List I} {f i k : Nat} {m M : M1} {x : I} (hx : c[i]? = some x) (h : stepP m (i : Int) x = ((k : Int), none, M)) : runP c (f + 1) i m = runP c f k M := by
 rw [runP, hx]
 simp only [h]
 rw [qA0 (by omega), Int.toNat_natCast]
theorem qm2 {c : List I} {f i : Nat} {m : M1} {x : I} {e : Int} (hx : c[i]? = some x) (h : (stepP m (i : Int) x).2.1 = some e) : runP c (f + 1) i m = (zR, some e) := by
 rw [runP, hx]
 simp only [h]
theorem qqp {c : List I} {f i : Nat} {m M : M1} {x : I} (hx : c[i]? = some x) (h : stepP m (i : Int) x = (-1, none, M)) : runP c (f + 1) i m = (M.result, none) := by
 rw [runP, hx]
 simp only [h, if_true]
def put (m : M1) (s : Int) (l : List V1) : M1 := wT (wS m s) l
theorem qeh {m : M1} {v : V1} {o : Bool} (hv : v.s.length ≤ 2048) (ho : ¬ (o = true ∧ v.kind = 1)) : pushP m v o = (none, wT m (m.stack ++ [v])) := by
 unfold pushP
 rw [qA0 (by omega), qA0 ho]
theorem qn0 {m : M1} {v : V1} (hv : v.s.length ≤ 2048) (hk : v.kind = 1) (hs : m.result.Aj + ((v.s.length / 64 : Nat) : Int) ≤ m.most) : pushP m v true = (none, wT (wS m (m.result.Aj + ((v.s.length / 64 : Nat) : Int))) (m.stack ++ [v])) := by
 unfold pushP
 rw [qA0 (by omega), qA1 ⟨rfl, hk⟩, qA0 (by omega)]
theorem qlf {m : M1} {k : Nat} {N : Int} {S : Str} (hs : m.result.Aj + 1 ≤ m.most) : stepP m (k : Int) ⟨1, N, S⟩ = (((k + 1 : Nat) : Int), none, put m (m.result.Aj + 1) (m.stack ++ [nm' N])) := by
 unfold stepP
 rw [qA0 (by omega), qA1 rfl, qeh (by simp [nm']) (by simp)]
 rfl
theorem qzt {m : M1} {k : Nat} {N : Int} {S : Str} {st : List V1} {a b v : V1} (hm : m.stack = st ++ [a, b]) (hs : m.result.Aj + 1 ≤ m.most) (hv : opP S a b = (v, true)) (hl : v.s = []) : stepP m (k : Int) ⟨7, N, S⟩ = (((k + 1 : Nat) : Int), none, put m (m.result.Aj + 1) (st ++ [v])) := by
 have e1 : top m = b := by unfold top; rw [hm]; simp
 have e2 : (pop m).stack = st ++ [a] := by show m.stack.dropLast = _; rw [hm, List.dropLast_append_of_ne_nil (by simp)]; rfl
 have e3 : top (pop m) = a := by unfold top; rw [e2]; simp
 have e4 : (pop (pop (wS m (m.result.Aj + 1)))).stack = st := by show m.stack.dropLast.dropLast = st; have : m.stack.dropLast = st ++ [a] := e2; rw [this]; simp
 unfold stepP
 rw [qA0 (by omega), qA0 (by simp), qA0 (by simp), qA0 (by simp), qA0 (by simp), qA0 (by simp), qA0 (by simp), qA1 rfl]
 simp only [e1, e3, hv, if_true]
 by_cases q : v.kind = 1
 ·rw [qn0 (by rw [hl]; simp) q (by rw [hl]; show m.result.Aj + 1 + 0 ≤ m.most; omega), e4, hl]
  unfold nxP put wS wT pop wT
  simp
 ·rw [qeh (by rw [hl]; simp) (by simp [q]), e4]
  rfl
theorem qvt {m : M1} {k : Nat} {N : Int} {S : Str} (hs : m.result.Aj + 1 ≤ m.most) : stepP m (k : Int) ⟨12, N, S⟩ = (-1, none, wS m (m.result.Aj + 1)) := by
 unfold stepP
 rw [qA0 (by omega), qA0 (by simp), qA0 (by simp), qA0 (by simp), qA0 (by simp), qA0 (by simp), qA0 (by simp), qA0 (by simp), qA0 (by simp), qA0 (by simp), qA0 (by simp), qA0 (by simp)]
theorem qvu {n : Int} (h0 : -1099511627776 ≤ n) (h1 : n ≤ 1099511627776) : nm' n = ⟨2, n, [], false⟩ := by
 unfold nm' clip; congr 1; omega
abbrev SgV := Str → Option V1
def smE (v : V1) : V1 × Err := if v.s.length > 2048 then (z0, some 5) else (v, none)
noncomputable def evE (j : In1) (σ : SgV) : Nat → M → V1 × Err
 | 0, _ => (z0, none)
 | d + 1, x =>
  if x.Ab = 20 then (nm' (qsj x.Ac), none)
  else if x.Ab = 21 then smE (tx' x.Ac)
  else if x.Ab = 22 then (tr' (decide (x.Ac = Rc.sTrue)), none)
  else if x.Ab = 23 then (match σ x.Ac with | some v => (v, none) | none => smE (qsm x.Ac j))
  else match x.Aa with
   | [k] => if (evE j σ d k).2.isSome = true then (z0, (evE j σ d k).2) else if x.Ab = 24 then smE (callP x.Ac (evE j σ d k).1 j).1 else (tr' (!(evE j σ d k).1.Au), none)
   | [k, l] => if (evE j σ d k).2.isSome = true then (z0, (evE j σ d k).2)
    else if x.Ab = 14 then (if (evE j σ d k).1.Au = true then evE j σ d l else ((evE j σ d k).1, none))
    else if x.Ab = 13 then (if (evE j σ d k).1.Au = true then ((evE j σ d k).1, none) else evE j σ d l)
    else if (evE j σ d l).2.isSome = true then (z0, (evE j σ d l).2) else smE (opP (Rc.opw x) (evE j σ d k).1 (evE j σ d l).1).1
   | _ => (z0, none)
structure TyV (ρ : Env) (σ : SgV) : Prop where
 some_ : ∀ s v, σ s = some v → v.kind = ρ s ∧ VOK 2048 v
 none_ : ∀ s, σ s = none → ρ s = base s
theorem qm3 {v : V1} {t : Int} (hv : VOK 40000 v) (ht : v.kind = t) : ((smE v).2 = none → (smE v).1.kind = t ∧ VOK 2048 (smE v).1) ∧ ((smE v).2 = none ∨ (smE v).2 = some 5) := by
 unfold smE
 split
 ·exact ⟨(fun h => by cases h), .inr rfl⟩
 ·rename_i q
  exact ⟨fun _ => ⟨ht, (by show v.s.length ≤ 2048; omega), hv.2⟩, .inl rfl⟩
theorem qm4 (s : Str) (j : In1) : (qsm s j).kind = 1 := by
 unfold qsm Jar
 by_cases q1 : s = [109, 101, 116, 104, 111, 100]
 ·subst q1; rfl
 by_cases q2 : s = [104, 111, 115, 116]
 ·subst q2; rfl
 by_cases q3 : s = [112, 97, 116, 104]
 ·subst q3; rfl
 rw [qA0 (by simpa using q1), qA0 (by simpa using q2), qA0 (by simpa using q3)]; rfl
theorem qh8 {s : Str} {a : V1} {j : In1} (hj : ∃ i, IOK i ∧ j = inp i) (ha : VOK 2048 a) (h : (fnc s).2 ≠ 0) (hk : a.kind = (fnc s).1) : (callP s a j).2 = true ∧ (callP s a j).1.kind = (fnc s).2 := by
 obtain ⟨i, hi, rfl⟩ := hj
 obtain ⟨ha0, ha1, ha2⟩ := ha
 have hip := hi.p
 have hiq := hi.q
 have hif := hi.f
 have hsg := qmr i.Ae
 have hft : tot i.Ao ≤ 1000000 := by omega
 have hsl : a.s.length ≤ 1000000 := by omega
 unfold callP
 by_cases q1 : s = [104, 101, 97, 100, 101, 114]
 ·subst q1
  have hk1 : a.kind = 1 := hk
  have e : JD [104, 101, 97, 100, 101, 114] a (inp i) = some (tx' (qq2 i.Ao a.s), true) := by
   unfold JD
   rw [qA0 (by decide), qA0 (by simpa using hk1), qA1 (by decide), show (inp i).Ao = ffs i.Ao from rfl, qmv hft hsl]; rfl
  rw [e]; exact ⟨rfl, rfl⟩
 by_cases q2 : s = [97, 114, 103]
 ·subst q2
  have hk1 : a.kind = 1 := hk
  obtain ⟨b1, h1⟩ := qtv (q := i.Af) (nm := a.s) (by omega) hsl
  have e : JD [97, 114, 103] a (inp i) = some (tx' (qve i.Af a.s), true) := by
   unfold JD
   rw [qA0 (by decide), qA0 (by simpa using hk1), qA0 (by decide), qA0 (by decide), qA1 (by decide), show (inp i).Af = i.Af from rfl, h1]; rfl
  rw [e]; exact ⟨rfl, rfl⟩
 by_cases q3 : s = [108, 111, 119, 101, 114]
 ·subst q3
  have hk1 : a.kind = 1 := hk
  have e : JD [108, 111, 119, 101, 114] a (inp i) = some (tx' (low a.s), true) := by
   unfold JD
   rw [qA0 (by decide), qA0 (by simpa using hk1), qA0 (by decide), qA0 (by decide), qA0 (by decide), qA0 (by decide), qA1 (by decide), qtz (by omega)]; rfl
  rw [e]; exact ⟨rfl, rfl⟩
 by_cases q4 : s = [104, 97, 115]
 ·subst q4
  have hk1 : a.kind = 1 := hk
  have e : JD [104, 97, 115] a (inp i) = some (tr' (decide (((vals i.Ao a.s).length : Int) > 0)), true) := by
   unfold JD
   rw [qA0 (by decide), qA0 (by simpa using hk1), qA0 (by decide), qA1 (by decide), show (inp i).Ao = ffs i.Ao from rfl, qmv hft hsl]; rfl
  rw [e]; exact ⟨rfl, rfl⟩
 by_cases q5 : s = [108, 101, 110]
 ·subst q5
  have hk1 : a.kind = 1 := hk
  have e : JD [108, 101, 110] a (inp i) = some (nm' (a.s.length : Int), true) := by
   unfold JD
   rw [qA0 (by decide), qA0 (by simpa using hk1), qA0 (by decide), qA0 (by decide), qA0 (by decide), qA1 (by decide)]; rfl
  rw [e]; exact ⟨rfl, rfl⟩
 by_cases q6 : s = [110, 117, 109, 98, 101, 114]
 ·subst q6
  have hk1 : a.kind = 1 := hk
  have e : JD [110, 117, 109, 98, 101, 114] a (inp i) = some (nm' (qsj a.s), true) := by
   unfold JD
   rw [qA0 (by decide), qA0 (by simpa using hk1), qA0 (by decide), qA0 (by decide), qA0 (by decide), qA0 (by decide), qA0 (by decide), qvh]; rfl
  rw [e]; exact ⟨rfl, rfl⟩
 by_cases q7 : s = [112, 97, 114, 116]
 ·subst q7
  have hk1 : a.kind = 2 := hk
  have e : ∃ z, JD [112, 97, 114, 116] a (inp i) = some (tx' z, true) := by
   unfold JD
   rw [qA1 (by decide), qA0 (by simpa using hk1), qA0 (show ¬ decide (([112, 97, 114, 116] : Str) = [116, 101, 120, 116]) = true by decide), show (inp i).Ae = i.Ae from rfl, qp4 (by omega), qAz]
   by_cases r : 0 ≤ a.n ∧ a.n < (qnz i.Ae).length
   ·obtain ⟨z, hz⟩ := qcq r.1 r.2
    rw [qA0 (by simp; omega), hz]; exact ⟨_, rfl⟩
   ·rw [qA1 (by simp; omega)]; exact ⟨_, rfl⟩
  obtain ⟨z, e⟩ := e
  rw [e]; exact ⟨rfl, rfl⟩
 by_cases q8 : s = [116, 101, 120, 116]
 ·subst q8
  have hk1 : a.kind = 2 := hk
  have e : JD [116, 101, 120, 116] a (inp i) = some (tx' (Go.Lib.itoa a.n), true) := by
   unfold JD
   rw [qA1 (by decide), qA0 (by simpa using hk1), qA1 (show decide (([116, 101, 120, 116] : Str) = [116, 101, 120, 116]) = true by decide), qmu ha1 ha2]; rfl
  rw [e]; exact ⟨rfl, rfl⟩
 refine absurd ?_ h
 unfold fnc Jan
 rw [qA0 (by simpa using q1), qA0 (by simpa using q2), qA0 (by simpa using q3), qA0 (by simpa using q4), qA0 (by simpa using q5), qA0 (by simpa using q6), qA0 (by simpa using q7), qA0 (by simpa using q8)]; rfl
theorem qlg (t a b : Int) : Jv t [a, b] = some (decide (a = t) && decide (b = t)) := by
 unfold Jv
 rw [qaa (by simp [qau]), JN]
 by_cases q : a = t
 ·rw [qA0 (by simpa using q), JN]
  by_cases q2 : b = t
  ·rw [qA0 (by simpa using q2)]; simp [q, q2, JN, Rt.el_go]
  ·rw [qA1 (by simpa using q2)]; simp [q, q2, Rt.el_ret]
 ·rw [qA1 (by simpa using q)]; simp [q, Rt.el_ret]
theorem opr_two {x : M} {a b t : Int} (h : opr x [a, b] = t) (ht : t ≠ 0) (hk : x.Ab = 17 ∨ x.Ab = 18 ∨ x.Ab = 19 ∨ (x.Ab = 16 ∧ cmp x.Ac = true)) :
  (Rc.opw x = [43] ∧ a = b ∧ t = a ∧ (a = 1 ∨ a = 2)) ∨ ((Rc.opw x = [45] ∨ Rc.opw x = [42]) ∧ a = 2 ∧ b = 2 ∧ t = 2) ∨ ((Rc.opw x = [61, 61] ∨ Rc.opw x = [33, 61]) ∧ a = b ∧ t = 3) ∨
  ((Rc.opw x = [60] ∨ Rc.opw x = [60, 61]) ∧ a = 2 ∧ b = 2 ∧ t = 3) ∨ ((Rc.opw x = [115, 116, 97, 114, 116, 115] ∨ Rc.opw x = [101, 110, 100, 115] ∨ Rc.opw x = [99, 111, 110, 116, 97, 105, 110, 115]) ∧ a = 1 ∧ b = 1 ∧ t = 3) := by
 unfold opr JJ at h
 unfold Rc.opw
 simp only [qlg, qAz] at h
 rcases hk with q | q | q | ⟨q, qc⟩
 ·left
  simp only [q, decide_true, if_true] at h
  rw [qA1 q]
  by_cases w : a = 1 ∧ b = 1
  ·rw [qA1 (by simp [w])] at h
   refine ⟨rfl, by omega, ?_, .inl w.1⟩
   simp at h; omega
  ·rw [qA0 (by simpa using w)] at h
   by_cases w2 : a = 2 ∧ b = 2
   ·rw [qA1 (by simp [w2])] at h
    refine ⟨rfl, by omega, ?_, .inr w2.1⟩
    simp at h; omega
   ·rw [qA0 (by simpa using w2)] at h
    exact absurd (by simpa using h.symm) ht
 ·right; left
  rw [qA0 (by simp [q]), qA1 (by simp [q])] at h
  rw [qA0 (by omega), qA1 q]
  by_cases w2 : a = 2 ∧ b = 2
  ·rw [qA1 (by simp [w2])] at h
   refine ⟨.inl rfl, w2.1, w2.2, ?_⟩
   simp at h; omega
  ·rw [qA0 (by simpa using w2)] at h
   exact absurd (by simpa using h.symm) ht
 ·right; left
  rw [qA0 (by simp [q]), qA0 (by simp [q]), qA1 (by simp [q])] at h
  rw [qA0 (by omega), qA0 (by omega), qA1 q]
  by_cases w2 : a = 2 ∧ b = 2
  ·rw [qA1 (by simp [w2])] at h
   refine ⟨.inr rfl, w2.1, w2.2, ?_⟩
   simp at h; omega
  ·rw [qA0 (by simpa using w2)] at h
   exact absurd (by simpa using h.symm) ht
 ·right; right
  rw [qA0 (by simp [q]), qA0 (by simp [q]), qA0 (by simp [q]), qA0 (by simp [q]), qA0 (by simp [q]), qA0 (by simp [q]), qA1 (by simp [q])] at h
  rw [qA0 (by omega), qA0 (by omega), qA0 (by omega)]
  have eqc : ∀ {o : Option Int}, ((if decide (a = b) = true then some 3 else some 0 : Option Int).getD 0) = t → a = b ∧ t = 3 := fun {o} h => by
   by_cases w : a = b
   ·rw [qA1 (by simpa using w)] at h; simp at h; exact ⟨w, h.symm⟩
   ·rw [qA0 (by simpa using w)] at h; exact absurd (by simpa using h.symm) ht
  have two : ∀ {k : Int}, ((if (decide (a = k) && decide (b = k)) = true then some 3 else some 0 : Option Int).getD 0) = t → a = k ∧ b = k ∧ t = 3 := fun {k} h => by
   by_cases w : a = k ∧ b = k
   ·rw [qA1 (by simp [w])] at h; simp at h; exact ⟨w.1, w.2, h.symm⟩
   ·rw [qA0 (by simpa using w)] at h; exact absurd (by simpa using h.symm) ht
  by_cases w1 : x.Ac = [61, 61]
  ·rw [qA1 (by simpa using w1)] at h
   exact .inl ⟨.inl w1, eqc (o := none) h⟩
  rw [qA0 (by simpa using w1)] at h
  by_cases w2 : x.Ac = [33, 61]
  ·rw [qA1 (by simpa using w2)] at h
   exact .inl ⟨.inr w2, eqc (o := none) h⟩
  rw [qA0 (by simpa using w2)] at h
  by_cases w3 : x.Ac = [60]
  ·rw [qA1 (by simpa using w3)] at h
   exact .inr (.inl ⟨.inl w3, two h⟩)
  rw [qA0 (by simpa using w3)] at h
  by_cases w4 : x.Ac = [60, 61]
  ·rw [qA1 (by simpa using w4)] at h
   exact .inr (.inl ⟨.inr w4, two h⟩)
  rw [qA0 (by simpa using w4)] at h
  refine .inr (.inr ⟨?_, two h⟩)
  unfold cmp at qc
  simp [w1, w2, w3, w4] at qc
  exact qc
theorem qm5 {x : M} {a b : V1} {t : Int} (ha : VOK 2048 a) (hb : VOK 2048 b) (h : opr x [a.kind, b.kind] = t) (ht : t ≠ 0) (hk : x.Ab = 17 ∨ x.Ab = 18 ∨ x.Ab = 19 ∨ (x.Ab = 16 ∧ cmp x.Ac = true)) :
  (opP (Rc.opw x) a b).2 = true ∧ (opP (Rc.opw x) a b).1.kind = t := by
 obtain ⟨ha0, ha1, ha2⟩ := ha
 obtain ⟨hb0, hb1, hb2⟩ := hb
 unfold opP JG
 rcases opr_two h ht hk with ⟨e, e1, e2, e3⟩ | ⟨e, e1, e2, e3⟩ | ⟨e, e1, e2⟩ | ⟨e, e1, e2, e3⟩ | ⟨e, e1, e2, e3⟩
 ·rw [e, qA0 (by simpa using e1), qA1 (by decide)]
  rcases e3 with q | q
  ·rw [qA1 (by simpa using q), qaa (by simp only [lim]; omega)]; exact ⟨rfl, by rw [e2, q]; rfl⟩
  ·rw [qA0 (by rw [q]; decide), qaa (by constructor <;> omega)]; exact ⟨by simp [q, qq3], by rw [e2, q]; rfl⟩
 ·rcases e with e | e
  ·rw [e, qA0 (by rw [e1, e2]; decide), qA0 (by decide), qA1 (by decide), qaa (by constructor <;> omega)]; exact ⟨by simp [e1, qq3], by rw [e3]; rfl⟩
  ·rw [e, qA0 (by rw [e1, e2]; decide), qA0 (by decide), qA0 (by decide), qA1 (by decide), qA0 (by rw [e1]; decide), qqh ha1 ha2 hb1 hb2]; exact ⟨rfl, by rw [e3]; rfl⟩
 ·rcases e with e | e
  ·rw [e, qA0 (by simpa using e1), qA0 (by decide), qA0 (by decide), qA0 (by decide), qA1 (by decide)]; exact ⟨rfl, by rw [e2]; rfl⟩
  ·rw [e, qA0 (by simpa using e1), qA0 (by decide), qA0 (by decide), qA0 (by decide), qA0 (by decide), qA1 (by decide)]; exact ⟨rfl, by rw [e2]; rfl⟩
 ·rcases e with e | e
  ·rw [e, qA0 (by rw [e1, e2]; decide), qA0 (by decide), qA0 (by decide), qA0 (by decide), qA0 (by decide), qA0 (by decide), qA1 (by decide)]; exact ⟨by simp [e1, qh6], by rw [e3]; rfl⟩
  ·rw [e, qA0 (by rw [e1, e2]; decide), qA0 (by decide), qA0 (by decide), qA0 (by decide), qA0 (by decide), qA0 (by decide), qA0 (by decide), qA1 (by decide)]; exact ⟨by simp [e1, qh6], by rw [e3]; rfl⟩
 ·rcases e with e | e | e
  ·rw [e, qA0 (by rw [e1, e2]; decide), qA0 (by decide), qA0 (by decide), qA0 (by decide), qA0 (by decide), qA0 (by decide), qA0 (by decide), qA0 (by decide), qA1 (by decide), pfx]; exact ⟨by simp [e1, qh6], by rw [e3]; rfl⟩
  ·rw [e, qA0 (by rw [e1, e2]; decide), qA0 (by decide), qA0 (by decide), qA0 (by decide), qA0 (by decide), qA0 (by decide), qA0 (by decide), qA0 (by decide), qA0 (by decide), qA1 (by decide), sfx (by omega) (by omega)]; exact ⟨by simp [e1, qh6], by rw [e3]; rfl⟩
  ·rw [e, qA0 (by rw [e1, e2]; decide), qA0 (by decide), qA0 (by decide), qA0 (by decide), qA0 (by decide), qA0 (by decide), qA0 (by decide), qA0 (by decide), qA0 (by decide), qA0 (by decide), qf2 (by omega)]; exact ⟨by simp [e1, qh6], by rw [e3]; rfl⟩
theorem qiy {d : Nat} {ρ : Env} {x k : M} {t : Int} (hk : x.Aa = [k]) (h : tyE (d + 1) ρ x = .ok t) : ∃ t1, tyE d ρ k = .ok t1 ∧ tyN ρ x [t1] = .ok t := by
 obtain ⟨ts, h1, h2⟩ := qg5 h
 rw [hk, kidsE] at h1
 cases q : tyE d ρ k with
 | error e => rw [q] at h1; cases h1
 | ok t1 => rw [q] at h1; simp only [kidsE] at h1; cases h1; exact ⟨t1, rfl, h2⟩
theorem qiz {d : Nat} {ρ : Env} {x k l : M} {t : Int} (hk : x.Aa = [k, l]) (h : tyE (d + 1) ρ x = .ok t) : ∃ t1 t2, tyE d ρ k = .ok t1 ∧ tyE d ρ l = .ok t2 ∧ tyN ρ x [t1, t2] = .ok t := by
 obtain ⟨ts, h1, h2⟩ := qg5 h
 rw [hk, kidsE] at h1
 cases q : tyE d ρ k with
 | error e => rw [q] at h1; cases h1
 | ok t1 =>
  rw [q] at h1
  simp only [kidsE] at h1
  cases q2 : tyE d ρ l with
  | error e => rw [q2] at h1; cases h1
  | ok t2 => rw [q2] at h1; simp only at h1; cases h1; exact ⟨t1, t2, rfl, rfl, h2⟩
theorem qc8 {j : In1} {ρ : Env} {σ : SgV} (hj : ∃ i, IOK i ∧ j = inp i) (hT : TyV ρ σ) : ∀ (d : Nat) (x : M) (t : Int), Rc.XE ρ d x → tyE d ρ x = .ok t → ((evE j σ d x).2 = none → (evE j σ d x).1.kind = t ∧ VOK 2048 (evE j σ d x).1) ∧ ((evE j σ d x).2 = none ∨ (evE j σ d x).2 = some 5)
 | 0, x, t, hx, _ => hx.elim
 | d + 1, x, t, hx, ht => by
  obtain ⟨htl, hx⟩ := hx
  obtain ⟨ts, hts, htn⟩ := qg5 ht
  have hv := qkz htn
  rw [evE]
  rcases hx with ⟨hk, _, hkk⟩ | ⟨hk, _, hkk⟩ | ⟨hk, hkk⟩ | ⟨hk, hρ, hkk⟩ | ⟨hk, k, hkk, hxk⟩ | ⟨hk, k, l, hkk, hxk, hxl⟩
  ·rw [qA1 hk]
   exact ⟨fun _ => ⟨(hv.1 hk).symm, qlb _ _⟩, .inl rfl⟩
  ·rw [qA0 (by omega), qA1 hk]
   exact qm3 (qfm (by omega)) (hv.2.1 hk).symm
  ·rw [qA0 (by omega), qA0 (by omega), qA1 hk]
   exact ⟨fun _ => ⟨(hv.2.2.1 hk).symm, qhd _ _⟩, .inl rfl⟩
  ·rw [qA0 (by omega), qA0 (by omega), qA0 (by omega), qA1 hk]
   have e := hv.2.2.2.1 hk
   cases q : σ x.Ac with
   | some v =>
    obtain ⟨a1, a2⟩ := hT.some_ _ _ q
    exact ⟨fun _ => ⟨by rw [e]; exact a1, a2⟩, .inl rfl⟩
   | none =>
    have a1 := hT.none_ _ q
    obtain ⟨p1, p2⟩ := qmy (nm := x.Ac) hj
    refine qm3 (p2.mono (by omega)) ?_
    rw [qm4, e, a1]
    rw [a1] at hρ
    unfold base at hρ ⊢
    split at hρ
    ·rename_i w; rw [qA1 w]
    ·exact absurd rfl hρ
  ·obtain ⟨t1, ht1, hn1⟩ := qiy hkk ht
   obtain ⟨ih1, ih2⟩ := qc8 hj hT d k t1 hxk ht1
   rw [qA0 (by omega), qA0 (by omega), qA0 (by omega), qA0 (by omega), hkk]
   simp only
   rcases ih2 with q | q
   ·rw [qA0 (by rw [q]; simp)]
    obtain ⟨g1, g2⟩ := ih1 q
    rcases hk with ⟨hk, hf⟩ | hk
    ·rw [qA1 hk]
     unfold tyN at hn1
     rw [qA0 (by omega), qA0 (by omega), qA0 (by omega), qA0 (by omega), qA1 hk, qA0 hf] at hn1
     by_cases w : [t1] = [(fnc x.Ac).1]
     ·rw [qA1 w] at hn1
      cases hn1
      have w1 : t1 = (fnc x.Ac).1 := by simpa using w
      obtain ⟨c1, c2⟩ := qh8 hj g2 hf (by rw [g1, w1])
      obtain ⟨c3, c4⟩ := qiw (n := 0) (nm := x.Ac) hj (by omega) g2
      exact qm3 (c4 c1) c2
     ·rw [qA0 w] at hn1; cases hn1
    ·rw [qA0 (by omega)]
     unfold tyN at hn1
     rw [qA0 (by omega), qA0 (by omega), qA0 (by omega), qA0 (by omega), qA0 (by omega)] at hn1
     by_cases w : opr x [t1] = 0
     ·rw [qA1 w] at hn1; cases hn1
     ·rw [qA0 w] at hn1
      cases hn1
      have e15 : opr x [t1] = 3 := by
       unfold opr JJ at w ⊢
       rw [qA0 (by simp [hk]), qA0 (by simp [hk]), qA0 (by simp [hk]), qA0 (by simp [hk]), qA0 (by simp [hk]), qA1 (by simp [hk])] at w ⊢
       unfold Jv at w ⊢
       rw [qaa (by simp [qau]), JN] at w ⊢
       by_cases w3 : t1 = 3
       ·rw [qA0 (by simpa using w3)]; rfl
       ·rw [qA1 (by simpa using w3)] at w; exact absurd rfl w
      exact ⟨fun _ => ⟨by rw [e15]; rfl, qhd _ _⟩, .inl rfl⟩
   ·rw [qA1 (by rw [q]; rfl)]
    exact ⟨(fun h => by rw [q] at h; cases h), .inr q⟩
  ·obtain ⟨t1, t2, ht1, ht2, hn1⟩ := qiz hkk ht
   obtain ⟨ih1, ih2⟩ := qc8 hj hT d k t1 hxk ht1
   obtain ⟨ih3, ih4⟩ := qc8 hj hT d l t2 hxl ht2
   rw [qA0 (by omega), qA0 (by omega), qA0 (by omega), qA0 (by omega), hkk]
   simp only
   unfold tyN at hn1
   rw [qA0 (by omega), qA0 (by omega), qA0 (by omega), qA0 (by omega), qA0 (by omega)] at hn1
   rcases ih2 with q | q
   ·rw [qA0 (by rw [q]; simp)]
    obtain ⟨g1, g2⟩ := ih1 q
    by_cases w : opr x [t1, t2] = 0
    ·rw [qA1 w] at hn1; cases hn1
    ·rw [qA0 w] at hn1
     cases hn1
     have lg : (x.Ab = 13 ∨ x.Ab = 14) → t1 = 3 ∧ t2 = 3 ∧ opr x [t1, t2] = 3 := fun hk => by
      unfold opr JJ at w ⊢
      rw [qA0 (by rcases hk with q | q <;> simp [q]), qA0 (by rcases hk with q | q <;> simp [q]), qA0 (by rcases hk with q | q <;> simp [q])] at w ⊢
      have e : (if decide (x.Ab = 13) = true then (Jv 3 [t1, t2]).bind fun x25 => if x25 = true then some 3 else some 0
       else if decide (x.Ab = 14) = true then (Jv 3 [t1, t2]).bind fun x25 => if x25 = true then some 3 else some 0 else none) = if (decide (t1 = 3) && decide (t2 = 3)) = true then some (3 : Int) else some 0 := by
       rw [qlg]
       rcases hk with q | q <;> simp [q]
      have e2 : ∀ {o : Option Int}, (if decide (x.Ab = 13) = true then (Jv 3 [t1, t2]).bind fun x25 => if x25 = true then some 3 else some 0
       else if decide (x.Ab = 14) = true then (Jv 3 [t1, t2]).bind fun x25 => if x25 = true then some 3 else some 0 else o) = if (decide (t1 = 3) && decide (t2 = 3)) = true then some (3 : Int) else some 0 := by
       intro o
       rw [← e]
       rcases hk with q | q <;> simp [q]
      rw [e2] at w ⊢
      by_cases w3 : t1 = 3 ∧ t2 = 3
      ·rw [qA1 (by simp [w3])]; exact ⟨w3.1, w3.2, rfl⟩
      ·rw [qA0 (by simpa using w3)] at w; exact absurd rfl w
     by_cases k14 : x.Ab = 14
     ·obtain ⟨l1, l2, l3⟩ := lg (.inr k14)
      rw [qA1 k14, l3]
      split
      ·rw [← l2]; exact ⟨ih3, ih4⟩
      ·exact ⟨fun _ => ⟨by rw [g1, l1], g2⟩, .inl rfl⟩
     ·rw [qA0 k14]
      by_cases k13 : x.Ab = 13
      ·obtain ⟨l1, l2, l3⟩ := lg (.inl k13)
       rw [qA1 k13, l3]
       split
       ·exact ⟨fun _ => ⟨by rw [g1, l1], g2⟩, .inl rfl⟩
       ·rw [← l2]; exact ⟨ih3, ih4⟩
      ·rw [qA0 k13]
       rcases ih4 with q4 | q4
       ·rw [qA0 (by rw [q4]; simp)]
        obtain ⟨g3, g4⟩ := ih3 q4
        have hk' : x.Ab = 17 ∨ x.Ab = 18 ∨ x.Ab = 19 ∨ (x.Ab = 16 ∧ cmp x.Ac = true) := by
         rcases hk with q | q | q | q | q | q
         ·exact absurd q k13
         ·exact absurd q k14
         ·exact .inl q
         ·exact .inr (.inl q)
         ·exact .inr (.inr (.inl q))
         ·exact .inr (.inr (.inr q))
        obtain ⟨c1, c2⟩ := qm5 g2 g4 (t := opr x [t1, t2]) (by rw [g1, g3]) w hk'
        obtain ⟨c3, c4⟩ := qix (op := Rc.opw x) (by omega) g2 g4
        exact qm3 (c4 c1) c2
       ·rw [qA1 (by rw [q4]; rfl)]
        exact ⟨(fun h => by rw [q4] at h; cases h), .inr q4⟩
   ·rw [qA1 (by rw [q]; rfl)]
    exact ⟨(fun h => by rw [q] at h; cases h), .inr q⟩
abbrev B1 := JaD
abbrev B2 := JaN
def sgV (env : List B1) : SgV := fun s => (env.reverse.find? (fun b => decide (b.name = s))).map (·.value)
theorem qqq : sgV [] = fun _ => none := rfl
theorem qm6 (env : List B1) (s : Str) (v : V1) : sgV (env ++ [⟨s, v⟩]) = fun q => if s = q then some v else sgV env q := by
 funext q
 unfold sgV
 rw [List.reverse_append]
 simp only [List.reverse_cons, List.reverse_nil, List.nil_append, List.singleton_append, List.find?_cons]
 by_cases w : s = q
 ·simp [w]
 ·simp [w]
theorem qyb {env : List B1} {x : M} (hl : env.length ≤ 1000000) : ∀ (k m : Nat), k ≤ env.length → k < m → Jbd env x m ((k : Int) - 1) = some (match (env.take k).reverse.find? (fun b => decide (b.name = x.Ac)) with
  | some b => .ret (b.value, none)
  | none => .go (-1))
 | k, 0, _, h => by omega
 | 0, m + 1, _, _ => by rw [Jbd, qA0 (by simp)]; rfl
 | k + 1, m + 1, hk, hm => by
  have hlt : k < env.length := by omega
  have e : ((k + 1 : Nat) : Int) - 1 = (k : Int) := by omega
  rw [Jbd, e, qA1 (by simp), qql hlt, qAz, List.take_add_one, List.getElem?_eq_getElem hlt]
  simp only [Option.toList_some, List.reverse_append, List.reverse_cons, List.reverse_nil, List.nil_append, List.singleton_append, List.find?_cons]
  by_cases w : env[k].name = x.Ac
  ·rw [qA1 (by simpa using w), qAz, decide_eq_true w]
  ·rw [qA0 (by simpa using w), decide_eq_false w, qaa (by constructor <;> omega)]
   exact qyb hl k m (by omega) (by omega)
theorem qm7 (v : V1) : Jck v = some (smE v) := by
 unfold Jck smE
 by_cases q : v.s.length > 2048
 ·rw [qA1 (by simp; omega), qA1 q]; rfl
 ·rw [qA0 (by simp; omega), qA0 q]
theorem qn1 {x : M} {T : Type} {A B : Option (Fl T Str)} (n13 : x.Ab ≠ 13) (n14 : x.Ab ≠ 14) (n15 : x.Ab ≠ 15) (n24 : x.Ab ≠ 24) {C D : Option (Fl T Str)} :
  (if decide (x.Ab = 24) = true then A else if decide (x.Ab = 15) = true then B else if decide (x.Ab = 14) = true then C else if decide (x.Ab = 13) = true then D else
   if decide (x.Ab = 17) = true then some (Fl.go ([43] : Str)) else if decide (x.Ab = 18) = true then some (Fl.go ([45] : Str)) else if decide (x.Ab = 19) = true then some (Fl.go ([42] : Str)) else some (Fl.go x.Ac)) = some (Fl.go (Rc.opw x)) := by
 rw [qA0 (by simpa using n24), qA0 (by simpa using n15), qA0 (by simpa using n14), qA0 (by simpa using n13)]
 unfold Rc.opw
 by_cases q17 : x.Ab = 17
 ·rw [qA1 (by simpa using q17), qA1 q17]
 rw [qA0 (by simpa using q17), qA0 q17]
 by_cases q18 : x.Ab = 18
 ·rw [qA1 (by simpa using q18), qA1 q18]
 rw [qA0 (by simpa using q18), qA0 q18]
 by_cases q19 : x.Ab = 19
 ·rw [qA1 (by simpa using q19), qA1 q19]
 ·rw [qA0 (by simpa using q19), qA0 q19]
theorem qzu {j : In1} {σ : SgV} {d : Nat} {x k : M} (h20 : x.Ab ≠ 20) (h21 : x.Ab ≠ 21) (h22 : x.Ab ≠ 22) (h23 : x.Ab ≠ 23) (hkk : x.Aa = [k]) :
  evE j σ (d + 1) x = if (evE j σ d k).2.isSome = true then (z0, (evE j σ d k).2) else if x.Ab = 24 then smE (callP x.Ac (evE j σ d k).1 j).1 else (tr' (!(evE j σ d k).1.Au), none) := by
 rw [evE, qA0 h20, qA0 h21, qA0 h22, qA0 h23, hkk]
theorem qzv {j : In1} {σ : SgV} {d : Nat} {x k l : M} (h20 : x.Ab ≠ 20) (h21 : x.Ab ≠ 21) (h22 : x.Ab ≠ 22) (h23 : x.Ab ≠ 23) (hkk : x.Aa = [k, l]) :
  evE j σ (d + 1) x = if (evE j σ d k).2.isSome = true then (z0, (evE j σ d k).2)
    else if x.Ab = 14 then (if (evE j σ d k).1.Au = true then evE j σ d l else ((evE j σ d k).1, none))
    else if x.Ab = 13 then (if (evE j σ d k).1.Au = true then ((evE j σ d k).1, none) else evE j σ d l)
    else if (evE j σ d l).2.isSome = true then (z0, (evE j σ d l).2) else smE (opP (Rc.opw x) (evE j σ d k).1 (evE j σ d l).1).1 := by
 rw [evE, qA0 h20, qA0 h21, qA0 h22, qA0 h23, hkk]
theorem qsq {w : Ju} {ρ : Env} {env : List B1} (hj : ∃ i, IOK i ∧ w.Ar = inp i) (hT : TyV ρ (sgV env)) (hl : env.length ≤ 100000) : ∀ (d n : Nat) (x : M) (t : Int), Rc.XE ρ d x → tyE d ρ x = .ok t → d + 200000 ≤ n →
  JaL n w x env = some (evE w.Ar (sgV env) d x)
 | 0, n, x, t, hx, _, _ => hx.elim
 | d + 1, 0, x, t, hx, ht, hn => by omega
 | d + 1, n + 1, x, t, hx, ht, hn => by
  obtain ⟨htl, hx⟩ := hx
  rw [JaL]
  rcases hx with ⟨hk, _, hkk⟩ | ⟨hk, _, hkk⟩ | ⟨hk, hkk⟩ | ⟨hk, hρ, hkk⟩ | ⟨hk, k, hkk, hxk⟩ | ⟨hk, k, l, hkk, hxk, hxl⟩
  ·rw [qA1 (by simpa using hk), evE, qA1 hk, qvh]; rfl
  ·rw [qA0 (by simp [hk]), qA1 (by simpa using hk), evE, qA0 (by omega), qA1 hk, qvj, qAz, qm7]; rfl
  ·rw [qA0 (by simp [hk]), qA0 (by simp [hk]), qA1 (by simpa using hk), evE, qA0 (by omega), qA0 (by omega), qA1 hk]; rfl
  ·rw [qA0 (by simp [hk]), qA0 (by simp [hk]), qA0 (by simp [hk]), qA1 (by simpa using hk), evE, qA0 (by omega), qA0 (by omega), qA0 (by omega), qA1 hk, qaa (by constructor <;> omega), qyb (by omega) env.length n (Nat.le_refl _) (by omega), qAz, List.take_length]
   unfold sgV
   cases q : env.reverse.find? (fun b => decide (b.name = x.Ac)) with
   | some b => rfl
   | none =>
    rw [Rt.el_go, (qmy hj).1, qAz, qm7]; rfl
  ·obtain ⟨t1, ht1, hn1⟩ := qiy hkk ht
   have ih := qsq hj hT hl d n k t1 hxk ht1 (by omega)
   obtain ⟨g1, g2⟩ := qc8 hj hT d k t1 hxk ht1
   have eE := qzu (j := w.Ar) (σ := sgV env) (d := d) (x := x) (k := k) (by omega) (by omega) (by omega) (by omega) hkk
   rw [qA0 (by rcases hk with ⟨h, _⟩ | h <;> simp [h]), qA0 (by rcases hk with ⟨h, _⟩ | h <;> simp [h]), qA0 (by rcases hk with ⟨h, _⟩ | h <;> simp [h]), qA0 (by rcases hk with ⟨h, _⟩ | h <;> simp [h]),
    hkk, Rc.ix0, qAz, ih, qAz]
   rcases g2 with q | q
   ·rw [qA0 (by rw [q]; simp)] at eE
    rw [qA0 (by rw [q]; simp)]
    obtain ⟨g3, g4⟩ := g1 q
    by_cases k24 : x.Ab = 24
    ·rw [qA1 k24] at eE
     rw [eE, qA1 (by simpa using k24), (qiw (n := 0) (nm := x.Ac) hj (by omega) g4).1, qAz, qm7]; rfl
    ·have k15 : x.Ab = 15 := hk.elim (fun h => absurd h.1 k24) id
     rw [qA0 k24] at eE
     rw [eE, qA0 (by simpa using k24), qA1 (by simpa using k15)]; rfl
   ·rw [qA1 (by rw [q]; rfl)] at eE
    rw [eE, qA1 (by rw [q]; rfl)]; rfl
  ·obtain ⟨t1, t2, ht1, ht2, hn1⟩ := qiz hkk ht
   have ihk := qsq hj hT hl d n k t1 hxk ht1 (by omega)
   have ihl := qsq hj hT hl d n l t2 hxl ht2 (by omega)
   obtain ⟨g1, g2⟩ := qc8 hj hT d k t1 hxk ht1
   obtain ⟨g5, g6⟩ := qc8 hj hT d l t2 hxl ht2
   have eE := qzv (j := w.Ar) (σ := sgV env) (d := d) (x := x) (k := k) (l := l) (by omega) (by omega) (by omega) (by omega) hkk
   rw [qA0 (by simp; omega), qA0 (by simp; omega), qA0 (by simp; omega), qA0 (by simp; omega), hkk, Rc.ix0, qAz, ihk, qAz, Rc.ix1]
   simp only [qAz]
   rw [ihl]
   simp only [qAz]
   rcases g2 with q | q
   ·rw [qA0 (by rw [q]; simp)] at eE
    rw [qA0 (by rw [q]; simp)]
    obtain ⟨g3, g4⟩ := g1 q
    by_cases k14 : x.Ab = 14
    ·rw [qA1 k14] at eE
     rw [eE, qA0 (by simp [k14]), qA0 (by simp [k14]), qA1 (by simpa using k14)]
     cases hz : (evE w.Ar (sgV env) d k).1.Au with
     | true => rw [qA0 (by simp)]; rfl
     | false => rw [qA1 (by simp)]; rfl
    ·by_cases k13 : x.Ab = 13
     ·rw [qA0 k14, qA1 k13] at eE
      rw [eE, qA0 (by simp [k13]), qA0 (by simp [k13]), qA0 (by simp [k13]), qA1 (by simpa using k13)]
      cases hz : (evE w.Ar (sgV env) d k).1.Au with
      | true => rw [qA1 rfl]; rfl
      | false => rw [qA0 (by simp)]; rfl
     ·rw [qA0 k14, qA0 k13] at eE
      rw [eE, qn1 k13 k14 (by omega) (by omega), qAz, Rt.el_go]
      rcases g6 with q6 | q6
      ·rw [qA0 (by rw [q6]; simp), qA0 (by rw [q6]; simp)]
       obtain ⟨g7, g8⟩ := g5 q6
       rw [(qix (op := Rc.opw x) (by omega) g4 g8).1, qAz, qm7]; rfl
      ·rw [qA1 (by rw [q6]; rfl), qA1 (by rw [q6]; rfl)]; rfl
   ·rw [qA1 (by rw [q]; rfl)] at eE
    rw [eE, qA1 (by rw [q]; rfl)]; rfl
abbrev WSt := R1 × Bool
def evL (g : List B1 → WSt → M → List B1 × Err × WSt) : List B1 → WSt → List M → Err × WSt
 | E, s, [] => (none, s)
 | E, s, x :: l => if s.2 = true then (none, s) else match (g E s x).2.1 with
  | some e => (some e, (g E s x).2.2)
  | none => evL g (g E s x).1 (g E s x).2.2 l
noncomputable def hdV (j : In1) (d : Nat) (E : List B1) : List M → V1 × Err
 | [] => (z0, none)
 | k :: _ => evE j (sgV E) d k
def thn (x : M) : List M := match x.Aa with
 | _ :: t :: _ => t.Aa
 | _ => []
def els (x : M) : List M := match x.Aa with
 | _ :: _ :: o :: _ => brn o
 | _ => []
def wdP (x : M) : Str := (Rc.acw x).getD []
noncomputable def evS (j : In1) : Nat → List B1 → WSt → M → List B1 × Err × WSt
 | 0, E, s, x => (E, none, s)
 | d + 1, E, s, x =>
  if (hdV j d E x.Aa).2.isSome = true then (E, (hdV j d E x.Aa).2, s)
  else if x.Ab = 3 then (E ++ [⟨x.Ac, (hdV j d E x.Aa).1⟩], none, s)
  else if x.Ab = 2 then (E, evL (evS j d) E s (if (hdV j d E x.Aa).1.Au = true then thn x else els x))
  else (E, (actP s.1 (wdP x) (hdV j d E x.Aa).1).2, (actP s.1 (wdP x) (hdV j d E x.Aa).1).1, decide (x.Ab = 9))
structure StF (d : Nat) (ρ ρ' : Env) (x : M) : Prop where
 tl : x.Ac.length ≤ 3000
 kid : (x.Aa = [] ∧ x.Ab ≠ 2 ∧ x.Ab ≠ 3) ∨ ∃ e ks t, x.Aa = e :: ks ∧ Rc.XE ρ d e ∧ tyE d ρ e = .ok t ∧ (x.Ab = 3 → ρ' = ext ρ x.Ac t)
 same : x.Ab ≠ 3 → ρ' = ρ
 brn2 : x.Ab = 2 → (∃ e t, t.Ab = 12 ∧ (x.Aa = [e, t] ∨ ∃ o, (o.Ab = 12 ∨ o.Ab = 2) ∧ x.Aa = [e, t, o])) ∧ ∀ l, l = thn x ∨ l = els x → (∀ y ∈ l, Gd d y) ∧ l.length ≤ 700 ∧ (∃ ρ1, foldS (stm d) ρ l = .ok ρ1) ∧ Rt.cntL d l + 1 ≤ Rt.cnt (d + 1) x
 word : x.Ab ≠ 2 → x.Ab ≠ 3 → ∃ w k, Rc.acw x = some w ∧ Rc.actK w = some k ∧ w.length ≤ 100000
theorem qh9 {d : Nat} {ρ ρ' : Env} {x : M} (hg : Gd (d + 1) x) (hs : stm (d + 1) ρ x = .ok ρ') : StF d ρ ρ' x := by
 obtain ⟨hok, m, hm⟩ := hg
 obtain ⟨h1, h2, h3⟩ := hok
 have hm' := hm
 obtain ⟨m', rfl, hv0, hv2⟩ := qbs hm'
 have hSF := Rc.stated_form h1 hm
 have word : x.Ab ≠ 2 → x.Ab ≠ 3 → ∃ w k, Rc.acw x = some w ∧ Rc.actK w = some k ∧ w.length ≤ 100000 := fun n2 n3 => by
  obtain ⟨w, e1, e2⟩ := Rc.acs_eff hSF n2 n3
  have e3 := Rc.acs_S h1 ⟨11, 0, w⟩ (by rw [e1]; simp)
  unfold Rc.acs at e1
  cases q : Rc.acw x with
  | none => rw [q] at e1; cases e1
  | some w' =>
   rw [q] at e1
   simp only [List.cons.injEq, and_true] at e1
   have ew : w' = w := by injection e1
   subst ew
   have e4 : (Rc.actK w').map (fun k => (k, (0 : Int))) = some ((x.Aa.length : Int), 0) := e2
   cases hk : Rc.actK w' with
   | none => rw [hk] at e4; cases e4
   | some k => exact ⟨w', k, rfl, hk, e3⟩
 cases hkk : x.Aa with
 | nil =>
  have n2 : x.Ab ≠ 2 := fun q => by
   obtain ⟨e, t, _, hk⟩ := Rc.if_kids q hm
   rcases hk with hk | ⟨o, _, hk⟩ <;> (rw [hkk] at hk; cases hk)
  have n3 : x.Ab ≠ 3 := fun q => by
   unfold Rc.SF at hSF
   rcases hSF with h | ⟨_, h⟩ | ⟨h, _⟩ | ⟨h, _⟩ | ⟨h, _⟩ | ⟨h, _⟩ | ⟨h, _⟩
   ·omega
   ·rw [hkk] at h; cases h
   ·omega
   ·omega
   ·omega
   ·omega
   ·omega
  rw [stm, hkk] at hs
  cases hs
  exact ⟨h1, .inl ⟨hkk, n2, n3⟩, fun _ => rfl, fun q => absurd q n2, word⟩
 | cons e ks =>
  obtain ⟨t, ht, hst⟩ := qee hkk hs
  have hE : Rc.XE ρ d e := Rc.XE_of (h3 e (by rw [hkk]; simp)) (hv0 e (by rw [hkk]; rfl)) ht
  refine ⟨h1, .inr ⟨e, ks, t, hkk, hE, ht, fun q3 => ?_⟩, fun n3 => ?_, fun q2 => ?_, word⟩
  ·rcases hst with ⟨_, h⟩ | ⟨q, _⟩ | ⟨q, _⟩
   ·exact h
   ·omega
   ·exact absurd q3 q
  ·rcases hst with ⟨q, _⟩ | ⟨_, h, _⟩ | ⟨_, _, h⟩
   ·exact absurd q n3
   ·exact h
   ·exact h
  ·obtain ⟨l2, hb⟩ := hv2 q2
   obtain ⟨e', t', ht12, hk⟩ := Rc.if_kids q2 hm
   refine ⟨⟨e', t', ht12, hk⟩, ?_⟩
   rcases hst with ⟨q, _⟩ | ⟨_, hρ, hbr⟩ | ⟨_, q, _⟩
   ·omega
   ·have hT := qe3 hbr
    have gd : ∀ k ∈ ks, (∀ q ∈ brn k, Gd d q) ∧ (brn k).length ≤ 700 := fun k hk1 => by
     have hk2 : k ∈ x.Aa := by rw [hkk]; simp [hk1]
     obtain ⟨l', e1, e2, e3⟩ := qc6 (h3 k hk2) ((hb k (by rw [hkk]; simpa using hk1)).imp (fun h => ⟨h.1, fun q hq => ⟨m', h.2 q hq⟩⟩) fun h => ⟨h.1, m', h.2⟩)
     rw [qf0] at e1
     cases e1
     exact ⟨e3, e2⟩
    have main : ∀ k ∈ ks, (∀ y ∈ brn k, Gd d y) ∧ (brn k).length ≤ 700 ∧ (∃ ρ1, foldS (stm d) ρ (brn k) = .ok ρ1) ∧ Rt.cntL d (brn k) + 1 ≤ Rt.cnt (d + 1) x := fun k hk1 => by
     obtain ⟨g1, g2⟩ := gd k hk1
     refine ⟨g1, g2, hT k hk1, ?_⟩
     have hc := (Rt.brn_ok (d := d) (k := k) (h3 k (by rw [hkk]; simp [hk1]))).2
     have hm2 := Rt.cnt_mem (d := d) (l := x.Aa) (x := k) (by rw [hkk]; simp [hk1])
     rw [Rt.cnt_eq]; omega
    have nil : (∀ y ∈ ([] : List M), Gd d y) ∧ ([] : List M).length ≤ 700 ∧ (∃ ρ1, foldS (stm d) ρ [] = .ok ρ1) ∧ Rt.cntL d [] + 1 ≤ Rt.cnt (d + 1) x :=
     ⟨(fun y hy => by cases hy), by simp, ⟨ρ, rfl⟩, by rw [Rt.cnt_eq]; simp [Rt.cntL]⟩
    intro l hl
    rcases hk with hk | ⟨o, ho, hk⟩
    ·rw [hkk] at hk
     cases hk
     rcases hl with rfl | rfl
     ·have : thn x = brn t' := by unfold thn; rw [hkk, Rc.brn12 ht12]
      rw [this]; exact main t' (by simp)
     ·have : els x = [] := by unfold els; rw [hkk]
      rw [this]; exact nil
    ·rw [hkk] at hk
     cases hk
     rcases hl with rfl | rfl
     ·have : thn x = brn t' := by unfold thn; rw [hkk, Rc.brn12 ht12]
      rw [this]; exact main t' (by simp)
     ·have : els x = brn o := by unfold els; rw [hkk]
      rw [this]; exact main o (by simp)
   ·exact absurd q2 q
theorem qvv {d : Nat} {x : M} (hg : Gd (d + 1) x) : Rc.SF x := by
 obtain ⟨⟨h1, _, _⟩, m, hm⟩ := hg
 have hm' := hm
 obtain ⟨m', rfl, _, _⟩ := qbs hm'
 exact Rc.stated_form h1 hm
theorem qm8 {x : M} {w : Str} (h : Rc.SF x) (n2 : x.Ab ≠ 2) (n3 : x.Ab ≠ 3) (hw : Rc.acw x = some w) : x.Ab = 9 ↔ w = [100, 101, 110, 121] := by
 unfold Rc.acw at hw
 rcases h with q | ⟨q, _⟩ | ⟨q, _, ht⟩ | ⟨q, _⟩ | ⟨q, _⟩ | ⟨q, _⟩ | ⟨q, _⟩
 ·exact absurd q n2
 ·exact absurd q n3
 ·rw [qA1 q] at hw
  cases hw
  rcases ht with e | e <;> rw [e, q] <;> decide
 ·rw [qA0 (by omega), qA1 q] at hw
  cases hw
  rw [q]; simp
 ·rw [qA0 (by omega), qA0 (by omega), qA1 q] at hw
  cases hw
  rw [q]; simp
 ·rcases q with q | q | q
  ·rw [qA0 (by omega), qA0 (by omega), qA0 (by omega), qA1 q] at hw
   cases hw; rw [q]; decide
  ·rw [qA0 (by omega), qA0 (by omega), qA0 (by omega), qA0 (by omega), qA1 q] at hw
   cases hw; rw [q]; decide
  ·rw [qA0 (by omega), qA0 (by omega), qA0 (by omega), qA0 (by omega), qA0 (by omega), qA1 q] at hw
   cases hw; rw [q]; decide
 ·rcases q with q | q
  ·rw [qA0 (by omega), qA0 (by omega), qA0 (by omega), qA0 (by omega), qA0 (by omega), qA0 (by omega), qA1 q] at hw
   cases hw; rw [q]; decide
  ·rw [qA0 (by omega), qA0 (by omega), qA0 (by omega), qA0 (by omega), qA0 (by omega), qA0 (by omega), qA0 (by omega), qA1 q] at hw
   cases hw; rw [q]; decide
theorem qqr (r : R1) (s : Str) (x : V1) : (qj8 r s x).1.Ai = r.Ai := by
 unfold qj8
 split
 ·split <;> rfl
 ·split
  ·rfl
  ·split <;> rfl
theorem qvw {r : R1} {w : Str} {x : V1} (h : (actP r w x).2 = none) (h0 : r.Ai = 0) : (actP r w x).1.Ai ≠ 0 ↔ w = [100, 101, 110, 121] := by
 unfold actP at h ⊢
 by_cases q0 : x.kind ≠ needP w
 ·rw [qA1 q0] at h; cases h
 rw [qA0 q0]
 by_cases q1 : w = [112, 97, 116, 104]
 ·rw [qA1 q1]; simp [h0, q1]
 rw [qA0 q1]
 by_cases q2 : w = [113, 117, 101, 114, 121]
 ·rw [qA1 q2]; simp [h0, q2]
 rw [qA0 q2]
 by_cases q3 : w = [116, 97, 103]
 ·rw [qA1 q3]; simp [h0, q3]
 rw [qA0 q3]
 by_cases q4 : w = [116, 116, 108]
 ·rw [qA1 q4]; simp [h0, q4]
 rw [qA0 q4]
 by_cases q5 : w = [100, 101, 110, 121]
 ·rw [qA1 q5]
  refine ⟨fun _ => q5, fun _ => ?_⟩
  split
  ·show (403 : Int) ≠ 0; omega
  ·show x.n ≠ 0; omega
 rw [qA0 q5]
 refine ⟨fun e => absurd ?_ e, fun e => absurd e q5⟩
 split
 ·exact h0
 split
 ·exact h0
 rw [qqr]; exact h0
structure qwe (k : Nat) (s : WSt) : Prop where
 r : ROK k s.1
 dn : s.2 = decide (s.1.Ai ≠ 0)
def qAc (k : Nat) (o : Err × WSt) : Prop := ROK k o.2.1 ∧ o.1 ≠ some 0 ∧ (o.1 = none → o.2.2 = decide (o.2.1.Ai ≠ 0))
def LI (j : In1) (d : Nat) : Prop := ∀ (l : List M) (k : Nat) (ρ ρ' : Env) (E : List B1) (s : WSt), (∀ y ∈ l, Gd d y) → foldS (stm d) ρ l = .ok ρ' → TyV ρ (sgV E) → qwe k s → qAc (k + Rt.cntL d l) (evL (evS j d) E s l)
theorem qm9 {j : In1} {d : Nat} {ρ ρ' : Env} {E : List B1} {x : M} (hj : ∃ i, IOK i ∧ j = inp i) (hT : TyV ρ (sgV E)) (hF : StF d ρ ρ' x) :
  ((hdV j d E x.Aa).2 = none → VOK 2048 (hdV j d E x.Aa).1) ∧ ((hdV j d E x.Aa).2 = none ∨ (hdV j d E x.Aa).2 = some 5) ∧
  ((hdV j d E x.Aa).2 = none → x.Ab = 3 → TyV ρ' (sgV (E ++ [⟨x.Ac, (hdV j d E x.Aa).1⟩]))) := by
 rcases hF.kid with ⟨hk, _, n3⟩ | ⟨e, ks, t, hk, hE, ht, h3⟩
 ·rw [hk]
  exact ⟨(fun _ => ⟨Nat.zero_le _, (by show (-1099511627776 : Int) ≤ 0; omega), (by show (0 : Int) ≤ 1099511627776; omega)⟩), .inl rfl, fun _ q => absurd q n3⟩
 ·rw [hk]
  obtain ⟨g1, g2⟩ := qc8 hj hT d e t hE ht
  refine ⟨fun h => (g1 h).2, g2, fun h q => ?_⟩
  obtain ⟨g3, g4⟩ := g1 h
  rw [h3 q, qm6]
  refine ⟨fun s v hv => ?_, fun s hv => ?_⟩
  ·have hv : (if x.Ac = s then some (hdV j d E (e :: ks)).1 else sgV E s) = some v := hv
   unfold ext
   by_cases w : x.Ac = s
   ·rw [qA1 w] at hv ⊢
    cases hv
    exact ⟨g3, g4⟩
   ·rw [qA0 w] at hv ⊢
    exact hT.some_ s v hv
  ·have hv : (if x.Ac = s then some (hdV j d E (e :: ks)).1 else sgV E s) = none := hv
   unfold ext
   by_cases w : x.Ac = s
   ·rw [qA1 w] at hv; cases hv
   ·rw [qA0 w] at hv ⊢
    exact hT.none_ s hv
theorem qqs {j : In1} {d k : Nat} {ρ ρ1 : Env} {E : List B1} {s : WSt} {x : M} (hj : ∃ i, IOK i ∧ j = inp i) (hL : LI j d) (hg : Gd (d + 1) x) (hs : stm (d + 1) ρ x = .ok ρ1) (hT : TyV ρ (sgV E)) (hi : qwe k s) (he : s.2 = false) :
  ((evS j (d + 1) E s x).2.1 = none → TyV ρ1 (sgV (evS j (d + 1) E s x).1) ∧ qwe (k + Rt.cnt (d + 1) x) (evS j (d + 1) E s x).2.2) ∧ (evS j (d + 1) E s x).2.1 ≠ some 0 ∧ ROK (k + Rt.cnt (d + 1) x) (evS j (d + 1) E s x).2.2.1 ∧ (evS j (d + 1) E s x).1.length ≤ E.length + 1 := by
 have hF := qh9 hg hs
 have hSF := qvv hg
 obtain ⟨v1, v2, v3⟩ := qm9 hj hT hF
 have hc : 1 ≤ Rt.cnt (d + 1) x := by rw [Rt.cnt_eq]; omega
 have h0 : s.1.Ai = 0 := by
  have := hi.dn
  rw [he] at this
  by_cases q : s.1.Ai = 0
  ·exact q
  ·rw [decide_eq_true q] at this; cases this
 rw [evS]
 by_cases q : (hdV j d E x.Aa).2.isSome = true
 ·rw [qA1 q]
  refine ⟨fun h => ?_, ?_, hi.r.up (by omega), by show E.length ≤ _; omega⟩
  ·simp only at h; rw [h] at q; cases q
  ·rcases v2 with w | w
   ·rw [w] at q; cases q
   ·show (hdV j d E x.Aa).2 ≠ some 0
    rw [w]; decide
 rw [qA0 q]
 have qn : (hdV j d E x.Aa).2 = none := by
  cases w : (hdV j d E x.Aa).2 with
  | none => rfl
  | some e => rw [w] at q; exact absurd rfl q
 by_cases q3 : x.Ab = 3
 ·rw [qA1 q3]
  exact ⟨fun _ => ⟨v3 qn q3, hi.r.up (by omega), hi.dn⟩, by simp, hi.r.up (by omega), by simp⟩
 rw [qA0 q3]
 by_cases q2 : x.Ab = 2
 ·rw [qA1 q2]
  obtain ⟨_, hb⟩ := hF.brn2 q2
  have hB : (if (hdV j d E x.Aa).1.Au = true then thn x else els x) = thn x ∨ (if (hdV j d E x.Aa).1.Au = true then thn x else els x) = els x := by
   split
   ·exact .inl rfl
   ·exact .inr rfl
  generalize (if (hdV j d E x.Aa).1.Au = true then thn x else els x) = B at hB
  obtain ⟨g1, g2, ⟨ρ2, g3⟩, g4⟩ := hb B hB
  obtain ⟨l1, l2, l3⟩ := hL B k ρ ρ2 E s g1 g3 hT hi
  exact ⟨fun h => ⟨(by rw [hF.same q3]; exact hT), l1.up (by omega), l3 h⟩, l2, l1.up (by omega), by show E.length ≤ _; omega⟩
 rw [qA0 q2]
 obtain ⟨w, t, e1, e2, e3⟩ := hF.word q2 q3
 have ew : wdP x = w := by unfold wdP; rw [e1]; rfl
 rw [ew]
 obtain ⟨a1, a2, _⟩ := qqk (k := k) (s := w) (x := (hdV j d E x.Aa).1) hi.r
 refine ⟨fun h => ⟨(by rw [hF.same q3]; exact hT), a1.up (by omega), ?_⟩, a2, a1.up (by omega), by show E.length ≤ _; omega⟩
 have h1 := qvw h h0
 have h2 := qm8 hSF q2 q3 e1
 show decide (x.Ab = 9) = decide ((actP s.1 w (hdV j d E x.Aa).1).1.Ai ≠ 0)
 exact decide_eq_decide.2 (h2.trans h1.symm)
theorem qlh {j : In1} (hj : ∃ i, IOK i ∧ j = inp i) : ∀ d, LI j d
 | 0, [], k, ρ, ρ', E, s, _, _, _, hi => ⟨hi.r.up (by omega), by simp [evL], fun _ => hi.dn⟩
 | 0, x :: l, k, ρ, ρ', E, s, hg, _, _, _ => (hg x (by simp)).1.elim
 | d + 1, l, k, ρ, ρ', E, s, hg, hf, hT, hi => by
  have hL := qlh hj d
  induction l generalizing k ρ E s with
  | nil => exact ⟨hi.r.up (by omega), by simp [evL], fun _ => hi.dn⟩
  | cons x l ih =>
   rw [foldS] at hf
   cases hx : stm (d + 1) ρ x with
   | error e => rw [hx] at hf; cases hf
   | ok ρ1 =>
    rw [hx] at hf
    simp only at hf
    rw [evL]
    rw [Rt.cntL_cons]
    by_cases q : s.2 = true
    ·rw [qA1 q]
     exact ⟨hi.r.up (by omega), by simp, fun _ => hi.dn⟩
    rw [qA0 q]
    obtain ⟨g1, g2, g3, _⟩ := qqs hj hL (hg x (by simp)) hx hT hi (by simpa using q)
    cases w : (evS j (d + 1) E s x).2.1 with
    | some e => exact ⟨g3.up (by omega), (by rw [w] at g2; exact g2), fun h => by cases h⟩
    | none =>
     obtain ⟨g4, g5⟩ := g1 w
     have := ih (k + Rt.cnt (d + 1) x) ρ1 _ _ (fun y hy => hg y (by simp [hy])) hf g4 g5
     rw [Nat.add_assoc] at this
     exact this
theorem qzw {x : M} {w : Str} (h : Rc.acw x = some w) (hl : x.Ac.length ≤ 3000) : JdT x = some w := by
 unfold Rc.acw at h
 unfold JdT
 by_cases q4 : x.Ab = 4
 ·rw [qA1 q4] at h
  rw [qA0 (by simp [q4]), qA0 (by simp [q4]), qA0 (by simp [q4]), qA0 (by simp [q4]), qA0 (by simp [q4]), qA0 (by simp [q4]), qA0 (by simp [q4])]; exact h
 rw [qA0 q4] at h
 by_cases q5 : x.Ab = 5
 ·rw [qA1 q5] at h
  rw [qA1 (by simpa using q5), qaa (by simp [lim]; omega)]; exact h
 rw [qA0 q5] at h
 rw [qA0 (by simpa using q5)]
 by_cases q6 : x.Ab = 6
 ·rw [qA1 q6] at h
  rw [qA1 (by simpa using q6), qaa (by simp [lim]; omega)]; exact h
 rw [qA0 q6] at h
 rw [qA0 (by simpa using q6)]
 by_cases q7 : x.Ab = 7
 ·rw [qA1 q7] at h
  rw [qA1 (by simpa using q7)]; exact h
 rw [qA0 q7] at h
 rw [qA0 (by simpa using q7)]
 by_cases q8 : x.Ab = 8
 ·rw [qA1 q8] at h
  rw [qA1 (by simpa using q8)]; exact h
 rw [qA0 q8] at h
 rw [qA0 (by simpa using q8)]
 by_cases q9 : x.Ab = 9
 ·rw [qA1 q9] at h
  rw [qA1 (by simpa using q9)]; exact h
 rw [qA0 q9] at h
 rw [qA0 (by simpa using q9)]
 by_cases q10 : x.Ab = 10
 ·rw [qA1 q10] at h
  rw [qA1 (by simpa using q10)]; exact h
 rw [qA0 q10] at h
 rw [qA0 (by simpa using q10)]
 by_cases q11 : x.Ab = 11
 ·rw [qA1 q11] at h
  rw [qA1 (by simpa using q11)]; exact h
 rw [qA0 q11] at h
 cases h
theorem qvx {x e t : M} (ht : t.Ab = 12) (h : x.Aa = [e, t] ∨ ∃ o, (o.Ab = 12 ∨ o.Ab = 2) ∧ x.Aa = [e, t, o]) :
  ix x.Aa 1 = some t ∧ thn x = t.Aa ∧ ((¬ (x.Aa.length : Int) > 2 ∧ els x = []) ∨ ∃ o, (x.Aa.length : Int) = 3 ∧ ix x.Aa 2 = some o ∧ subL x.Aa (2 : Int) (x.Aa.length : Int) = [o] ∧ ((o.Ab = 2 ∧ els x = [o]) ∨ (o.Ab = 12 ∧ els x = o.Aa))) := by
 rcases h with h | ⟨o, ho, h⟩
 ·unfold thn els
  rw [h]
  exact ⟨rfl, rfl, .inl ⟨by simp, rfl⟩⟩
 ·unfold thn els
  rw [h]
  refine ⟨rfl, rfl, .inr ⟨o, rfl, rfl, rfl, ?_⟩⟩
  rcases ho with ho | ho
  ·exact .inr ⟨ho, Rc.brn12 ho⟩
  ·refine .inl ⟨ho, ?_⟩
   show brn o = [o]
   unfold brn
   rw [qA0 (by omega)]
abbrev W (j : In1) (s : WSt) : Ju := ⟨j, s.1, s.2⟩
def WL (j : In1) (d n : Nat) : Prop := ∀ (l : List M) (k : Nat) (ρ ρ' : Env) (E : List B1) (s : WSt), (∀ y ∈ l, Gd d y) → l.length ≤ 700 → foldS (stm d) ρ l = .ok ρ' → TyV ρ (sgV E) → E.length + l.length + 700 * d ≤ 90000 → qwe k s → k + Rt.cntL d l ≤ 900 →
 J9 n (W j s) l E = some ((evL (evS j d) E s l).1, W j (evL (evS j d) E s l).2)
set_option maxRecDepth 100000 in
theorem wL0 {j : In1} {d n : Nat} (hj : ∃ i, IOK i ∧ j = inp i) (hn : d + 200000 ≤ n) (hw : WL j d n) (s0 : WSt) : ∀ (l : List M) (i k : Nat) (ρ ρ' : Env) (E : List B1) (s : WSt), (∀ y ∈ l, Gd (d + 1) y) → foldS (stm (d + 1)) ρ l = .ok ρ' → TyV ρ (sgV E) → E.length + l.length + 700 * (d + 1) ≤ 90000 → qwe k s → k + Rt.cntL (d + 1) l ≤ 900 →
  ∃ r, Jaz (W j s0) n (J9 n) l i E (W j s) = some r ∧ (r = Fl.ret ((evL (evS j (d + 1)) E s l).1, W j (evL (evS j (d + 1)) E s l).2) ∨ ∃ E', r = Fl.go (E', W j (evL (evS j (d + 1)) E s l).2) ∧ (evL (evS j (d + 1)) E s l).1 = none)
 | [], i, k, ρ, ρ', E, s, _, _, _, _, _, _ => ⟨_, rfl, .inr ⟨E, rfl, rfl⟩⟩
 | x :: l, i, k, ρ, ρ', E, s, hg, hf, hT, hl, hi, hc => by
  rw [Jaz]
  dsimp only [W]
  by_cases he : s.2 = true
  ·rw [qA1 he]
   exact ⟨_, rfl, .inl (by rw [evL, qA1 he])⟩
  rw [qA0 he]
  have hef : s.2 = false := by simpa using he
  rw [foldS] at hf
  cases hx : stm (d + 1) ρ x with
  | error e => rw [hx] at hf; cases hf
  | ok ρ1 =>
   rw [hx] at hf
   simp only at hf
   have hF := qh9 (hg x (by simp)) hx
   obtain ⟨v1, v2, v3⟩ := qm9 hj hT hF
   obtain ⟨i1, i2, i3, i4⟩ := qqs hj (qlh hj d) (hg x (by simp)) hx hT hi hef
   rw [Rt.cntL_cons] at hc
   simp only [List.length_cons] at hl
   have hd0 : (if decide ((x.Aa.length : Int) > 0) = true then (ix x.Aa 0).bind fun x32 => (JaL n (⟨j, s.1, s.2⟩ : Ju) x32 E).bind fun x35 => if x35.2.isSome = true then some (Fl.ret (x35.2, (⟨j, s.1, s.2⟩ : Ju))) else some (Fl.go (x35.1.kind, x35.1.n, x35.1.s, x35.1.Au)) else some (Fl.go (0, 0, ([] : Str), false)) : Option (Fl (Err × Ju) (Int × Int × Str × Bool)))
     = some (if (hdV j d E x.Aa).2.isSome = true then Fl.ret ((hdV j d E x.Aa).2, (⟨j, s.1, s.2⟩ : Ju)) else Fl.go ((hdV j d E x.Aa).1.kind, (hdV j d E x.Aa).1.n, (hdV j d E x.Aa).1.s, (hdV j d E x.Aa).1.Au)) := by
    rcases hF.kid with ⟨hk, _, _⟩ | ⟨e, ks, t, hk, hE, ht, _⟩
    ·rw [hk]; rfl
    ·rw [hk, qA1 (by simp only [List.length_cons, decide_eq_true_eq]; omega), Rc.ix0, qAz, qsq (w := ⟨j, s.1, s.2⟩) hj hT (by omega) d n e t hE ht (by omega), qAz]
     show (if (evE j (sgV E) d e).2.isSome = true then _ else _) = some (if (evE j (sgV E) d e).2.isSome = true then _ else _)
     split <;> rfl
   rw [hd0, qAz]
   have fin : ∀ (E1 : List B1) (o : Err) (s1 : WSt), evS j (d + 1) E s x = (E1, o, s1) → ∃ r, (if o.isSome = true then some (Fl.ret (o, (⟨j, s1.1, s1.2⟩ : Ju))) else Jaz (W j s0) n (J9 n) l (i + 1) E1 (⟨j, s1.1, s1.2⟩ : Ju)) = some r ∧
     (r = Fl.ret ((evL (evS j (d + 1)) E s (x :: l)).1, W j (evL (evS j (d + 1)) E s (x :: l)).2) ∨ ∃ E', r = Fl.go (E', W j (evL (evS j (d + 1)) E s (x :: l)).2) ∧ (evL (evS j (d + 1)) E s (x :: l)).1 = none) := by
    intro E1 o s1 hS
    rw [hS] at i1 i2 i3 i4
    cases o with
    | some e => exact ⟨_, qA1 rfl, .inl (by rw [evL, qA0 he, hS])⟩
    | none =>
     obtain ⟨g1, g2⟩ := i1 rfl
     simp only at i4
     have := wL0 hj hn hw s0 l (i + 1) (k + Rt.cnt (d + 1) x) ρ1 ρ' E1 s1 (fun y hy => hg y (by simp [hy])) hf g1 (by omega) g2 (by omega)
     rw [qA0 (by simp), evL, qA0 he, hS]
     exact this
   by_cases q : (hdV j d E x.Aa).2.isSome = true
   ·rw [qA1 q, Rt.el_ret]
    refine ⟨_, rfl, .inl ?_⟩
    obtain ⟨e, hq⟩ := Option.isSome_iff_exists.1 q
    have eS : evS j (d + 1) E s x = (E, some e, s) := by rw [evS, qA1 q, hq]
    rw [evL, qA0 he, eS, hq]
   rw [qA0 q, Rt.el_go]
   dsimp only
   have qn : (hdV j d E x.Aa).2 = none := by
    cases w : (hdV j d E x.Aa).2 with
    | none => rfl
    | some e => rw [w] at q; exact absurd rfl q
   by_cases q3 : x.Ab = 3
   ·rw [qA1 (by simpa using q3), qaa (by simp only [lim, List.length_singleton]; omega), qAz]
    exact fin _ none s (by rw [evS, qA0 q, qA1 q3])
   rw [qA0 (by simpa using q3)]
   by_cases q2 : x.Ab = 2
   ·rw [qA1 (by simpa using q2)]
    obtain ⟨⟨e, t, ht, hk⟩, hb⟩ := hF.brn2 q2
    obtain ⟨j1, j2, j3⟩ := qvx ht hk
    have rec_ : ∀ B, B = thn x ∨ B = els x → J9 n (⟨j, s.1, s.2⟩ : Ju) B E = some ((evL (evS j d) E s B).1, W j (evL (evS j d) E s B).2) := fun B hB => by
     obtain ⟨g1, g2, ⟨ρ2, g3⟩, g4⟩ := hb B hB
     exact hw B k ρ ρ2 E s g1 g2 g3 hT (by omega) hi (by omega)
    cases hz : (hdV j d E x.Aa).1.Au with
    | true =>
     rw [qA1 rfl, j1, qAz, ← j2, rec_ _ (.inl rfl), qAz, qAz]
     exact fin _ _ _ (by rw [evS, qA0 q, qA0 q3, qA1 q2, hz, qA1 rfl])
    | false =>
     have eS : evS j (d + 1) E s x = (E, evL (evS j d) E s (els x)) := by rw [evS, qA0 q, qA0 q3, qA1 q2, hz, qA0 (by simp)]
     rw [qA0 (by simp)]
     rcases j3 with ⟨j4, j5⟩ | ⟨o, j4, j5, j6, j7⟩
     ·rw [qA0 (by simpa using j4), qAz, qA0 (by simp), qA0 (by simpa using j4), qAz]
      rw [j5] at eS
      exact fin _ _ _ eS
     ·have l3 : decide ((x.Aa.length : Int) > 2) = true := by rw [j4]; rfl
      rw [qA1 l3, j5, qAz]
      rcases j7 with ⟨j7, j8⟩ | ⟨j7, j8⟩
      ·rw [qAz, qA1 (by simpa using j7), qaa (by omega), j6, ← j8, rec_ _ (.inr rfl), qAz, qAz]
       exact fin _ _ _ eS
      ·rw [qAz, qA0 (by simp [j7]), qA1 l3, qAz, ← j8, rec_ _ (.inr rfl), qAz, qAz]
       exact fin _ _ _ eS
   rw [qA0 (by simpa using q2)]
   obtain ⟨w, t, e1, e2, e3⟩ := hF.word q2 q3
   have ew : wdP x = w := by unfold wdP; rw [e1]; rfl
   have hcx : 1 ≤ Rt.cnt (d + 1) x := by rw [Rt.cnt_eq]; omega
   obtain ⟨hv1, hv2, hv3⟩ := v1 qn
   rw [qzw e1 hF.tl, qAz, qAb (k := k) (by omega) hi.r e3 (by show (hdV j d E x.Aa).1.s.length ≤ 100000; omega) e2, qAz, qAz]
   exact fin _ _ _ (by rw [evS, qA0 q, qA0 q3, qA0 q2, ew])
set_option maxRecDepth 100000 in
theorem qt2 {j : In1} (hj : ∃ i, IOK i ∧ j = inp i) : ∀ (d n : Nat), d + 200001 ≤ n → WL j d n
 | d, 0, h => by omega
 | 0, n + 1, h => fun l k ρ ρ' E s hg hl hf hT hE hi hc => by
  cases l with
  | nil => rfl
  | cons x l => exact (hg x (by simp)).1.elim
 | d + 1, n + 1, h => fun l k ρ ρ' E s hg hl hf hT hE hi hc => by
  obtain ⟨r, h1, h2⟩ := wL0 hj (by omega) (qt2 hj d n (by omega)) s l 0 k ρ ρ' E s hg hf hT hE hi hc
  rw [J9, qaa (by simp only [qau]; omega), h1, qAz]
  rcases h2 with rfl | ⟨E', rfl, h3⟩
  ·rfl
  ·rw [Rt.el_go, h3]
def zR1 : R1 := ⟨[], [], [], [], [], 0, 0, 0, false, false⟩
def b0 (i : In2) : WSt := (⟨i.Ae, i.Af, [], [], [], -1, 0, 0, false, false⟩, false)
theorem qyc (i : In2) : qwe 0 (b0 i) := ⟨⟨⟨Nat.le_refl _, (fun x hx => by cases hx)⟩, Nat.le_refl _, Nat.le_refl _⟩, rfl⟩
theorem qyy : TyV base (sgV []) := by
 rw [qqq]
 exact ⟨(fun s v h => by cases h), fun s _ => rfl⟩
theorem qt3 : ∀ (l : List FF) (i : Nat) (y : List Jq), y.length + l.length ≤ 100000 → JbL l i y = some (y ++ uff l)
 | [], i, y, _ => by rw [JbL]; simp [uff]
 | x :: l, i, y, h => by
  simp only [List.length_cons] at h
  rw [JbL, qaa (by simp only [lim, List.length_singleton]; omega), qt3 l (i + 1) _ (by simp only [List.length_append, List.length_singleton]; omega)]
  simp [uff]
theorem qyd {k : Nat} {r : R1} (h : ROK k r) (hk : k ≤ 1000) : JcR r = some (r2 r) := by
 have := h.h.1
 unfold JcR Jd0
 rw [qaa (by simp only [qau]; omega), qt3 _ _ _ (by simp only [List.length_nil]; omega)]; rfl
def BC (v : V1) : Prop := v.kind = 3 → v = tr' v.Au
def OB (o : Option (V1 × Bool)) : Prop := ∀ r, o = some r → BC r.1
theorem OB.ite {c : Bool} {a b : Option (V1 × Bool)} (h1 : OB a) (h2 : OB b) : OB (if c = true then a else b) := by
 cases c
 ·simpa using h2
 ·simpa using h1
theorem OB.bind {α : Type} {o : Option α} {f : α → Option (V1 × Bool)} (h : ∀ a, o = some a → OB (f a)) : OB (o.bind f) := fun t ht => by
 cases o with
 | none => cases ht
 | some a => exact h a rfl t ht
theorem BC.text {s : Str} {v : V1} (h : Jaq s = some v) : BC v := fun e => by unfold Jaq at h; cases h; cases e
theorem BC.num {n : Int} {v : V1} (h : JaZ n = some v) : BC v := fun e => by unfold JaZ at h; cases h; cases e
theorem BC.truth {b : Bool} {v : V1} (h : Jaj b = some v) : BC v := fun e => by unfold Jaj at h; cases h; rfl
theorem OB.z {b : Bool} : OB (some ((⟨0, 0, ([] : Str), false⟩ : V1), b)) := fun r h e => by cases h; cases e
theorem OB.some_ {v : V1} {b : Bool} (h : BC v) : OB (some (v, b)) := fun r e => by cases e; exact h
def PB (o : Option V1) : Prop := ∀ r, o = some r → BC r
theorem PB.ite {c : Bool} {a b : Option V1} (h1 : PB a) (h2 : PB b) : PB (if c = true then a else b) := by
 cases c
 ·simpa using h2
 ·simpa using h1
theorem PB.bind {α : Type} {o : Option α} {f : α → Option V1} (h : ∀ a, PB (f a)) : PB (o.bind f) := fun t ht => by
 cases o with
 | none => cases ht
 | some a => exact h a t ht
theorem PB.num {n : Int} : PB ((JaZ n).bind fun x => some x) := fun r e => by
 unfold JaZ at e; cases e; intro q; cases q
theorem qvy (a b : Int) : PB (JbE a b) := by
 unfold JbE
 exact .ite .num (.bind fun _ => .bind fun _ => .bind fun _ => .bind fun _ => .ite (.bind fun _ => .bind fun _ => .num) (.bind fun _ => .num))
theorem qzx (op : Str) (a b : V1) : BC (opP op a b).1 := by
 have h : OB (JG op a b) := by
  unfold JG
  refine .ite .z (.ite (.ite (.bind fun _ _ => .bind fun x h => .some_ (.text h)) (.bind fun _ _ => .bind fun x h => .some_ (.num h))) (.ite (.bind fun _ _ => .bind fun x h => .some_ (.num h)) (.ite (.ite .z (.bind fun x h => .some_ (qvy _ _ _ h))) ?_)))
  ·refine .ite (.bind fun x h => .some_ (.truth h)) (.ite (.bind fun x h => .some_ (.truth h)) (.ite (.bind fun x h => .some_ (.truth h)) (.ite (.bind fun x h => .some_ (.truth h)) (.ite (.bind fun _ _ => .bind fun x h => .some_ (.truth h)) (.ite (.bind fun _ _ => .bind fun x h => .some_ (.truth h)) (.bind fun _ _ => .bind fun x h => .some_ (.truth h)))))))
 unfold opP
 cases e : JG op a b with
 | none => intro q; cases q
 | some r => exact h r e
def Frag (c : List I) (b : Nat) (l : List I) : Prop := ∀ (j : Nat) (x : I), l[j]? = some x → c[b + j]? = some x
theorem Frag.left {c : List I} {b : Nat} {l k : List I} (h : Frag c b (l ++ k)) : Frag c b l := fun j x hx => h j x (by
 rw [List.getElem?_append_left (List.getElem?_eq_some_iff.1 hx).1]; exact hx)
theorem Frag.right {c : List I} {b : Nat} {l k : List I} (h : Frag c b (l ++ k)) : Frag c (b + l.length) k := fun j x hx => by
 have := h (l.length + j) x (by rw [List.getElem?_append_right (by omega)]; simpa using hx)
 rwa [← Nat.add_assoc] at this
theorem Frag.head {c : List I} {b : Nat} {x : I} {l : List I} (h : Frag c b (x :: l)) : c[b]? = some x := by simpa using h 0 x rfl
theorem Frag.tail {c : List I} {b : Nat} {x : I} {l : List I} (h : Frag c b (x :: l)) : Frag c (b + 1) l := fun j y hy => by
 have := h (j + 1) y (by simpa using hy)
 rwa [show b + (j + 1) = b + 1 + j by omega] at this
def Rn (c : List I) (i : Nat) (m : M1) (k : Nat) (m' : M1) : Prop := ∀ f, c.length < f + i → ∃ f', c.length < f' + k ∧ runP c f i m = runP c f' k m'
def Re (c : List I) (i : Nat) (m : M1) (e : Int) : Prop := ∀ f, c.length < f + i → runP c f i m = (zR, some e)
theorem Rn.refl {c : List I} {i : Nat} {m : M1} : Rn c i m i m := fun f h => ⟨f, h, rfl⟩
theorem Rn.trans {c : List I} {i k l : Nat} {m m' m'' : M1} (h : Rn c i m k m') (h2 : Rn c k m' l m'') : Rn c i m l m'' := fun f hf =>
 let ⟨f1, a, b⟩ := h f hf; let ⟨f2, a2, b2⟩ := h2 f1 a; ⟨f2, a2, b.trans b2⟩
theorem Rn.err {c : List I} {i k : Nat} {m m' : M1} {e : Int} (h : Rn c i m k m') (h2 : Re c k m' e) : Re c i m e := fun f hf =>
 let ⟨f1, a, b⟩ := h f hf; b.trans (h2 f1 a)
theorem Rn.one {c : List I} {i k : Nat} {m m' : M1} {x : I} (hx : c[i]? = some x) (h : stepP m (i : Int) x = ((k : Int), none, m')) (hk : i < k) : Rn c i m k m' := fun f hf => by
 have hi := (List.getElem?_eq_some_iff.1 hx).1
 obtain ⟨f', rfl⟩ : ∃ f', f = f' + 1 := ⟨f - 1, by omega⟩
 exact ⟨f', by omega, qvs hx h⟩
theorem Re.one {c : List I} {i : Nat} {m : M1} {x : I} {e : Int} (hx : c[i]? = some x) (h : (stepP m (i : Int) x).2.1 = some e) : Re c i m e := fun f hf => by
 have hi := (List.getElem?_eq_some_iff.1 hx).1
 obtain ⟨f', rfl⟩ : ∃ f', f = f' + 1 := ⟨f - 1, by omega⟩
 exact qm2 hx h
structure Ex1 (c : List I) (b e' : Nat) (m : M1) (o : V1 × Err) (w : Int) : Prop where
 err : ∀ e, o.2 = some e → Re c b m e
 ok : o.2 = none → ∃ s, m.result.Aj ≤ s ∧ s ≤ m.result.Aj + w ∧ Rn c b m e' (put m s (m.stack ++ [o.1]))
theorem qsr {m : M1} {s : Int} {l : List V1} {v : V1} {o : Bool} (hw : o = true → v.kind = 1 → v.s.length ≤ 2048 → s + 32 ≤ m.most) :
  (∀ e, (smE v).2 = some e → (pushP (put m s l) v o).1 = some e) ∧
  ((smE v).2 = none → (smE v).1 = v ∧ ∃ s', s ≤ s' ∧ s' ≤ s + (if o = true ∧ v.kind = 1 then 32 else 0) ∧ pushP (put m s l) v o = (none, put m s' (l ++ [v]))) := by
 unfold smE pushP
 by_cases h : v.s.length > 2048
 ·rw [qA1 h, qA1 h]
  exact ⟨fun e he => he, fun he => by cases he⟩
 ·rw [qA0 h, qA0 h]
  refine ⟨fun e he => (by cases he), fun _ => ⟨rfl, ?_⟩⟩
  by_cases q : o = true ∧ v.kind = 1
  ·have := hw q.1 q.2 (by omega)
   have hd : v.s.length / 64 ≤ 32 := by omega
   rw [qA1 q, qA1 q]
   refine ⟨s + ((v.s.length / 64 : Nat) : Int), by omega, by omega, ?_⟩
   have e : (put m s l).result.Aj = s := rfl
   rw [e, qA0 (by show ¬ (s + _ > m.most); omega)]
   rfl
  ·rw [qA0 q, qA0 q]
   exact ⟨s, Int.le_refl _, by omega, rfl⟩
theorem qi0 {c : List I} {k : Nat} {m : M1} {x : I} {st : List V1} {v : V1} {o : Bool} {w : Int} (hx : c[k]? = some x) (hst : stepP m (k : Int) x = nxP (k : Int) (pushP (put m (m.result.Aj + 1) st) v o))
  (hw : 1 + (if o = true ∧ v.kind = 1 then 32 else 0) ≤ w) (hm : m.result.Aj + w ≤ m.most) :
  (∀ e, (smE v).2 = some e → Re c k m e) ∧ ((smE v).2 = none → (smE v).1 = v ∧ ∃ s, m.result.Aj ≤ s ∧ s ≤ m.result.Aj + w ∧ Rn c k m (k + 1) (put m s (st ++ [v]))) := by
 obtain ⟨h1, h2⟩ := qsr (m := m) (s := m.result.Aj + 1) (l := st) (v := v) (o := o) (fun a b _ => by rw [qA1 ⟨a, b⟩] at hw; omega)
 refine ⟨fun e he => Re.one hx ?_, fun he => ?_⟩
 ·rw [hst]; exact h1 e he
 ·obtain ⟨e1, s, a, b, e2⟩ := h2 he
  refine ⟨e1, s, by omega, by omega, Rn.one hx ?_ (Nat.lt_succ_self k)⟩
  rw [hst, e2]
  unfold nxP
  simp
theorem qpk {s : Str} (h : Rt.nmr s = true) : qsj s = Rc.num s := by
 obtain ⟨h1, h2, h3⟩ := Rc.nmr_all h
 have hd : ∀ c : UInt8, isD c = true → dig c = true ∧ ∀ n : Int, nst n c = 10 * n + ((c.toNat : Int) - 48) := fun c hc => by
  unfold isD at hc
  simp at hc
  have h48 : (48 : UInt8) ≤ c := by rw [UInt8.le_iff_toNat_le]; simp; omega
  refine ⟨by unfold dig; simp; omega, fun n => ?_⟩
  unfold nst
  rw [UInt8.toNat_sub_of_le _ _ h48]
  simp; omega
 unfold qsj Rc.num
 rw [qA1 ⟨by omega, List.all_eq_true.2 fun c hc => (hd c (List.all_eq_true.1 h1 c hc)).1⟩]
 clear h2 h3 h
 suffices ∀ (l : Str) (y : Int), (∀ c ∈ l, isD c = true) → l.foldl nst y = l.foldl (fun n c => 10 * n + ((c.toNat : Int) - 48)) y from this s 0 (List.all_eq_true.1 h1)
 intro l
 induction l with
 | nil => intro y _; rfl
 | cons c l ih =>
  intro y hl
  rw [List.foldl_cons, List.foldl_cons, (hd c (hl c (by simp))).2, ih _ fun c hc => hl c (by simp [hc])]
theorem qvz (s : Str) (a : V1) (j : In1) : BC (callP s a j).1 := by
 have h : OB (JD s a j) := by
  unfold JD
  refine .ite (.ite .z (.ite (.bind fun _ _ => .bind fun x h => .some_ (.text h)) (.bind fun _ _ => .ite (.bind fun x h => .some_ (.text h)) (.bind fun _ _ => .bind fun x h => .some_ (.text h))))) (.ite .z ?_)
  exact .ite (.bind fun _ _ => .bind fun x h => .some_ (.text h)) (.ite (.bind fun _ _ => .bind fun x h => .some_ (.truth h)) (.ite (.bind fun _ _ => .bind fun x h => .some_ (.text h)) (.ite (.bind fun x h => .some_ (.num h)) (.ite (.bind fun _ _ => .bind fun x h => .some_ (.text h)) (.bind fun _ _ => .bind fun x h => .some_ (.num h))))))
 unfold callP
 cases e : JD s a j with
 | none => intro q; cases q
 | some r => exact h r e
structure SlR (σ : Rc.Sg) (σv : SgV) (l : List V1) : Prop where
 none_ : ∀ s, σv s = none → σ s = none
 some_ : ∀ s v, σv s = some v → ∃ k : Nat, σ s = some (k : Int) ∧ l.getD k z0 = v ∧ BC v
theorem qdh {m : M1} {st : List V1} {v : V1} (h : m.stack = st ++ [v]) : top m = v := by unfold top; rw [h]; simp
theorem qfn {m : M1} {st : List V1} {v : V1} {s : Int} (h : m.stack = st ++ [v]) : pop (wS m s) = put m s st := by
 unfold pop put; congr 1; show m.stack.dropLast = st; rw [h]; simp
theorem qye {m : M1} {k : Nat} {N : Int} {S : Str} (hs : m.result.Aj + 1 ≤ m.most) : stepP m (k : Int) ⟨2, N, S⟩ = nxP (k : Int) (pushP (put m (m.result.Aj + 1) m.stack) (tx' S) false) := by
 unfold stepP; rw [qA0 (by omega), qA0 (by simp), qA1 rfl]; rfl
theorem qv0 {m : M1} {k : Nat} {N : Int} {S : Str} (hs : m.result.Aj + 1 ≤ m.most) : stepP m (k : Int) ⟨3, N, S⟩ = nxP (k : Int) (pushP (put m (m.result.Aj + 1) m.stack) (m.Ap.getD N.toNat z0) false) := by
 unfold stepP; rw [qA0 (by omega), qA0 (by simp), qA0 (by simp), qA1 rfl]; rfl
theorem qyf {m : M1} {k : Nat} {N : Int} {S : Str} (hs : m.result.Aj + 1 ≤ m.most) : stepP m (k : Int) ⟨5, N, S⟩ = nxP (k : Int) (pushP (put m (m.result.Aj + 1) m.stack) (qsm S m.Ar) false) := by
 unfold stepP; rw [qA0 (by omega), qA0 (by simp), qA0 (by simp), qA0 (by simp), qA1 rfl]; rfl
theorem qss {m : M1} {k : Nat} {N : Int} {S : Str} {st : List V1} {a : V1} (hm : m.stack = st ++ [a]) (hs : m.result.Aj + 1 ≤ m.most) (hv : (callP S a m.Ar).2 = true) : stepP m (k : Int) ⟨6, N, S⟩ = nxP (k : Int) (pushP (put m (m.result.Aj + 1) st) (callP S a m.Ar).1 true) := by
 unfold stepP; rw [qA0 (by omega), qA0 (by simp), qA0 (by simp), qA0 (by simp), qA0 (by simp), qA0 (by simp), qA1 rfl, qdh hm, qA1 hv, qfn hm]
theorem qyg {m : M1} {k : Nat} {N : Int} {S : Str} {st : List V1} {a b : V1} (hm : m.stack = st ++ [a] ++ [b]) (hs : m.result.Aj + 1 ≤ m.most) (hv : (opP S a b).2 = true) : stepP m (k : Int) ⟨7, N, S⟩ = nxP (k : Int) (pushP (put m (m.result.Aj + 1) st) (opP S a b).1 true) := by
 have e2 : (pop m).stack = st ++ [a] := by show m.stack.dropLast = _; rw [hm]; simp
 have e4 : pop (pop (wS m (m.result.Aj + 1))) = put m (m.result.Aj + 1) st := by
  rw [qfn hm]; unfold pop put wT; dsimp only; rw [List.dropLast_concat]
 unfold stepP; rw [qA0 (by omega), qA0 (by simp), qA0 (by simp), qA0 (by simp), qA0 (by simp), qA0 (by simp), qA0 (by simp), qA1 rfl, qdh hm, qdh e2, qA1 hv, e4]
theorem qyh {m : M1} {k : Nat} {N : Int} {S : Str} {st : List V1} {a : V1} (hm : m.stack = st ++ [a]) (hs : m.result.Aj + 1 ≤ m.most) (hv : a.kind = 3) : stepP m (k : Int) ⟨8, N, S⟩ = nxP (k : Int) (pushP (put m (m.result.Aj + 1) st) (tr' (!a.Au)) false) := by
 unfold stepP; rw [qA0 (by omega), qA0 (by simp), qA0 (by simp), qA0 (by simp), qA0 (by simp), qA0 (by simp), qA0 (by simp), qA0 (by simp), qA1 rfl, qdh hm, qA1 hv, qfn hm]
theorem qqt {m : M1} {k : Nat} {N : Int} {S : Str} (hs : m.result.Aj + 1 ≤ m.most) : stepP m (k : Int) ⟨9, N, S⟩ = (N, none, put m (m.result.Aj + 1) m.stack) := by
 unfold stepP; rw [qA0 (by omega), qA0 (by simp), qA0 (by simp), qA0 (by simp), qA0 (by simp), qA0 (by simp), qA0 (by simp), qA0 (by simp), qA0 (by simp), qA1 rfl]; rfl
theorem qna {m : M1} {k : Nat} {N : Int} {S : Str} {st : List V1} {a : V1} (hm : m.stack = st ++ [a]) (hs : m.result.Aj + 1 ≤ m.most) (hv : a.kind = 3) : stepP m (k : Int) ⟨10, N, S⟩ = (if a.Au = true then ((k + 1 : Nat) : Int) else N, none, put m (m.result.Aj + 1) st) := by
 unfold stepP; rw [qA0 (by omega), qA0 (by simp), qA0 (by simp), qA0 (by simp), qA0 (by simp), qA0 (by simp), qA0 (by simp), qA0 (by simp), qA0 (by simp), qA0 (by simp), qA1 rfl, qdh hm, qA1 hv, qfn hm]
 split <;> simp
theorem qv1 (c : Bool) : opP [61, 61] (nm' 0) (nm' (if c = true then 0 else 1)) = (tr' c, true) := by
 have e : ∀ b : Int, opP [61, 61] (nm' 0) ⟨2, b, [], false⟩ = (tr' (decide (0 = b)), true) := fun b => by
  unfold opP JG
  rw [qvu (by omega) (by omega), qA0 (by simp), qA0 (by decide), qA0 (by decide), qA0 (by decide), qA1 (by decide)]
  simp [Jaj, tr']
 cases c
 ·rw [qA0 (by simp), qvu (n := 1) (by omega) (by omega), e]; rfl
 ·rw [qA1 rfl, qvu (n := 0) (by omega) (by omega)]; exact e 0
theorem qqu {c : List I} {k : Nat} {m : M1} {b : Bool} (h : Frag c k (Rc.tr b)) (hs : m.result.Aj + 3 ≤ m.most) : Rn c k m (k + 3) (put m (m.result.Aj + 3) (m.stack ++ [tr' b])) := by
 refine Rn.trans (Rn.one h.head (qlf (by omega)) (by omega)) (Rn.trans (Rn.one h.tail.head (qlf (by show m.result.Aj + 1 + 1 ≤ m.most; omega)) (by omega)) (Rn.one h.tail.tail.head (k := k + 3) ?_ (by omega)))
 have e : (put (put m (m.result.Aj + 1) (m.stack ++ [nm' 0])) (m.result.Aj + 1 + 1) (m.stack ++ [nm' 0] ++ [nm' (if b = true then 0 else 1)])).stack = m.stack ++ [nm' 0, nm' (if b = true then 0 else 1)] := by show m.stack ++ [nm' 0] ++ [_] = _; simp
 have := qzt (m := put (put m (m.result.Aj + 1) (m.stack ++ [nm' 0])) (m.result.Aj + 1 + 1) (m.stack ++ [nm' 0] ++ [nm' (if b = true then 0 else 1)])) (k := k + 1 + 1) (N := 0) (S := [61, 61]) (v := tr' b) e (by show m.result.Aj + 1 + 1 + 1 ≤ m.most; omega) (qv1 b) rfl
 rw [show m.result.Aj + 3 = m.result.Aj + 1 + 1 + 1 by omega]
 exact this
theorem Ex1.fail {c : List I} {b e1 e2 : Nat} {m : M1} {o : V1 × Err} {w w' : Int} (h : Ex1 c b e1 m o w) (q : ¬ o.2 = none) : Ex1 c b e2 m (z0, o.2) w' := ⟨h.err, fun q' => absurd q' q⟩
theorem Ex1.then {c : List I} {b e1 e2 : Nat} {m : M1} {o o' : V1 × Err} {w w' : Int} (h : Ex1 c b e1 m o w) (q : o.2 = none)
  (k : ∀ s, m.result.Aj ≤ s → s ≤ m.result.Aj + w → (∀ e, o'.2 = some e → Re c e1 (put m s (m.stack ++ [o.1])) e) ∧
   (o'.2 = none → ∃ s', m.result.Aj ≤ s' ∧ s' ≤ m.result.Aj + w' ∧ Rn c e1 (put m s (m.stack ++ [o.1])) e2 (put m s' (m.stack ++ [o'.1])))) : Ex1 c b e2 m o' w' := by
 obtain ⟨s, h1, h2, h3⟩ := h.ok q
 obtain ⟨k1, k2⟩ := k s h1 h2
 exact ⟨fun e he => h3.err (k1 e he), fun he => let ⟨s', a, b, d⟩ := k2 he; ⟨s', a, b, h3.trans d⟩⟩
theorem qnb {v : V1} (h : BC v) : BC (smE v).1 := by
 unfold smE; split
 ·intro e; cases e
 ·exact h
theorem qyi (s : Str) (j : In1) : BC (qsm s j) := fun e => by rw [qm4] at e; cases e
theorem qli {c : List I} {k : Nat} {m : M1} {x : I} {v : V1} {w : Int} (hx : c[k]? = some x) (hst : stepP m (k : Int) x = nxP (k : Int) (pushP (put m (m.result.Aj + 1) m.stack) v false)) (hw : 1 ≤ w) (hm : m.result.Aj + w ≤ m.most) : Ex1 c k (k + 1) m (smE v) w := by
 obtain ⟨h1, h2⟩ := qi0 hx hst (w := w) (by simpa using hw) hm
 refine ⟨h1, fun q => ?_⟩
 obtain ⟨e, s, a, b, r⟩ := h2 q
 exact ⟨s, a, b, by rw [e]; exact r⟩
theorem qyj {v : V1} (h : v.s.length ≤ 2048) : smE v = (v, none) := by unfold smE; rw [qA0 (by omega)]
theorem qyk {d : Nat} {ρ : Env} {x : M} {t : Int} (h : tyE (d + 1) ρ x = .ok t) : stE (d + 1) ρ x = stN x.Ab t (x.Aa.map (stE d ρ)) := by
 rw [stE]; unfold tyv; rw [h]
theorem qfa {j : In1} {ρ : Env} {σ : Rc.Sg} {σv : SgV} (hj : ∃ i, IOK i ∧ j = inp i) (hT : TyV ρ σv) : ∀ (d : Nat) (x : M) (t : Int), Rc.XE ρ d x → tyE d ρ x = .ok t → ∀ (c : List I) (b : Nat) (m : M1), m.Ar = j → SlR σ σv m.Ap → Frag c b (Rc.cE d σ b x) → m.result.Aj + stE d ρ x ≤ m.most →
  Ex1 c b (b + (Rc.cE d σ b x).length) m (evE j σv d x) (stE d ρ x) ∧ BC (evE j σv d x).1
 | 0, x, t, hx, _ => hx.elim
 | d + 1, x, t, hx, ht => by
  intro c b m hin hsl hf hs
  have hok := qc8 hj hT (d + 1) x t hx ht
  obtain ⟨htl, hx⟩ := hx
  obtain ⟨ts, hts, htn⟩ := qg5 ht
  have hv := qkz htn
  have hst := qyk ht
  have hb := (qg4 d ρ)
  unfold stN at hst
  rcases hx with ⟨hk, hn, hkk⟩ | ⟨hk, _, hkk⟩ | ⟨hk, hkk⟩ | ⟨hk, hρ, hkk⟩ | ⟨hk, k, hkk, hxk⟩ | ⟨hk, k, l, hkk, hxk, hxl⟩
  ·rw [Rc.cE_20 hk] at hf ⊢
   rw [qA1 hk] at hst
   rw [evE, qA1 hk, qpk hn]
   refine ⟨⟨fun e he => (by cases he), fun _ => ⟨m.result.Aj + 1, by omega, by omega, ?_⟩⟩, fun e => by cases e⟩
   exact Rn.one hf.head (qlf (by omega)) (by simp)
  ·rw [Rc.cE_21 hk] at hf ⊢
   rw [qA0 (by omega), qA1 hk] at hst
   rw [evE, qA0 (by omega), qA1 hk]
   exact ⟨qli hf.head (qye (by omega)) (by omega) hs, qnb fun e => by cases e⟩
  ·rw [Rc.cE_22 hk] at hf ⊢
   rw [qA0 (by omega), qA0 (by omega), qA1 hk] at hst
   rw [evE, qA0 (by omega), qA0 (by omega), qA1 hk]
   refine ⟨⟨fun e he => (by cases he), fun _ => ⟨m.result.Aj + 3, by omega, by omega, ?_⟩⟩, fun e => rfl⟩
   exact qqu hf (by omega)
  ·rw [Rc.cE_23 hk] at hf ⊢
   rw [qA0 (by omega), qA0 (by omega), qA0 (by omega), qA1 hk] at hst
   rw [evE, qA0 (by omega), qA0 (by omega), qA0 (by omega), qA1 hk]
   unfold Rc.nmI at hf ⊢
   cases q : σv x.Ac with
   | some v =>
    obtain ⟨i, g1, g2, g3⟩ := hsl.some_ _ _ q
    rw [g1] at hf ⊢
    obtain ⟨a1, a2⟩ := hT.some_ _ _ q
    have e := qv0 (N := (i : Int)) (S := []) (k := b) (m := m) (by omega)
    rw [Int.toNat_natCast, g2] at e
    have h := qli hf.head e (by omega) hs
    rw [qyj a2.1] at h
    exact ⟨h, g3⟩
   | none =>
    have g1 := hsl.none_ _ q
    rw [g1] at hf ⊢
    have e := qyf (N := 0) (S := x.Ac) (k := b) (m := m) (by omega)
    rw [hin] at e
    exact ⟨qli hf.head e (by omega) hs, qnb (qyi _ _)⟩
  ·obtain ⟨t1, ht1, hn1⟩ := qiy hkk ht
   obtain ⟨ok1, _⟩ := qc8 hj hT d k t1 hxk ht1
   have hb1 := hb k
   rw [qA0 (by omega), qA0 (by omega), qA0 (by omega), qA0 (by omega), hkk] at hst
   rw [evE, qA0 (by omega), qA0 (by omega), qA0 (by omega), qA0 (by omega), hkk]
   dsimp only
   simp only [List.map_cons, List.map_nil, List.sum_cons, List.sum_nil] at hst
   rcases hk with ⟨hk, hfn⟩ | hk
   ·rw [Rc.cE_24 hk hkk] at hf ⊢
    rw [qA1 hk] at hst
    obtain ⟨ih, ibc⟩ := qfa hj hT d k t1 hxk ht1 c b m hin hsl hf.left (by split at hst <;> omega)
    by_cases q : (evE j σv d k).2 = none
    ·rw [qA0 (by rw [q]; simp), qA1 hk]
     obtain ⟨g1, g2⟩ := ok1 q
     have hn2 := hn1
     unfold tyN at hn2
     rw [qA0 (by omega), qA0 (by omega), qA0 (by omega), qA0 (by omega), qA1 hk, qA0 hfn] at hn2
     by_cases w : [t1] = [(fnc x.Ac).1]
     ·rw [qA1 w] at hn2
      have ht2 : t = (fnc x.Ac).2 := by cases hn2; rfl
      have w1 : t1 = (fnc x.Ac).1 := by simpa using w
      obtain ⟨c1, c2⟩ := qh8 hj g2 hfn (by rw [g1, w1])
      refine ⟨ih.then q fun s s0 s1 => ?_, qnb (qvz _ _ _)⟩
      have e := qss (m := put m s (m.stack ++ [(evE j σv d k).1])) (k := b + (Rc.cE d σ b k).length) (N := 0) (S := x.Ac) (a := (evE j σv d k).1) (st := m.stack) rfl
       (by show s + 1 ≤ m.most; split at hst <;> omega) (by show (callP x.Ac _ m.Ar).2 = true; rw [hin]; exact c1)
      have hwm : s + (1 + if true = true ∧ (callP x.Ac (evE j σv d k).1 j).1.kind = 1 then 32 else 0) ≤ m.result.Aj + stE (d + 1) ρ x := by
       rw [c2, ← ht2, hst]; by_cases w3 : t = 1 <;> simp [w3] <;> omega
      have h := qi0 (m := put m s (m.stack ++ [(evE j σv d k).1])) (w := 1 + if true = true ∧ (callP x.Ac (evE j σv d k).1 j).1.kind = 1 then 32 else 0) hf.right.head (by rw [e, show (put m s (m.stack ++ [(evE j σv d k).1])).Ar = j from hin]) (Int.le_refl _) (by show s + _ ≤ m.most; omega)
      refine ⟨h.1, fun q2 => ?_⟩
      obtain ⟨e2, s', a', b', r⟩ := h.2 q2
      refine ⟨s', ?_, ?_, ?_⟩
      ·have : s ≤ s' := a'; omega
      ·have : s' ≤ s + _ := b'; omega
      ·rw [e2, List.length_append]; exact r
     ·rw [qA0 w] at hn2; cases hn2
    ·rw [qA1 (by cases hq : (evE j σv d k).2 with | none => exact absurd hq q | some _ => rfl)]
     exact ⟨ih.fail q, fun e => by cases e⟩
   ·rw [Rc.cE_15 hk hkk] at hf ⊢
    rw [qA0 (by omega), qA0 (by omega), qA0 (by omega)] at hst
    obtain ⟨ih, ibc⟩ := qfa hj hT d k t1 hxk ht1 c b m hin hsl hf.left (by split at hst <;> omega)
    by_cases q : (evE j σv d k).2 = none
    ·rw [qA0 (by rw [q]; simp), qA0 (by omega)]
     obtain ⟨g1, g2⟩ := ok1 q
     have hk3 : (evE j σv d k).1.kind = 3 := by
      have hn2 := hn1
      unfold tyN at hn2
      rw [qA0 (by omega), qA0 (by omega), qA0 (by omega), qA0 (by omega), qA0 (by omega)] at hn2
      by_cases w : opr x [t1] = 0
      ·rw [qA1 w] at hn2; cases hn2
      ·unfold opr JJ at w
       rw [qA0 (by simp [hk]), qA0 (by simp [hk]), qA0 (by simp [hk]), qA0 (by simp [hk]), qA0 (by simp [hk]), qA1 (by simp [hk])] at w
       unfold Jv at w
       rw [qaa (by simp [qau]), JN] at w
       by_cases w3 : t1 = 3
       ·rw [g1, w3]
       ·rw [qA1 (by simpa using w3)] at w; exact absurd rfl w
     refine ⟨ih.then q fun s s0 s1 => ?_, fun e => rfl⟩
     refine ⟨fun e he => (by cases he), fun _ => ⟨s + 1, by omega, by split at hst <;> omega, ?_⟩⟩
     have e := qyh (m := put m s (m.stack ++ [(evE j σv d k).1])) (k := b + (Rc.cE d σ b k).length) (N := 0) (S := []) (a := (evE j σv d k).1) (st := m.stack) rfl
       (by show s + 1 ≤ m.most; split at hst <;> omega) hk3
     rw [qeh (by simp [tr']) (by simp)] at e
     rw [List.length_append]
     exact Rn.one hf.right.head (by rw [e]; unfold nxP; exact Prod.ext (by simp; omega) rfl) (by simp)
    ·rw [qA1 (by cases hq : (evE j σv d k).2 with | none => exact absurd hq q | some _ => rfl)]
     exact ⟨ih.fail q, fun e => by cases e⟩
  ·obtain ⟨t1, t2, ht1, ht2, hn1⟩ := qiz hkk ht
   obtain ⟨ok1, _⟩ := qc8 hj hT d k t1 hxk ht1
   obtain ⟨ok2, _⟩ := qc8 hj hT d l t2 hxl ht2
   have hb1 := hb k
   have hb2 := hb l
   rw [qA0 (by omega), qA0 (by omega), qA0 (by omega), qA0 (by omega), qA0 (by omega), hkk] at hst
   simp only [List.map_cons, List.map_nil, List.sum_cons, List.sum_nil, hd0] at hst
   rw [evE, qA0 (by omega), qA0 (by omega), qA0 (by omega), qA0 (by omega), hkk]
   dsimp only
   have hn2 := hn1
   unfold tyN at hn2
   rw [qA0 (by omega), qA0 (by omega), qA0 (by omega), qA0 (by omega), qA0 (by omega)] at hn2
   by_cases w : opr x [t1, t2] = 0
   ·rw [qA1 w] at hn2; cases hn2
   rw [qA0 w] at hn2
   have ht3 : t = opr x [t1, t2] := by cases hn2; rfl
   have lg : (x.Ab = 13 ∨ x.Ab = 14) → t1 = 3 ∧ t2 = 3 := fun hk => by
    unfold opr JJ at w
    rw [qA0 (by rcases hk with q | q <;> simp [q]), qA0 (by rcases hk with q | q <;> simp [q]), qA0 (by rcases hk with q | q <;> simp [q])] at w
    have e2 : ∀ {o : Option Int}, (if decide (x.Ab = 13) = true then (Jv 3 [t1, t2]).bind fun x25 => if x25 = true then some 3 else some 0
     else if decide (x.Ab = 14) = true then (Jv 3 [t1, t2]).bind fun x25 => if x25 = true then some 3 else some 0 else o) = if (decide (t1 = 3) && decide (t2 = 3)) = true then some (3 : Int) else some 0 := by
     intro o
     rw [qlg]
     rcases hk with q | q <;> simp [q]
    rw [e2] at w
    by_cases w3 : t1 = 3 ∧ t2 = 3
    ·exact w3
    ·rw [qA0 (by simpa using w3)] at w; exact absurd rfl w
   have hfk : Frag c b (Rc.cE d σ b k) := by
    by_cases k14 : x.Ab = 14
    ·rw [Rc.cE_14 k14 hkk] at hf; exact hf.left
    by_cases k13 : x.Ab = 13
    ·rw [Rc.cE_13 k13 hkk] at hf; exact hf.left
    rw [Rc.cE_op (by omega) hkk] at hf; exact hf.left
   have hwk : stE d ρ k + 2 ≤ stE (d + 1) ρ x + 1 ∧ (x.Ab ≠ 14 → x.Ab ≠ 13 → stE d ρ k + stE d ρ l + 1 ≤ stE (d + 1) ρ x) := by
    split at hst
    ·omega
    ·split at hst
     ·omega
     ·split at hst <;> omega
   obtain ⟨ih, ibc⟩ := qfa hj hT d k t1 hxk ht1 c b m hin hsl hfk (by omega)
   by_cases q : (evE j σv d k).2 = none
   rotate_left
   ·rw [qA1 (by cases hq : (evE j σv d k).2 with | none => exact absurd hq q | some _ => rfl)]
    exact ⟨ih.fail q, fun e => by cases e⟩
   rw [qA0 (by rw [q]; simp)]
   obtain ⟨g1, g2⟩ := ok1 q
   by_cases k14 : x.Ab = 14
   ·obtain ⟨l1, l2⟩ := lg (.inr k14)
    rw [Rc.cE_14 k14 hkk] at hf ⊢
    rw [qA1 k14] at hst ⊢
    have hv3 : (evE j σv d k).1.kind = 3 := by rw [g1, l1]
    refine ⟨ih.then q fun s s0 s1 => ?_, ?_⟩
    ·have e := qna (m := put m s (m.stack ++ [(evE j σv d k).1])) (k := b + (Rc.cE d σ b k).length) (N := ((b + (Rc.cE d σ b k).length + 1 + (Rc.cE d σ (b + (Rc.cE d σ b k).length + 1) l).length + 1 : Nat) : Int)) (S := []) (a := (evE j σv d k).1) (st := m.stack) rfl (by show s + 1 ≤ m.most; omega) hv3
     by_cases z : (evE j σv d k).1.Au = true
     ·rw [qA1 z] at e ⊢
      have r1 := Rn.one hf.right.head e (by omega)
      obtain ⟨ih2, ibc2⟩ := qfa hj hT d l t2 hxl ht2 c (b + (Rc.cE d σ b k).length + 1) (put m (s + 1) m.stack) hin hsl hf.right.tail.left (by show s + 1 + _ ≤ m.most; omega)
      refine ⟨fun e he => r1.err (ih2.err e he), fun he => ?_⟩
      obtain ⟨s', a, b', r2⟩ := ih2.ok he
      have a' : s + 1 ≤ s' := a
      have b'' : s' ≤ s + 1 + stE d ρ l := b'
      refine ⟨s' + 1, by omega, by omega, (r1.trans r2).trans ?_⟩
      have e3 := qqt (m := put m s' (m.stack ++ [(evE j σv d l).1])) (k := b + (Rc.cE d σ b k).length + 1 + (Rc.cE d σ (b + (Rc.cE d σ b k).length + 1) l).length) (N := ((b + (Rc.cE d σ b k).length + 1 + (Rc.cE d σ (b + (Rc.cE d σ b k).length + 1) l).length + 4 : Nat) : Int)) (S := []) (by show s' + 1 ≤ m.most; omega)
      simp only [List.length_append, List.length_cons, Rc.tr_len]
      rw [show b + ((Rc.cE d σ b k).length + ((Rc.cE d σ (b + (Rc.cE d σ b k).length + 1) l).length + (3 + 1) + 1)) = b + (Rc.cE d σ b k).length + 1 + (Rc.cE d σ (b + (Rc.cE d σ b k).length + 1) l).length + 4 by omega]
      exact Rn.one hf.right.tail.right.head e3 (by omega)
     ·rw [qA0 z] at e ⊢
      have r1 := Rn.one hf.right.head e (by omega)
      refine ⟨fun e he => (by cases he), fun _ => ⟨s + 1 + 3, by omega, by omega, r1.trans ?_⟩⟩
      have r2 := qqu (m := put m (s + 1) m.stack) hf.right.tail.right.tail (by show s + 1 + 3 ≤ m.most; omega)
      simp only [List.length_append, List.length_cons, Rc.tr_len]
      rw [show b + ((Rc.cE d σ b k).length + ((Rc.cE d σ (b + (Rc.cE d σ b k).length + 1) l).length + (3 + 1) + 1)) = b + (Rc.cE d σ b k).length + 1 + (Rc.cE d σ (b + (Rc.cE d σ b k).length + 1) l).length + 1 + 3 by omega]
      have e4 := ibc hv3
      rw [show (evE j σv d k).1.Au = false by simpa using z] at e4
      rw [e4]
      exact r2
    ·split
     ·exact (qfa hj hT d l t2 hxl ht2 c (b + (Rc.cE d σ b k).length + 1) (put m (m.result.Aj + 1) m.stack) hin hsl hf.right.tail.left (by show m.result.Aj + 1 + _ ≤ m.most; omega)).2
     ·exact ibc
   rw [qA0 k14] at hst ⊢
   by_cases k13 : x.Ab = 13
   ·obtain ⟨l1, l2⟩ := lg (.inl k13)
    rw [Rc.cE_13 k13 hkk] at hf ⊢
    rw [qA1 k13] at hst ⊢
    have hv3 : (evE j σv d k).1.kind = 3 := by rw [g1, l1]
    have hlen : b + (Rc.cE d σ b k ++ ⟨10, ((b + (Rc.cE d σ b k).length + 5 : Nat) : Int), []⟩ :: (Rc.tr true ++ ⟨9, ((b + (Rc.cE d σ b k).length + 5 + (Rc.cE d σ (b + (Rc.cE d σ b k).length + 5) l).length : Nat) : Int), []⟩ :: Rc.cE d σ (b + (Rc.cE d σ b k).length + 5) l)).length = b + (Rc.cE d σ b k).length + 5 + (Rc.cE d σ (b + (Rc.cE d σ b k).length + 5) l).length := by
     simp only [List.length_append, List.length_cons, Rc.tr_len]; omega
    have hfl := hf.right.tail.right.tail
    rw [Rc.tr_len, show b + (Rc.cE d σ b k).length + 1 + 3 + 1 = b + (Rc.cE d σ b k).length + 5 by omega] at hfl
    rw [hlen]
    refine ⟨ih.then q fun s s0 s1 => ?_, ?_⟩
    ·have e := qna (m := put m s (m.stack ++ [(evE j σv d k).1])) (k := b + (Rc.cE d σ b k).length) (N := ((b + (Rc.cE d σ b k).length + 5 : Nat) : Int)) (S := []) (a := (evE j σv d k).1) (st := m.stack) rfl (by show s + 1 ≤ m.most; omega) hv3
     by_cases z : (evE j σv d k).1.Au = true
     ·rw [qA1 z] at e ⊢
      have r1 := Rn.one hf.right.head e (by omega)
      refine ⟨fun e he => (by cases he), fun _ => ⟨s + 1 + 3 + 1, by omega, by omega, (r1.trans (qqu (m := put m (s + 1) m.stack) hf.right.tail.left (by show s + 1 + 3 ≤ m.most; omega))).trans ?_⟩⟩
      have e3 := qqt (m := put m (s + 1 + 3) (m.stack ++ [tr' true])) (k := b + (Rc.cE d σ b k).length + 1 + 3) (N := ((b + (Rc.cE d σ b k).length + 5 + (Rc.cE d σ (b + (Rc.cE d σ b k).length + 5) l).length : Nat) : Int)) (S := []) (by show s + 1 + 3 + 1 ≤ m.most; omega)
      have e4 := ibc hv3
      rw [z] at e4
      rw [e4]
      exact Rn.one hf.right.tail.right.head e3 (by omega)
     ·rw [qA0 z] at e ⊢
      have r1 := Rn.one hf.right.head e (by omega)
      obtain ⟨ih2, ibc2⟩ := qfa hj hT d l t2 hxl ht2 c (b + (Rc.cE d σ b k).length + 5) (put m (s + 1) m.stack) hin hsl hfl (by show s + 1 + _ ≤ m.most; omega)
      refine ⟨fun e he => r1.err (ih2.err e he), fun he => ?_⟩
      obtain ⟨s', a, b', r2⟩ := ih2.ok he
      have a' : s + 1 ≤ s' := a
      have b'' : s' ≤ s + 1 + stE d ρ l := b'
      exact ⟨s', by omega, by omega, r1.trans r2⟩
    ·split
     ·exact ibc
     ·exact (qfa hj hT d l t2 hxl ht2 c (b + (Rc.cE d σ b k).length + 5) (put m (m.result.Aj + 1) m.stack) hin hsl hfl (by show m.result.Aj + 1 + _ ≤ m.most; omega)).2
   rw [qA0 k13] at hst ⊢
   rw [Rc.cE_op (by omega) hkk] at hf ⊢
   have hlen : b + (Rc.cE d σ b k ++ (Rc.cE d σ (b + (Rc.cE d σ b k).length) l ++ [(⟨7, 0, Rc.opw x⟩ : I)])).length = b + (Rc.cE d σ b k).length + (Rc.cE d σ (b + (Rc.cE d σ b k).length) l).length + 1 := by
    simp only [List.length_append, List.length_cons, List.length_nil]; omega
   rw [hlen]
   have hk' : x.Ab = 17 ∨ x.Ab = 18 ∨ x.Ab = 19 ∨ (x.Ab = 16 ∧ cmp x.Ac = true) := by
    rcases hk with q | q | q | q | q | q
    ·exact absurd q k13
    ·exact absurd q k14
    ·exact .inl q
    ·exact .inr (.inl q)
    ·exact .inr (.inr (.inl q))
    ·exact .inr (.inr (.inr q))
   have hwl := hwk.2 k14 k13
   refine ⟨ih.then q fun s s0 s1 => ?_, ?_⟩
   ·obtain ⟨ih2, ibc2⟩ := qfa hj hT d l t2 hxl ht2 c (b + (Rc.cE d σ b k).length) (put m s (m.stack ++ [(evE j σv d k).1])) hin hsl hf.right.left (by show s + _ ≤ m.most; omega)
    by_cases q2 : (evE j σv d l).2 = none
    ·rw [qA0 (by rw [q2]; simp)]
     obtain ⟨g3, g4⟩ := ok2 q2
     obtain ⟨c1, c2⟩ := qm5 g2 g4 (t := opr x [t1, t2]) (by rw [g1, g3]) w hk'
     obtain ⟨s', a, b', r2⟩ := ih2.ok q2
     have a' : s ≤ s' := a
     have b'' : s' ≤ s + stE d ρ l := b'
     have e := qyg (m := put m s' (m.stack ++ [(evE j σv d k).1] ++ [(evE j σv d l).1])) (k := b + (Rc.cE d σ b k).length + (Rc.cE d σ (b + (Rc.cE d σ b k).length) l).length) (N := 0) (S := Rc.opw x) (st := m.stack) (a := (evE j σv d k).1) (b := (evE j σv d l).1) rfl (by show s' + 1 ≤ m.most; omega) c1
     have hwm : s' + (1 + if true = true ∧ (opP (Rc.opw x) (evE j σv d k).1 (evE j σv d l).1).1.kind = 1 then 32 else 0) ≤ m.result.Aj + stE (d + 1) ρ x := by
      rw [c2, ← ht3, hst]; by_cases w3 : t = 1 <;> simp [w3] <;> omega
     have h := qi0 (m := put m s' (m.stack ++ [(evE j σv d k).1] ++ [(evE j σv d l).1])) (w := 1 + if true = true ∧ (opP (Rc.opw x) (evE j σv d k).1 (evE j σv d l).1).1.kind = 1 then 32 else 0) hf.right.right.head e (Int.le_refl _) (by show s' + _ ≤ m.most; omega)
     refine ⟨fun e he => r2.err (h.1 e he), fun q3 => ?_⟩
     obtain ⟨e2, s2, a2, b2, r⟩ := h.2 q3
     have a3 : s' ≤ s2 := a2
     have b3 : s2 ≤ s' + _ := b2
     refine ⟨s2, by omega, by omega, ?_⟩
     rw [e2]; exact r2.trans r
    ·rw [qA1 (by cases hq : (evE j σv d l).2 with | none => exact absurd hq q2 | some _ => rfl)]
     exact ⟨fun e he => ih2.err e he, fun he => absurd he q2⟩
   ·split
    ·intro e; cases e
    ·exact qnb (qzx _ _ _)
def Rs (c : List I) (i : Nat) (m : M1) (r : R1) : Prop := ∀ f, c.length < f + i → runP c f i m = (r, none)
theorem Rn.stop {c : List I} {i k : Nat} {m m' : M1} {r : R1} (h : Rn c i m k m') (h2 : Rs c k m' r) : Rs c i m r := fun f hf =>
 let ⟨f1, a, b⟩ := h f hf; b.trans (h2 f1 a)
theorem Rs.one {c : List I} {i : Nat} {m M : M1} {x : I} (hx : c[i]? = some x) (h : stepP m (i : Int) x = (-1, none, M)) : Rs c i m M.result := fun f hf => by
 have hi := (List.getElem?_eq_some_iff.1 hx).1
 obtain ⟨f', rfl⟩ : ∃ f', f = f' + 1 := ⟨f - 1, by omega⟩
 exact qqp hx h
def stp (r : R1) (t : Int) : R1 := ⟨r.Ae, r.Af, r.Ag, r.Vary, r.Ah, r.TTL, r.Ai, t, r.Ak, r.Al⟩
def mkm (m : M1) (r : R1) (l : List V1) : M1 := ⟨m.Ar, m.most, r, m.stack, l⟩
theorem qst (r : R1) (w : Str) (x : V1) (t : Int) : qj8 (stp r t) w x = (stp (qj8 r w x).1 t, (qj8 r w x).2) := by
 unfold qj8
 by_cases q : Rc.hp w Rc.sVary = true
 ·rw [qA1 q, qA1 q]
  cases nmO (w.drop 5) <;> rfl
 ·rw [qA0 q, qA0 q]
  cases nmO (w.drop 7) with
  | none => rfl
  | some m =>
   dsimp only
   cases vlO x.s <;> rfl
theorem qnc (r : R1) (w : Str) (x : V1) (t : Int) : actP (stp r t) w x = (stp (actP r w x).1 t, (actP r w x).2) := by
 unfold actP
 by_cases q0 : x.kind ≠ needP w
 ·rw [qA1 q0, qA1 q0]
 rw [qA0 q0, qA0 q0]
 by_cases q1 : w = [112, 97, 116, 104]
 ·rw [qA1 q1, qA1 q1]; rfl
 rw [qA0 q1, qA0 q1]
 by_cases q2 : w = [113, 117, 101, 114, 121]
 ·rw [qA1 q2, qA1 q2]; rfl
 rw [qA0 q2, qA0 q2]
 by_cases q3 : w = [116, 97, 103]
 ·rw [qA1 q3, qA1 q3]; rfl
 rw [qA0 q3, qA0 q3]
 by_cases q4 : w = [116, 116, 108]
 ·rw [qA1 q4, qA1 q4]; rfl
 rw [qA0 q4, qA0 q4]
 by_cases q5 : w = [100, 101, 110, 121]
 ·rw [qA1 q5, qA1 q5]
  by_cases q6 : x.n < 400 ∨ x.n > 499
  ·rw [qA1 q6, qA1 q6]; rfl
  ·rw [qA0 q6, qA0 q6]; rfl
 rw [qA0 q5, qA0 q5]
 by_cases q6 : w = [112, 97, 115, 115]
 ·rw [qA1 q6, qA1 q6]; rfl
 rw [qA0 q6, qA0 q6]
 by_cases q7 : w = [116, 111, 107, 101, 110]
 ·rw [qA1 q7, qA1 q7]; rfl
 rw [qA0 q7, qA0 q7]
 exact qst r w x t
structure SlS (σ : Rc.Sg) (σv : SgV) (l : List V1) (k : Int) : Prop where
 r : SlR σ σv l
 lt : ∀ s i, σ s = some i → 0 ≤ i ∧ i < k
 len : l.length = 512
theorem SlS.keep {σ : Rc.Sg} {σv : SgV} {l l' : List V1} {k k' : Int} (h : SlS σ σv l k) (h2 : ∀ i : Nat, (i : Int) < k → l'.getD i z0 = l.getD i z0) (hl : l'.length = 512) (hk : k ≤ k') : SlS σ σv l' k' :=
 ⟨⟨h.r.none_, fun s v hv => by
  obtain ⟨i, a, b, c⟩ := h.r.some_ s v hv
  exact ⟨i, a, (h2 i (h.lt s i a).2).trans b, c⟩⟩, fun s i hi => ⟨(h.lt s i hi).1, by have := (h.lt s i hi).2; omega⟩, hl⟩
theorem SlS.put {σ : Rc.Sg} {σv : SgV} {l : List V1} {k : Int} (h : SlS σ σv l k) (h0 : 0 ≤ k) (h1 : k < 512) {v : V1} (hv : BC v) (s : Str) : SlS (Rc.upd σ s k) (fun q => if s = q then some v else σv q) (l.set k.toNat v) (k + 1) := by
 have hlen := h.len
 refine ⟨⟨fun q hq => ?_, fun q w hq => ?_⟩, fun q i hi => ?_, by rw [List.length_set]; exact hlen⟩
 ·unfold Rc.upd
  by_cases e : s = q
  ·rw [qA1 e] at hq; cases hq
  ·rw [qA0 e] at hq ⊢; exact h.r.none_ q hq
 ·unfold Rc.upd
  by_cases e : s = q
  ·rw [qA1 e] at hq ⊢
   cases hq
   refine ⟨k.toNat, by rw [Int.toNat_of_nonneg h0], ?_, hv⟩
   rw [List.getD_eq_getElem?_getD, List.getElem?_set_self (by omega)]; rfl
  ·rw [qA0 e] at hq ⊢
   obtain ⟨i, a, b, c⟩ := h.r.some_ q w hq
   have := h.lt q i a
   refine ⟨i, a, ?_, c⟩
   rw [← b, List.getD_eq_getElem?_getD, List.getD_eq_getElem?_getD, List.getElem?_set_ne (by omega)]
 ·unfold Rc.upd at hi
  by_cases e : s = q
  ·rw [qA1 e] at hi; cases hi; omega
  ·rw [qA0 e] at hi
   have := h.lt q i hi; omega
theorem qsu {m : M1} {k : Nat} {N : Int} {S : Str} {st : List V1} {a : V1} (hm : m.stack = st ++ [a]) (hs : m.result.Aj + 1 ≤ m.most) : stepP m (k : Int) ⟨4, N, S⟩ = (((k + 1 : Nat) : Int), none, wL (put m (m.result.Aj + 1) st) (m.Ap.set N.toNat a)) := by
 unfold stepP; rw [qA0 (by omega), qA0 (by simp), qA0 (by simp), qA0 (by simp), qA0 (by simp), qA1 rfl, qdh hm, qfn hm]; rfl
theorem qyl {m : M1} {k : Nat} {N : Int} {S : Str} {p : V1 × M1} (hs : m.result.Aj + 1 ≤ m.most) (hp : (if needP S = 0 then (z0, wS m (m.result.Aj + 1)) else (top m, pop (wS m (m.result.Aj + 1)))) = p) : stepP m (k : Int) ⟨11, N, S⟩ = qq4 m (k : Int) S p := by
 unfold stepP; rw [qA0 (by omega), qA0 (by simp), qA0 (by simp), qA0 (by simp), qA0 (by simp), qA0 (by simp), qA0 (by simp), qA0 (by simp), qA0 (by simp), qA0 (by simp), qA0 (by simp), qA1 rfl, hp]
noncomputable def hdW (d : Nat) (ρ : Env) : List M → Int
 | [] => 0
 | e :: _ => stE d ρ e
def hdS (v : V1) : List M → List V1
 | [] => []
 | _ :: _ => [v]
theorem qqv {d : Nat} {ρ ρ' : Env} {x e : M} {ks : List M} {t : Int} (hs : stm (d + 1) ρ x = .ok ρ') (hk : x.Aa = e :: ks) (ht : tyE d ρ e = .ok t) : nds x.Ab = 0 ∨ t = nds x.Ab := by
 rw [stm, hk] at hs
 simp only at hs
 rw [ht] at hs
 simp only at hs
 by_cases q : nds x.Ab ≠ 0 ∧ t ≠ nds x.Ab
 ·rw [qA1 q] at hs; cases hs
 ·by_cases q1 : nds x.Ab = 0
  ·exact .inl q1
  ·by_cases q2 : t = nds x.Ab
   ·exact .inr q2
   ·exact absurd ⟨q1, q2⟩ q
theorem qnd {j : In1} {ρ ρ' : Env} {σ : Rc.Sg} {E : List B1} {d : Nat} {x : M} (hj : ∃ i, IOK i ∧ j = inp i) (hT : TyV ρ (sgV E)) (hF : StF d ρ ρ' x) {c : List I} {b : Nat} {m : M1} (hin : m.Ar = j) (hsl : SlR σ (sgV E) m.Ap)
  (hf : Frag c b (Rc.hdC d σ b x.Aa)) (hs : m.result.Aj + hdW d ρ x.Aa ≤ m.most) :
  (∀ e, (hdV j d E x.Aa).2 = some e → Re c b m e) ∧ ((hdV j d E x.Aa).2 = none → BC (hdV j d E x.Aa).1 ∧ ∃ t, m.result.Aj ≤ t ∧ t ≤ m.result.Aj + hdW d ρ x.Aa ∧ Rn c b m (b + (Rc.hdC d σ b x.Aa).length) (put m t (m.stack ++ hdS (hdV j d E x.Aa).1 x.Aa))) := by
 rcases hF.kid with ⟨hk, _, _⟩ | ⟨e, ks, t, hk, hE, ht, _⟩
 ·rw [hk]
  refine ⟨fun e he => (by cases he), fun _ => ⟨fun e => (by cases e), m.result.Aj, Int.le_refl _, by show m.result.Aj ≤ m.result.Aj + 0; omega, ?_⟩⟩
  show Rn c b m b (put m m.result.Aj (m.stack ++ []))
  rw [List.append_nil]
  exact Rn.refl
 ·rw [hk] at hf hs ⊢
  obtain ⟨h1, h2⟩ := qfa hj hT d e t hE ht c b m hin hsl hf hs
  exact ⟨h1.err, fun q => ⟨h2, h1.ok q⟩⟩
structure Ex2 (c : List I) (b e' : Nat) (m : M1) (o : Err × WSt) (w k : Int) (P : List V1 → Prop) : Prop where
 err : ∀ e, o.1 = some e → Re c b m e
 stop : o.1 = none → o.2.2 = true → ∃ t, m.result.Aj + 1 ≤ t ∧ t ≤ m.result.Aj + w ∧ Rs c b m (stp o.2.1 t)
 ok : o.1 = none → o.2.2 = false → ∃ t l, m.result.Aj ≤ t ∧ t ≤ m.result.Aj + w ∧ l.length = 512 ∧ (∀ i : Nat, (i : Int) < k → l.getD i z0 = m.Ap.getD i z0) ∧ P l ∧ Rn c b m e' (mkm m (stp o.2.1 t) l)
theorem Ex2.after {c : List I} {b b1 e' : Nat} {m m1 : M1} {o : Err × WSt} {w w1 k : Int} {P : List V1 → Prop} (h : Ex2 c b1 e' m1 o w1 k P) (r : Rn c b m b1 m1) (h1 : m1.Ar = m.Ar) (h2 : m1.most = m.most) (h3 : m1.stack = m.stack) (h4 : ∀ i : Nat, (i : Int) < k → m1.Ap.getD i z0 = m.Ap.getD i z0)
  (hs : m.result.Aj ≤ m1.result.Aj) (hw : m1.result.Aj + w1 ≤ m.result.Aj + w) : Ex2 c b e' m o w k P := by
 refine ⟨fun e he => r.err (h.err e he), fun a q => ?_, fun a q => ?_⟩
 ·obtain ⟨t, t1, t2, t3⟩ := h.stop a q
  exact ⟨t, by omega, by omega, r.stop t3⟩
 ·obtain ⟨t, l, t1, t2, t3, t4, t5, t6⟩ := h.ok a q
  refine ⟨t, l, by omega, by omega, t3, fun i hi => (t4 i hi).trans (h4 i hi), t5, ?_⟩
  have e : mkm m1 (stp o.2.1 t) l = mkm m (stp o.2.1 t) l := by unfold mkm; rw [h1, h2, h3]
  rw [← e]; exact r.trans t6
theorem Ex2.up {c : List I} {b e' : Nat} {m : M1} {o : Err × WSt} {w w' k k' : Int} {P Q : List V1 → Prop} (h : Ex2 c b e' m o w k' P) (hk : k ≤ k') (hw : w ≤ w') (hQ : ∀ l, l.length = 512 → (∀ i : Nat, (i : Int) < k → l.getD i z0 = m.Ap.getD i z0) → P l → Q l) : Ex2 c b e' m o w' k Q :=
 ⟨h.err, fun a q => (by obtain ⟨t, t1, t2, t3⟩ := h.stop a q; exact ⟨t, t1, by omega, t3⟩), fun a q => (by
  obtain ⟨t, l, t1, t2, t3, t4, t5, t6⟩ := h.ok a q
  have t7 : ∀ i : Nat, (i : Int) < k → l.getD i z0 = m.Ap.getD i z0 := fun i hi => t4 i (by omega)
  exact ⟨t, l, t1, by omega, t3, t7, hQ l t3 t7 t5, t6⟩)⟩
theorem Ex2.jump {c : List I} {b e1 e2 : Nat} {m : M1} {o : Err × WSt} {w k : Int} {P : List V1 → Prop} (h : Ex2 c b e1 m o w k P) (hx : c[e1]? = some ⟨9, (e2 : Int), []⟩) (hlt : e1 < e2) (hm : m.result.Aj + w + 1 ≤ m.most) : Ex2 c b e2 m o (w + 1) k P :=
 ⟨h.err, fun a q => (by obtain ⟨t, t1, t2, t3⟩ := h.stop a q; exact ⟨t, t1, by omega, t3⟩), fun a q => (by
  obtain ⟨t, l, t1, t2, t3, t4, t5, t6⟩ := h.ok a q
  refine ⟨t + 1, l, by omega, by omega, t3, t4, t5, t6.trans (Rn.one hx ?_ hlt)⟩
  exact qqt (m := mkm m (stp o.2.1 t) l) (by show t + 1 ≤ m.most; omega))⟩
def BR (j : In1) (d : Nat) : Prop := ∀ (l : List M) (k : Int) (ρ ρ' : Env) (σ : Rc.Sg) (E : List B1) (s : WSt) (c : List I) (b : Nat) (m : M1), (∀ y ∈ l, Gd d y) → foldS (stm d) ρ l = .ok ρ' → TyV ρ (sgV E) → m.Ar = j → SlS σ (sgV E) m.Ap k → 0 ≤ k → k + Rt.cntL d l ≤ 512 →
 Frag c b (Rc.foldC (Rc.cS d) σ k b l).1 → m.result.Aj + foldW (Rt.wS d) (stm d) ρ l ≤ m.most → m.result = stp s.1 m.result.Aj → s.2 = false →
 Ex2 c b (b + (Rc.foldC (Rc.cS d) σ k b l).1.length) m (evL (evS j d) E s l) (foldW (Rt.wS d) (stm d) ρ l) k (fun _ => True)
theorem qt4 {j : In1} {d : Nat} {ρ ρ1 : Env} {E : List B1} {s : WSt} {x : M} (hj : ∃ i, IOK i ∧ j = inp i) (hT : TyV ρ (sgV E)) (hF : StF d ρ ρ1 x) (h : (evS j (d + 1) E s x).2.1 = none) : TyV ρ1 (sgV (evS j (d + 1) E s x).1) := by
 obtain ⟨_, _, v3⟩ := qm9 hj hT hF
 rw [evS] at h ⊢
 by_cases q : (hdV j d E x.Aa).2.isSome = true
 ·rw [qA1 q] at h
  simp only at h
  rw [h] at q; cases q
 rw [qA0 q] at h ⊢
 have qn : (hdV j d E x.Aa).2 = none := by
  cases w : (hdV j d E x.Aa).2 with
  | none => rfl
  | some e => rw [w] at q; exact absurd rfl q
 by_cases q3 : x.Ab = 3
 ·rw [qA1 q3]; exact v3 qn q3
 rw [qA0 q3, hF.same q3]
 split <;> exact hT
theorem qv2 {v : V1} : hdS v [] = [] := rfl
theorem qsv {v : V1} {e : M} {ks : List M} : hdS v (e :: ks) = [v] := rfl
theorem nn {d : Nat} {ρ : Env} {l : List M} (h : ∀ q ∈ l, Ok d q) : 0 ≤ foldW (Rt.wS d) (stm d) ρ l := (qd3 (d := d) (w := Rt.wS d) (g := stm d) l ρ fun q hq ρ => qk0 d q (h q hq) ρ).1
set_option maxRecDepth 100000 in
theorem qym {j : In1} {d : Nat} {ρ ρ1 : Env} {σ : Rc.Sg} {E : List B1} {x : M} (hj : ∃ i, IOK i ∧ j = inp i) (hL : BR j d) (hg : Gd (d + 1) x) (hs : stm (d + 1) ρ x = .ok ρ1) (hT : TyV ρ (sgV E)) {k : Int} {c : List I} {b : Nat} {m : M1} {s : WSt} (hin : m.Ar = j) (hsl : SlS σ (sgV E) m.Ap k) (h0 : 0 ≤ k) (hk : k + Rt.cnt (d + 1) x ≤ 512)
  (hf : Frag c b (Rc.cS (d + 1) σ k b x).1) (hw : m.result.Aj + Rt.wS (d + 1) ρ x ≤ m.most) (hr : m.result = stp s.1 m.result.Aj) (he : s.2 = false) :
  Ex2 c b (b + (Rc.cS (d + 1) σ k b x).1.length) m (evS j (d + 1) E s x).2 (Rt.wS (d + 1) ρ x) k (fun l => SlS (Rc.cS (d + 1) σ k b x).2.2 (sgV (evS j (d + 1) E s x).1) l (Rc.cS (d + 1) σ k b x).2.1) := by
 have hF := qh9 hg hs
 have hSF := qvv hg
 have hok := hg.1
 have hr' : ∀ u, stp m.result u = stp s.1 u := fun u => by rw [hr]; rfl
 have some_of : ¬ (hdV j d E x.Aa).2 = none → (hdV j d E x.Aa).2.isSome = true := fun q => by
  cases w : (hdV j d E x.Aa).2 with
  | none => exact absurd w q
  | some e => rfl
 have bad : ∀ {e' : Nat} {W : Int} {P : List V1 → Prop}, ¬ (hdV j d E x.Aa).2 = none → (∀ e, (hdV j d E x.Aa).2 = some e → Re c b m e) → Ex2 c b e' m (evS j (d + 1) E s x).2 W k P := fun q h => by
  rw [evS, qA1 (some_of q)]
  exact ⟨h, fun a => absurd a q, fun a => absurd a q⟩
 by_cases q2 : x.Ab = 2
 ·obtain ⟨⟨e, tt, ht12, hk2⟩, hb⟩ := hF.brn2 q2
  have ob := fun (q : M) (hq : q ∈ x.Aa) => brn_ok (hok.2.2 q hq)
  have okt : ∀ q ∈ x.Aa, ∀ ρ, 0 ≤ foldW (Rt.wS d) (stm d) ρ (brn q) := fun q hq ρ => nn (ob q hq).1
  have ev : (hdV j d E x.Aa).2 = none → (evS j (d + 1) E s x) = (E, evL (evS j d) E s (if (hdV j d E x.Aa).1.Au = true then thn x else els x)) := fun q => by
   rw [evS, qA0 (by rw [q]; simp), qA0 (by omega), qA1 q2]
  have hv3 : (hdV j d E x.Aa).2 = none → (hdV j d E x.Aa).1.kind = 3 := fun q => by
   rcases hF.kid with ⟨_, n2, _⟩ | ⟨e', ks, t, hkk, hE, ht, _⟩
   ·exact absurd q2 n2
   ·have h3 := qqv hs hkk ht
    rw [q2] at h3
    have e3 : t = 3 := h3.elim (fun h => absurd h (by decide)) id
    obtain ⟨g1, _⟩ := qc8 hj hT d e' t hE ht
    rw [hkk] at q ⊢
    exact (g1 q).1.trans e3
  rcases hk2 with hkk | ⟨o, ho, hkk⟩
  ·have hwS : Rt.wS (d + 1) ρ x = 1 + stE d ρ e + foldW (Rt.wS d) (stm d) ρ tt.Aa := by
    rw [Rt.wS, hkk]; simp only; rw [qA1 q2, Rc.brn12 ht12]
   have hn := okt tt (by rw [hkk]; simp) ρ
   rw [Rc.brn12 ht12] at hn
   have eh : Rc.hdC d σ b x.Aa = Rc.cE d σ b e := by rw [hkk]; rfl
   have eS : hdS (hdV j d E x.Aa).1 x.Aa = [(hdV j d E x.Aa).1] := by rw [hkk]; rfl
   have eW : hdW d ρ x.Aa = stE d ρ e := by rw [hkk]; rfl
   have ethn : thn x = tt.Aa := by unfold thn; rw [hkk]
   have eels : els x = [] := by unfold els; rw [hkk]
   obtain ⟨g1, g2, ⟨ρ2, g3⟩, g4⟩ := hb _ (.inl rfl)
   rw [ethn] at g1 g2 g3 g4
   rw [Rc.cS_2 q2 hkk rfl] at hf ⊢
   dsimp only at hf ⊢
   obtain ⟨T1, T2, T3⟩ := Rc.foldC_len (d := d) (g := Rc.cS d) tt.Aa σ k (b + (Rc.cE d σ b e).length + 1) fun q hq => Rc.cS_len d q (g1 q hq).1
   have hLT := hL tt.Aa k ρ ρ2 σ E s c (b + (Rc.cE d σ b e).length + 1)
   have hlen : b + (Rc.if2 b (Rc.cE d σ b e) (Rc.foldC (Rc.cS d) σ k (b + (Rc.cE d σ b e).length + 1) tt.Aa).1).length = b + (Rc.cE d σ b e).length + 1 + (Rc.foldC (Rc.cS d) σ k (b + (Rc.cE d σ b e).length + 1) tt.Aa).1.length := by
    simp only [Rc.if2, List.length_append, List.length_cons]; omega
   rw [hlen]
   unfold Rc.if2 at hf
   generalize Rc.foldC (Rc.cS d) σ k (b + (Rc.cE d σ b e).length + 1) tt.Aa = T at *
   obtain ⟨H1, H2⟩ := qnd hj hT hF hin hsl.r (c := c) (b := b) (by rw [eh]; exact hf.left) (by rw [eW]; omega)
   by_cases q : (hdV j d E x.Aa).2 = none
   ·obtain ⟨bc, t, t1, t2, r⟩ := H2 q
    have hv := hv3 q
    rw [ev q]
    rw [eh, eS] at r
    rw [eW] at t2
    have es := qna (m := put m t (m.stack ++ [(hdV j d E x.Aa).1])) (k := b + (Rc.cE d σ b e).length) (N := ((b + (Rc.cE d σ b e).length + 1 + T.1.length : Nat) : Int)) (S := []) (a := (hdV j d E x.Aa).1) (st := m.stack) rfl (by show t + 1 ≤ m.most; omega) hv
    by_cases z : (hdV j d E x.Aa).1.Au = true
    ·rw [qA1 z] at es ⊢
     have R := Rn.trans r (Rn.one hf.right.head es (by omega))
     rw [ethn]
     have hX := hLT (put m (t + 1) m.stack) g1 g3 hT hin hsl h0 (by omega) hf.right.tail (by show t + 1 + _ ≤ m.most; omega) (hr' _) he
     refine Ex2.after (m1 := put m (t + 1) m.stack) (hX.up (Int.le_refl _) (Int.le_refl _) fun l l1 l2 _ => hsl.keep l2 l1 T2) R rfl rfl rfl (fun _ _ => rfl) (by show m.result.Aj ≤ t + 1; omega) (by show t + 1 + _ ≤ _; omega)
    ·rw [qA0 z] at es ⊢
     have R := Rn.trans r (Rn.one hf.right.head es (by omega))
     rw [eels]
     refine ⟨fun e he => (by cases he), fun _ a => ?_, fun _ _ => ⟨t + 1, m.Ap, by omega, by omega, hsl.len, fun _ _ => rfl, hsl.keep (fun _ _ => rfl) hsl.len T2, ?_⟩⟩
     ·rw [show (evL (evS j d) E s []).2.2 = s.2 from rfl, he] at a; cases a
     ·have e1 : mkm m (stp s.1 (t + 1)) m.Ap = put m (t + 1) m.stack := by rw [← hr']; rfl
      show Rn c b m _ (mkm m (stp s.1 (t + 1)) m.Ap)
      rw [e1]; exact R
   ·exact bad q H1
  ·have hwS : Rt.wS (d + 1) ρ x = 1 + stE d ρ e + max (foldW (Rt.wS d) (stm d) ρ tt.Aa + 1) (foldW (Rt.wS d) (stm d) ρ (brn o)) := by
    rw [Rt.wS, hkk]; simp only; rw [qA1 q2, Rc.brn12 ht12]
   have hn := okt tt (by rw [hkk]; simp) ρ
   rw [Rc.brn12 ht12] at hn
   have hn2 := okt o (by rw [hkk]; simp) ρ
   have eh : Rc.hdC d σ b x.Aa = Rc.cE d σ b e := by rw [hkk]; rfl
   have eS : hdS (hdV j d E x.Aa).1 x.Aa = [(hdV j d E x.Aa).1] := by rw [hkk]; rfl
   have eW : hdW d ρ x.Aa = stE d ρ e := by rw [hkk]; rfl
   have ethn : thn x = tt.Aa := by unfold thn; rw [hkk]
   have eels : els x = brn o := by unfold els; rw [hkk]
   obtain ⟨g1, g2, ⟨ρ2, g3⟩, g4⟩ := hb _ (.inl rfl)
   obtain ⟨k1, k2, ⟨ρ3, k3⟩, k4⟩ := hb _ (.inr rfl)
   rw [ethn] at g1 g2 g3 g4
   rw [eels] at k1 k2 k3 k4
   have hcn : Rt.cntL d tt.Aa + Rt.cntL d (brn o) + 1 ≤ Rt.cnt (d + 1) x := by
    have a1 := (ob tt (by rw [hkk]; simp)).2
    have a2 := (ob o (by rw [hkk]; simp)).2
    rw [Rc.brn12 ht12] at a1
    rw [Rt.cnt_eq, hkk, Rt.cntL_cons, Rt.cntL_cons, Rt.cntL_cons]
    omega
   rw [Rc.cS_3 q2 hkk rfl rfl] at hf ⊢
   dsimp only at hf ⊢
   obtain ⟨T1, T2, T3⟩ := Rc.foldC_len (d := d) (g := Rc.cS d) tt.Aa σ k (b + (Rc.cE d σ b e).length + 1) fun q hq => Rc.cS_len d q (g1 q hq).1
   have hLT := hL tt.Aa k ρ ρ2 σ E s c (b + (Rc.cE d σ b e).length + 1)
   generalize Rc.foldC (Rc.cS d) σ k (b + (Rc.cE d σ b e).length + 1) tt.Aa = T at *
   obtain ⟨O1, O2, O3⟩ := Rc.foldC_len (d := d) (g := Rc.cS d) (brn o) σ T.2 (b + (Rc.cE d σ b e).length + 1 + T.1.length + 1) fun q hq => Rc.cS_len d q (k1 q hq).1
   have hLO := hL (brn o) T.2 ρ ρ3 σ E s c (b + (Rc.cE d σ b e).length + 1 + T.1.length + 1)
   generalize Rc.foldC (Rc.cS d) σ T.2 (b + (Rc.cE d σ b e).length + 1 + T.1.length + 1) (brn o) = O at *
   have hlen : b + (Rc.if3 b (Rc.cE d σ b e) T.1 O.1).length = b + (Rc.cE d σ b e).length + 1 + T.1.length + 1 + O.1.length := by
    simp only [Rc.if3, List.length_append, List.length_cons]; omega
   rw [hlen]
   unfold Rc.if3 at hf
   obtain ⟨H1, H2⟩ := qnd hj hT hF hin hsl.r (c := c) (b := b) (by rw [eh]; exact hf.left) (by rw [eW]; omega)
   by_cases q : (hdV j d E x.Aa).2 = none
   ·obtain ⟨bc, t, t1, t2, r⟩ := H2 q
    have hv := hv3 q
    rw [ev q]
    rw [eh, eS] at r
    rw [eW] at t2
    have es := qna (m := put m t (m.stack ++ [(hdV j d E x.Aa).1])) (k := b + (Rc.cE d σ b e).length) (N := ((b + (Rc.cE d σ b e).length + 1 + T.1.length + 1 : Nat) : Int)) (S := []) (a := (hdV j d E x.Aa).1) (st := m.stack) rfl (by show t + 1 ≤ m.most; omega) hv
    by_cases z : (hdV j d E x.Aa).1.Au = true
    ·rw [qA1 z] at es ⊢
     have R := Rn.trans r (Rn.one hf.right.head es (by omega))
     rw [ethn]
     have hX := hLT (put m (t + 1) m.stack) g1 g3 hT hin hsl h0 (by omega) hf.right.tail.left (by show t + 1 + _ ≤ m.most; omega) (hr' _) he
     have hX2 := hX.jump hf.right.tail.right.head (by omega) (by show t + 1 + _ + 1 ≤ m.most; omega)
     refine Ex2.after (m1 := put m (t + 1) m.stack) (hX2.up (Int.le_refl _) (Int.le_refl _) fun l l1 l2 _ => hsl.keep l2 l1 (by omega)) R rfl rfl rfl (fun _ _ => rfl) (by show m.result.Aj ≤ t + 1; omega) (by show t + 1 + _ ≤ _; omega)
    ·rw [qA0 z] at es ⊢
     have R := Rn.trans r (Rn.one hf.right.head es (by omega))
     rw [eels]
     have hX := hLO (put m (t + 1) m.stack) k1 k3 hT hin (hsl.keep (fun _ _ => rfl) hsl.len T2) (by omega) (by omega) hf.right.tail.right.tail (by show t + 1 + _ ≤ m.most; omega) (hr' _) he
     refine Ex2.after (m1 := put m (t + 1) m.stack) (hX.up T2 (Int.le_refl _) fun l l1 l2 _ => hsl.keep l2 l1 (by omega)) R rfl rfl rfl (fun _ _ => rfl) (by show m.result.Aj ≤ t + 1; omega) (by show t + 1 + _ ≤ _; omega)
   ·exact bad q H1
 have hwS : Rt.wS (d + 1) ρ x = 1 + hdW d ρ x.Aa := by
  rw [Rt.wS]
  split
  ·rename_i hkk; rw [hkk]; rfl
  ·rename_i k0 ks hkk
   rw [qA0 q2, hkk]; show 1 + stE d ρ k0 + 0 = 1 + stE d ρ k0; omega
 by_cases q3 : x.Ab = 3
 ·rw [Rc.cS_let q3] at hf ⊢
  dsimp only at hf ⊢
  obtain ⟨H1, H2⟩ := qnd hj hT hF hin hsl.r (c := c) (b := b) hf.left (by omega)
  by_cases q : (hdV j d E x.Aa).2 = none
  ·obtain ⟨bc, t, t1, t2, r⟩ := H2 q
   have ev : (evS j (d + 1) E s x) = (E ++ [⟨x.Ac, (hdV j d E x.Aa).1⟩], none, s) := by
    rw [evS, qA0 (by rw [q]; simp), qA1 q3]
   rw [ev]
   have hst : hdS (hdV j d E x.Aa).1 x.Aa = [(hdV j d E x.Aa).1] := by
    rcases hF.kid with ⟨_, _, n3⟩ | ⟨e', ks, t, hkk, _⟩
    ·exact absurd q3 n3
    ·rw [hkk]; rfl
   rw [hst] at r
   have hcx : 1 ≤ Rt.cnt (d + 1) x := by rw [Rt.cnt_eq]; omega
   refine ⟨fun e he => (by cases he), fun _ a => ?_, fun _ _ => ⟨t + 1, m.Ap.set k.toNat (hdV j d E x.Aa).1, by omega, by omega, by rw [List.length_set]; exact hsl.len, fun i hi => ?_, ?_, ?_⟩⟩
   ·dsimp only at a; rw [he] at a; cases a
   ·rw [List.getD_eq_getElem?_getD, List.getD_eq_getElem?_getD, List.getElem?_set_ne (by omega)]
   ·rw [qm6]
    exact hsl.put h0 (by omega) bc x.Ac
   ·have e1 : mkm m (stp s.1 (t + 1)) (m.Ap.set k.toNat (hdV j d E x.Aa).1) = wL (put m (t + 1) m.stack) (m.Ap.set k.toNat (hdV j d E x.Aa).1) := by rw [← hr']; rfl
    show Rn c b m _ (mkm m (stp s.1 (t + 1)) _)
    rw [e1, List.length_append]
    exact r.trans (Rn.one hf.right.head (qsu (m := put m t (m.stack ++ [(hdV j d E x.Aa).1])) (st := m.stack) rfl (by show t + 1 ≤ m.most; omega)) (Nat.lt_succ_self _))
  ·exact bad q H1
 obtain ⟨w, e1, e2⟩ := Rc.acs_eff hSF q2 q3
 rw [Rc.cS_act q2 q3] at hf ⊢
 dsimp only at hf ⊢
 have ew : Rc.acw x = some w := by
  unfold Rc.acs at e1
  cases qa : Rc.acw x with
  | none => rw [qa] at e1; cases e1
  | some w' =>
   rw [qa] at e1
   simp only [List.cons.injEq, and_true] at e1
   have : w' = w := by injection e1
   rw [this]
 rw [e1] at hf ⊢
 have e4 : Rc.actK w = some (x.Aa.length : Int) := by
  have e4 : (Rc.actK w).map (fun k => (k, (0 : Int))) = some ((x.Aa.length : Int), 0) := e2
  cases qa : Rc.actK w with
  | none => rw [qa] at e4; cases e4
  | some k' => rw [qa] at e4; simp only [Option.map_some, Option.some.injEq, Prod.mk.injEq, and_true] at e4; rw [e4]
 have e5 := qmz e4
 have h9 := qm8 hSF q2 q3 ew
 obtain ⟨H1, H2⟩ := qnd hj hT hF hin hsl.r (c := c) (b := b) hf.left (by omega)
 by_cases q : (hdV j d E x.Aa).2 = none
 ·obtain ⟨bc, t, t1, t2, r⟩ := H2 q
  have ewd : wdP x = w := by unfold wdP; rw [ew]; rfl
  have ev : (evS j (d + 1) E s x) = (E, (actP s.1 w (hdV j d E x.Aa).1).2, (actP s.1 w (hdV j d E x.Aa).1).1, decide (x.Ab = 9)) := by
   rw [evS, qA0 (by rw [q]; simp), qA0 q3, qA0 q2, ewd]
  rw [ev]
  have hp : (if needP w = 0 then (z0, wS (put m t (m.stack ++ hdS (hdV j d E x.Aa).1 x.Aa)) (t + 1)) else (top (put m t (m.stack ++ hdS (hdV j d E x.Aa).1 x.Aa)), pop (wS (put m t (m.stack ++ hdS (hdV j d E x.Aa).1 x.Aa)) (t + 1)))) = ((hdV j d E x.Aa).1, put m (t + 1) m.stack) := by
   rcases hF.kid with ⟨hkk, _, _⟩ | ⟨e', ks, t', hkk, _⟩
   ·rw [hkk] at e5 ⊢
    by_cases qn : needP w = 0
    ·rw [qA1 qn, qv2, List.append_nil]; rfl
    ·rw [qA0 qn] at e5; simp at e5
   ·rw [hkk] at e5 ⊢
    by_cases qn : needP w = 0
    ·rw [qA1 qn] at e5; simp only [List.length_cons] at e5; omega
    ·rw [qA0 qn, qsv, qdh (st := m.stack) rfl, qfn (st := m.stack) rfl]; rfl
  have es := qyl (m := put m t (m.stack ++ hdS (hdV j d E x.Aa).1 x.Aa)) (k := b + (Rc.hdC d σ b x.Aa).length) (N := 0) (S := w) (by show t + 1 ≤ m.most; omega) hp
  have ea : actP (put m (t + 1) m.stack).result w (hdV j d E x.Aa).1 = (stp (actP s.1 w (hdV j d E x.Aa).1).1 (t + 1), (actP s.1 w (hdV j d E x.Aa).1).2) := by
   show actP (stp m.result (t + 1)) w _ = _
   rw [hr', qnc]
  unfold qq4 at es
  rw [ea] at es
  dsimp only at es
  refine ⟨fun e he => ?_, fun a z => ⟨t + 1, by omega, by omega, ?_⟩, fun a z => ⟨t + 1, m.Ap, by omega, by omega, hsl.len, fun _ _ => rfl, hsl, ?_⟩⟩
  ·dsimp only at he
   rw [he, qA1 (show (some e : Err).isSome = true from rfl)] at es
   exact r.err (Re.one hf.right.head (by rw [es]))
  ·dsimp only at a z
   rw [a, qA0 (by simp), qA1 (h9.1 (by simpa using z))] at es
   exact r.stop (Rs.one hf.right.head es)
  ·dsimp only at a z
   rw [a, qA0 (by simp), qA0 (fun h => by rw [decide_eq_true (h9.2 h)] at z; cases z)] at es
   rw [List.length_append]
   exact r.trans (Rn.one hf.right.head (k := b + (Rc.hdC d σ b x.Aa).length + 1) es (Nat.lt_succ_self _))
 ·exact bad q H1
theorem qqw {g : List B1 → WSt → M → List B1 × Err × WSt} {E : List B1} {s : WSt} (h : s.2 = true) (l : List M) : evL g E s l = (none, s) := by
 cases l with
 | nil => rfl
 | cons x l => rw [evL, qA1 h]
theorem qt5 {j : In1} (hj : ∃ i, IOK i ∧ j = inp i) : ∀ d, BR j d
 | 0, [], k, ρ, ρ', σ, E, s, c, b, m, _, _, _, _, hsl, _, _, _, _, hr, he => ⟨fun e he => (by cases he), fun _ a => (by rw [show (evL (evS j 0) E s []).2.2 = s.2 from rfl, he] at a; cases a), fun _ _ => ⟨m.result.Aj, m.Ap, Int.le_refl _, by show _ ≤ m.result.Aj + 0; omega, hsl.len, fun _ _ => rfl, trivial, by
   show Rn c b m b (mkm m (stp s.1 m.result.Aj) m.Ap)
   rw [← hr]; exact Rn.refl⟩⟩
 | 0, x :: l, k, ρ, ρ', σ, E, s, c, b, m, hg, _, _, _, _, _, _, _, _, _, _ => (hg x (by simp)).1.elim
 | d + 1, l, k, ρ, ρ', σ, E, s, c, b, m, hg, hf, hT, hin, hsl, h0, hk, hF, hw, hr, he => by
  have hL := qt5 hj d
  induction l generalizing k ρ σ E s b m with
  | nil => exact ⟨fun e he => (by cases he), fun _ a => (by rw [show (evL (evS j (d + 1)) E s []).2.2 = s.2 from rfl, he] at a; cases a), fun _ _ => ⟨m.result.Aj, m.Ap, Int.le_refl _, by show _ ≤ m.result.Aj + 0; omega, hsl.len, fun _ _ => rfl, trivial, by
   show Rn c b m b (mkm m (stp s.1 m.result.Aj) m.Ap)
   rw [← hr]; exact Rn.refl⟩⟩
  | cons x l ih =>
   obtain ⟨ρ1, hx, hf'⟩ := qcm hf
   have hgx := hg x (by simp)
   have hgl : ∀ y ∈ l, Gd (d + 1) y := fun y hy => hg y (by simp [hy])
   have hn := nn (d := d + 1) (ρ := ρ1) (l := l) fun q hq => (hgl q hq).1
   have hn1 := (qk0 (d + 1) x hgx.1 ρ).1
   have ewW : foldW (Rt.wS (d + 1)) (stm (d + 1)) ρ (x :: l) = Rt.wS (d + 1) ρ x + foldW (Rt.wS (d + 1)) (stm (d + 1)) ρ1 l := by rw [foldW, hx]
   rw [ewW] at hw ⊢
   rw [Rt.cntL_cons] at hk
   rw [Rc.foldC] at hF ⊢
   dsimp only at hF ⊢
   obtain ⟨c1, c2, c3⟩ := Rc.cS_len (d + 1) x hgx.1 σ k b
   have S := qym hj hL hgx hx hT hin hsl h0 (by omega) hF.left (by omega) hr he
   have hty := qt4 (s := s) hj hT (qh9 hgx hx)
   rw [evL, qA0 (by rw [he]; simp)]
   cases w : (evS j (d + 1) E s x).2.1 with
   | some e =>
    dsimp only
    exact ⟨fun e' h' => S.err e' (by rw [w]; exact h'), (fun a => by cases a), fun a => by cases a⟩
   | none =>
    dsimp only
    cases z : (evS j (d + 1) E s x).2.2.2 with
    | true =>
     rw [qqw z]
     refine ⟨(fun e h => by cases h), fun _ _ => ?_, fun _ a => ?_⟩
     ·obtain ⟨t, t1, t2, t3⟩ := S.stop w z
      exact ⟨t, t1, by omega, t3⟩
     ·dsimp only at a; rw [z] at a; cases a
    | false =>
     obtain ⟨t, lz, t1, t2, t3, t4, t5, t6⟩ := S.ok w z
     have X := ih (Rc.cS (d + 1) σ k b x).2.1 ρ1 (Rc.cS (d + 1) σ k b x).2.2 (evS j (d + 1) E s x).1 (evS j (d + 1) E s x).2.2 (b + (Rc.cS (d + 1) σ k b x).1.length) (mkm m (stp (evS j (d + 1) E s x).2.2.1 t) lz) hgl hf' (hty w) hin t5 (by omega) (by omega) hF.right (by show t + _ ≤ m.most; omega) rfl z
     rw [List.length_append, ← Nat.add_assoc]
     exact Ex2.after (X.up c2 (Int.le_refl _) fun _ _ _ _ => trivial) t6 rfl rfl rfl t4 t1 (by show t + _ ≤ _; omega)
def wM (m : M1) (M : Int) : M1 := ⟨m.Ar, M, m.result, m.stack, m.Ap⟩
theorem qn2 (r : R1) (w : Str) (x : V1) : (actP r w x).1.Aj = r.Aj := by
 have h := qnc r w x r.Aj
 have e : stp r r.Aj = r := rfl
 rw [e] at h
 rw [h]; rfl
theorem qqx {m N : M1} {v : V1} {o : Bool} {M : Int} (h : pushP m v o = (none, N)) : m.result.Aj ≤ N.result.Aj ∧ (m.result.Aj ≤ M → (N.result.Aj ≤ M → pushP (wM m M) v o = (none, wM N M)) ∧ (N.result.Aj > M → (pushP (wM m M) v o).1 = some 13)) := by
 unfold pushP at h ⊢
 by_cases q : v.s.length > 2048
 ·rw [qA1 q] at h; cases h
 rw [qA0 q] at h
 rw [qA0 q]
 by_cases q2 : o = true ∧ v.kind = 1
 ·rw [qA1 q2] at h
  rw [qA1 q2]
  by_cases q3 : m.result.Aj + ((v.s.length / 64 : Nat) : Int) > m.most
  ·rw [qA1 q3] at h; cases h
  rw [qA0 q3] at h
  have e : wT (wS m (m.result.Aj + ((v.s.length / 64 : Nat) : Int))) (m.stack ++ [v]) = N := by injection h
  subst e
  refine ⟨by show m.result.Aj ≤ m.result.Aj + ((v.s.length / 64 : Nat) : Int); omega, fun w => ⟨fun w2 => ?_, fun w2 => ?_⟩⟩
  ·have w3 : m.result.Aj + ((v.s.length / 64 : Nat) : Int) ≤ M := w2
   rw [qA0 (by show ¬ (m.result.Aj + ((v.s.length / 64 : Nat) : Int) > M); omega)]; rfl
  ·have w3 : m.result.Aj + ((v.s.length / 64 : Nat) : Int) > M := w2
   rw [qA1 (by show (m.result.Aj + ((v.s.length / 64 : Nat) : Int) > M); omega)]
 ·rw [qA0 q2] at h
  rw [qA0 q2]
  have e : wT m (m.stack ++ [v]) = N := by injection h
  subst e
  refine ⟨Int.le_refl _, fun w => ⟨fun _ => rfl, fun w2 => ?_⟩⟩
  have w3 : m.result.Aj > M := w2
  omega
def Mst (m N : M1) (nx M : Int) (o : Int × Err × M1) : Prop := m.result.Aj + 1 ≤ N.result.Aj ∧ (m.result.Aj + 1 ≤ M → (N.result.Aj ≤ M → o = (nx, none, wM N M)) ∧ (N.result.Aj > M → o.2.1 = some 13))
theorem Mst.push {m m' N : M1} {at' nx M : Int} {v : V1} {o : Bool} (e : m'.result.Aj = m.result.Aj + 1) (h : nxP at' (pushP m' v o) = (nx, none, N)) : Mst m N nx M (nxP at' (pushP (wM m' M) v o)) := by
 unfold nxP at h
 have h1 : at' + 1 = nx := by injection h
 have h2 : pushP m' v o = (none, N) := Prod.ext (congrArg (fun p => p.2.1) h) (congrArg (fun p => p.2.2) h)
 obtain ⟨a, b⟩ := qqx (M := M) h2
 refine ⟨by omega, fun w => ?_⟩
 obtain ⟨b1, b2⟩ := b (by omega)
 refine ⟨fun w2 => ?_, fun w2 => ?_⟩
 ·unfold nxP; rw [b1 w2, h1]
 ·exact b2 w2
theorem Mst.same {m m' N : M1} {nx' nx M : Int} (h : (nx', (none : Err), m') = (nx, none, N)) (e : m'.result.Aj = m.result.Aj + 1) : Mst m N nx M (nx', none, wM m' M) := by
 cases h
 exact ⟨by omega, fun w => ⟨fun _ => rfl, fun w2 => by omega⟩⟩
theorem qj6 {m N : M1} {at' nx : Int} {x : I} {M : Int} (h : stepP m at' x = (nx, none, N)) (g : ¬ m.result.Aj + 1 > m.most) (g2 : ¬ m.result.Aj + 1 > M) : Mst m N nx M (stepP (wM m M) at' x) := by
 unfold stepP at h ⊢
 rw [qA0 g] at h
 rw [qA0 (show ¬ (wM m M).result.Aj + 1 > (wM m M).most from g2)]
 by_cases q1 : x.Op = 1
 ·rw [qA1 q1] at h ⊢; exact Mst.push (m' := wS m (m.result.Aj + 1)) rfl h
 rw [qA0 q1] at h ⊢
 by_cases q2 : x.Op = 2
 ·rw [qA1 q2] at h ⊢; exact Mst.push (m' := wS m (m.result.Aj + 1)) rfl h
 rw [qA0 q2] at h ⊢
 by_cases q3 : x.Op = 3
 ·rw [qA1 q3] at h ⊢; exact Mst.push (m' := wS m (m.result.Aj + 1)) rfl h
 rw [qA0 q3] at h ⊢
 by_cases q5 : x.Op = 5
 ·rw [qA1 q5] at h ⊢; exact Mst.push (m' := wS m (m.result.Aj + 1)) rfl h
 rw [qA0 q5] at h ⊢
 by_cases q4 : x.Op = 4
 ·rw [qA1 q4] at h ⊢; exact Mst.same h rfl
 rw [qA0 q4] at h ⊢
 by_cases q6 : x.Op = 6
 ·rw [qA1 q6] at h ⊢
  by_cases w : (callP x.S (top m) m.Ar).2 = true
  ·rw [qA1 w] at h
   rw [qA1 (show (callP x.S (top (wM m M)) (wM m M).Ar).2 = true from w)]
   exact Mst.push (m' := pop (wS m (m.result.Aj + 1))) rfl h
  ·rw [qA0 w] at h; cases h
 rw [qA0 q6] at h ⊢
 by_cases q7 : x.Op = 7
 ·rw [qA1 q7] at h ⊢
  by_cases w : (opP x.S (top (pop m)) (top m)).2 = true
  ·rw [qA1 w] at h
   rw [qA1 (show (opP x.S (top (pop (wM m M))) (top (wM m M))).2 = true from w)]
   exact Mst.push (m' := pop (pop (wS m (m.result.Aj + 1)))) rfl h
  ·rw [qA0 w] at h; cases h
 rw [qA0 q7] at h ⊢
 by_cases q8 : x.Op = 8
 ·rw [qA1 q8] at h ⊢
  by_cases w : (top m).kind = 3
  ·rw [qA1 w] at h
   rw [qA1 (show (top (wM m M)).kind = 3 from w)]
   exact Mst.push (m' := pop (wS m (m.result.Aj + 1))) rfl h
  ·rw [qA0 w] at h; cases h
 rw [qA0 q8] at h ⊢
 by_cases q9 : x.Op = 9
 ·rw [qA1 q9] at h ⊢; exact Mst.same h rfl
 rw [qA0 q9] at h ⊢
 by_cases q10 : x.Op = 10
 ·rw [qA1 q10] at h ⊢
  by_cases w : (top m).kind = 3
  ·rw [qA1 w] at h
   rw [qA1 (show (top (wM m M)).kind = 3 from w)]
   by_cases z : (top m).Au = true
   ·rw [qA1 z] at h
    rw [qA1 (show (top (wM m M)).Au = true from z)]
    exact Mst.same h rfl
   ·rw [qA0 z] at h
    rw [qA0 (show ¬ (top (wM m M)).Au = true from z)]
    exact Mst.same h rfl
  ·rw [qA0 w] at h; cases h
 rw [qA0 q10] at h ⊢
 by_cases q11 : x.Op = 11
 ·rw [qA1 q11] at h ⊢
  have go : ∀ p : V1 × M1, p.2.result.Aj = m.result.Aj + 1 → qq4 m at' x.S p = (nx, none, N) → Mst m N nx M (qq4 (wM m M) at' x.S (p.1, wM p.2 M)) := fun p hp h => by
   unfold qq4 at h ⊢
   dsimp only
   have es : (wM p.2 M).result = p.2.result := rfl
   rw [es]
   have e2 := qn2 p.2.result x.S p.1
   by_cases w : (actP p.2.result x.S p.1).2.isSome = true
   ·rw [qA1 w] at h
    have h3 : (actP p.2.result x.S p.1).2 = none := by
     injection h with _ h
     injection h
    rw [h3] at w; cases w
   rw [qA0 w] at h ⊢
   by_cases z : x.S = [100, 101, 110, 121]
   ·rw [qA1 z] at h ⊢
    exact Mst.same h (e2.trans hp)
   ·rw [qA0 z] at h ⊢
    exact Mst.same h (e2.trans hp)
  by_cases w : needP x.S = 0
  ·rw [qA1 w] at h ⊢; exact go (z0, wS m (m.result.Aj + 1)) rfl h
  ·rw [qA0 w] at h ⊢; exact go (top m, pop (wS m (m.result.Aj + 1))) rfl h
 rw [qA0 q11] at h ⊢
 exact Mst.same h rfl
theorem qqy {m N : M1} {at' nx : Int} {x : I} {M : Int} (h : stepP m at' x = (nx, none, N)) : m.result.Aj + 1 ≤ N.result.Aj ∧ (N.result.Aj ≤ M → stepP (wM m M) at' x = (nx, none, wM N M)) ∧ (N.result.Aj > M → (stepP (wM m M) at' x).2.1 = some 13) := by
 have g : ¬ m.result.Aj + 1 > m.most := fun q => by unfold stepP at h; rw [qA1 q] at h; cases h
 have k1 := (qj6 (M := m.result.Aj + 1) h g (by omega)).1
 refine ⟨k1, ?_⟩
 by_cases w : m.result.Aj + 1 ≤ M
 ·exact (qj6 h g (by omega)).2 w
 ·refine ⟨fun q => by omega, fun _ => ?_⟩
  unfold stepP
  rw [qA1 (by show m.result.Aj + 1 > M; omega)]
theorem qi1 {c : List I} {M : Int} : ∀ (f i : Nat) (m : M1) (r : R1), runP c f i m = (r, none) → m.result.Aj ≤ r.Aj ∧ (r.Aj ≤ M → runP c f i (wM m M) = (r, none)) ∧ (m.result.Aj ≤ M → r.Aj > M → runP c f i (wM m M) = (zR, some 13))
 | 0, i, m, r, h => by
  rw [runP] at h
  cases h
  exact ⟨Int.le_refl _, fun _ => rfl, fun a b => by omega⟩
 | f + 1, i, m, r, h => by
  rw [runP] at h
  rw [runP]
  cases hx : c[i]? with
  | none =>
   rw [hx] at h
   cases h
   exact ⟨Int.le_refl _, fun _ => rfl, fun a b => by omega⟩
  | some x =>
   rw [hx] at h
   dsimp only at h ⊢
   cases e : (stepP m (i : Int) x).2.1 with
   | some e1 => rw [e] at h; cases h
   | none =>
    rw [e] at h
    dsimp only at h
    have eP : stepP m (i : Int) x = ((stepP m (i : Int) x).1, none, (stepP m (i : Int) x).2.2) := by rw [← e]
    obtain ⟨a, b, d⟩ := qqy (M := M) eP
    by_cases q : (stepP m (i : Int) x).1 = -1
    ·rw [qA1 q] at h
     cases h
     refine ⟨by omega, fun w => ?_, fun _ w => ?_⟩
     ·rw [b w]; dsimp only; rw [qA1 q]; rfl
     ·rw [d w]
    ·rw [qA0 q] at h
     obtain ⟨a', b', d'⟩ := qi1 (M := M) f _ _ r h
     refine ⟨by omega, fun w => ?_, fun _ w => ?_⟩
     ·rw [b (by omega)]; dsimp only; rw [qA0 q]; exact b' w
     ·by_cases z : (stepP m (i : Int) x).2.2.result.Aj ≤ M
      ·rw [b z]; dsimp only; rw [qA0 q]; exact d' z w
      ·rw [d (by omega)]
theorem qne {c : List I} {i : In2} (hc : c.length ≤ 2100) (hS : ∀ x ∈ c, x.S.length ≤ 100000) (hi : IOK i) : ∀ (j f f1 k : Nat) (d : Int) (m : M1), c.length - k ≤ j → j < f → j + 1 < f1 → At c k d → MOK k m → m.Ar = inp i → (m.stack.length : Int) = d →
  ∃ o, Jas c (inp i) f1 (k : Int) m = some o ∧ qzr (runP c f k m) o
 | 0, f, f1, k, d, m, hj, _, _, hA, _, _, _ => by have := hA.1; omega
 | j + 1, f, f1, k, d, m, hj, hf, hf1, hA, hM, hin, hd => by
  obtain ⟨f, rfl⟩ : ∃ a, f = a + 1 := ⟨f - 1, by omega⟩
  obtain ⟨f1, rfl⟩ : ∃ a, f1 = a + 1 := ⟨f1 - 1, by omega⟩
  have hk := hA.1
  obtain ⟨t, l, he, htd, h12, hnx⟩ := hA.next
  have hx := hS c[k] (List.getElem_mem hk)
  have e1 := qzq (at' := (k : Int)) hM hx he (by omega) (by omega) (by omega)
  have r1 : Jas c (inp i) (f1 + 1) (k : Int) m = (if (stepP m (k : Int) c[k]).2.1.isSome then some (Fl.ret (zR, (stepP m (k : Int) c[k]).2.1)) else Jas c (inp i) f1 (stepP m (k : Int) c[k]).1 (⟨inp i, (stepP m (k : Int) c[k]).2.2.most, (stepP m (k : Int) c[k]).2.2.result, (stepP m (k : Int) c[k]).2.2.stack, (stepP m (k : Int) c[k]).2.2.Ap⟩ : M1)) := by
   rw [Jas, qA1 (by simp), qql hk, qAz]
   have : (⟨inp i, m.most, m.result, m.stack, m.Ap⟩ : M1) = m := by rw [← hin]
   rw [this, e1, qAz]; rfl
  have r3 : runP c (f + 1) k m = match (stepP m (k : Int) c[k]).2.1 with
   | some e => (zR, some e)
   | none => if (stepP m (k : Int) c[k]).1 = -1 then ((stepP m (k : Int) c[k]).2.2.result, none) else runP c f (stepP m (k : Int) c[k]).1.toNat (stepP m (k : Int) c[k]).2.2 := by
   rw [runP, List.getElem?_eq_getElem hk] <;> rfl
  rw [r1, r3]
  cases e3 : (stepP m (k : Int) c[k]).2.1 with
  | some c1 => exact ⟨_, rfl, by simp [qzr]⟩
  | none =>
   have eP : stepP m (k : Int) c[k] = ((stepP m (k : Int) c[k]).1, none, (stepP m (k : Int) c[k]).2.2) := by rw [← e3]
   have hK := keep hM (by omega) hx he (by omega) eP
   rw [qA0 (by simp)]
   have eM : (⟨inp i, (stepP m (k : Int) c[k]).2.2.most, (stepP m (k : Int) c[k]).2.2.result, (stepP m (k : Int) c[k]).2.2.stack, (stepP m (k : Int) c[k]).2.2.Ap⟩ : M1) = (stepP m (k : Int) c[k]).2.2 := by
    rw [← hin, ← hK.inz]
   rw [eM]
   by_cases qn : (stepP m (k : Int) c[k]).1 = -1
   ·simp only [qn, if_true]
    obtain ⟨g1, rfl⟩ : ∃ a, f1 = a + 1 := ⟨f1 - 1, by omega⟩
    refine ⟨.go (-1, ⟨inp i, (stepP m (k : Int) c[k]).2.2.most, (stepP m (k : Int) c[k]).2.2.result, (stepP m (k : Int) c[k]).2.2.stack, (stepP m (k : Int) c[k]).2.2.Ap⟩), ?_, _, _, rfl, rfl⟩
    rw [Jas, qA0 (by simp)]
   ·simp only [qn, if_false]
    have hlen := hK.len qn
    obtain ⟨k', hk', hkk, hA'⟩ : ∃ k' : Nat, (stepP m (k : Int) c[k]).1 = (k' : Int) ∧ k < k' ∧ At c k' (d + (l - t)) := by
     rcases hK.nx with e | ⟨n9, n12, e⟩ | ⟨hj, e⟩
     ·exact absurd e qn
     ·exact ⟨k + 1, by rw [e]; omega, by omega, (hnx n12).1 n9⟩
     ·have n12 : c[k].Op ≠ 12 := fun e => by unfold Rc.isJ at hj; rw [e] at hj; simp at hj
      obtain ⟨j1, j2, j3⟩ := (hnx n12).2 hj
      exact ⟨c[k].N.toNat, by rw [e]; omega, by omega, j3⟩
    have hkl := hA'.1
    rw [hk', Int.toNat_natCast]
    exact qne hc hS hi j f f1 k' (d + (l - t)) _ (by omega) (by omega) (by omega) hA' (hK.ok.up (by omega) (by omega)) (hK.inz.trans hin) (by rw [hlen]; omega)
theorem runP_zR {c : List I} : ∀ (f k : Nat) (m : M1), (runP c f k m).2 ≠ none → (runP c f k m).1 = zR
 | 0, k, m, h => absurd rfl h
 | f + 1, k, m, h => by
  rw [runP] at h ⊢
  split
  ·rename_i q; rw [q] at h; exact absurd rfl h
  ·rename_i x q
   rw [q] at h
   simp only at h
   split
   ·rfl
   ·rename_i q2
    rw [q2] at h
    simp only at h
    split
    ·rename_i q3; rw [qA1 q3] at h; exact absurd rfl h
    ·rename_i q3; rw [qA0 q3] at h; exact runP_zR f _ _ h
theorem qv3 {c : List I} {n : Nat} {i : In2} {most G : Int} (hn : 1000002 ≤ n) (hc : c.length ≤ 2100) (hS : ∀ x ∈ c, x.S.length ≤ 100000) (hi : IOK i) (hG : Rc.depthOf c = some G) : JaM n c (inp i) most = some (runP c 2101 0 (m0 i most)) := by
 obtain ⟨hA, _⟩ := at0 hG
 obtain ⟨o, h1, h2⟩ := qne hc hS hi 2100 2101 n 0 0 (m0 i most) (by omega) (by omega) (by omega) hA (qzs hi) rfl rfl
 have hck := Rc.Check45_pure hS
 rw [hG] at hck
 have h6 := runP_zR (c := c) 2101 0 (m0 i most)
 unfold JaM
 rw [hck, qAz, qA0 (by simp)]
 refine (congrArg (fun o => Option.bind o _) h1).trans ?_
 rw [qAz]
 unfold qzr at h2
 generalize runP c 2101 0 (m0 i most) = p at *
 obtain ⟨p1, p2⟩ := p
 cases p2 with
 | none => obtain ⟨a, M, rfl, hM⟩ := h2; rw [Rt.el_go]; simp only [hM]
 | some v =>
  simp only at h2 h6
  rw [h2, h6 (by simp)]; rfl
theorem qsw {i : In2} {most : Int} {ys : List M} {ρ : Env} (hI : IOK i) (hg : ∀ y ∈ ys, Gd 39 y) (hs : foldS (stm 39) base ys = .ok ρ) (hc : Rt.cntL 39 ys ≤ 511) (hl : (Rc.prog 39 ys).length ≤ 2048) (hm : foldW (Rt.wS 39) (stm 39) base ys + 1 ≤ most) {o : Err × WSt} (ho : evL (evS (inp i) 39) [] (b0 i) ys = o) :
  (∀ e, o.1 = some e → runP (Rc.prog 39 ys) 2101 0 (m0 i most) = (zR, some e)) ∧ (o.1 = none → ∃ t, 1 ≤ t ∧ t ≤ foldW (Rt.wS 39) (stm 39) base ys + 1 ∧ runP (Rc.prog 39 ys) 2101 0 (m0 i most) = (stp o.2.1 t, none)) := by
 have hF : Frag (Rc.prog 39 ys) 0 (Rc.prog 39 ys) := fun q x hx => by rw [Nat.zero_add]; exact hx
 have hF2 := hF
 unfold Rc.prog at hF2
 have hn := nn (d := 39) (ρ := base) (l := ys) fun q hq => (hg q hq).1
 have X := qt5 (j := inp i) ⟨i, hI, rfl⟩ 39 ys 0 base ρ (fun _ => none) [] (b0 i) (Rc.prog 39 ys) 0 (m0 i most) hg hs qyy rfl
  ⟨⟨fun _ _ => rfl, fun s v h => by rw [qqq] at h; cases h⟩, fun s q h => (by cases h), List.length_replicate⟩ (Int.le_refl _) (by omega) hF2.left (by show (0 : Int) + _ ≤ most; omega) rfl rfl
 rw [ho] at X
 refine ⟨fun e he => X.err e he 2101 (by omega), fun q => ?_⟩
 have z0 : (m0 i most).result.Aj = 0 := rfl
 cases z : o.2.2 with
 | true =>
  obtain ⟨t, t1, t2, t3⟩ := X.stop q z
  exact ⟨t, by omega, by omega, t3 2101 (by omega)⟩
 | false =>
  obtain ⟨t, l, t1, t2, _, _, _, r⟩ := X.ok q z
  refine ⟨t + 1, by omega, by omega, ?_⟩
  have R := r.stop (Rs.one hF2.right.head (qvt (m := mkm (m0 i most) (stp o.2.1 t) l) (N := 0) (S := []) (by show t + 1 ≤ most; omega)))
  exact R 2101 (by omega)
theorem qsx {x : M} {w : Str} (h : Rc.SF x) (n2 : x.Ab ≠ 2) (n3 : x.Ab ≠ 3) (hw : Rc.acw x = some w) : nds x.Ab = needP w ∨ needP w = 0 := by
 have hdr : ∀ s : Str, needP ([104, 101, 97, 100, 101, 114, 58] ++ s) = 1 := fun s => by
  unfold needP
  rw [qA0, qA0]
  ·rintro (e | e) <;> cases e
  ·rintro (e | e | e)
   ·cases e
   ·cases e
   ·unfold Rc.hp at e
    rw [Bool.and_eq_true] at e
    have e2 := of_decide_eq_true e.2
    exact absurd e2 (by show ¬ ([104, 101, 97, 100, 101] : Str) = Rc.sVary; decide)
 have vry : ∀ s : Str, needP ([118, 97, 114, 121, 58] ++ s) = 0 := fun s => by
  unfold needP
  rw [qA1]
  refine .inr (.inr ?_)
  unfold Rc.hp
  rw [Bool.and_eq_true]
  exact ⟨by simp [Rc.sVary], by show decide (([118, 97, 114, 121, 58] : Str) = Rc.sVary) = true; decide⟩
 unfold Rc.acw at hw
 rcases h with q | ⟨q, _⟩ | ⟨q, _, ht⟩ | ⟨q, _⟩ | ⟨q, _⟩ | ⟨q, _⟩ | ⟨q, _⟩
 ·exact absurd q n2
 ·exact absurd q n3
 ·rw [qA1 q] at hw
  cases hw
  rcases ht with e | e <;> rw [e, q] <;> decide
 ·rw [qA0 (by omega), qA1 q] at hw
  cases hw
  rw [q, hdr]; decide
 ·rw [qA0 (by omega), qA0 (by omega), qA1 q] at hw
  cases hw
  exact .inr (vry _)
 ·rcases q with q | q | q
  ·rw [qA0 (by omega), qA0 (by omega), qA0 (by omega), qA1 q] at hw
   cases hw; rw [q]; decide
  ·rw [qA0 (by omega), qA0 (by omega), qA0 (by omega), qA0 (by omega), qA1 q] at hw
   cases hw; rw [q]; decide
  ·rw [qA0 (by omega), qA0 (by omega), qA0 (by omega), qA0 (by omega), qA0 (by omega), qA1 q] at hw
   cases hw; rw [q]; decide
 ·rcases q with q | q
  ·rw [qA0 (by omega), qA0 (by omega), qA0 (by omega), qA0 (by omega), qA0 (by omega), qA0 (by omega), qA1 q] at hw
   cases hw; rw [q]; decide
  ·rw [qA0 (by omega), qA0 (by omega), qA0 (by omega), qA0 (by omega), qA0 (by omega), qA0 (by omega), qA0 (by omega), qA1 q] at hw
   cases hw; rw [q]; decide
def NE (o : Err) : Prop := o ≠ some 9 ∧ o ≠ some 13
theorem qv4 (r : R1) (w : Str) (x : V1) : NE (qj8 r w x).2 := by
 unfold qj8
 split
 ·split
  ·exact ⟨by simp, by simp⟩
  ·exact ⟨by simp, by simp⟩
 ·split
  ·exact ⟨by simp, by simp⟩
  ·split
   ·unfold vlC
    split
    ·exact ⟨by simp, by simp⟩
    ·exact ⟨by simp, by simp⟩
   ·exact ⟨by simp, by simp⟩
theorem qv5 {r : R1} {w : Str} {x : V1} (h : x.kind = needP w) : NE (actP r w x).2 := by
 unfold actP
 rw [qA0 (by simpa using h)]
 repeat' split
 all_goals first
  | exact qv4 _ _ _
  | exact ⟨by simp, by simp⟩
def NL' (j : In1) (d : Nat) : Prop := ∀ (l : List M) (ρ ρ' : Env) (E : List B1) (s : WSt), (∀ y ∈ l, Gd d y) → foldS (stm d) ρ l = .ok ρ' → TyV ρ (sgV E) → NE (evL (evS j d) E s l).1
theorem qyn {j : In1} {d : Nat} {ρ ρ1 : Env} {E : List B1} {s : WSt} {x : M} (hj : ∃ i, IOK i ∧ j = inp i) (hL : NL' j d) (hg : Gd (d + 1) x) (hs : stm (d + 1) ρ x = .ok ρ1) (hT : TyV ρ (sgV E)) : NE (evS j (d + 1) E s x).2.1 := by
 have hF := qh9 hg hs
 have hSF := qvv hg
 obtain ⟨v1, v2, _⟩ := qm9 hj hT hF
 rw [evS]
 by_cases q : (hdV j d E x.Aa).2.isSome = true
 ·rw [qA1 q]
  show NE (hdV j d E x.Aa).2
  rcases v2 with w | w <;> rw [w] <;> exact ⟨by simp, by simp⟩
 rw [qA0 q]
 have qn : (hdV j d E x.Aa).2 = none := by
  cases w : (hdV j d E x.Aa).2 with
  | none => rfl
  | some e => rw [w] at q; exact absurd rfl q
 by_cases q3 : x.Ab = 3
 ·rw [qA1 q3]; exact ⟨by simp, by simp⟩
 rw [qA0 q3]
 by_cases q2 : x.Ab = 2
 ·rw [qA1 q2]
  obtain ⟨_, hb⟩ := hF.brn2 q2
  have hB : (if (hdV j d E x.Aa).1.Au = true then thn x else els x) = thn x ∨ (if (hdV j d E x.Aa).1.Au = true then thn x else els x) = els x := by
   split
   ·exact .inl rfl
   ·exact .inr rfl
  generalize (if (hdV j d E x.Aa).1.Au = true then thn x else els x) = B at hB
  obtain ⟨g1, g2, ⟨ρ2, g3⟩, g4⟩ := hb B hB
  exact hL B ρ ρ2 E s g1 g3 hT
 rw [qA0 q2]
 obtain ⟨w, t, e1, e2, e3⟩ := hF.word q2 q3
 have ew : wdP x = w := by unfold wdP; rw [e1]; rfl
 rw [ew]
 refine qv5 ?_
 have hne := qsx hSF q2 q3 e1
 obtain ⟨w', a1, a2⟩ := Rc.acs_eff hSF q2 q3
 have ea : w' = w := by
  unfold Rc.acs at a1
  rw [e1] at a1
  simp only [List.cons.injEq, and_true] at a1
  injection a1 with _ _ a1
  exact a1.symm
 subst ea
 have e4 : Rc.actK w' = some (x.Aa.length : Int) := by
  have e4 : (Rc.actK w').map (fun k => (k, (0 : Int))) = some ((x.Aa.length : Int), 0) := a2
  cases qa : Rc.actK w' with
  | none => rw [qa] at e4; cases e4
  | some k' => rw [qa] at e4; simp only [Option.map_some, Option.some.injEq, Prod.mk.injEq, and_true] at e4; rw [e4]
 have e5 := qmz e4
 rcases hF.kid with ⟨hk, _, _⟩ | ⟨e, ks, t, hk, hE, ht, _⟩
 ·rw [hk] at e5 ⊢
  by_cases qn : needP w' = 0
  ·rw [qn]; rfl
  ·rw [qA0 qn] at e5; simp at e5
 ·have h3 := qqv hs hk ht
  have hkd : (hdV j d E x.Aa).1.kind = t := by
   obtain ⟨g1, _⟩ := qc8 hj hT d e t hE ht
   rw [hk] at qn ⊢
   exact (g1 qn).1
  rw [hk] at e5
  have n0 : needP w' ≠ 0 := fun qn => by rw [qA1 qn] at e5; simp only [List.length_cons] at e5; omega
  rw [hkd]
  rcases hne with hne | hne
  ·rcases h3 with h3 | h3
   ·exact absurd (hne.symm.trans h3) n0
   ·rw [h3, hne]
  ·exact absurd hne n0
theorem qt6 {j : In1} (hj : ∃ i, IOK i ∧ j = inp i) : ∀ d, NL' j d
 | 0, [], ρ, ρ', E, s, _, _, _ => ⟨by simp [evL], by simp [evL]⟩
 | 0, x :: l, ρ, ρ', E, s, hg, _, _ => (hg x (by simp)).1.elim
 | d + 1, l, ρ, ρ', E, s, hg, hf, hT => by
  have hL := qt6 hj d
  induction l generalizing ρ E s with
  | nil => exact ⟨by simp [evL], by simp [evL]⟩
  | cons x l ih =>
   obtain ⟨ρ1, hx, hf'⟩ := qcm hf
   have hgx := hg x (by simp)
   have S := qyn (s := s) hj hL hgx hx hT
   have hty := qt4 (s := s) hj hT (qh9 hgx hx)
   rw [evL]
   by_cases he : s.2 = true
   ·rw [qA1 he]; exact ⟨by simp, by simp⟩
   rw [qA0 he]
   cases w : (evS j (d + 1) E s x).2.1 with
   | some e => rw [w] at S; exact S
   | none => exact ih ρ1 _ _ (fun y hy => hg y (by simp [hy])) hf' (hty w)
theorem qqz {n : Nat} {i : In2} {y : M} {ρ : Env} {o : Err × WSt} (hI : IOK i) (hok : Ok 40 y) (hn : 2000100 ≤ n) (hv : Jah n y = some true) (q : foldS (stm 39) base y.Aa = .ok ρ) (ho : evL (evS (inp i) 39) [] (b0 i) y.Aa = o) :
  qAc 512 o ∧ Jcx n y (inp i) = some (match o.1 with | some e => (zR1, some e) | none => (o.2.1, none)) := by
 have ck1 := qd2 (n := n) (d := 39) hok (by omega) (by omega) hv
 rw [qA1 rfl] at ck1
 unfold qwc at ck1
 rw [q] at ck1
 have hsm := Rc.Valid_small hv 40
 have hg : ∀ z ∈ y.Aa, Gd 39 z := fun z hz => ⟨hok.2.2 z hz, n, qdu hv z hz⟩
 have hl := hok.2.1
 have hcl : Rt.cntL 39 y.Aa ≤ 512 := by rw [Rt.cnt_eq] at hsm; omega
 have hj : ∃ i', IOK i' ∧ inp i = inp i' := ⟨i, hI, rfl⟩
 have li := qlh hj 39 y.Aa 0 base ρ [] (b0 i) hg q qyy (qyc i)
 have hw := qt2 hj 39 n (by omega) y.Aa 0 base ρ [] (b0 i) hg hl q qyy (by simp only [List.length_nil]; omega) (qyc i) (by omega)
 rw [ho] at li hw
 refine ⟨⟨li.1.up (by omega), li.2⟩, ?_⟩
 unfold Jcx
 rw [ck1, qAz, qA0 (by simp)]
 rw [show J9 n (⟨inp i, (⟨(inp i).Ae, (inp i).Af, [], [], [], (-1), 0, 0, false, false⟩ : Jl), false⟩ : Ju) y.Aa [] = _ from hw, qAz]
 cases w : o.1 with
 | some e => rfl
 | none => rfl
structure PrF (y : M) (ρ : Env) : Prop where
 g : ∀ k ∈ y.Aa, Gd 39 k
 s : foldS (stm 39) base y.Aa = .ok ρ
 c : Rt.cntL 39 y.Aa ≤ 511
 l : (Rc.prog 39 y.Aa).length ≤ 2048
 d : ∃ g, Rc.depthOf (Rc.prog 39 y.Aa) = some g
 i : ∀ x ∈ Rc.prog 39 y.Aa, x.S.length ≤ 100000
 w : 0 ≤ foldW (Rt.wS 39) (stm 39) base y.Aa ∧ foldW (Rt.wS 39) (stm 39) base y.Aa ≤ 200000
theorem compile_cases {n : Nat} {y : M} (hok : Ok 40 y) (hn : 2000100 ≤ n) (hcn : Rt.cntL 39 y.Aa ≤ 10000) :
  (∃ e, Ja1 n y = some ([], some e)) ∨ ∃ ρ, PrF y ρ ∧ Jah n y = some true ∧ Ja1 n y = some (Rc.prog 39 y.Aa, none) := by
 obtain ⟨b, b2⟩ := qmc (n := n) hok (by omega)
 have hC := Rc.Compile_pure (n := n) (d := 39) hok (by omega) (by omega) hcn b2
 cases b with
 | false => exact .inl ⟨2, hC⟩
 | true =>
  rw [qA1 rfl] at hC
  cases q : foldS (stm 39) base y.Aa with
  | error e => rw [q] at hC; exact .inl ⟨e.2, hC⟩
  | ok ρ =>
   rw [q] at hC
   dsimp only at hC
   by_cases q2 : (Rc.prog 39 y.Aa).length ≤ 2048
   ·rw [qA1 q2] at hC
    have hv := qdu b2
    have hg : ∀ k ∈ y.Aa, Gd 39 k := fun k hk => ⟨hok.2.2 k hk, n, hv k hk⟩
    have hsm : Rt.cntL 39 y.Aa ≤ 511 := by
     have := Rc.Valid_small b2 40
     rw [Rt.cnt_eq] at this; omega
    have bd := qd3 (d := 39) (w := Rt.wS 39) (g := stm 39) y.Aa base fun q hq ρ => qk0 39 q (hok.2.2 q hq) ρ
    exact .inr ⟨ρ, ⟨hg, q, hsm, q2, Option.isSome_iff_exists.1 (Rc.prog_depth q2 hsm hg q), Rc.prog_S (d := 39) (l := y.Aa) hok.2.2, by omega⟩, b2, hC⟩
   ·rw [qA0 q2] at hC; exact .inl ⟨5, hC⟩
theorem qn3 {n : Nat} {y : M} (hok : Ok 40 y) (hn : 2000100 ≤ n) (hcn : Rt.cntL 39 y.Aa ≤ 10000) : ∃ r, JbI n y = some r := by
 obtain ⟨b, b2⟩ := qmc (n := n) hok (by omega)
 have hC := qd2 (d := 39) (n := n) hok (by omega) (by omega) b2
 unfold JbI
 cases b with
 | false => rw [hC]; exact ⟨_, rfl⟩
 | true =>
  rw [qA1 rfl] at hC
  unfold qwc at hC
  cases q : foldS (stm 39) base y.Aa with
  | error e => rw [hC, q]; exact ⟨_, rfl⟩
  | ok ρ =>
   have hv := qdu b2
   have hg : ∀ k ∈ y.Aa, Gd 39 k := fun k hk => ⟨hok.2.2 k hk, n, hv k hk⟩
   have hw := qfj 39 n y.Aa [] ρ hg hok.2.1 (by omega) (by simp only [List.length_nil]; omega) (by omega) q
   have bd := qd3 (d := 39) (w := Rt.wS 39) (g := stm 39) y.Aa base fun q hq ρ => qk0 39 q (hok.2.2 q hq) ρ
   rw [qky] at hw
   rw [hC, q, qAz, qA0 (by simp), hw, qAz, qaa (by constructor <;> omega)]
   exact ⟨_, rfl⟩
theorem qsy {n : Nat} {y : M} {ρ : Env} (h : PrF y ρ) (hok : Ok 40 y) (hn : 2000100 ≤ n) (hv : Jah n y = some true) : JbI n y = some (foldW (Rt.wS 39) (stm 39) base y.Aa + 1, none) := by
 have hC := qd2 (d := 39) (n := n) hok (by omega) (by omega) hv
 have hc := h.c
 have bd := h.w
 have hw := qfj 39 n y.Aa [] ρ h.g hok.2.1 (by omega) (by simp only [List.length_nil]; omega) (by omega) h.s
 rw [qky] at hw
 rw [qA1 rfl] at hC
 unfold qwc at hC
 unfold JbI
 rw [hC, h.s, qAz, qA0 (by simp), hw, qAz, qaa (by constructor <;> omega)]
theorem qyo {n : Nat} {i : In2} {most : Int} {y : M} {ρ : Env} {o : Err × WSt} (hI : IOK i) (h : PrF y ρ) (hn : 2000100 ≤ n) (hm : foldW (Rt.wS 39) (stm 39) base y.Aa + 1 ≤ most) (ho : evL (evS (inp i) 39) [] (b0 i) y.Aa = o) :
  (∀ e, o.1 = some e → JaM n (Rc.prog 39 y.Aa) (inp i) most = some (zR, some e)) ∧ (o.1 = none → ∃ t, 1 ≤ t ∧ t ≤ foldW (Rt.wS 39) (stm 39) base y.Aa + 1 ∧ JaM n (Rc.prog 39 y.Aa) (inp i) most = some (stp o.2.1 t, none) ∧
   (∀ m2, t ≤ m2 → JaM n (Rc.prog 39 y.Aa) (inp i) m2 = some (stp o.2.1 t, none)) ∧ ∀ m2, m2 < t → JaM n (Rc.prog 39 y.Aa) (inp i) m2 = some (zR, some 13)) := by
 obtain ⟨g, eg⟩ := h.d
 have hl := h.l
 have R := fun most => qv3 (n := n) (most := most) (by omega) (by omega) h.i hI eg
 obtain ⟨p1, p2⟩ := qsw hI h.g h.s h.c h.l hm ho
 refine ⟨fun e he => by rw [R, p1 e he], fun hn => ?_⟩
 obtain ⟨t, t1, t2, t3⟩ := p2 hn
 refine ⟨t, t1, t2, by rw [R, t3], fun m2 h2 => ?_, fun m2 h2 => ?_⟩
 ·have := (qi1 (M := m2) 2101 0 (m0 i most) _ t3).2.1 h2
  rw [R]
  exact congrArg some this
 ·rw [R]
  by_cases h0 : 0 ≤ m2
  ·have := (qi1 (M := m2) 2101 0 (m0 i most) _ t3).2.2 h0 h2
   exact congrArg some this
  ·have hx : ∃ x, (Rc.prog 39 y.Aa)[0]? = some x := by
    unfold Rc.prog
    cases hc : (Rc.foldC (Rc.cS 39) (fun _ => none) 0 0 y.Aa).1 with
    | nil => exact ⟨_, rfl⟩
    | cons a l => exact ⟨_, rfl⟩
   obtain ⟨x, hx⟩ := hx
   refine congrArg some ?_
   refine qm2 hx ?_
   unfold stepP
   rw [qA1 (by show (0 : Int) + 1 > m2; omega)]
theorem qzy : ROK 0 zR := ⟨⟨Nat.le_refl _, (fun x hx => by cases hx)⟩, Nat.le_refl _, Nat.le_refl _⟩
end Rt.Rv
