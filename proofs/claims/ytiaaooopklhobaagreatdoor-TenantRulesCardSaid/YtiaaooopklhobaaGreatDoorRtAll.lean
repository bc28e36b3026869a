import Derived.Test.YtiaaooopklhobaaGreatDoorR
import Derived.Test.YtiaaooopklhobaaGreatDoorPlain
import Derived.Test.YtiaaooopklhobaaGreatDoorLT
import Derived.KernelRfl
set_option linter.unusedVariables false
set_option linter.unusedSimpArgs false
open Go Go.SL Go.Proofs Pl
namespace Rt
theorem el_go {ρ σ γ : Type} {y : σ} {f : ρ → Option γ} {g : σ → Option γ} : (Fl.go y : Fl ρ σ).el f g = g y := rfl
theorem qpf {ρ σ γ : Type} {y : ρ} {f : ρ → Option γ} {g : σ → Option γ} : (Fl.ret y : Fl ρ σ).el f g = f y := rfl
theorem qdq (s p : Str) : JA s p = some (decide ((s.length : Int) ≥ (p.length : Int)) && decide (subL s (0 : Int) (p.length : Int) = p)) := by
 unfold JA JV
 by_cases h : (s.length : Int) ≥ (p.length : Int)
 ·rw [qun (by simpa using h), qak (by omega)]; simp [h]
 ·rw [qum (by simpa using h)]
  have : ¬ p.length ≤ s.length := by omega
  simp [this]
def isL (c : UInt8) : Bool := (decide ((c.toNat : Int) ≥ 97) && decide ((c.toNat : Int) ≤ 122)) || decide ((c.toNat : Int) = 95)
def isD (c : UInt8) : Bool := decide ((c.toNat : Int) ≥ 48) && decide ((c.toNat : Int) ≤ 57)
def isA (c : UInt8) : Bool := isL c || isD c
def tw (p : UInt8 → Bool) (s : Str) (i : Nat) : Int := ((i + ((s.drop i).takeWhile p).length : Nat) : Int)
theorem qqk {p : UInt8 → Bool} {s : Str} {i : Nat} (h : s.length ≤ i) : tw p s i = i := by
 unfold tw; rw [List.drop_eq_nil_of_le h]; rfl
theorem qs3 {p : UInt8 → Bool} {s : Str} {i : Nat} (h : i < s.length) (hp : p s[i] = true) : tw p s i = tw p s (i + 1) := by
 unfold tw; rw [List.drop_eq_getElem_cons h, List.takeWhile_cons, qun hp, List.length_cons]; omega
theorem qs4 {p : UInt8 → Bool} {s : Str} {i : Nat} (h : i < s.length) (hp : p s[i] = false) : tw p s i = i := by
 unfold tw; rw [List.drop_eq_getElem_cons h, List.takeWhile_cons, qum (by rw [hp]; simp)]; rfl
theorem ixn {α : Type} {s : List α} {i : Nat} (h : i < s.length) : ix s (i : Int) = some s[i] := by
 unfold ix; rw [qun (by omega)]; exact List.getElem?_eq_getElem h
theorem qrt {s : Str} (hs : s.length ≤ 5000) : ∀ (n i : Nat), i ≤ s.length → s.length - i < n → Jbk s n (i : Int) = some (tw isA s i)
 | 0, i, h1, h2 => by omega
 | n + 1, i, h1, h2 => by
  rw [Jbk]
  by_cases hi : i < s.length
  ·rw [qun (by simpa using hi), ixn hi, qul, show Ja9 s[i] = some (isL s[i]) from rfl, qul]
   have e : (if isL s[i] = true then some true else (some s[i]).bind fun x28 => (Jba x28).bind fun x29 => some x29) = some (isA s[i]) := by
    unfold isA
    cases q : isL s[i] <;> simp [q, Jba, isD]
   rw [e, qul]
   cases q : isA s[i] with
   | true =>
    rw [qun rfl, qak (by constructor <;> omega), qs3 hi q, show ((i : Int) + 1) = ((i + 1 : Nat) : Int) from by omega]
    exact qrt hs n (i + 1) (by omega) (by omega)
   | false => rw [qum (by simp), qs4 hi q]
  ·rw [qum (by simpa using hi), qqk (by omega)]
theorem qmt (p : UInt8 → Bool) : ∀ t : Str, t.take (t.takeWhile p).length = t.takeWhile p
 | [] => rfl
 | c :: t => by
  rw [List.takeWhile_cons]
  cases q : p c with
  | true => rw [qun rfl, List.length_cons, List.take_succ_cons, qmt p t]
  | false => rw [qum (by simp)]; rfl
theorem qru (p : UInt8 → Bool) : ∀ t : Str, (t.takeWhile p).length ≤ t.length
 | [] => by simp
 | c :: t => by
  rw [List.takeWhile_cons]
  have := qru p t
  cases q : p c <;> simp <;> omega
theorem tw1 (p : UInt8 → Bool) (c : UInt8) (t : Str) : tw p (c :: t) 1 = ((t.takeWhile p).length : Int) + 1 := by
 unfold tw; rw [List.drop_succ_cons, List.drop_zero]; omega
theorem qrv (p : UInt8 → Bool) (c : UInt8) (t : Str) : subL (c :: t) (0 : Int) (((t.takeWhile p).length : Int) + 1) = c :: t.takeWhile p := by
 unfold subL
 rw [show ((((t.takeWhile p).length : Int) + 1) - 0).toNat = (t.takeWhile p).length + 1 from by omega, show ((0 : Int)).toNat = 0 from rfl, List.drop_zero, List.take_succ_cons, qmt]
theorem qon {n : Nat} {c : UInt8} {t : Str} (hn : 10000 ≤ n) (hs : (c :: t).length ≤ 5000) (hc : isL c = true) : Jap n (c :: t) = some (1, ((t.takeWhile isA).length : Int) + 1, c :: t.takeWhile isA) := by
 have := qru isA t
 simp only [List.length_cons] at hs
 unfold Jap
 rw [show ix (c :: t) 0 = some c from rfl, qul, show Ja9 c = some (isL c) from rfl, qul, hc, qun rfl, show (1 : Int) = ((1 : Nat) : Int) from rfl, qrt (by simp; omega) n 1 (by simp) (by simp; omega), qul, tw1, qak (by simp only [List.length_cons]; omega), qrv]
 rfl
def wdy : Str → Bool
 | [] => false
 | c :: t => isL c && t.all isA
def nmr : Str → Bool
 | [] => false
 | c :: t => isD c && t.all isD && decide (t.length ≤ 8)
def Tk (k : Int) (w : Str) : Prop := (k = 1 → wdy w = true) ∧ (k = 2 → nmr w = true)
def prt (s : Str) : Bool := s.all fun c => !(decide ((c.toNat : Int) < 32) || decide ((c.toNat : Int) > 126))
theorem qih (c : UInt8) (s : Str) : prt (c :: s) = (!(decide ((c.toNat : Int) < 32) || decide ((c.toNat : Int) > 126)) && prt s) := by simp [prt]
theorem qoo (c : UInt8) : (if decide ((c.toNat : Int) < 32) = true then some true else some (decide ((c.toNat : Int) > 126))) = some (decide ((c.toNat : Int) < 32) || decide ((c.toNat : Int) > 126)) := by
 cases decide ((c.toNat : Int) < 32) <;> simp
theorem qop (c : UInt8) : (if decide ((c.toNat : Int) = 34) = true then some true else some (decide ((c.toNat : Int) = 92))) = some (decide ((c.toNat : Int) = 34) || decide ((c.toNat : Int) = 92)) := by
 cases decide ((c.toNat : Int) = 34) <;> simp
theorem qdw : ∀ (s : Str) (i : Nat) (y : Str), y.length + 2 * s.length ≤ 1000000 → ∃ r, Ja3 s i y = some r ∧ (prt s = true → ∃ z, r = Fl.go z ∧ z.length ≤ 1000000) ∧ (prt s = false → r = Fl.ret ([], some 2))
 | [], i, y, h => ⟨_, rfl, fun _ => ⟨_, rfl, by simpa using h⟩, fun h => (by simp [prt] at h)⟩
 | c :: s, i, y, h => by
  simp only [List.length_cons] at h
  rw [Ja3, qoo, qul, qih]
  cases q : (decide ((c.toNat : Int) < 32) || decide ((c.toNat : Int) > 126)) with
  | true => exact ⟨_, qun rfl, fun h => (by simp at h), fun _ => rfl⟩
  | false =>
   rw [qum (by simp), qop, qul, Bool.not_false, Bool.true_and]
   cases q2 : (decide ((c.toNat : Int) = 34) || decide ((c.toNat : Int) = 92)) with
   | true =>
    rw [qun rfl, qak (by simp only [lim, List.length_cons, List.length_nil]; omega), qak (by simp only [lim, List.length_append, List.length_cons, List.length_nil]; omega)]
    exact qdw s (i + 1) _ (by simp only [List.length_append, List.length_cons, List.length_nil]; omega)
   | false =>
    rw [qum (by simp), qak (by simp only [lim, List.length_cons, List.length_nil]; omega)]
    exact qdw s (i + 1) _ (by simp only [List.length_append, List.length_cons, List.length_nil]; omega)
theorem qjc {s : Str} (h : s.length ≤ 4200) : JN s = some (prt s) := by
 obtain ⟨r, hr, g1, g2⟩ := qdw s 0 [34] (by simp <;> omega)
 unfold JN Jcl
 rw [qak (by simp only [qa7]; omega), hr, qul]
 cases q : prt s with
 | false => rw [g2 q, qpf]; rfl
 | true =>
  obtain ⟨z, rfl, hz⟩ := g1 q
  rw [el_go, qak (by simp only [lim, List.length_cons, List.length_nil]; omega)]; rfl
def Ty (t : Int) : Prop := t = 1 ∨ t = 2 ∨ t = 3
def QQ (o : Option Int) : Prop := ∀ t, o = some t → t = 0 ∨ Ty t
theorem QQ.bind {α : Type} {o : Option α} {f : α → Option Int} (h : ∀ a, QQ (f a)) : QQ (o.bind f) := fun t ht => by
 cases o with
 | none => cases ht
 | some a => exact h a t ht
theorem QQ.z : QQ (some 0) := fun t h => by cases h; exact .inl rfl
end Rt
namespace Rt.Rc
abbrev I := Jg
abbrev S8 := JaS
def wl (W : S8) : List Int := [W.f0, W.f1, W.f2, W.f3, W.f4, W.f5, W.f6, W.f7]
def hp (s p : Str) : Bool := decide (s.length ≥ p.length) && decide (s.take p.length = p)
theorem rprint {s : Str} (h : s.length ≤ 100000) : JaZ s = some (prt s) := by
 obtain ⟨r, hr, g1, g2⟩ := qdw s 0 [34] (by simp <;> omega)
 unfold JaZ Jcl
 rw [qak (by simp only [qa7]; omega), hr, qul]
 cases q : prt s with
 | false => rw [g2 q, qpf]; rfl
 | true =>
  obtain ⟨z, rfl, hz⟩ := g1 q
  rw [el_go, qak (by simp only [lim, List.length_cons, List.length_nil]; omega)]; rfl
def Asc (l : List Int) : Prop := l.Pairwise (· < ·)
structure SL (l : List Int) (σ : Int → Bool) : Prop where
 asc : Asc l
 rng : ∀ n ∈ l, 0 ≤ n ∧ n ≤ 511
 mem : ∀ n : Int, 0 ≤ n → n ≤ 511 → (n ∈ l ↔ σ n = true)
end Rt.Rc
namespace Vary
abbrev RF := Jez
def lowB (c : UInt8) : UInt8 := if (decide ((c.toNat : Int) ≥ 65) && decide ((c.toNat : Int) ≤ 90)) then c + 32 else c
def low (s : Str) : Str := s.map lowB
theorem qjd {α : Type} (p r : List α) (c : α) : ix (p ++ c :: r) (p.length : Int) = some c := by
 unfold ix
 rw [qun (by omega)]
 simp
theorem qql {α : Type} (p r : List α) (c v : α) : (p ++ c :: r).set (((p.length : Nat) : Int).toNat) v = (p ++ [v]) ++ r := by
 simp [List.set_append]
theorem qje : ∀ (r p : Str), Jbc r.length p.length (p ++ r) = some (p ++ low r)
 | [], p => by simp [Jbc, low]
 | c :: r, p => by
  rw [List.length_cons, Jbc, qjd, qul]
  have ih := qje r (p ++ [lowB c])
  simp only [List.length_append, List.length_cons, List.length_nil, Nat.zero_add] at ih
  have e : p ++ low (c :: r) = p ++ [lowB c] ++ low r := by simp [low]
  split
  ·rename_i h
   rw [qul, qql, e]
   rw [show c + 32 = lowB c from by unfold lowB; rw [qun h]]
   exact ih
  ·rename_i h
   rw [e, show p ++ c :: r = p ++ [lowB c] ++ r from by unfold lowB; rw [qum h]; simp]
   exact ih
theorem qmu {s : Str} (h : s.length ≤ 1073741824) : JaX s = some (low s) := by
 unfold JaX
 rw [qak (by simp only [lim]; omega), qak (by constructor <;> omega)]
 have := qje s []
 simp only [List.nil_append, List.length_nil] at this
 rw [show ((s.length : Int)).toNat = s.length from by omega, this]; rfl
def qt4 (f : List RF) (n : Str) : List Str := (f.filter fun x => decide (low x.Name = low n)).map (·.Value)
def isB (c : UInt8) : Bool := decide ((c.toNat : Int) = 32) || decide ((c.toNat : Int) = 9)
def cl (c : UInt8) : UInt8 := if (decide ((c.toNat : Int) < 32) || decide ((c.toNat : Int) = 127)) then 63 else c
def rel (y : Str) (b : Bool) : Str := if (b && decide ((y.length : Int) > 0)) then y ++ [32] else y
def nst (p : Str × Bool) (c : UInt8) : Str × Bool := if isB c then (p.1, true) else (rel p.1 p.2 ++ [cl c], false)
def quc (s : Str) : Str := (s.foldl nst ([], false)).1
abbrev jn := Go.Lib.join
def esc (c : UInt8) : Str := if (decide ((c.toNat : Int) = 34) || decide ((c.toNat : Int) = 92)) then [92, c] else [c]
def quo (s : Str) : Str := [34] ++ s.flatMap esc ++ [34]
theorem el_go {ρ σ γ : Type} {y : σ} {f : ρ → Option γ} {g : σ → Option γ} : (Fl.go y : Fl ρ σ).el f g = g y := rfl
def qud (f : List RF) (m : Str) : Str := if qt4 f m = [] then m else m ++ [61] ++ quo (jn ((qt4 f m).map quc) [44])
def key (names : List Str) (f : List RF) : Str := jn (names.map (qud f)) [38]
end Vary
open Go Go.SL Go.Proofs Pl Vary
namespace Rt.Rv
def hd (p : Str) : List Str → List Str
 | [] => [p]
 | x :: r => (p ++ x) :: r
def spl (c : UInt8) : Str → List Str
 | [] => [[]]
 | b :: s => if b = c then [] :: spl c s else hd [b] (spl c s)
theorem qpg (c : UInt8) (s : Str) : spl c s ≠ [] := by
 cases s with
 | nil => simp [spl]
 | cons b s =>
  rw [spl]
  split
  ·simp
  ·cases spl c s <;> simp [hd]
theorem qkc (c b : UInt8) (l : Str) : ([c] : Str).isPrefixOf (b :: l) = (c == b) := by simp [List.isPrefixOf]
theorem qhy (c : UInt8) (l : Str) : Go.Lib.index (c :: l) [c] = 0 := by rw [Go.Lib.index, qun (by simp [List.isPrefixOf])]
theorem qf5 {c b : UInt8} (h : b ≠ c) (l : Str) : Go.Lib.index (b :: l) [c] = if Go.Lib.index l [c] = -1 then -1 else Go.Lib.index l [c] + 1 := by
 have : (c == b) = false := by simp; exact fun e => h e.symm
 rw [Go.Lib.index, qkc, this]
 simp
theorem qii {b c : UInt8} (h : b ≠ c) (k : Nat) (l : Str) : Go.Lib.splitK [c] 0 k (b :: l) = hd [b] (Go.Lib.splitK [c] 0 k l) := by
 cases k with
 | zero => rfl
 | succ k =>
  have hg := Go.Lib.index_ge l [c]
  rw [Go.Lib.splitK, Go.Lib.splitK, qf5 h]
  by_cases q : Go.Lib.index l [c] = -1
  ·rw [q]; simp [hd]
  ·rw [qum q]
   have e : (Go.Lib.index l [c] + 1).toNat = (Go.Lib.index l [c]).toNat + 1 := by omega
   rw [qum (by simp; omega), qum (by simpa using q), e]
   simp [hd, Nat.add_right_comm]
theorem qff (c : UInt8) : ∀ s : Str, Go.Lib.split s [c] = spl c s
 | [] => by unfold Go.Lib.split; rw [Go.Lib.count_one]; rfl
 | b :: l => by
  have ih := qff c l
  unfold Go.Lib.split at ih ⊢
  rw [spl]
  by_cases q : b = c
  ·subst q
   rw [qun rfl, Go.Lib.count_cons_eq, Nat.add_comm, Go.Lib.splitK, qhy, qum (by decide), ← ih]
   simp
  ·rw [qum q, Go.Lib.count_cons_ne b c l q, qii q, ih]
theorem index_spl (c : UInt8) : ∀ s : Str, (Go.Lib.index s [c] = -1 ∧ spl c s = [s] ∧ c ∉ s) ∨ (∃ i : Nat, Go.Lib.index s [c] = i ∧ i < s.length ∧ spl c s = s.take i :: spl c (s.drop (i + 1)))
 | [] => .inl ⟨rfl, rfl, by simp⟩
 | b :: l => by
  by_cases q : b = c
  ·subst q
   exact .inr ⟨0, qhy _ _, by simp, by rw [spl, qun rfl]; simp⟩
  ·rcases index_spl c l with ⟨h1, h2, h3⟩ | ⟨i, h1, h2, h3⟩
   ·exact .inl ⟨by rw [qf5 q, qun h1], by rw [spl, qum q, h2]; rfl, by simp [h3]; exact fun e => q e.symm⟩
   ·refine .inr ⟨i + 1, by rw [qf5 q, h1, qum (by omega)]; omega, by simp; omega, ?_⟩
    rw [spl, qum q, h3]
    simp [hd]
theorem qfg : qi9 = 4294967281 := rfl
theorem qjf {s : Str} (c : UInt8) (h : s.length ≤ 1000000) : qd9 s [c] = some (spl c s) := by
 unfold qd9
 rw [qun ⟨by rw [qfg]; omega, by simp⟩, qff]
theorem cut_spl (c : UInt8) (s : Str) : (Go.Lib.cut s [c] = (s, [], false) ∧ spl c s = [s]) ∨ (∃ i : Nat, i < s.length ∧ Go.Lib.cut s [c] = (s.take i, s.drop (i + 1), true) ∧ spl c s = s.take i :: spl c (s.drop (i + 1))) := by
 unfold Go.Lib.cut
 rcases index_spl c s with ⟨h1, h2, _⟩ | ⟨i, h1, h2, h3⟩
 ·left; rw [h1]; exact ⟨by simp, h2⟩
 ·right; rw [h1]; exact ⟨i, h2, by simp, h3⟩
def nst (n : Int) (c : UInt8) : Int := 10 * n + ((c - (48 : UInt8)).toNat : Int)
abbrev V1 := Jk
abbrev In2 := JeA
def tr' (b : Bool) : V1 := ⟨3, 0, [], b⟩
abbrev R1 := Jp
abbrev I := Rt.Rc.I
abbrev WSt := R1 × Bool
def b0 (i : In2) : WSt := (⟨i.Ae, i.Af, [], [], [], -1, 0, 0, false, false⟩, false)
def BC (v : V1) : Prop := v.kind = 3 → v = tr' v.As
def OB (o : Option (V1 × Bool)) : Prop := ∀ r, o = some r → BC r.1
theorem OB.bind {α : Type} {o : Option α} {f : α → Option (V1 × Bool)} (h : ∀ a, o = some a → OB (f a)) : OB (o.bind f) := fun t ht => by
 cases o with
 | none => cases ht
 | some a => exact h a rfl t ht
theorem OB.z {b : Bool} : OB (some ((⟨0, 0, ([] : Str), false⟩ : V1), b)) := fun r h e => by cases h; cases e
def PB (o : Option V1) : Prop := ∀ r, o = some r → BC r
theorem PB.bind {α : Type} {o : Option α} {f : α → Option V1} (h : ∀ a, PB (f a)) : PB (o.bind f) := fun t ht => by
 cases o with
 | none => cases ht
 | some a => exact h a t ht
end Rt.Rv
namespace Tn
def hd (p : Str) : List Str → List Str
 | [] => [p]
 | x :: r => (p ++ x) :: r
def spl (c : UInt8) : Str → List Str
 | [] => [[]]
 | b :: s => if b = c then [] :: spl c s else hd [b] (spl c s)
theorem qpg (c : UInt8) (s : Str) : spl c s ≠ [] := by
 cases s with
 | nil => simp [spl]
 | cons b s =>
  rw [spl]
  split
  ·simp
  ·cases spl c s <;> simp [hd]
theorem qkc (c b : UInt8) (l : Str) : ([c] : Str).isPrefixOf (b :: l) = (c == b) := by simp [List.isPrefixOf]
theorem qhy (c : UInt8) (l : Str) : Go.Lib.index (c :: l) [c] = 0 := by rw [Go.Lib.index, qun (by simp [List.isPrefixOf])]
theorem qf5 {c b : UInt8} (h : b ≠ c) (l : Str) : Go.Lib.index (b :: l) [c] = if Go.Lib.index l [c] = -1 then -1 else Go.Lib.index l [c] + 1 := by
 have : (c == b) = false := by simp; exact fun e => h e.symm
 rw [Go.Lib.index, qkc, this]
 simp
theorem qii {b c : UInt8} (h : b ≠ c) (k : Nat) (l : Str) : Go.Lib.splitK [c] 0 k (b :: l) = hd [b] (Go.Lib.splitK [c] 0 k l) := by
 cases k with
 | zero => rfl
 | succ k =>
  have hg := Go.Lib.index_ge l [c]
  rw [Go.Lib.splitK, Go.Lib.splitK, qf5 h]
  by_cases q : Go.Lib.index l [c] = -1
  ·rw [q]; simp [hd]
  ·rw [qum q]
   have e : (Go.Lib.index l [c] + 1).toNat = (Go.Lib.index l [c]).toNat + 1 := by omega
   rw [qum (by simp; omega), qum (by simpa using q), e]
   simp [hd, Nat.add_right_comm]
theorem qff (c : UInt8) : ∀ s : Str, Go.Lib.split s [c] = spl c s
 | [] => by unfold Go.Lib.split; rw [Go.Lib.count_one]; rfl
 | b :: l => by
  have ih := qff c l
  unfold Go.Lib.split at ih ⊢
  rw [spl]
  by_cases q : b = c
  ·subst q
   rw [qun rfl, Go.Lib.count_cons_eq, Nat.add_comm, Go.Lib.splitK, qhy, qum (by decide), ← ih]
   simp
  ·rw [qum q, Go.Lib.count_cons_ne b c l q, qii q, ih]
theorem index_spl (c : UInt8) : ∀ s : Str, (Go.Lib.index s [c] = -1 ∧ spl c s = [s] ∧ c ∉ s) ∨ (∃ i : Nat, Go.Lib.index s [c] = i ∧ i < s.length ∧ spl c s = s.take i :: spl c (s.drop (i + 1)))
 | [] => .inl ⟨rfl, rfl, by simp⟩
 | b :: l => by
  by_cases q : b = c
  ·subst q
   exact .inr ⟨0, qhy _ _, by simp, by rw [spl, qun rfl]; simp⟩
  ·rcases index_spl c l with ⟨h1, h2, h3⟩ | ⟨i, h1, h2, h3⟩
   ·exact .inl ⟨by rw [qf5 q, qun h1], by rw [spl, qum q, h2]; rfl, by simp [h3]; exact fun e => q e.symm⟩
   ·refine .inr ⟨i + 1, by rw [qf5 q, h1, qum (by omega)]; omega, by simp; omega, ?_⟩
    rw [spl, qum q, h3]
    simp [hd]
theorem qfg : qi9 = 4294967281 := rfl
theorem qjf {s : Str} (c : UInt8) (h : s.length ≤ 1000000) : qd9 s [c] = some (spl c s) := by
 unfold qd9
 rw [qun ⟨by rw [qfg]; omega, by simp⟩, qff]
theorem cut_spl (c : UInt8) (s : Str) : (Go.Lib.cut s [c] = (s, [], false) ∧ spl c s = [s]) ∨ (∃ i : Nat, i < s.length ∧ Go.Lib.cut s [c] = (s.take i, s.drop (i + 1), true) ∧ spl c s = s.take i :: spl c (s.drop (i + 1))) := by
 unfold Go.Lib.cut
 rcases index_spl c s with ⟨h1, h2, _⟩ | ⟨i, h1, h2, h3⟩
 ·left; rw [h1]; exact ⟨by simp, h2⟩
 ·right; rw [h1]; exact ⟨i, h2, by simp, h3⟩
theorem qlp {P : UInt8 → Prop} (h : ∀ n : Fin 256, P (UInt8.ofNat n.val)) (c : UInt8) : P c := by
 have := h ⟨c.toNat, c.toNat_lt⟩
 simpa using this
noncomputable def unr (c : UInt8) : Bool := (JaY c).getD false
theorem qph (c : UInt8) : JaY c = some (unr c) := by
 unfold unr JaY JcF
 split
 ·rfl
 ·split <;> rfl
noncomputable def dgv (c : UInt8) : Int := (JbC c).getD 0
theorem qk4 : ∀ c : UInt8, JbC c = some (dgv c) := qlp (by unfold dgv; decide +kernel)
theorem qpi : ∀ c : UInt8, -1 ≤ dgv c ∧ dgv c ≤ 15 := qlp (by unfold dgv; decide +kernel)
noncomputable def okc (ot : Str) (c : UInt8) : Bool := unr c || !(decide (Go.Lib.indexByte ot c < 0))
def hexs : Str := [48, 49, 50, 51, 52, 53, 54, 55, 56, 57, 65, 66, 67, 68, 69, 70]
noncomputable def hx (a b : UInt8) : UInt8 := qdz (16 * dgv a + dgv b)
def enc (d : UInt8) : Str := [37, hexs.getD (d / 16).toNat 0, hexs.getD (d &&& 15).toNat 0]
theorem que : ∀ d : UInt8, ix hexs ((d / 16).toNat : Int) = some (hexs.getD (d / 16).toNat 0) := qlp (by decide +kernel)
theorem quf : ∀ d : UInt8, ix hexs ((d &&& 15).toNat : Int) = some (hexs.getD (d &&& 15).toNat 0) := qlp (by decide +kernel)
noncomputable def can (ot : Str) : Str → Option Str
 | [] => some []
 | c :: s => if c ≠ 37 then (if okc ot c = true then (can ot s).map (c :: ·) else none)
  else match s with
   | a :: b :: t => if dgv a < 0 ∨ dgv b < 0 then none
    else if (hx a b).toNat < 32 ∨ (hx a b).toNat = 127 then none
    else if unr (hx a b) = true then (can ot t).map (hx a b :: ·) else (can ot t).map (enc (hx a b) ++ ·)
   | _ => none
theorem qjg {ot s : Str} {c : UInt8} (h : c ≠ 37) (u : okc ot c = true) : can ot (c :: s) = (can ot s).map (c :: ·) := by
 rcases s with _ | ⟨a, _ | ⟨b, t⟩⟩ <;> rw [can.eq_def] <;> simp only [qun h, qun u]
theorem qmv {ot s : Str} {c : UInt8} (h : c ≠ 37) (u : ¬ okc ot c = true) : can ot (c :: s) = none := by
 rcases s with _ | ⟨a, _ | ⟨b, t⟩⟩ <;> rw [can.eq_def] <;> simp only [qun h, qum u]
theorem qmw {ot : Str} : can ot [37] = none := by rw [can.eq_def]; rfl
theorem qmx {ot : Str} {a : UInt8} : can ot [37, a] = none := by rw [can.eq_def]; rfl
theorem qkd {ot t : Str} {a b : UInt8} (h : dgv a < 0 ∨ dgv b < 0) : can ot (37 :: a :: b :: t) = none := by rw [can, qum (by decide)]; rw [qun h]
theorem qmy {ot t : Str} {a b : UInt8} (h : ¬ (dgv a < 0 ∨ dgv b < 0)) (w : (hx a b).toNat < 32 ∨ (hx a b).toNat = 127) : can ot (37 :: a :: b :: t) = none := by rw [can, qum (by decide)]; rw [qum h, qun w]
theorem qmz {ot t : Str} {a b : UInt8} (h : ¬ (dgv a < 0 ∨ dgv b < 0)) (w : ¬ ((hx a b).toNat < 32 ∨ (hx a b).toNat = 127)) (u : unr (hx a b) = true) : can ot (37 :: a :: b :: t) = (can ot t).map (hx a b :: ·) := by rw [can, qum (by decide)]; rw [qum h, qum w, qun u]
theorem qm0 {ot t : Str} {a b : UInt8} (h : ¬ (dgv a < 0 ∨ dgv b < 0)) (w : ¬ ((hx a b).toNat < 32 ∨ (hx a b).toNat = 127)) (u : ¬ unr (hx a b) = true) : can ot (37 :: a :: b :: t) = (can ot t).map (enc (hx a b) ++ ·) := by rw [can, qum (by decide)]; rw [qum h, qum w, qum u]
noncomputable def canR (y : Str) (k : Int) : Option Str → Fl (Str × Bool) (Str × Int)
 | none => .ret ([], false)
 | some r => .go (y ++ r, k)
theorem qoq (y p : Str) (k : Int) (o : Option Str) : canR y k (o.map (p ++ ·)) = canR (y ++ p) k o := by cases o <;> simp [canR]
theorem qjh (y : Str) (c : UInt8) (k : Int) (o : Option Str) : canR y k (o.map (c :: ·)) = canR (y ++ [c]) k o := by cases o <;> simp [canR]
theorem qs5 {α : Type} {l : List α} {i : Nat} (h : i < l.length) : ix l (i : Int) = some l[i] := by
 unfold ix; rw [qun (by omega), Int.toNat_natCast, List.getElem?_eq_getElem h]
set_option maxRecDepth 100000 in
theorem qk5 {s ot : Str} (hs : s.length ≤ 100000) : ∀ (f p : Nat) (y : Str), p ≤ s.length → s.length - p < f → y.length + 3 * (s.length - p) ≤ 1000000 → Jal s ot f y (p : Int) = some (canR y (s.length : Int) (can ot (s.drop p)))
 | 0, p, y, _, h, _ => by omega
 | f + 1, p, y, hp, hf, hy => by
  generalize hR : can ot (s.drop p) = R
  rw [Jal]
  by_cases q : p < s.length
  ·rw [List.drop_eq_getElem_cons q] at hR
   rw [qun (by simpa using q), qs5 q, qul]
   generalize hc : s[p] = c at hR ⊢
   by_cases q37 : c = 37
   ·subst q37
    rw [qum (by simp), qak (by constructor <;> omega)]
    by_cases q2 : p + 2 < s.length
    ·have e1 : ix s ((p : Int) + 1) = some s[p + 1] := by rw [show (p : Int) + 1 = ((p + 1 : Nat) : Int) by omega]; exact qs5 _
     have e2 : ix s ((p : Int) + 2) = some s[p + 2] := by rw [show (p : Int) + 2 = ((p + 2 : Nat) : Int) by omega]; exact qs5 _
     have ed : s.drop (p + 1) = s[p + 1] :: s[p + 2] :: s.drop (p + 3) := by rw [List.drop_eq_getElem_cons (by omega : p + 1 < s.length), List.drop_eq_getElem_cons (by omega : p + 1 + 1 < s.length)]
     rw [ed] at hR
     rw [e1, e2]
     generalize s[p + 1] = a at hR ⊢
     generalize s[p + 2] = b at hR ⊢
     have ha := qpi a
     have hb := qpi b
     rw [qum (by simp; omega), qak (by constructor <;> omega), qul, qk4 a, qul, qul]
     by_cases da : dgv a < 0
     ·rw [qkd (.inl da)] at hR
      rw [qun (by simpa using da), qul, qul, qun rfl, ← hR]; rfl
     rw [qum (by simpa using da), qak (by constructor <;> omega), qul, qk4 b, qul, qul, qul]
     by_cases db : dgv b < 0
     ·rw [qkd (.inr db)] at hR
      rw [qun (by simpa using db), ← hR]; rfl
     have dd : ¬ (dgv a < 0 ∨ dgv b < 0) := by omega
     rw [qum (by simpa using db), qak (by constructor <;> omega), qul, qk4 a, qul, qak (by constructor <;> omega), qak (by constructor <;> omega), qul, qk4 b, qul, qak (by constructor <;> omega), qak (by constructor <;> omega)]
     rw [show qdz (16 * dgv a + dgv b) = hx a b from rfl]
     by_cases w : (hx a b).toNat < 32 ∨ (hx a b).toNat = 127
     ·rw [qmy dd w] at hR
      rw [qun (by simp; omega), ← hR]; rfl
     rw [qum (by simp; omega), qph, qul]
     by_cases u : unr (hx a b) = true
     ·rw [qmz dd w u] at hR
      rw [qun u, qak (by simp only [lim, List.length_singleton]; omega), qak (by constructor <;> omega), show ((p : Int) + 2) + 1 = ((p + 3 : Nat) : Int) by omega,
       qk5 hs f (p + 3) _ (by omega) (by omega) (by simp only [List.length_append, List.length_singleton]; omega), ← hR, qjh]
     ·rw [qm0 dd w u] at hR
      rw [qum u, show ([48, 49, 50, 51, 52, 53, 54, 55, 56, 57, 65, 66, 67, 68, 69, 70] : Str) = hexs from rfl, que, qul, quf, qul, qak (by simp only [lim, List.length_cons, List.length_nil]; omega), qak (by constructor <;> omega), show ((p : Int) + 2) + 1 = ((p + 3 : Nat) : Int) by omega,
       qk5 hs f (p + 3) _ (by omega) (by omega) (by simp only [List.length_append, List.length_cons, List.length_nil]; omega), ← hR, qoq]; rfl
    ·have hn : R = none := by
      have hl : (s.drop (p + 1)).length ≤ 1 := by rw [List.length_drop]; omega
      rw [← hR]
      cases h : s.drop (p + 1) with
      | nil => exact qmw
      | cons a t =>
       rw [h] at hl
       cases t with
       | nil => exact qmx
       | cons b t => simp at hl
     rw [qun (by simp; omega), qul, qun rfl, qul, qul, qun rfl, hn]; rfl
   ·have q37' : (c.toNat : Int) ≠ 37 := fun e => q37 (UInt8.toNat_inj.1 (by show c.toNat = 37; omega))
    rw [qun (by simpa using q37'), qph, qul]
    have eo : ((if (!unr c) = true then (ixByteM ot c).bind fun x26 => some (decide (x26 < 0)) else some false) : Option Bool) = some (!okc ot c) := by
     unfold okc ixByteM
     cases unr c <;> simp
    rw [eo, qul]
    by_cases u : okc ot c = true
    ·rw [qjg q37 u] at hR
     rw [qum (by simp [u]), qak (by simp only [lim, List.length_singleton]; omega), qak (by constructor <;> omega), show (p : Int) + 1 = ((p + 1 : Nat) : Int) by omega,
      qk5 hs f (p + 1) _ (by omega) (by omega) (by simp only [List.length_append, List.length_singleton]; omega), ← hR, qjh]
    ·rw [qmv q37 u] at hR
     rw [qun (by simpa using u), ← hR]; rfl
  ·have : p = s.length := by omega
   subst this
   rw [List.drop_length, can] at hR
   rw [qum (by simp), ← hR]
   simp [canR]
theorem qpj {n : Nat} {s ot : Str} (hs : s.length ≤ 100000) (hn : s.length < n) : Jbt n s ot = some (match can ot s with | none => ([], false) | some r => (r, true)) := by
 unfold Jbt
 rw [show (0 : Int) = ((0 : Nat) : Int) from rfl, qk5 hs n 0 [] (by omega) (by omega) (by simp only [List.length_nil]; omega), qul, List.drop_zero]
 cases can ot s with
 | none => rfl
 | some r => rfl
theorem qqm {ot : Str} {c : UInt8} (h : unr c = true) : okc ot c = true := by unfold okc; rw [h]; rfl
def jn (c : UInt8) : List Str → Str
 | [] => []
 | [a] => a
 | a :: b :: l => a ++ c :: jn c (b :: l)
theorem qrw (c : UInt8) : ∀ l : List Str, Go.Lib.join l [c] = jn c l
 | [] => rfl
 | [a] => Go.Lib.join_one a [c]
 | a :: b :: l => by
  rw [jn, ← qrw c (b :: l)]
  simp [Go.Lib.join, List.intercalate]
def qs6 : Str := [46]
def qs7 : Str := [46, 46]
def dts : List Str → List Str → Option (List Str)
 | y, [] => some y
 | y, e :: r => if e = qs6 then (if r = [] then some (y ++ [[]]) else dts y r)
  else if e = qs7 then (if y = [] then none else if r = [] then some (y.dropLast ++ [[]]) else dts y.dropLast r)
  else dts (y ++ [e]) r
def nd (p : Str) : Prop := p ≠ qs6 ∧ p ≠ qs7
theorem qpk : ∀ (r y : List Str), (∀ p ∈ r, nd p) → dts y r = some (y ++ r)
 | [], y, _ => by rw [dts, List.append_nil]
 | e :: r, y, h => by
  have he := h e (by simp)
  rw [dts, qum he.1, qum he.2, qpk r _ fun p hp => h p (by simp [hp])]
  simp
def zAd : Je := ⟨[], [], [], false⟩
def dtF : Option (List Str) → Fl (Je × Err) (List Str)
 | none => .ret (zAd, some 27)
 | some z => .go z
theorem qk6 (x : List Str) (hx : x.length ≤ 100000) : ∀ (r : List Str) (i : Nat) (y : List Str), i + r.length = x.length → y.length ≤ i → JO x r i y = some (dtF (dts y r))
 | [], i, y, _, _ => by rw [JO, dts]; rfl
 | e :: r, i, y, hi, hy => by
  simp only [List.length_cons] at hi
  have el : decide ((i : Int) = ((x.length : Int) - 1)) = decide (r = []) := by
   rw [decide_eq_decide]
   constructor
   ·intro h; exact List.eq_nil_of_length_eq_zero (by omega)
   ·rintro rfl; simp only [List.length_nil] at hi; omega
  have c1 : InI ((x.length : Int) - 1) := by constructor <;> omega
  have c3 : InI ((y.length : Int) - 1) := by constructor <;> omega
  rw [JO, dts]
  by_cases q1 : e = qs6
  ·have q2 : ¬ e = ([46, 46] : Str) := by subst q1; decide
   have q1' : e = ([46] : Str) := q1
   rw [qun (by simpa using q1'), qum (by simpa using q2), qak c1, el, qun q1]
   by_cases q3 : r = []
   ·subst q3
    rw [qun (by simp), qun rfl, qak (by simp only [lim, List.length_singleton]; omega), JO]; rfl
   ·rw [qum (by simpa using q3), qum q3, qk6 x hx r (i + 1) y (by omega) (by omega)]
  ·have q1' : ¬ e = ([46] : Str) := q1
   rw [qum (by simpa using q1'), qum q1]
   by_cases q2 : e = qs7
   ·have q2' : e = ([46, 46] : Str) := q2
    rw [qun (by simpa using q2'), qun (by simpa using q2'), qun q2]
    by_cases q4 : y = []
    ·subst q4
     rw [qun (by simp), qun rfl]; rfl
    ·have hl : 0 < y.length := List.length_pos_iff.2 q4
     have es : subL y (0 : Int) ((y.length : Int) - 1) = y.dropLast := by
      rw [List.dropLast_eq_take, show ((y.length : Int) - 1) = ((y.length - 1 : Nat) : Int) by omega]
      simp [subL]
     have dl : y.dropLast.length = y.length - 1 := List.length_dropLast
     rw [qum (by simp; exact q4), qum q4, qak c3, qak (by omega), qak c1, el, es]
     by_cases q3 : r = []
     ·subst q3
      rw [qun (by simp), qun rfl, qak (by simp only [lim, List.length_singleton]; omega), JO]; rfl
     ·rw [qum (by simpa using q3), qum q3, qk6 x hx r (i + 1) _ (by omega) (by omega)]
   ·have q2' : ¬ e = ([46, 46] : Str) := q2
    rw [qum (by simpa using q2'), qum q2, qak (by simp only [lim, List.length_singleton]; omega), qk6 x hx r (i + 1) _ (by omega) (by simp only [List.length_append, List.length_singleton]; omega)]
theorem qpl {c : UInt8} {q : Str} : ∀ {p : Str}, c ∉ p → Go.Lib.index (p ++ c :: q) [c] = p.length
 | [], _ => qhy c q
 | b :: p, h => by
  rw [List.cons_append, qf5 (fun e => h (by simp [e])), qpl (fun e => h (by simp [e])), qum (by omega)]; simp
theorem qpm {c : UInt8} {p q : Str} (h : c ∉ p) : Go.Lib.cut (p ++ c :: q) [c] = (p, q, true) := by
 unfold Go.Lib.cut
 rw [qpl h]
 simp
theorem qm1 (c : UInt8) (s : Str) : (Go.Lib.cut s [c]).1.length ≤ s.length ∧ (Go.Lib.cut s [c]).2.1.length ≤ s.length ∧ ((Go.Lib.cut s [c]).2.2 = false → (Go.Lib.cut s [c]).2.1 = []) := by
 rcases cut_spl c s with ⟨h, _⟩ | ⟨i, _, h, _⟩
 ·rw [h]; simp
 ·rw [h]
  refine ⟨?_, ?_, fun e => by cases e⟩
  ·show (s.take i).length ≤ _
   rw [List.length_take]; omega
  ·show (s.drop (i + 1)).length ≤ _
   rw [List.length_drop]; omega
def oP : Str := [33, 36, 38, 39, 40, 41, 42, 43, 44, 59, 61, 58, 64, 47]
def oQ : Str := [33, 36, 38, 39, 40, 41, 42, 43, 44, 59, 61, 58, 64, 47, 63]
def txl (a : Je) : Nat := if a.HasQuery then a.An.length + a.Ae.length + 1 + a.Af.length else a.An.length + a.Ae.length
noncomputable def prs (h t : Str) : Je × Err :=
 if ((Go.Lib.cut t [63]).1).head? ≠ some 47 then (zAd, some 27)
 else match can oP (Go.Lib.cut t [63]).1, can oQ (Go.Lib.cut t [63]).2.1 with
  | some p, some q => match dts [] (spl 47 (p.drop 1)) with
   | none => (zAd, some 27)
   | some z => if txl ⟨h, 47 :: jn 47 z, q, (Go.Lib.cut t [63]).2.2⟩ > 1024 then (zAd, some 5) else (⟨h, 47 :: jn 47 z, q, (Go.Lib.cut t [63]).2.2⟩, none)
  | _, _ => (zAd, some 27)
theorem qrx : okc oP 47 = true := by unfold okc unr; decide +kernel
theorem qg2 {ot : Str} : ∀ (n : Nat) (s r : Str), s.length ≤ n → can ot s = some r → r.length ≤ s.length
 | n, [], r, _, h => by rw [can] at h; cases h; simp
 | 0, c :: s, r, hn, h => by simp at hn
 | n + 1, c :: s, r, hn, h => by
  simp only [List.length_cons] at hn ⊢
  by_cases q : c = 37
  ·subst q
   rcases s with _ | ⟨a, _ | ⟨b, t⟩⟩
   ·rw [qmw] at h; cases h
   ·rw [qmx] at h; cases h
   ·simp only [List.length_cons] at hn ⊢
    by_cases dd : dgv a < 0 ∨ dgv b < 0
    ·rw [qkd dd] at h; cases h
    by_cases w : (hx a b).toNat < 32 ∨ (hx a b).toNat = 127
    ·rw [qmy dd w] at h; cases h
    by_cases u : unr (hx a b) = true
    ·rw [qmz dd w u] at h
     obtain ⟨r', h1, h2⟩ := Option.map_eq_some_iff.1 h
     subst h2
     have := qg2 n t r' (by omega) h1
     simp only [List.length_cons]; omega
    ·rw [qm0 dd w u] at h
     obtain ⟨r', h1, h2⟩ := Option.map_eq_some_iff.1 h
     subst h2
     have := qg2 n t r' (by omega) h1
     simp only [List.length_append, enc, List.length_cons, List.length_nil]; omega
  ·by_cases u : okc ot c = true
   ·rw [qjg q u] at h
    obtain ⟨r', h1, h2⟩ := Option.map_eq_some_iff.1 h
    subst h2
    have := qg2 n s r' (by omega) h1
    simp only [List.length_cons]; omega
   ·rw [qmv q u] at h; cases h
def wt : List Str → Nat
 | [] => 0
 | a :: l => a.length + 1 + wt l
theorem wt_app : ∀ a b : List Str, wt (a ++ b) = wt a + wt b
 | [], b => by simp [wt]
 | x :: a, b => by rw [List.cons_append, wt, wt, wt_app a b]; omega
theorem qqn (l : List Str) (h : l ≠ []) : wt l.dropLast + 1 ≤ wt l := by
 have := List.dropLast_concat_getLast h
 have e := wt_app l.dropLast [l.getLast h]
 rw [this] at e
 simp only [wt] at e; omega
theorem qm2 : ∀ l : List Str, l.length ≤ wt l ∧ (jn 47 l).length ≤ wt l
 | [] => by simp [wt, jn]
 | [a] => by simp [wt, jn]
 | a :: b :: l => by
  have := qm2 (b :: l)
  rw [wt, jn]
  simp only [List.length_cons, List.length_append] at this ⊢; omega
theorem qs8 (p : Str) (l : List Str) (h : l ≠ []) : wt (hd p l) = p.length + wt l := by
 cases l with
 | nil => exact absurd rfl h
 | cons a l => simp [hd, wt]; omega
theorem qm3 (c : UInt8) : ∀ s : Str, wt (spl c s) = s.length + 1
 | [] => rfl
 | b :: s => by
  rw [spl]
  split
  ·rw [wt, qm3 c s]; simp; omega
  ·rw [qs8 _ _ (qpg c s), qm3 c s]; simp; omega
theorem qk7 : ∀ (r y z : List Str), dts y r = some z → wt z ≤ wt y + wt r
 | [], y, z, h => by rw [dts] at h; cases h; simp [wt]
 | e :: r, y, z, h => by
  rw [dts] at h
  rw [wt]
  split at h
  ·split at h
   ·cases h; rw [wt_app]; simp [wt]
    omega
   ·have := qk7 r y z h; omega
  ·split at h
   ·split at h
    ·cases h
    ·rename_i hy
     have := qqn y hy
     split at h
     ·cases h; rw [wt_app]; simp [wt]; omega
     ·have := qk7 r _ z h; omega
   ·have := qk7 r _ z h
    rw [wt_app] at this
    simp [wt] at this; omega
theorem qry {a : Je} (h : a.An.length + a.Ae.length + a.Af.length ≤ 100000) : ∃ t, JcE a = some t ∧ t.length = txl a := by
 unfold JcE txl
 cases a.HasQuery with
 | true =>
  rw [qun rfl, qun rfl, qak (by simp only [lim]; omega), qak (by simp only [lim, List.length_append, List.length_singleton]; omega), qak (by simp only [lim, List.length_append, List.length_singleton]; omega)]
  exact ⟨_, rfl, by simp only [List.length_append, List.length_singleton]⟩
 | false =>
  rw [qum (by simp), qum (by simp), qak (by simp only [lim]; omega)]
  exact ⟨_, rfl, List.length_append⟩
theorem qor {n : Nat} {h h' t : Str} (hh : JcB h = some (h', none)) (hl : h'.length ≤ 1000) (ht : t.length ≤ 9000) (hn : 9000 < n) : JaJ n h t = some (prs h' t) := by
 unfold JaJ prs
 have lc := qm1 63 t
 rw [hh, qul, qum (by simp), show qnn t ([63] : Str) = some (Go.Lib.cut t [63]) from by unfold qnn; rw [qun (by rw [qfg]; omega)], qul]
 generalize Go.Lib.cut t [63] = c at lc ⊢
 obtain ⟨c1, c2, c3⟩ := c
 dsimp only at lc ⊢
 have e47 : ((if decide (c1 = ([] : Str)) then some true else (ix c1 0).bind fun x37 => some (decide ((x37.toNat : Int) ≠ 47))) : Option Bool) = some (decide (c1.head? ≠ some 47)) := by
  cases c1 with
  | nil => rfl
  | cons b c1 =>
   rw [qum (by simp), show ix (b :: c1) 0 = some b from rfl, qul]
   congr 1
   rw [decide_eq_decide]
   simp only [List.head?_cons, ne_eq, Option.some.injEq]
   constructor
   ·intro h e; subst e; exact h rfl
   ·intro h e; exact h (UInt8.toNat_inj.1 (by show b.toNat = 47; omega))
 rw [e47, qul]
 by_cases q0 : c1.head? ≠ some 47
 ·rw [qun (by simpa using q0), qun q0]; rfl
 rw [qum (by simpa using q0), qum q0]
 rw [show ([33, 36, 38, 39, 40, 41, 42, 43, 44, 59, 61, 58, 64, 47] : Str) = oP from rfl, show ([33, 36, 38, 39, 40, 41, 42, 43, 44, 59, 61, 58, 64, 47, 63] : Str) = oQ from rfl, qpj (by omega) (by omega), qul, qpj (by omega) (by omega), qul]
 cases hp : can oP c1 with
 | none => rw [qun (by simp)]; rfl
 | some p =>
  cases hq : can oQ c2 with
  | none => rw [qun (by simp)]; rfl
  | some q =>
   dsimp only
   rw [qum (by simp)]
   have lp := qg2 _ _ _ (Nat.le_refl _) hp
   have lq := qg2 _ _ _ (Nat.le_refl _) hq
   have hne : 1 ≤ p.length := by
    cases c1 with
    | nil => simp at q0
    | cons b c1 =>
     obtain rfl : b = 47 := by simpa using q0
     rw [qjg (by decide) qrx] at hp
     obtain ⟨r', _, rfl⟩ := Option.map_eq_some_iff.1 hp
     simp
   have es : subL p (1 : Int) (p.length : Int) = p.drop 1 := by
    unfold subL
    simp [List.take_of_length_le]
   have ls : (p.drop 1).length ≤ 9000 := by rw [List.length_drop]; omega
   rw [qak (by omega), es, qjf 47 (by omega), qul]
   have w1 := qm3 47 (p.drop 1)
   have w2 := qm2 (spl 47 (p.drop 1))
   rw [qak (by simp only [qa7]; omega), qk6 _ (by omega) _ 0 [] (by omega) (by simp), qul]
   cases hz : dts [] (spl 47 (p.drop 1)) with
   | none => rfl
   | some z =>
    have w3 := qk7 _ _ _ hz
    have w4 := qm2 z
    simp only [wt] at w3
    dsimp only [dtF, Fl.el]
    rw [show qi7 z ([47] : Str) = some (jn 47 z) from by unfold qi7; rw [qrw, qun (by simp only [lim]; omega)], qul, qak (by simp only [lim, List.length_singleton]; omega)]
    obtain ⟨x, x1, x2⟩ := qry (a := ⟨h', [47] ++ jn 47 z, q, c3⟩) (by simp only [List.length_append, List.length_singleton]; omega)
    rw [x1, qul, x2]
    show (if decide ((txl ⟨h', 47 :: jn 47 z, q, c3⟩ : Int) > 1024) then _ else _) = _
    by_cases ql : txl ⟨h', 47 :: jn 47 z, q, c3⟩ > 1024
    ·rw [qun (by simp; omega), qun ql]; rfl
    ·rw [qum (by simp; omega), qum ql]; rfl
end Tn
open Go Go.SL Go.Proofs Pl Rt
namespace Tn
def TOK (s : Str) (t : Jf) : Prop := t.Ac.length ≤ s.length ∧ t.Ad ≠ 0 ∧ (t.Ab = 1 → t.Ac <:+: s)
def TL (s : Str) (l : List Jf) : Prop := l.length ≤ s.length + 1 ∧ (∀ t ∈ l, TOK s t) ∧ ∃ a e, l = a ++ [e] ∧ e.Ab = 5
abbrev Tk := Jf
abbrev No := Ja
section
variable {s : Str} {l : List Tk} (hT : TL s l) (hs : s.length ≤ 4096)
include hT hs
end
section
variable {s : Str} {l : List Tk} (hT : TL s l) (hs : s.length ≤ 4096)
include hT hs
end
abbrev Fd := Jc
structure FOK (k : Nat) (f : List Fd) : Prop where
 n : f.length ≤ k
 b : ∀ x ∈ f, x.Name.length ≤ 10000 ∧ x.Value.length ≤ 10000
theorem FOK.filter {k : Nat} {f : List Fd} (h : FOK k f) (p : Fd → Bool) : FOK k (f.filter p) := ⟨Nat.le_trans (List.length_filter_le _ _) h.n, fun x hx => h.b x (List.mem_filter.1 hx).1⟩
theorem qm4 (v : Str) : ∀ (l : List Str) (i : Nat), (v ∈ l → ∃ k : Nat, Jaf v l i = some (Fl.ret (k : Int))) ∧ (v ∉ l → Jaf v l i = some (Fl.go ()))
 | [], i => ⟨fun h => (by cases h), fun _ => rfl⟩
 | x :: l, i => by
  obtain ⟨a, b⟩ := qm4 v l (i + 1)
  rw [Jaf]
  by_cases q : v = x
  ·rw [qun (decide_eq_true q)]
   exact ⟨fun _ => ⟨i, rfl⟩, fun h => absurd (by simp [q]) h⟩
  ·rw [qum (by simpa using q)]
   exact ⟨fun h => a (by simpa [q] using h), fun h => b (by simpa [q] using h)⟩
theorem qrz {l : List Str} {v : Str} (h : l.length ≤ 1000000000) : JD l v = some (decide (v ∈ l)) := by
 obtain ⟨a, b⟩ := qm4 v l 0
 unfold JD JbU
 rw [qak (by simp only [qa7]; omega)]
 by_cases q : v ∈ l
 ·obtain ⟨k, hk⟩ := a q
  rw [hk, qul, decide_eq_true q]
  show some (decide ((k : Int) ≥ 0)) = _
  rw [decide_eq_true (by omega)]
 ·rw [b q, decide_eq_false q]; rfl
theorem qk8 : ∀ (r p : List Str), JbZ (p ++ r) r p.length = some (Fl.go ())
 | [], p => rfl
 | x :: r, p => by
  have ih := qk8 r (p ++ [x])
  rw [JbZ, qjd, qul, qum (by simp)]
  simpa using ih
theorem qhz {l : List Str} (h : l.length ≤ qa7) : JcZ l l = some true := by
 have := qk8 l []
 unfold JcZ
 rw [qum (by simp), qak h]
 rw [List.nil_append, List.length_nil] at this
 rw [this]; rfl
end Tn
open Go Go.SL Go.Proofs Pl Vary Rt Rt.Rv
namespace Tn
theorem qm5 (p : Js) : ∀ (r q : List Fd), p.Ao = q ++ r → Jb0 p r q.length = some (Fl.go ())
 | [], q, h => rfl
 | x :: r, q, h => by
  have ih := qm5 p r (q ++ [x]) (by rw [h]; simp)
  rw [Jb0, h, qjd, qul, qum (by simp)]
  simpa using ih
theorem qm6 {p : Js} (h1 : p.Ao.length ≤ qa7) (h2 : p.Vary.length ≤ qa7) (h3 : p.Ah.length ≤ qa7) : JW p p = some true := by
 have := qm5 p p.Ao [] rfl
 unfold JW
 rw [qum (by simp), qak h1]
 rw [List.length_nil] at this
 rw [this]
 show ((JcZ p.Vary p.Vary).bind _) = _
 rw [qhz h2, qul, qun rfl, qhz h3]; rfl
structure LW (v : Str) : Prop where
 c : ∀ c ∈ v, 97 ≤ c.toNat ∧ c.toNat ≤ 122
 l : v.length ≤ 20
theorem qpn {s w r : Str} (hs : s = 34 :: (w ++ 34 :: r)) (hl : s.length ≤ 5000) (hw : ∀ c ∈ w, 32 ≤ c.toNat ∧ c.toNat ≤ 126 ∧ c.toNat ≠ 34 ∧ c.toNat ≠ 92) : ∀ (v u : Str) (n : Nat), w = u ++ v → v.length < n → JaB s n u ((u.length + 1 : Nat) : Int) = some (Fl.ret ((w.length : Int) + 2, w))
 | [], u, n + 1, h, hn => by
  rw [List.append_nil] at h
  subst h
  have e : s[w.length + 1]? = some 34 := by rw [hs, List.getElem?_cons_succ, List.getElem?_append_right (Nat.le_refl _), Nat.sub_self]; rfl
  have hx : ix s ((w.length + 1 : Nat) : Int) = some 34 := by unfold ix; rw [qun (by omega), Int.toNat_natCast]; exact e
  have hsl : s.length = w.length + r.length + 2 := by rw [hs]; simp; omega
  rw [JaB, qun (by simp; omega), hx, qul, qun (by decide), qak (by constructor <;> omega)]
  congr 3 <;> omega
 | c :: v, u, n + 1, h, hn => by
  have hc := hw c (by rw [h]; simp)
  have e : s[u.length + 1]? = some c := by rw [hs, h, List.getElem?_cons_succ, List.append_assoc, List.getElem?_append_right (Nat.le_refl _), Nat.sub_self]; rfl
  have hx : ix s ((u.length + 1 : Nat) : Int) = some c := by unfold ix; rw [qun (by omega), Int.toNat_natCast]; exact e
  have hsl : s.length = w.length + r.length + 2 := by rw [hs]; simp; omega
  have hwl : w.length = u.length + v.length + 1 := by rw [h]; simp; omega
  simp only [List.length_cons] at hn
  rw [JaB, qun (by simp; omega), hx, qul, qum (by rw [decide_eq_true_eq]; omega), qum (by rw [decide_eq_true_eq]; omega), qum (by simp; omega), qak (by simp only [lim, List.length_singleton]; omega), qak (by constructor <;> omega)]
  have := qpn hs hl hw v (u ++ [c]) n (by rw [h]; simp) (by omega)
  rw [List.length_append, List.length_singleton] at this
  rw [← this]
  congr 1
theorem qqo {n : Nat} {w r : Str} (hn : 10000 ≤ n) (hl : (34 :: (w ++ 34 :: r) : Str).length ≤ 5000) (hw : ∀ c ∈ w, 32 ≤ c.toNat ∧ c.toNat ≤ 126 ∧ c.toNat ≠ 34 ∧ c.toNat ≠ 92) : Jap n (34 :: (w ++ 34 :: r)) = some (3, (w.length : Int) + 2, w) := by
 have hwl : w.length ≤ 5000 := by simp at hl; omega
 have := qpn (s := 34 :: (w ++ 34 :: r)) rfl hl hw w [] n rfl (by omega)
 unfold Jap Jc0
 rw [show ix (34 :: (w ++ 34 :: r) : Str) 0 = some 34 from rfl, qul, show Ja9 34 = some false from by decide +kernel, qul, qum (by simp), show Jba 34 = some false from by decide +kernel, qul, qum (by simp), qun (by decide)]
 rw [show ((([] : Str).length + 1 : Nat) : Int) = 1 from rfl] at this
 rw [this]; rfl
theorem qm7 {s p : Str} {k i : Nat} {c d : UInt8} {q t : Str} (hi : ix ([([61, 61] : Str), ([33, 61] : Str), ([60, 61] : Str), ([60] : Str), ([43] : Str), ([45] : Str), ([42] : Str), ([40] : Str), ([41] : Str), ([123] : Str), ([125] : Str), ([44] : Str), ([59] : Str), ([61] : Str)]) (i : Int) = some (d :: q)) (hs : s = c :: t) (h : c ≠ d) : J0 s (k + 1) i = J0 s k (i + 1) := by
 rw [J0, hi, qul, qdq, qul, qum]
 simp only [Bool.and_eq_true, decide_eq_true_eq, not_and]
 intro h1 h2
 rw [hs] at h2
 unfold subL at h2
 rw [show ((0 : Int)).toNat = 0 from rfl, List.drop_zero, show (((d :: q).length : Int) - 0).toNat = q.length + 1 from by simp, List.take_succ_cons] at h2
 exact h (List.cons.inj h2).1
theorem qef {n : Nat} (r : Str) : Jap n (59 :: r) = some (4, 1, [59]) := by
 unfold Jap
 rw [show ix (59 :: r : Str) 0 = some 59 from rfl, qul, show Ja9 59 = some false from by decide +kernel, qul, qum (by simp), show Jba 59 = some false from by decide +kernel, qul, qum (by simp), qum (by decide), qak (by constructor <;> omega), show ((14 : Int)).toNat = 13 + 1 from rfl]
 have sk : ∀ {k i : Nat} {d : UInt8} {q : Str}, ix ([([61, 61] : Str), ([33, 61] : Str), ([60, 61] : Str), ([60] : Str), ([43] : Str), ([45] : Str), ([42] : Str), ([40] : Str), ([41] : Str), ([123] : Str), ([125] : Str), ([44] : Str), ([59] : Str), ([61] : Str)]) (i : Int) = some (d :: q) → (59 : UInt8) ≠ d → J0 (59 :: r) (k + 1) i = J0 (59 :: r) k (i + 1) := fun h1 h2 => qm7 (p := []) h1 rfl h2
 rw [sk rfl (by decide), sk rfl (by decide), sk rfl (by decide), sk rfl (by decide), sk rfl (by decide), sk rfl (by decide), sk rfl (by decide), sk rfl (by decide), sk rfl (by decide), sk rfl (by decide), sk rfl (by decide), sk rfl (by decide), J0, show ix ([([61, 61] : Str), ([33, 61] : Str), ([60, 61] : Str), ([60] : Str), ([43] : Str), ([45] : Str), ([42] : Str), ([40] : Str), ([41] : Str), ([123] : Str), ([125] : Str), ([44] : Str), ([59] : Str), ([61] : Str)]) ((0 + 1 + 1 + 1 + 1 + 1 + 1 + 1 + 1 + 1 + 1 + 1 + 1 : Nat) : Int) = some [59] from rfl, qul, qdq, qul, qun (by simp [subL]; omega)]
 rfl
theorem qg3 {n : Nat} (r : Str) : Jap n (61 :: 32 :: r) = some (4, 1, [61]) := by
 unfold Jap
 rw [show ix (61 :: 32 :: r : Str) 0 = some 61 from rfl, qul, show Ja9 61 = some false from by decide +kernel, qul, qum (by simp), show Jba 61 = some false from by decide +kernel, qul, qum (by simp), qum (by decide), qak (by constructor <;> omega), show ((14 : Int)).toNat = 13 + 1 from rfl]
 have sk : ∀ {k i : Nat} {d : UInt8} {q : Str}, ix ([([61, 61] : Str), ([33, 61] : Str), ([60, 61] : Str), ([60] : Str), ([43] : Str), ([45] : Str), ([42] : Str), ([40] : Str), ([41] : Str), ([123] : Str), ([125] : Str), ([44] : Str), ([59] : Str), ([61] : Str)]) (i : Int) = some (d :: q) → (61 : UInt8) ≠ d → J0 (61 :: 32 :: r) (k + 1) i = J0 (61 :: 32 :: r) k (i + 1) := fun h1 h2 => qm7 (p := []) h1 rfl h2
 rw [J0, show ix ([([61, 61] : Str), ([33, 61] : Str), ([60, 61] : Str), ([60] : Str), ([43] : Str), ([45] : Str), ([42] : Str), ([40] : Str), ([41] : Str), ([123] : Str), ([125] : Str), ([44] : Str), ([59] : Str), ([61] : Str)]) ((0 : Nat) : Int) = some [61, 61] from rfl, qul, qdq, qul, qum (by simp [subL])]
 rw [sk rfl (by decide), sk rfl (by decide), sk rfl (by decide), sk rfl (by decide), sk rfl (by decide), sk rfl (by decide), sk rfl (by decide), sk rfl (by decide), sk rfl (by decide), sk rfl (by decide), sk rfl (by decide), sk rfl (by decide), J0, show ix ([([61, 61] : Str), ([33, 61] : Str), ([60, 61] : Str), ([60] : Str), ([43] : Str), ([45] : Str), ([42] : Str), ([40] : Str), ([41] : Str), ([123] : Str), ([125] : Str), ([44] : Str), ([59] : Str), ([61] : Str)]) ((0 + 1 + 1 + 1 + 1 + 1 + 1 + 1 + 1 + 1 + 1 + 1 + 1 + 1 : Nat) : Int) = some [61] from rfl, qul, qdq, qul, qun (by simp [subL]; omega)]
 rfl
theorem qos {s p r : Str} {n f : Nat} {y : List Tk} (hs : s = p ++ 32 :: r) (hl : s.length ≤ 4000) : JH s n (f + 1) y 1 0 (p.length : Int) = JH s n f y 1 0 ((p ++ [32]).length : Int) := by
 have hsl : s.length = p.length + r.length + 1 := by rw [hs]; simp; omega
 have hx : ix s (p.length : Int) = some 32 := by rw [hs]; exact qjd p r 32
 rw [JH, qun (by simp; omega), hx, qul, qum (by decide), qun (by decide), qak (by constructor <;> omega), show (((p ++ ([32] : Str)).length : Nat) : Int) = (p.length : Int) + 1 from by simp]
theorem qr0 {s p q r w : Str} {n f : Nat} {y : List Tk} {c : UInt8} {t : Str} {k : Int} (hs : s = p ++ (q ++ r)) (hq : q = c :: t) (hc : c.toNat ≠ 10 ∧ c.toNat ≠ 32 ∧ c.toNat ≠ 9 ∧ c.toNat ≠ 13 ∧ c.toNat ≠ 35) (hl : s.length ≤ 4000) (hy : y.length ≤ 100) (ht : Jap n (q ++ r) = some (k, (q.length : Int), w)) :
  JH s n (f + 1) y 1 0 (p.length : Int) = JH s n f (y ++ [⟨k, w, 1, (((p.length : Int) - 0) + 1)⟩]) 1 0 ((p ++ q).length : Int) := by
 have hsl : s.length = p.length + q.length + r.length := by rw [hs]; simp; omega
 have hql : q.length = t.length + 1 := by rw [hq]; rfl
 have hx : ix s (p.length : Int) = some c := by rw [hs, hq]; exact qjd p _ c
 have hsub : subL s (p.length : Int) (s.length : Int) = q ++ r := by
  unfold subL
  rw [Int.toNat_natCast, show ((s.length : Int) - (p.length : Int)).toNat = (q ++ r).length from by rw [List.length_append]; omega, hs, List.drop_left]
  exact List.take_length
 rw [JH, qun (by simp; omega), hx, qul, qum (by rw [decide_eq_true_eq]; omega), qum (by rw [decide_eq_true_eq]; omega), qum (by rw [decide_eq_true_eq]; omega), qum (by rw [decide_eq_true_eq]; omega), qum (by rw [decide_eq_true_eq]; omega), qak (by omega), hsub, ht, qul, qum (by rw [decide_eq_true_eq]; simp only; omega), qak (by constructor <;> omega), qak (by constructor <;> omega), qak (by simp only [lim, List.length_singleton]; omega), qak (by constructor <;> simp only <;> omega)]
 rw [show ((p ++ q).length : Int) = (p.length : Int) + (q.length : Int) from by rw [List.length_append]; omega]
theorem qr1 {s : Str} {n f : Nat} {y : List Tk} : JH s n (f + 1) y 1 0 (s.length : Int) = some (Fl.go (y, 1, 0, (s.length : Int))) := by
 rw [JH, qum (by simp)]
theorem qot {n : Nat} {s : Str} {y : List Tk} (hl : s.length ≤ 4000) (hy : y.length ≤ 100) (h : JH s n n [] 1 0 0 = some (Fl.go (y, 1, 0, (s.length : Int)))) : JaI n s = some (y ++ [⟨5, [], 1, ((s.length : Int) - 0) + 1⟩], none) := by
 unfold JaI
 rw [qum (by simp; omega), h, qul, Rt.el_go, qak (by constructor <;> simp only <;> omega), qak (by constructor <;> simp only <;> omega), qak (by simp only [lim, List.length_singleton]; omega)]
end Tn
set_option maxRecDepth 100000
namespace Tn
def LS (s : Str) (n : Nat) (p : Str) (k : Nat) (y : List Tk) : Prop := y.length ≤ k ∧ JH s n n [] 1 0 0 = JH s n (n - k) y 1 0 (p.length : Int)
theorem LS.start {s : Str} {n : Nat} : LS s n [] 0 [] := ⟨Nat.le_refl _, rfl⟩
theorem LS.blank {s p r : Str} {n k : Nat} {y : List Tk} (h : LS s n p k y) (hs : s = p ++ 32 :: r) (hl : s.length ≤ 4000) (hk : k < n) : LS s n (p ++ [32]) (k + 1) y := by
 refine ⟨Nat.le_succ_of_le h.1, h.2.trans ?_⟩
 rw [show n - k = (n - (k + 1)) + 1 from by omega, qos hs hl]
theorem LS.tok {s p q r w : Str} {n k' : Nat} {y : List Tk} {c : UInt8} {t : Str} {k : Int} (h : LS s n p k' y) (hs : s = p ++ (q ++ r)) (hq : q = c :: t) (hc : c.toNat ≠ 10 ∧ c.toNat ≠ 32 ∧ c.toNat ≠ 9 ∧ c.toNat ≠ 13 ∧ c.toNat ≠ 35) (hl : s.length ≤ 4000) (hk : k' < n) (hk2 : k' ≤ 100) (ht : Jap n (q ++ r) = some (k, (q.length : Int), w)) : LS s n (p ++ q) (k' + 1) (y ++ [⟨k, w, 1, (((p.length : Int) - 0) + 1)⟩]) := by
 have h1 := h.1
 refine ⟨by simp only [List.length_append, List.length_singleton]; omega, h.2.trans ?_⟩
 rw [show n - k' = (n - (k' + 1)) + 1 from by omega, qr0 hs hq hc hl (by omega) ht]
theorem LS.fin {s p : Str} {n k : Nat} {y : List Tk} (h : LS s n p k y) (hp : p = s) (hl : s.length ≤ 4000) (hk : k < n) (hk2 : k ≤ 100) : JaI n s = some (y ++ [⟨5, [], 1, ((s.length : Int) - 0) + 1⟩], none) := by
 subst hp
 refine qot hl (by have := h.1; omega) (h.2.trans ?_)
 rw [show n - k = (n - (k + 1)) + 1 from by omega, qr1]
def pathS : Str := [112, 97, 116, 104]
def qct : Str := [113, 117, 101, 114, 121]
def qf8 : Str := [104, 101, 97, 100, 101, 114]
def qji : Str := [118, 97, 114, 121]
def tagS : Str := [116, 97, 103]
abbrev NN : Nat := 2000100
theorem qg4 {v : Str} (hv : LW v) : ∀ c ∈ v, 32 ≤ c.toNat ∧ c.toNat ≤ 126 ∧ c.toNat ≠ 34 ∧ c.toNat ≠ 92 := fun c hc => by have := hv.c c hc; omega
theorem qeg {w r : Str} {c : UInt8} {t : Str} (hw : w = c :: t) (hc : isL c = true) (hl : (w ++ r).length ≤ 4000) (h : (t ++ r).takeWhile isA = t) : Jap NN (w ++ r) = some (1, (w.length : Int), w) := by
 subst hw
 have := qon (n := NN) (c := c) (t := t ++ r) (by decide) (by simp only [List.length_cons, List.length_append] at hl ⊢; omega) hc
 rw [h] at this
 rw [List.cons_append, this]
 congr 2
theorem qes {w r : Str} (hw : ∀ c ∈ w, 32 ≤ c.toNat ∧ c.toNat ≤ 126 ∧ c.toNat ≠ 34 ∧ c.toNat ≠ 92) (hl : w.length + r.length ≤ 3900) : Jap NN ((34 :: (w ++ [34])) ++ r) = some (3, ((34 :: (w ++ [34]) : Str).length : Int), w) := by
 have := qqo (n := NN) (w := w) (r := r) (by decide) (by simp; omega) hw
 have e : ((34 :: (w ++ [34])) ++ r : Str) = 34 :: (w ++ 34 :: r) := by simp
 rw [e, this]
 congr 2
 simp
 omega
theorem qug {v : Str} (hv : LW v) : ∃ a b c d e, JaI NN (([112, 97, 116, 104, 32, 61, 32, 34, 47] : Str) ++ v ++ ([34, 59] : Str)) = some ([⟨1, pathS, 1, a⟩, ⟨4, [61], 1, b⟩, ⟨3, 47 :: v, 1, c⟩, ⟨4, [59], 1, d⟩, ⟨5, [], 1, e⟩], none) := by
 have vl := hv.l
 have hl : (([112, 97, 116, 104, 32, 61, 32, 34, 47] : Str) ++ v ++ ([34, 59] : Str)).length ≤ 4000 := by simp; omega
 have h1 := (LS.start (s := ([112, 97, 116, 104, 32, 61, 32, 34, 47] : Str) ++ v ++ ([34, 59] : Str)) (n := NN)).tok (q := pathS) (r := 32 :: 61 :: 32 :: 34 :: 47 :: (v ++ [34, 59])) (by simp [pathS]) rfl (by decide) hl (by decide) (by decide) (qeg rfl (by decide) (by simp [pathS]; omega) rfl)
 have h2 := h1.blank (r := 61 :: 32 :: 34 :: 47 :: (v ++ [34, 59])) (by simp [pathS]) hl (by decide)
 have h3 := h2.tok (q := [61]) (r := 32 :: 34 :: 47 :: (v ++ [34, 59])) (by simp [pathS]) rfl (by decide) hl (by decide) (by decide) (qg3 _)
 have h4 := h3.blank (r := 34 :: 47 :: (v ++ [34, 59])) (by simp [pathS]) hl (by decide)
 have h5 := h4.tok (q := 34 :: ((47 :: v) ++ [34])) (r := [59]) (by simp [pathS]) rfl (by decide) hl (by decide) (by decide) (qes (fun c hc => by
  rcases List.mem_cons.1 hc with rfl | hc
  ·decide
  ·exact qg4 hv c hc) (by simp; omega))
 have h6 := h5.tok (q := [59]) (r := []) (by simp [pathS]) rfl (by decide) hl (by decide) (by decide) (qef _)
 exact ⟨_, _, _, _, _, h6.fin (by simp [pathS]) hl (by decide) (by decide)⟩
theorem qr2 {v : Str} (hv : LW v) : Jad NN (([112, 97, 116, 104, 32, 61, 32, 34, 47] : Str) ++ v ++ ([34, 59] : Str)) = some (⟨1, [], [⟨4, pathS, [⟨21, 47 :: v, [], 1⟩], 1⟩], 1⟩, 0, none) := by
 obtain ⟨a, b, c, d, e, h⟩ := qug hv
 unfold Jad
 rw [h]
 clear h
 kernel_rfl
end Tn
set_option maxRecDepth 100000
namespace Tn
theorem qqp {s : Str} {y : No} {k w : Int} {c : List I} (hp : Jad NN s = some (y, k, none)) (hC : Jbq NN y = some (0, none)) (hK : Jb4 NN y = some (c, none)) (hW : Jcv NN y = some (w, none)) (hw : w ≤ 10000) : qba NN s = some (c, none) := by
 unfold qba
 rw [hp, qul, qum (by simp), hC, qul, qum (by simp), hK, qul, qum (by simp), hW, qul, qum (by simp), qum (by simp; omega)]
theorem qjj {s : Str} {y : No} {k : Int} {c : List I} (hp : Jad NN s = some (y, k, none)) (hv : Jaz NN y = some true) (hC : ((some true : Option Bool).bind fun x6 => if (!x6) = true then some ((0 : Int), (some 2 : Err)) else (J8 NN (⟨0, none⟩ : Jm) y.Aa []).bind fun x14 => some (x14.line, x14.err)) = some (0, none))
  (hK : ((JF NN (⟨[], [], 0⟩ : Jd) y.Aa).bind fun x20 => (Jj x20 12 0 ([] : Str)).bind fun x22 => some x22.2.code) = some c) (hc : c.length ≤ 2048) {w : Int} (hW : JbH NN y.Aa [] = some w) (hw : 0 ≤ w ∧ w ≤ 9000) : qba NN s = some (c, none) := by
 have h1 : Jbq NN y = some (0, none) := by
  unfold Jbq
  rw [hv]; exact hC
 refine qqp hp h1 ?_ (w := w + 1) ?_ (by omega)
 ·unfold Jb4
  rw [h1, qul, qum (by simp)]
  cases e1 : JF NN (⟨[], [], 0⟩ : Jd) y.Aa with
  | none => rw [e1] at hK; cases hK
  | some a =>
   rw [e1, qul] at hK
   rw [qul]
   cases e2 : Jj a 12 0 ([] : Str) with
   | none => rw [e2] at hK; cases hK
   | some b =>
    rw [e2, qul] at hK
    have hK := Option.some.inj hK
    rw [qul, hK, qum (by simp; omega)]
 ·unfold Jcv
  rw [h1, qul, qum (by simp), hW, qul, qak (by constructor <;> omega)]
theorem qm8 {n : Nat} {w : Str} {ln : Int} (h : JN w = some true) : JL (n + 1) ⟨21, w, [], ln⟩ = some true := by
 have : JbR n ⟨21, w, [], ln⟩ = some 0 := by
  unfold JbR
  dsimp only
  rw [h]; rfl
 rw [JL, this]; rfl
theorem qdf {v : Str} (hv : LW v) : prt v = true := by
 unfold prt
 rw [List.all_eq_true]
 intro c hc
 have := hv.c c hc
 rw [Bool.not_eq_true', Bool.or_eq_false_iff, decide_eq_false_iff_not, decide_eq_false_iff_not]
 omega
theorem prn {w : Str} (h : prt w = true) (hl : w.length ≤ 4200) : JN w = some true := by rw [qjc hl, h]
theorem qpo {v : Str} {p : Str} (hp : p = pathS ∨ p = qct) (h : JN v = some true) : Jaz NN ⟨1, [], [⟨4, p, [⟨21, v, [], 1⟩], 1⟩], 1⟩ = some true := by
 have hs : JaQ NN ⟨1, [], [⟨4, p, [⟨21, v, [], 1⟩], 1⟩], 1⟩ 512 32 = some (true, 509) := by kernel_rfl
 have e : J6 NN ⟨4, p, [⟨21, v, [], 1⟩], 1⟩ = some true := by
  rw [show NN = 2000098 + 1 + 1 from rfl, J6, qum (by simp), qum (by simp), qum (by simp), qum (by simp), qum (by simp), qun (by simp), qum (by rcases hp with rfl | rfl; exact (by decide : ¬ (decide (pathS ≠ ([112, 97, 116, 104] : Str)) && decide (pathS ≠ ([113, 117, 101, 114, 121] : Str))) = true); exact (by decide : ¬ (decide (qct ≠ ([112, 97, 116, 104] : Str)) && decide (qct ≠ ([113, 117, 101, 114, 121] : Str))) = true)), qun (by simp), show ix [(⟨21, v, [], 1⟩ : No)] 0 = some ⟨21, v, [], 1⟩ from rfl, qul, qm8 h]; rfl
 unfold Jaz
 rw [qum (by simp), hs, qul, qum (by simp), qak (by simp [qa7]), Jas, e]; rfl
theorem qs9 {v : Str} (hv : LW v) : qba NN (([112, 97, 116, 104, 32, 61, 32, 34, 47] : Str) ++ v ++ ([34, 59] : Str)) = some ([⟨2, 0, 47 :: v⟩, ⟨11, 0, pathS⟩, ⟨12, 0, []⟩], none) := by
 have vl := hv.l
 exact qjj (qr2 hv) (qpo (.inl rfl) (prn (by rw [qih, qdf hv]; decide) (by simp; omega))) (w := 2) (by kernel_rfl) (by kernel_rfl) (by simp) (by kernel_rfl) (by omega)
theorem qqq {v : Str} (hv : LW v) {p : Str} (hp : ∀ c ∈ p, 32 ≤ c.toNat ∧ c.toNat ≤ 126 ∧ c.toNat ≠ 34 ∧ c.toNat ≠ 92) : ∀ c ∈ p ++ v, 32 ≤ c.toNat ∧ c.toNat ≤ 126 ∧ c.toNat ≠ 34 ∧ c.toNat ≠ 92 := fun c hc => by
 rcases List.mem_append.1 hc with hc | hc
 ·exact hp c hc
 ·exact qg4 hv c hc
theorem quh {v : Str} (hv : LW v) : ∃ a b c d e, JaI NN (([113, 117, 101, 114, 121, 32, 61, 32, 34] : Str) ++ v ++ ([34, 59] : Str)) = some ([⟨1, qct, 1, a⟩, ⟨4, [61], 1, b⟩, ⟨3, v, 1, c⟩, ⟨4, [59], 1, d⟩, ⟨5, [], 1, e⟩], none) := by
 have vl := hv.l
 have hl : (([113, 117, 101, 114, 121, 32, 61, 32, 34] : Str) ++ v ++ ([34, 59] : Str)).length ≤ 4000 := by simp; omega
 have h1 := (LS.start (s := ([113, 117, 101, 114, 121, 32, 61, 32, 34] : Str) ++ v ++ ([34, 59] : Str)) (n := NN)).tok (q := qct) (r := 32 :: 61 :: 32 :: 34 :: (v ++ [34, 59])) (by simp [qct]) rfl (by decide) hl (by decide) (by decide) (qeg rfl (by decide) (by simp [qct]; omega) rfl)
 have h2 := h1.blank (r := 61 :: 32 :: 34 :: (v ++ [34, 59])) (by simp [qct]) hl (by decide)
 have h3 := h2.tok (q := [61]) (r := 32 :: 34 :: (v ++ [34, 59])) (by simp [qct]) rfl (by decide) hl (by decide) (by decide) (qg3 _)
 have h4 := h3.blank (r := 34 :: (v ++ [34, 59])) (by simp [qct]) hl (by decide)
 have h5 := h4.tok (q := 34 :: (v ++ [34])) (r := [59]) (by simp [qct]) rfl (by decide) hl (by decide) (by decide) (qes (qg4 hv) (by simp; omega))
 have h6 := h5.tok (q := [59]) (r := []) (by simp [qct]) rfl (by decide) hl (by decide) (by decide) (qef _)
 exact ⟨_, _, _, _, _, h6.fin (by simp [qct]) hl (by decide) (by decide)⟩
theorem qr3 {v : Str} (hv : LW v) : Jad NN (([113, 117, 101, 114, 121, 32, 61, 32, 34] : Str) ++ v ++ ([34, 59] : Str)) = some (⟨1, [], [⟨4, qct, [⟨21, v, [], 1⟩], 1⟩], 1⟩, 0, none) := by
 obtain ⟨a, b, c, d, e, h⟩ := quh hv
 unfold Jad
 rw [h]
 clear h
 kernel_rfl
theorem qta {v : Str} (hv : LW v) : qba NN (([113, 117, 101, 114, 121, 32, 61, 32, 34] : Str) ++ v ++ ([34, 59] : Str)) = some ([⟨2, 0, v⟩, ⟨11, 0, qct⟩, ⟨12, 0, []⟩], none) := by
 have vl := hv.l
 exact qjj (qr3 hv) (qpo (.inr rfl) (prn (qdf hv) (by omega))) (w := 2) (by kernel_rfl) (by kernel_rfl) (by simp) (by kernel_rfl) (by omega)
def xS : Str := [120, 45]
theorem qui {v w : Str} (hv : LW v) (hw : LW w) : ∃ a b c d e g, JaI NN (([104, 101, 97, 100, 101, 114, 32, 34, 120, 45] : Str) ++ v ++ ([34, 32, 61, 32, 34] : Str) ++ w ++ ([34, 59] : Str)) = some ([⟨1, qf8, 1, a⟩, ⟨3, xS ++ v, 1, b⟩, ⟨4, [61], 1, c⟩, ⟨3, w, 1, d⟩, ⟨4, [59], 1, e⟩, ⟨5, [], 1, g⟩], none) := by
 have vl := hv.l
 have wl := hw.l
 have hl : (([104, 101, 97, 100, 101, 114, 32, 34, 120, 45] : Str) ++ v ++ ([34, 32, 61, 32, 34] : Str) ++ w ++ ([34, 59] : Str)).length ≤ 4000 := by simp; omega
 have h1 := (LS.start (s := ([104, 101, 97, 100, 101, 114, 32, 34, 120, 45] : Str) ++ v ++ ([34, 32, 61, 32, 34] : Str) ++ w ++ ([34, 59] : Str)) (n := NN)).tok (q := qf8) (r := 32 :: 34 :: 120 :: 45 :: (v ++ ([34, 32, 61, 32, 34] ++ (w ++ [34, 59])))) (by simp [qf8]) rfl (by decide) hl (by decide) (by decide) (qeg rfl (by decide) (by simp [qf8]; omega) rfl)
 have h2 := h1.blank (r := 34 :: 120 :: 45 :: (v ++ ([34, 32, 61, 32, 34] ++ (w ++ [34, 59])))) (by simp [qf8]) hl (by decide)
 have h3 := h2.tok (q := 34 :: ((xS ++ v) ++ [34])) (r := 32 :: 61 :: 32 :: 34 :: (w ++ [34, 59])) (by simp [qf8, xS]) rfl (by decide) hl (by decide) (by decide) (qes (qqq hv (by decide)) (by simp [xS]; omega))
 have h4 := h3.blank (r := 61 :: 32 :: 34 :: (w ++ [34, 59])) (by simp [qf8, xS]) hl (by decide)
 have h5 := h4.tok (q := [61]) (r := 32 :: 34 :: (w ++ [34, 59])) (by simp [qf8, xS]) rfl (by decide) hl (by decide) (by decide) (qg3 _)
 have h6 := h5.blank (r := 34 :: (w ++ [34, 59])) (by simp [qf8, xS]) hl (by decide)
 have h7 := h6.tok (q := 34 :: (w ++ [34])) (r := [59]) (by simp [qf8, xS]) rfl (by decide) hl (by decide) (by decide) (qes (qg4 hw) (by simp; omega))
 have h8 := h7.tok (q := [59]) (r := []) (by simp [qf8, xS]) rfl (by decide) hl (by decide) (by decide) (qef _)
 exact ⟨_, _, _, _, _, _, h8.fin (by simp [qf8, xS]) hl (by decide) (by decide)⟩
theorem qr4 {v w : Str} (hv : LW v) (hw : LW w) : Jad NN (([104, 101, 97, 100, 101, 114, 32, 34, 120, 45] : Str) ++ v ++ ([34, 32, 61, 32, 34] : Str) ++ w ++ ([34, 59] : Str)) = some (⟨1, [], [⟨5, xS ++ v, [⟨21, w, [], 1⟩], 1⟩], 1⟩, 0, none) := by
 obtain ⟨a, b, c, d, e, g, h⟩ := qui hv hw
 unfold Jad
 rw [h]
 clear h
 kernel_rfl
theorem qr5 {v w : Str} (h : JN v = some true) (h2 : JN w = some true) : Jaz NN ⟨1, [], [⟨5, v, [⟨21, w, [], 1⟩], 1⟩], 1⟩ = some true := by
 have hs : JaQ NN ⟨1, [], [⟨5, v, [⟨21, w, [], 1⟩], 1⟩], 1⟩ 512 32 = some (true, 509) := by kernel_rfl
 have e : J6 NN ⟨5, v, [⟨21, w, [], 1⟩], 1⟩ = some true := by
  rw [show NN = 2000098 + 1 + 1 from rfl, J6, qum (by simp), qum (by simp), qum (by simp), qum (by simp), qum (by simp), qum (by simp), qun (by simp), h, qul, qum (by simp), qun (by simp), show ix [(⟨21, w, [], 1⟩ : No)] 0 = some ⟨21, w, [], 1⟩ from rfl, qul, qm8 h2]; rfl
 unfold Jaz
 rw [qum (by simp), hs, qul, qum (by simp), qak (by simp [qa7]), Jas, e]; rfl
theorem qm9 {a b : Str} (h : prt a = true) (h2 : prt b = true) : prt (a ++ b) = true := by
 unfold prt at *
 rw [List.all_append, h, h2]; rfl
theorem qtb {v w : Str} (hv : LW v) (hw : LW w) : qba NN (([104, 101, 97, 100, 101, 114, 32, 34, 120, 45] : Str) ++ v ++ ([34, 32, 61, 32, 34] : Str) ++ w ++ ([34, 59] : Str)) = some ([⟨2, 0, w⟩, ⟨11, 0, [104, 101, 97, 100, 101, 114, 58] ++ (xS ++ v)⟩, ⟨12, 0, []⟩], none) := by
 have vl := hv.l
 have wl := hw.l
 refine qjj (qr4 hv hw) (qr5 (prn (qm9 (by decide) (qdf hv)) (by simp [xS]; omega)) (prn (qdf hw) (by omega))) (w := 2) (by kernel_rfl) ?_ (by simp) (by kernel_rfl) (by omega)
 have hx : Jz 2000099 (⟨[], [], 0⟩ : Jd) ⟨21, w, [], 1⟩ = some ⟨[⟨2, 0, w⟩], [], 0⟩ := by kernel_rfl
 have hs : J7 (JF 2000099) 2000099 (⟨[], [], 0⟩ : Jd) ⟨5, xS ++ v, [⟨21, w, [], 1⟩], 1⟩ = some ⟨[⟨2, 0, w⟩, ⟨11, 0, [104, 101, 97, 100, 101, 114, 58] ++ (xS ++ v)⟩], [], 0⟩ := by
  unfold J7
  rw [qum (by simp), qun (by simp), show ix [(⟨21, w, [], 1⟩ : No)] 0 = some ⟨21, w, [], 1⟩ from rfl, qul, hx, qul, qum (by simp), qum (by simp), qun (by simp), qak (by simp [lim, xS]; omega)]
  kernel_rfl
 have key : JF (2000099 + 1) (⟨[], [], 0⟩ : Jd) [⟨5, xS ++ v, [⟨21, w, [], 1⟩], 1⟩] = some ⟨[⟨2, 0, w⟩, ⟨11, 0, [104, 101, 97, 100, 101, 114, 58] ++ (xS ++ v)⟩], [], 0⟩ := by
  rw [JF, qak (by simp [qa7]), Jab, hs]; rfl
 exact (congrArg (fun o => Option.bind o _) key).trans rfl
theorem quj {v : Str} (hv : LW v) : ∃ a b c d, JaI NN (([118, 97, 114, 121, 32, 34] : Str) ++ v ++ ([34, 59] : Str)) = some ([⟨1, qji, 1, a⟩, ⟨3, v, 1, b⟩, ⟨4, [59], 1, c⟩, ⟨5, [], 1, d⟩], none) := by
 have vl := hv.l
 have hl : (([118, 97, 114, 121, 32, 34] : Str) ++ v ++ ([34, 59] : Str)).length ≤ 4000 := by simp; omega
 have h1 := (LS.start (s := ([118, 97, 114, 121, 32, 34] : Str) ++ v ++ ([34, 59] : Str)) (n := NN)).tok (q := qji) (r := 32 :: 34 :: (v ++ [34, 59])) (by simp [qji]) rfl (by decide) hl (by decide) (by decide) (qeg rfl (by decide) (by simp [qji]; omega) rfl)
 have h2 := h1.blank (r := 34 :: (v ++ [34, 59])) (by simp [qji]) hl (by decide)
 have h3 := h2.tok (q := 34 :: (v ++ [34])) (r := [59]) (by simp [qji]) rfl (by decide) hl (by decide) (by decide) (qes (qg4 hv) (by simp; omega))
 have h4 := h3.tok (q := [59]) (r := []) (by simp [qji]) rfl (by decide) hl (by decide) (by decide) (qef _)
 exact ⟨_, _, _, _, h4.fin (by simp [qji]) hl (by decide) (by decide)⟩
theorem qr6 {v : Str} (hv : LW v) : Jad NN (([118, 97, 114, 121, 32, 34] : Str) ++ v ++ ([34, 59] : Str)) = some (⟨1, [], [⟨6, v, [], 1⟩], 1⟩, 0, none) := by
 obtain ⟨a, b, c, d, h⟩ := quj hv
 unfold Jad
 rw [h]
 clear h
 kernel_rfl
theorem qr7 {v : Str} (h : JN v = some true) : Jaz NN ⟨1, [], [⟨6, v, [], 1⟩], 1⟩ = some true := by
 have hs : JaQ NN ⟨1, [], [⟨6, v, [], 1⟩], 1⟩ 512 32 = some (true, 510) := by kernel_rfl
 have e : J6 NN ⟨6, v, [], 1⟩ = some true := by
  rw [show NN = 2000099 + 1 from rfl, J6, qum (by simp), qun (by simp), h]; rfl
 unfold Jaz
 rw [qum (by simp), hs, qul, qum (by simp), qak (by simp [qa7]), Jas, e]; rfl
theorem qtc {v : Str} (hv : LW v) : qba NN (([118, 97, 114, 121, 32, 34] : Str) ++ v ++ ([34, 59] : Str)) = some ([⟨11, 0, [118, 97, 114, 121, 58] ++ v⟩, ⟨12, 0, []⟩], none) := by
 have vl := hv.l
 refine qjj (qr6 hv) (qr7 (prn (qdf hv) (by omega))) (w := 1) (by kernel_rfl) ?_ (by simp) (by kernel_rfl) (by omega)
 have hs : J7 (JF 2000099) 2000099 (⟨[], [], 0⟩ : Jd) ⟨6, v, [], 1⟩ = some ⟨[⟨11, 0, [118, 97, 114, 121, 58] ++ v⟩], [], 0⟩ := by
  unfold J7
  rw [qum (by simp), qum (by simp), qum (by simp), qum (by simp), qum (by simp), qun (by simp), qak (by simp [lim]; omega)]
  kernel_rfl
 have key : JF (2000099 + 1) (⟨[], [], 0⟩ : Jd) [⟨6, v, [], 1⟩] = some ⟨[⟨11, 0, [118, 97, 114, 121, 58] ++ v⟩], [], 0⟩ := by
  rw [JF, qak (by simp [qa7]), Jab, hs]; rfl
 exact (congrArg (fun o => Option.bind o _) key).trans rfl
theorem quk {v w : Str} (hv : LW v) (hw : LW w) : ∃ a b c d e g h, JaI NN (([116, 97, 103, 32, 34] : Str) ++ v ++ ([34, 59, 32, 116, 97, 103, 32, 34] : Str) ++ w ++ ([34, 59] : Str)) = some ([⟨1, tagS, 1, a⟩, ⟨3, v, 1, b⟩, ⟨4, [59], 1, c⟩, ⟨1, tagS, 1, d⟩, ⟨3, w, 1, e⟩, ⟨4, [59], 1, g⟩, ⟨5, [], 1, h⟩], none) := by
 have vl := hv.l
 have wl := hw.l
 have hl : (([116, 97, 103, 32, 34] : Str) ++ v ++ ([34, 59, 32, 116, 97, 103, 32, 34] : Str) ++ w ++ ([34, 59] : Str)).length ≤ 4000 := by simp; omega
 have h1 := (LS.start (s := ([116, 97, 103, 32, 34] : Str) ++ v ++ ([34, 59, 32, 116, 97, 103, 32, 34] : Str) ++ w ++ ([34, 59] : Str)) (n := NN)).tok (q := tagS) (r := 32 :: 34 :: (v ++ ([34, 59, 32, 116, 97, 103, 32, 34] ++ (w ++ [34, 59])))) (by simp [tagS]) rfl (by decide) hl (by decide) (by decide) (qeg rfl (by decide) (by simp [tagS]; omega) rfl)
 have h2 := h1.blank (r := 34 :: (v ++ ([34, 59, 32, 116, 97, 103, 32, 34] ++ (w ++ [34, 59])))) (by simp [tagS]) hl (by decide)
 have h3 := h2.tok (q := 34 :: (v ++ [34])) (r := [59, 32, 116, 97, 103, 32, 34] ++ (w ++ [34, 59])) (by simp [tagS]) rfl (by decide) hl (by decide) (by decide) (qes (qg4 hv) (by simp; omega))
 have h4 := h3.tok (q := [59]) (r := [32, 116, 97, 103, 32, 34] ++ (w ++ [34, 59])) (by simp [tagS]) rfl (by decide) hl (by decide) (by decide) (qef _)
 have h5 := h4.blank (r := [116, 97, 103, 32, 34] ++ (w ++ [34, 59])) (by simp [tagS]) hl (by decide)
 have h6 := h5.tok (q := tagS) (r := 32 :: 34 :: (w ++ [34, 59])) (by simp [tagS]) rfl (by decide) hl (by decide) (by decide) (qeg rfl (by decide) (by simp [tagS]; omega) rfl)
 have h7 := h6.blank (r := 34 :: (w ++ [34, 59])) (by simp [tagS]) hl (by decide)
 have h8 := h7.tok (q := 34 :: (w ++ [34])) (r := [59]) (by simp [tagS]) rfl (by decide) hl (by decide) (by decide) (qes (qg4 hw) (by simp; omega))
 have h9 := h8.tok (q := [59]) (r := []) (by simp [tagS]) rfl (by decide) hl (by decide) (by decide) (qef _)
 exact ⟨_, _, _, _, _, _, _, h9.fin (by simp [tagS]) hl (by decide) (by decide)⟩
theorem qr8 {v w : Str} (hv : LW v) (hw : LW w) : Jad NN (([116, 97, 103, 32, 34] : Str) ++ v ++ ([34, 59, 32, 116, 97, 103, 32, 34] : Str) ++ w ++ ([34, 59] : Str)) = some (⟨1, [], [⟨7, [], [⟨21, v, [], 1⟩], 1⟩, ⟨7, [], [⟨21, w, [], 1⟩], 1⟩], 1⟩, 0, none) := by
 obtain ⟨a, b, c, d, e, g, h, hh⟩ := quk hv hw
 unfold Jad
 rw [hh]
 clear hh
 kernel_rfl
theorem qr9 {v w : Str} (h : JN v = some true) (h2 : JN w = some true) : Jaz NN ⟨1, [], [⟨7, [], [⟨21, v, [], 1⟩], 1⟩, ⟨7, [], [⟨21, w, [], 1⟩], 1⟩], 1⟩ = some true := by
 have hs : JaQ NN ⟨1, [], [⟨7, [], [⟨21, v, [], 1⟩], 1⟩, ⟨7, [], [⟨21, w, [], 1⟩], 1⟩], 1⟩ 512 32 = some (true, 507) := by kernel_rfl
 have e : ∀ u, JN u = some true → J6 NN ⟨7, [], [⟨21, u, [], 1⟩], 1⟩ = some true := fun u h => by
  rw [show NN = 2000098 + 1 + 1 from rfl, J6, qum (by simp), qum (by simp), qum (by simp), qum (by simp), qum (by simp), qum (by simp), qum (by simp), qun (by simp), qum (by simp), qun (by simp), show ix [(⟨21, u, [], 1⟩ : No)] 0 = some ⟨21, u, [], 1⟩ from rfl, qul, qm8 h]; rfl
 unfold Jaz
 rw [qum (by simp), hs, qul, qum (by simp), qak (by simp [qa7]), Jas, e v h, qul, qum (by simp), Jas, e w h2]; rfl
theorem qtd {v w : Str} (hv : LW v) (hw : LW w) : qba NN (([116, 97, 103, 32, 34] : Str) ++ v ++ ([34, 59, 32, 116, 97, 103, 32, 34] : Str) ++ w ++ ([34, 59] : Str)) = some ([⟨2, 0, v⟩, ⟨11, 0, tagS⟩, ⟨2, 0, w⟩, ⟨11, 0, tagS⟩, ⟨12, 0, []⟩], none) := by
 have vl := hv.l
 have wl := hw.l
 exact qjj (qr8 hv hw) (qr9 (prn (qdf hv) (by omega)) (prn (qdf hw) (by omega))) (w := 4) (by kernel_rfl) (by kernel_rfl) (by simp) (by kernel_rfl) (by omega)
end Tn
set_option maxRecDepth 100000
namespace Tn
def hA : Str := [97, 46, 101, 120, 97, 109, 112, 108, 101]
def acS : Str := [97, 99, 99, 101, 112, 116]
def fA : List Fd := [⟨[104, 111, 115, 116], hA⟩, ⟨acS, [120]⟩]
def iA : JX := ⟨[71, 69, 84], hA, [47, 98], [99], fA⟩
def aA : Je := ⟨hA, [47, 98], [99], true⟩
def rq : Jaa := ⟨[71, 69, 84], [47, 98, 63, 99], fA⟩
abbrev Vl := Jk
abbrev Rs1 := Jp
abbrev Mc := Jh
abbrev In := Jg
def tv (w : Str) : Vl := ⟨1, 0, w, false⟩
def sl0 : List Vl := List.replicate 512 ⟨0, 0, ([] : Str), false⟩
def mk (r : Rs1) (st : List Vl) : Mc := ⟨iA, 10000, r, st, sl0⟩
def up (r : Rs1) : Rs1 := ⟨r.Ae, r.Af, r.Ag, r.Vary, r.Ah, r.TTL, r.Ai, r.Aj + 1, r.Ak, r.Al⟩
theorem qou {m : Mc} {w : Str} (hw : w.length ≤ 2048) (hs : m.stack.length ≤ 100) : J2 m (tv w) false = some (none, ⟨m.Aq, m.most, m.result, m.stack ++ [tv w], m.Ap⟩) := by
 unfold J2
 rw [qum (by show ¬ decide ((w.length : Int) > 2048) = true; simp; omega), qum (by simp), qul, Rt.el_go, qak (by simp only [lim, List.length_singleton]; omega)]
theorem qij {r : Rs1} {st : List Vl} {k : Nat} {w : Str} (hw : w.length ≤ 2048) (h0 : 0 ≤ r.Aj ∧ r.Aj ≤ 100) (hk : k ≤ 100) (hs : st.length ≤ 100) : J3 (mk r st) (k : Int) ⟨2, 0, w⟩ = some ((k : Int) + 1, none, mk (up r) (st ++ [tv w])) := by
 unfold J3
 have e : ∀ m : Mc, m = mk (up r) st → J2 m (tv w) false = some (none, mk (up r) (st ++ [tv w])) := fun m hm => by rw [hm, qou hw hs]; rfl
 rw [qak (by show InI (r.Aj + 1); constructor <;> omega), qum (by show ¬ decide (r.Aj + 1 > 10000) = true; simp; omega), qak (by constructor <;> omega), qum (by simp), qun (by simp), show JaL w = some (tv w) from rfl, qul]
 refine (congrArg (fun o => Option.bind o _) (e _ rfl)).trans rfl
theorem qik {r r' : Rs1} {k : Nat} {a : Str} {v : Vl} (h0 : 0 ≤ r.Aj ∧ r.Aj ≤ 100) (hk : k ≤ 100) (hq : ((if (decide (a ≠ ([112, 97, 115, 115] : Str)) && decide (a ≠ ([116, 111, 107, 101, 110] : Str))) = true then (JA a ([118, 97, 114, 121, 58] : Str)).bind fun x179 => some (!x179) else some false) : Option Bool) = some true) (hd : a ≠ [100, 101, 110, 121]) (ha : JG (up r) a v = some (none, r')) : J3 (mk r [v]) (k : Int) ⟨11, 0, a⟩ = some ((k : Int) + 1, none, mk r' []) := by
 unfold J3
 rw [qak (by show InI (r.Aj + 1); constructor <;> omega), qum (by show ¬ decide (r.Aj + 1 > 10000) = true; simp; omega), qak (by constructor <;> omega), qum (by simp), qum (by simp), qum (by simp), qum (by simp), qum (by simp), qum (by simp), qum (by simp), qum (by simp), qum (by simp), qum (by simp), qun (by simp)]
 dsimp only
 rw [hq, qul, qun rfl]
 have e : ∀ m : Mc, m = mk (up r) [v] → Jam m = some (v, mk (up r) []) := fun m hm => by rw [hm]; rfl
 have e2 : ∀ m : Rs1, m = up r → JG m a v = some (none, r') := fun m hm => by rw [hm]; exact ha
 refine (congrArg (fun o => Option.bind (Option.bind o _) _) (e _ rfl)).trans ?_
 simp only [qul]
 refine (congrArg (fun o => Option.bind o _) (e2 _ rfl)).trans ?_
 rw [qul, qum (by simp), qum (by simpa using hd)]; rfl
theorem qna {r r' : Rs1} {k : Nat} {a : Str} (h0 : 0 ≤ r.Aj ∧ r.Aj ≤ 100) (hk : k ≤ 100) (hq : ((if (decide (a ≠ ([112, 97, 115, 115] : Str)) && decide (a ≠ ([116, 111, 107, 101, 110] : Str))) = true then (JA a ([118, 97, 114, 121, 58] : Str)).bind fun x179 => some (!x179) else some false) : Option Bool) = some false) (hd : a ≠ [100, 101, 110, 121]) (ha : JG (up r) a ⟨0, 0, [], false⟩ = some (none, r')) : J3 (mk r []) (k : Int) ⟨11, 0, a⟩ = some ((k : Int) + 1, none, mk r' []) := by
 unfold J3
 rw [qak (by show InI (r.Aj + 1); constructor <;> omega), qum (by show ¬ decide (r.Aj + 1 > 10000) = true; simp; omega), qak (by constructor <;> omega), qum (by simp), qum (by simp), qum (by simp), qum (by simp), qum (by simp), qum (by simp), qum (by simp), qum (by simp), qum (by simp), qum (by simp), qun (by simp)]
 dsimp only
 rw [hq, qul, qum (by simp), qul]
 have e2 : ∀ m : Rs1, m = up r → JG m a ⟨0, 0, [], false⟩ = some (none, r') := fun m hm => by rw [hm]; exact ha
 refine (congrArg (fun o => Option.bind o _) (e2 _ rfl)).trans ?_
 rw [qul, qum (by simp), qum (by simpa using hd)]; rfl
theorem qg5 {r : Rs1} {k : Nat} (h0 : 0 ≤ r.Aj ∧ r.Aj ≤ 100) (hk : k ≤ 100) : J3 (mk r []) (k : Int) ⟨12, 0, []⟩ = some (-1, none, mk (up r) []) := by
 unfold J3
 rw [qak (by show InI (r.Aj + 1); constructor <;> omega), qum (by show ¬ decide (r.Aj + 1 > 10000) = true; simp; omega), qak (by constructor <;> omega), qum (by simp), qum (by simp), qum (by simp), qum (by simp), qum (by simp), qum (by simp), qum (by simp), qum (by simp), qum (by simp), qum (by simp), qum (by simp), qun (by simp)]
 rfl
theorem qej {c : List In} {n k : Nat} {x : In} {r r2 : Rs1} {st st2 : List Vl} {k2 : Int} (hx : c[k]? = some x) (h : J3 (mk r st) (k : Int) x = some (k2, none, mk r2 st2)) : Ja1 c iA (n + 1) (k : Int) (mk r st) = Ja1 c iA n k2 (mk r2 st2) := by
 rw [Ja1, qun (by simp), show ix c (k : Int) = some x from by unfold ix; rw [qun (by omega), Int.toNat_natCast]; exact hx, qul]
 refine (congrArg (fun o => Option.bind o _) h).trans ?_
 rw [qul, qum (by simp)]; rfl
theorem qke {c : List In} {n : Nat} {r : Rs1} : Ja1 c iA (n + 1) (-1) (mk r []) = some (Fl.go (-1, mk r [])) := by
 rw [Ja1, qum (by simp)]; rfl
theorem qnb {c : List In} {r : Rs1} (hc : Jat c = some none) (h : Ja1 c iA NN ((0 : Nat) : Int) (mk ⟨[47, 98], [99], [], [], [], -1, 0, 0, false, false⟩ []) = some (Fl.go (-1, mk r []))) : Jb9 NN c iA 10000 = some (r, none) := by
 unfold Jb9
 rw [hc, qul, qum (by simp)]
 refine (congrArg (fun o => Option.bind o _) h).trans rfl
def r0 : Rs1 := ⟨[47, 98], [99], [], [], [], -1, 0, 0, false, false⟩
theorem qqr {w a : Str} {r' : Rs1} (hc : Jat [⟨2, 0, w⟩, ⟨11, 0, a⟩, ⟨12, 0, []⟩] = some none) (hw : w.length ≤ 2048) (hq : ((if (decide (a ≠ ([112, 97, 115, 115] : Str)) && decide (a ≠ ([116, 111, 107, 101, 110] : Str))) = true then (JA a ([118, 97, 114, 121, 58] : Str)).bind fun x179 => some (!x179) else some false) : Option Bool) = some true) (hd : a ≠ [100, 101, 110, 121]) (ha : JG (up (up r0)) a (tv w) = some (none, r')) (hr : r'.Aj = 2) : Jb9 NN [⟨2, 0, w⟩, ⟨11, 0, a⟩, ⟨12, 0, []⟩] iA 10000 = some (up r', none) := by
 refine qnb hc ?_
 refine (qej (n := 2000099) (k := 0) (r := r0) rfl (qij hw (by decide) (by decide) (by decide))).trans ?_
 refine (qej (n := 2000098) (k := 1) (r := up r0) rfl (qik (by decide) (by decide) hq hd ha)).trans ?_
 exact (qej (n := 2000097) (k := 2) (r := r') rfl (qg5 (by omega) (by decide))).trans qke
theorem qte {a : Str} {r' : Rs1} (hc : Jat [⟨11, 0, a⟩, ⟨12, 0, []⟩] = some none) (hq : ((if (decide (a ≠ ([112, 97, 115, 115] : Str)) && decide (a ≠ ([116, 111, 107, 101, 110] : Str))) = true then (JA a ([118, 97, 114, 121, 58] : Str)).bind fun x179 => some (!x179) else some false) : Option Bool) = some false) (hd : a ≠ [100, 101, 110, 121]) (ha : JG (up r0) a ⟨0, 0, [], false⟩ = some (none, r')) (hr : r'.Aj = 1) : Jb9 NN [⟨11, 0, a⟩, ⟨12, 0, []⟩] iA 10000 = some (up r', none) := by
 refine qnb hc ?_
 refine (qej (n := 2000099) (k := 0) (r := r0) rfl (qna (by decide) (by decide) hq hd ha)).trans ?_
 exact (qej (n := 2000098) (k := 1) (r := r') rfl (qg5 (by omega) (by decide))).trans qke
theorem qtf {v w a : Str} {r1 r' : Rs1} (hc : Jat [⟨2, 0, v⟩, ⟨11, 0, a⟩, ⟨2, 0, w⟩, ⟨11, 0, a⟩, ⟨12, 0, []⟩] = some none) (hv : v.length ≤ 2048) (hw : w.length ≤ 2048) (hq : ((if (decide (a ≠ ([112, 97, 115, 115] : Str)) && decide (a ≠ ([116, 111, 107, 101, 110] : Str))) = true then (JA a ([118, 97, 114, 121, 58] : Str)).bind fun x179 => some (!x179) else some false) : Option Bool) = some true) (hd : a ≠ [100, 101, 110, 121]) (h1 : JG (up (up r0)) a (tv v) = some (none, r1)) (e1 : r1.Aj = 2) (h2 : JG (up (up r1)) a (tv w) = some (none, r')) (e2 : r'.Aj = 4) : Jb9 NN [⟨2, 0, v⟩, ⟨11, 0, a⟩, ⟨2, 0, w⟩, ⟨11, 0, a⟩, ⟨12, 0, []⟩] iA 10000 = some (up r', none) := by
 refine qnb hc ?_
 refine (qej (n := 2000099) (k := 0) (r := r0) rfl (qij hv (by decide) (by decide) (by decide))).trans ?_
 refine (qej (n := 2000098) (k := 1) (r := up r0) rfl (qik (by decide) (by decide) hq hd h1)).trans ?_
 refine (qej (n := 2000097) (k := 2) (r := r1) rfl (qij hw (by omega) (by decide) (by decide))).trans ?_
 refine (qej (n := 2000096) (k := 3) (r := up r1) rfl (qik (by show 0 ≤ r1.Aj + 1 ∧ r1.Aj + 1 ≤ 100; omega) (by decide) hq hd h2)).trans ?_
 exact (qej (n := 2000095) (k := 4) (r := r') rfl (qg5 (by omega) (by decide))).trans qke
theorem qkf {w : Str} (h : prt w = true) (hl : w.length ≤ 1000) : Jae ⟨2, 0, w⟩ = some (0, 1, true) := by
 unfold Jae
 rw [qum (by simp), qun (by simp), qun (by simp)]
 dsimp only
 rw [Rt.Rc.rprint (by omega), h]; rfl
theorem qqs {w a : Str} (hw : prt w = true) (hl : w.length ≤ 1000) (ha : Jae ⟨11, 0, a⟩ = some (1, 0, true)) : Jat [⟨2, 0, w⟩, ⟨11, 0, a⟩, ⟨12, 0, []⟩] = some none := by
 unfold Jat Jco
 simp only [JaK]
 rw [qkf hw hl, ha]
 kernel_rfl
theorem qtg {a : Str} (ha : Jae ⟨11, 0, a⟩ = some (0, 0, true)) : Jat [⟨11, 0, a⟩, ⟨12, 0, []⟩] = some none := by
 unfold Jat Jco
 simp only [JaK]
 rw [ha]
 kernel_rfl
theorem qth {v w a : Str} (hv : prt v = true) (hvl : v.length ≤ 1000) (hw : prt w = true) (hl : w.length ≤ 1000) (ha : Jae ⟨11, 0, a⟩ = some (1, 0, true)) : Jat [⟨2, 0, v⟩, ⟨11, 0, a⟩, ⟨2, 0, w⟩, ⟨11, 0, a⟩, ⟨12, 0, []⟩] = some none := by
 unfold Jat Jco
 simp only [JaK]
 rw [qkf hv hvl, qkf hw hl, ha]
 kernel_rfl
end Tn
set_option maxRecDepth 100000
namespace Tn
theorem sbl : ∀ (x y : Str), Op.bytesLess x y = decide (x < y)
 | x, [] => by cases x <;> simp [Op.bytesLess]
 | [], _ :: _ => by simp [Op.bytesLess]
 | a :: x, b :: y => by
  simp only [Op.bytesLess, sbl x y, List.cons_lt_cons_iff]
  by_cases h : a < b
  ·simp [h]
  ·by_cases k : a = b
   ·subst k; simp [h]
   ·simp [h, k]
theorem qpp (l : List Str) : (sortS l).Pairwise (· ≤ ·) := by
 refine (List.pairwise_mergeSort (fun a b c h k => ?_) (fun a b => ?_) l).imp fun h => of_decide_eq_true h
 ·exact decide_eq_true (List.le_trans (of_decide_eq_true h) (of_decide_eq_true k))
 ·rcases List.le_total a b with h | h <;> simp [h]
theorem qnc {v w : Str} (h : v ≤ w) : sortS [v, w] = [v, w] ∧ sortS [w, v] = [v, w] := by
 have hp : List.Pairwise (α := Str) (· ≤ ·) [v, w] := by simp [h]
 exact ⟨List.Perm.eq_of_pairwise (fun a b _ _ h k => List.le_antisymm h k) (qpp _) hp (List.mergeSort_perm _ _),
  List.Perm.eq_of_pairwise (fun a b _ _ h k => List.le_antisymm h k) (qpp _) hp ((List.mergeSort_perm _ _).trans (List.Perm.swap _ _ _))⟩
theorem qkg (v : Str) : sortS [v] = [v] := by unfold sortS; exact List.mergeSort_singleton v
theorem qpq : ∀ (s : Str) (i : Nat), (∀ c ∈ s, 97 ≤ c.toNat ∧ c.toNat ≤ 122) → tags_good_L0 s i = some (Fl.go ())
 | [], i, _ => rfl
 | c :: s, i, h => by
  have hc := h c (by simp)
  rw [tags_good_L0, qum (by rw [decide_eq_true_eq]; omega), qul, qum (by rw [decide_eq_true_eq]; omega)]
  exact qpq s (i + 1) fun d hd => h d (by simp [hd])
theorem qnd {s : Str} (hs : s.length ≤ 100) (h : ∀ c ∈ s, 97 ≤ c.toNat ∧ c.toNat ≤ 122) : ∀ (k n i : Nat), i + k = s.length → k < n → tags_Clean_L2 s n (i : Int) = some (s.length : Int)
 | 0, n + 1, i, hi, hn => by
  rw [tags_Clean_L2, qum (by simp; omega), qul, qum (by simp), qul, qum (by simp)]
  congr 1; omega
 | k + 1, n + 1, i, hi, hn => by
  have hl : i < s.length := by omega
  have hx : ix s (i : Int) = some s[i] := by unfold ix; rw [qun (by omega), Int.toNat_natCast, List.getElem?_eq_getElem hl]
  have hc := h s[i] (List.getElem_mem hl)
  rw [tags_Clean_L2, qun (by simp; omega), hx, qul, qul, qun (by rw [decide_eq_true_eq]; omega), qul, qul, qun (by rw [decide_eq_true_eq]; omega), qak (by constructor <;> omega)]
  have := qnd hs h k n (i + 1) (by omega) (by omega)
  rw [show ((i : Int) + 1) = ((i + 1 : Nat) : Int) from by omega, this]
theorem qov {v : Str} (hv : LW v) (hne : v ≠ []) : qdk NN v = some ([v], none) := by
 have vl := hv.l
 obtain ⟨c, t, rfl⟩ : ∃ c t, v = c :: t := by cases v with | nil => exact absurd rfl hne | cons c t => exact ⟨c, t, rfl⟩
 have hc := hv.c c (by simp)
 have hl2 := qnd (s := c :: t) (by omega) hv.c (c :: t).length NN 0 (by simp) (by simp only [NN]; omega)
 have hsub : subL (c :: t) (0 : Int) ((c :: t).length : Int) = c :: t := by
  unfold subL
  rw [show ((0 : Int)).toNat = 0 from rfl, List.drop_zero, show (((c :: t).length : Int) - 0).toNat = (c :: t).length from by omega, List.take_length]
 have hg : tags_good (c :: t) = some true := by
  unfold tags_good
  rw [qum (by simp only [List.length_cons] at vl ⊢; simp; omega), qak (by simp only [qa7]; omega), qpq _ 0 hv.c]; rfl
 have hx : ix (c :: t) 0 = some c := rfl
 have hL : tags_Clean_L0 (c :: t) NN (2000098 + 1 + 1) [] 0 = some (Fl.go ([c :: t], ((c :: t).length : Int))) := by
  rw [tags_Clean_L0, qun (by simp), hx, qul, qum (by rw [decide_eq_true_eq]; omega), qul, qul, qul, qum (by rw [decide_eq_true_eq]; omega)]
  rw [show (0 : Int) = ((0 : Nat) : Int) from rfl, hl2, qul, qak (by simp; omega), show ((0 : Nat) : Int) = 0 from rfl, hsub, hg, qul, qum (by simp), qun (by simp), show JD [] (c :: t) = some false from rfl, qul, qul, qun (by simp), qak (by simp [lim]), tags_Clean_L0, qum (by simp)]
  rfl
 unfold qdk
 rw [show tags_Clean_L0 (c :: t) NN NN [] 0 = _ from hL, qul, Rt.el_go]
 unfold qdy
 rw [qun (by simp [lim]), qul, qkg]
theorem qkh {v : Str} (hv : LW v) (hne : v ≠ []) (l : List Str) (i : Nat) (y : List Str) (hy : y.length < 16) (hn : v ∉ y) : tenant_words_L0 NN (v :: l) i y = tenant_words_L0 NN l (i + 1) (y ++ [v]) := by
 rw [tenant_words_L0, qov hv hne, qul, qun (by simp), show ix ([v], (none : Err)).1 0 = some v from rfl, qul, qul, qun (by simp; omega), qrz (by omega), qul, qul, qul, qun (by simpa using hn), qak (by simp only [lim, List.length_singleton]; omega)]
theorem qqt {v : Str} (hv : LW v) (hne : v ≠ []) : tenant_words NN [v] = some [v] := by
 unfold tenant_words
 rw [qak (by simp [qa7]), qkh hv hne [] 0 [] (by simp) (by simp), tenant_words_L0, qul]
 unfold qdy
 rw [qun (by simp [lim]), qul, List.nil_append, qkg]
theorem qqu {v w : Str} (hv : LW v) (hne : v ≠ []) (hw : LW w) (hne2 : w ≠ []) (h : w ≠ v) : tenant_words NN [v, w] = some (sortS [v, w]) := by
 unfold tenant_words
 rw [qak (by simp [qa7]), qkh hv hne [w] 0 [] (by simp) (by simp), qkh hw hne2 [] 1 _ (by simp) (by simpa using h), tenant_words_L0, qul]
 unfold qdy
 rw [qun (by simp [lim]), qul]; rfl
theorem qsa : ∀ c : UInt8, 97 ≤ c.toNat → c.toNat ≤ 122 → unr c = true := qlp (by unfold unr; decide +kernel)
theorem qne (ot : Str) : ∀ u : Str, (∀ c ∈ u, 97 ≤ c.toNat ∧ c.toNat ≤ 122) → can ot u = some u
 | [], _ => by rw [can.eq_def]
 | c :: u, h => by
  have hc := h c (by simp)
  rw [qjg (fun e => by subst e; revert hc; decide) (qqm (qsa c hc.1 hc.2)), qne ot u fun d hd => h d (by simp [hd])]; rfl
theorem qpr : ∀ u : Str, (∀ c ∈ u, 97 ≤ c.toNat ∧ c.toNat ≤ 122) → spl 47 u = [u]
 | [], _ => rfl
 | c :: u, h => by
  have hc := h c (by simp)
  rw [spl, qum (fun e => by subst e; revert hc; decide), qpr u fun d hd => h d (by simp [hd])]; rfl
theorem qti {u : Str} {d : UInt8} (hd : ¬ (97 ≤ d.toNat ∧ d.toNat ≤ 122)) (h : ∀ c ∈ u, 97 ≤ c.toNat ∧ c.toNat ≤ 122) : d ∉ u := fun e => hd (h d e)
theorem qsb {u q : Str} (hu : LW u) (hne : u ≠ []) (hq : LW q) : prs hA ((47 :: u) ++ 63 :: q) = (⟨hA, 47 :: u, q, true⟩, none) := by
 have ul := hu.l
 have ql := hq.l
 have hc : Go.Lib.cut ((47 :: u) ++ 63 :: q) [63] = (47 :: u, q, true) := qpm (fun e => by
  rcases List.mem_cons.1 e with e | e
  ·cases e
  ·exact qti (by decide) hu.c e)
 have hcan : can oP (47 :: u) = some (47 :: u) := by rw [qjg (by decide) qrx, qne oP u hu.c]; rfl
 have hnd : ∀ p ∈ [u], nd p := fun p hp => by
  rw [List.mem_singleton] at hp
  subst hp
  obtain ⟨c, t, rfl⟩ : ∃ c t, p = c :: t := by cases p with | nil => exact absurd rfl hne | cons c t => exact ⟨c, t, rfl⟩
  have hb := hu.c c (by simp)
  exact ⟨fun e => by cases e; exact absurd hb (by decide), fun e => by cases e; exact absurd hb (by decide)⟩
 unfold prs
 rw [hc]
 dsimp only
 rw [qum (by simp), hcan, qne oQ q hq.c]
 dsimp only
 rw [show (47 :: u : Str).drop 1 = u from rfl, qpr u hu.c, qpk [u] [] hnd]
 dsimp only
 rw [List.nil_append, show jn 47 [u] = u from rfl, qum (by unfold txl; simp [hA]; omega)]
theorem qsc : JcB hA = some (hA, none) := by decide +kernel
theorem qil {u q : Str} (hu : LW u) (hne : u ≠ []) (hq : LW q) : JaJ NN hA ((47 :: u) ++ 63 :: q) = some (⟨hA, 47 :: u, q, true⟩, none) := by
 have ul := hu.l
 have ql := hq.l
 rw [qor qsc (by decide) (by simp; omega) (by decide), qsb hu hne hq]
theorem qfh {x : Rs1} (h : x.Af ≠ []) (h1 : x.Ae.length ≤ 100) (h2 : x.Af.length ≤ 100) : qb3 aA x = some (x.Ae ++ 63 :: x.Af) := by
 unfold qb3
 rw [qun (by simpa using h), qul, qun rfl, qak (by simp only [lim, List.length_singleton]; omega), qak (by simp only [lim, List.length_append, List.length_singleton]; omega)]
 simp
theorem qnf {s : Str} {c : List In} (h : qba NN s = some (c, none)) : qbc NN [(⟨hA, 0, s⟩ : JJ)] = some (some ⟨[(hA, ⟨0, c⟩)]⟩, 0, none) := by
 have ha : tenant_Directory_add NN (⟨[]⟩ : JI) ⟨hA, 0, s⟩ = some (none, ⟨[(hA, ⟨0, c⟩)]⟩) := by
  unfold tenant_Directory_add
  dsimp only
  rw [qsc, qul, qum (by simp), qum (by simp), h, qul, qum (by simp)]; rfl
 unfold qbc
 rw [qak (by simp [qa7]), tenant_New_L0, ha, qul, qum (by simp), tenant_New_L0]; rfl
def acF : Fd := ⟨acS, [120]⟩
theorem qng {c : List In} {x : Rs1} {t : Str} {w ve : List Str} {hs : List Fd} {b : Je} (hrun : Jb9 NN c iA 10000 = some (x, none)) (ht : qb3 aA x = some t) (hb : JaJ NN hA t = some (b, none)) (hv : x.Vary.length ≤ 100) (hve : qc6 (sortS x.Vary) = some ve) (hw : tenant_words NN x.Ah = some w) (hu : tenant_upstream NN fA x.Ag = some hs) : qar NN ⟨[(hA, ⟨0, c⟩)]⟩ rq = some (⟨0, x.TTL, x.Ai, aA, b, hs, ve, w, x.Ak, x.Al⟩, none) := by
 unfold qar
 rw [show Jc2 rq.Ao ([104, 111, 115, 116] : Str) = some [hA] from by decide +kernel, qul, qum (by simp), show ix [hA] 0 = some hA from rfl, qul, show qcn hA = some hA from by decide +kernel, qul, show mget ([(hA, ⟨0, c⟩)] : List (Str × Jw)) hA = some ⟨0, c⟩ from by rw [qch, qun rfl], qum (by simp), show JaJ NN hA rq.Target = some (aA, none) from by kernel_rfl, qul, qum (by simp)]
 dsimp only [Option.getD]
 rw [show Jb9 NN c (⟨rq.Am, aA.An, aA.Ae, aA.Af, rq.Ao⟩ : JX) 10000 = some (x, none) from hrun, qul, qum (by simp)]
 dsimp only
 rw [ht, qul, hb, qul, qum (by simp), show Jbv x.Vary = some x.Vary from by unfold Jbv; rw [qak (by simp only [lim, List.length_nil]; omega), List.nil_append], qul, show qdy x.Vary = some (sortS x.Vary) from by unfold qdy; rw [qun (by simp only [lim]; omega)], qul, show tenant_upstream NN rq.Ao x.Ag = some hs from hu, qul, hve, qul, hw, qul]
 have e : ((if (decide (rq.Am ≠ ([71, 69, 84] : Str)) && decide (rq.Am ≠ ([72, 69, 65, 68] : Str))) = true then some true else (Jc2 rq.Ao ([97, 117, 116, 104, 111, 114, 105, 122, 97, 116, 105, 111, 110] : Str)).bind fun x128 => some (decide ((x128.length : Int) > 0))) : Option Bool) = some false := by decide +kernel
 rw [e, qul]
 cases x.Ak <;> rfl
theorem qsd : tenant_upstream NN fA [] = some [acF] := by kernel_rfl
theorem qow : qc6 (sortS []) = some [] := by decide +kernel
theorem qim : tenant_words NN [] = some [] := by decide +kernel
theorem qtj (v : Str) : qc6 (sortS [v]) = some [v] := by
 rw [qkg]; rfl
theorem qt5 : LW [98] := ⟨by decide, by decide⟩
theorem qt6 : LW [99] := ⟨by decide, by decide⟩
theorem qin : JaJ NN hA ([47, 98] ++ 63 :: [99]) = some (aA, none) := qil qt5 (by simp) qt6
def qcu (c : Je) (f : List Fd) (v t : List Str) : Js := ⟨0, -1, 0, aA, c, f, v, t, false, false⟩
theorem qtk {v : Str} (hv : LW v) (hne : v ≠ []) : ∃ d, qbc NN [(⟨hA, 0, ([112, 97, 116, 104, 32, 61, 32, 34, 47] : Str) ++ v ++ ([34, 59] : Str)⟩ : JJ)] = some (some d, 0, none) ∧ qar NN d rq = some (qcu ⟨hA, 47 :: v, [99], true⟩ [acF] [] [], none) := by
 have vl := hv.l
 have hs : Jae ⟨11, 0, pathS⟩ = some (1, 0, true) := by decide +kernel
 have hr := qqr (w := 47 :: v) (a := pathS) (r' := ⟨47 :: v, [99], [], [], [], -1, 0, 2, false, false⟩) (qqs (by rw [qih, qdf hv]; decide) (by simp; omega) hs) (by simp; omega) (by decide +kernel) (by decide) (by kernel_rfl) rfl
 exact ⟨_, qnf (qs9 hv), qng hr (qfh (by show ([99] : Str) ≠ []; simp) (by show (47 :: v : Str).length ≤ 100; simp; omega) (by show ([99] : Str).length ≤ 100; simp)) (qil hv hne qt6) (by show ([] : List Str).length ≤ 100; simp) qow qim qsd⟩
theorem qtl {v : Str} (hv : LW v) (hne : v ≠ []) : ∃ d, qbc NN [(⟨hA, 0, ([113, 117, 101, 114, 121, 32, 61, 32, 34] : Str) ++ v ++ ([34, 59] : Str)⟩ : JJ)] = some (some d, 0, none) ∧ qar NN d rq = some (qcu ⟨hA, [47, 98], v, true⟩ [acF] [] [], none) := by
 have vl := hv.l
 have hs : Jae ⟨11, 0, qct⟩ = some (1, 0, true) := by decide +kernel
 have hr := qqr (w := v) (a := qct) (r' := ⟨[47, 98], v, [], [], [], -1, 0, 2, false, false⟩) (qqs (qdf hv) (by omega) hs) (by omega) (by decide +kernel) (by decide) (by kernel_rfl) rfl
 exact ⟨_, qnf (qta hv), qng hr (qfh hne (by show ([47, 98] : Str).length ≤ 100; simp) (by show v.length ≤ 100; omega)) (qil qt5 (by simp) hv) (by show ([] : List Str).length ≤ 100; simp) qow qim qsd⟩
end Tn
set_option maxRecDepth 100000
namespace Tn
theorem ihp (s p : Str) : JV s p = JA s p := by
 unfold JA
 cases JV s p <;> rfl
theorem qtm (p q : Str) : JA (p ++ q) p = some true := by
 have e : subL (p ++ q) (0 : Int) (p.length : Int) = p := by
  unfold subL
  rw [show ((0 : Int)).toNat = 0 from rfl, List.drop_zero, show ((p.length : Int) - 0).toNat = p.length from by omega]
  exact List.take_left
 rw [qdq, e, decide_eq_true (by rw [List.length_append]; omega)]
 simp
theorem qk9 (p q : Str) : JaP (p ++ q) p = some (q, true) := by
 have e2 : subL (p ++ q) (p.length : Int) ((p ++ q).length : Int) = q := by
  unfold subL
  rw [Int.toNat_natCast, List.drop_left, List.take_of_length_le (by simp; omega)]
 unfold JaP Jan
 rw [ihp, qtm, qul, qum (by simp), qak (by rw [List.length_append]; omega), e2]; rfl
theorem qki {c d : UInt8} {p q : Str} (h : c ≠ d) : JA (c :: q) (d :: p) = some false := by
 rw [qdq]
 have : subL (c :: q) (0 : Int) ((d :: p).length : Int) ≠ d :: p := by
  unfold subL
  rw [show ((0 : Int)).toNat = 0 from rfl, List.drop_zero, show (((d :: p).length : Int) - 0).toNat = p.length + 1 from by simp, List.take_succ_cons]
  intro e
  exact h (List.cons.inj e).1
 rw [decide_eq_false this, Bool.and_false]
theorem qqv {c d : UInt8} {p q : Str} (h : c ≠ d) : JaP (c :: q) (d :: p) = some (c :: q, false) := by
 unfold JaP Jan
 rw [ihp, qki h]; rfl
theorem qse : ∀ c : UInt8, (97 ≤ c.toNat ∧ c.toNat ≤ 122) ∨ c.toNat = 45 → qco c = some true := qlp (by unfold qco; decide +kernel)
theorem qps : ∀ (s : Str) (i : Nat), (∀ c ∈ s, (97 ≤ c.toNat ∧ c.toNat ≤ 122) ∨ c.toNat = 45) → syntax_Token_L0 s i = some (Fl.go ())
 | [], i, _ => rfl
 | c :: s, i, h => by
  rw [syntax_Token_L0, qse c (h c (by simp)), qul, qum (by simp)]
  exact qps s (i + 1) fun d hd => h d (by simp [hd])
theorem qnh (s : Str) (h : ∀ c ∈ s, (97 ≤ c.toNat ∧ c.toNat ≤ 122) ∨ c.toNat = 45) : low s = s := by
 unfold low
 refine (List.map_congr_left fun c hc => ?_).trans (List.map_id s)
 have := h c hc
 unfold lowB
 rw [qum (by simp only [Bool.and_eq_true, decide_eq_true_eq]; omega)]; rfl
theorem qni {s : Str} (h : ∀ c ∈ s, (97 ≤ c.toNat ∧ c.toNat ≤ 122) ∨ c.toNat = 45) (hl : s.length ≤ 60) (hne : s ≠ []) : Jdw s = some (s, none) := by
 unfold Jdw qdb
 rw [qak (by simp only [qa7]; omega), qps s 0 h, qul, Rt.el_go, qul, qum (by simpa using hne), qum (by simp; omega), qmu (by omega), qul, qnh s h]
theorem qpt : ∀ (s : Str) (i : Nat), (∀ c ∈ s, 97 ≤ c.toNat ∧ c.toNat ≤ 122) → Jbl s i = some (Fl.go ())
 | [], i, _ => rfl
 | c :: s, i, h => by
  have hc := h c (by simp)
  rw [Jbl, qum (by rw [decide_eq_true_eq]; omega), qul, qum (by simp), qul, qum (by rw [decide_eq_true_eq]; omega)]
  exact qpt s (i + 1) fun d hd => h d (by simp [hd])
theorem qsf (s : Str) (h : ∀ c ∈ s, 97 ≤ c.toNat ∧ c.toNat ≤ 122) : s.dropWhile (([32, 9] : Str).contains ·) = s := by
 cases s with
 | nil => rfl
 | cons c s =>
  have hc := h c (by simp)
  rw [List.dropWhile_cons, qum]
  intro e
  have : c = 32 ∨ c = 9 := by simpa using e
  rcases this with rfl | rfl
  ·exact absurd hc (by decide)
  ·exact absurd hc (by decide)
theorem qqw (s : Str) (h : ∀ c ∈ s, 97 ≤ c.toNat ∧ c.toNat ≤ 122) (hl : s.length ≤ 100) : qie s ([32, 9] : Str) = some s := by
 unfold qie
 rw [qun ⟨by omega, by simp, by decide⟩]
 show some ((Go.Lib.trimRightS s [32, 9]).dropWhile (([32, 9] : Str).contains ·)) = _
 have e : Go.Lib.trimRightS s [32, 9] = s := by
  show (s.reverse.dropWhile (([32, 9] : Str).contains ·)).reverse = s
  rw [qsf s.reverse fun c hc => h c (List.mem_reverse.1 hc), List.reverse_reverse]
 rw [e, qsf s h]
theorem qox {s : Str} (h : ∀ c ∈ s, 97 ≤ c.toNat ∧ c.toNat ≤ 122) (hl : s.length ≤ 60) : JcY s = some (s, none) := by
 unfold JcY Jdg
 rw [qak (by simp only [qa7]; omega), qpt s 0 h, qul, Rt.el_go, qul, qum (by simp), qqw s h (by omega), qul, qum (by simp; omega)]
def hdP : Str := [104, 101, 97, 100, 101, 114, 58]
def vyP : Str := [118, 97, 114, 121, 58]
theorem qqx {v : Str} (hv : LW v) : ∀ c ∈ xS ++ v, (97 ≤ c.toNat ∧ c.toNat ≤ 122) ∨ c.toNat = 45 := fun c hc => by
 rcases List.mem_append.1 hc with hc | hc
 ·exact (by decide : ∀ c ∈ xS, (97 ≤ c.toNat ∧ c.toNat ≤ 122) ∨ c.toNat = 45) c hc
 ·exact .inl (hv.c c hc)
theorem qsg {v : Str} (hv : LW v) : Jae ⟨11, 0, hdP ++ (xS ++ v)⟩ = some (1, 0, true) := by
 have vl := hv.l
 unfold Jae Jc5
 rw [qum (by simp), qum (by simp), qum (by simp), qum (by simp), qum (by simp), qum (by simp), qum (by simp), qum (by simp), qum (by simp), qum (by simp), qun (by simp)]
 dsimp only
 rw [qum (by simp [hdP]), qum (by simp [hdP]), qum (by simp [hdP]), qum (by simp [hdP]), qum (by simp [hdP]), qum (by simp [hdP]), qum (by simp [hdP]), show ([104, 101, 97, 100, 101, 114, 58] : Str) = hdP from rfl, qk9, qul, qun rfl, Rt.Rc.rprint (by simp [xS]; omega), qm9 (by decide) (qdf hv)]; rfl
theorem qsh {v : Str} (hv : LW v) : Jae ⟨11, 0, vyP ++ v⟩ = some (0, 0, true) := by
 have vl := hv.l
 unfold Jae Jc5
 rw [qum (by simp), qum (by simp), qum (by simp), qum (by simp), qum (by simp), qum (by simp), qum (by simp), qum (by simp), qum (by simp), qum (by simp), qun (by simp)]
 dsimp only
 rw [qum (by simp [vyP]), qum (by simp [vyP]), qum (by simp [vyP]), qum (by simp [vyP]), qum (by simp [vyP]), qum (by simp [vyP]), qum (by simp [vyP]), show vyP ++ v = 118 :: ([97, 114, 121, 58] ++ v) from rfl, qqv (by decide), qul, qum (by simp), show (118 :: ([97, 114, 121, 58] ++ v) : Str) = vyP ++ v from rfl, show ([118, 97, 114, 121, 58] : Str) = vyP from rfl, qk9, qul, qun rfl, Rt.Rc.rprint (by show v.length ≤ 100000; omega), qdf hv]; rfl
theorem qsi {p q : Str} (hp : (58 : UInt8) ∉ p) (hl : (p ++ 58 :: q).length ≤ 1000) : qnn (p ++ 58 :: q) ([58] : Str) = some (p, q, true) := by
 unfold qnn
 rw [qun (by rw [qfg]; omega), qpm hp]
theorem qsj {v w : Str} (hv : LW v) (hw : LW w) : JG (up (up r0)) (hdP ++ (xS ++ v)) (tv w) = some (none, ⟨[47, 98], [99], [⟨xS ++ v, w⟩], [], [], -1, 0, 2, false, false⟩) := by
 have vl := hv.l
 have wl := hw.l
 have hn := qni (s := xS ++ v) (qqx hv) (by simp [xS]; omega) (by simp [xS])
 have hvl := qox hw.c (by omega)
 have hset : JcP [] (xS ++ v) w = some [⟨xS ++ v, w⟩] := by
  unfold JcP
  rw [qmu (by simp [xS]; omega), qul, qak (by simp [qa7]), Jbr, qul, qun (by simp), qak (by simp [lim]), qnh _ (qqx hv)]; rfl
 have ht : (((if (decide (hdP ++ (xS ++ v) = ([112, 97, 115, 115] : Str)) || decide (hdP ++ (xS ++ v) = ([116, 111, 107, 101, 110] : Str))) = true then some true else (JA (hdP ++ (xS ++ v)) ([118, 97, 114, 121, 58] : Str)).bind fun x17 => some x17).bind fun t902 => if t902 = true then some 0 else if (decide (hdP ++ (xS ++ v) = ([116, 116, 108] : Str)) || decide (hdP ++ (xS ++ v) = ([100, 101, 110, 121] : Str))) = true then some 2 else some 1) : Option Int) = some 1 := by
  rw [qum (by simp [hdP]), show hdP ++ (xS ++ v) = 104 :: ([101, 97, 100, 101, 114, 58] ++ (xS ++ v)) from rfl, qki (by decide), qul, qul, qum (by simp), qum (by simp)]
 unfold JG
 rw [ht, qul, qum (by simp [tv]), qum (by simp [hdP]), qum (by simp [hdP]), qum (by simp [hdP]), qum (by simp [hdP]), qum (by simp [hdP]), qum (by simp [hdP]), qum (by simp [hdP])]
 have hnm : Jax (up (up r0)) (hdP ++ (xS ++ v)) (tv w) = some (none, ⟨[47, 98], [99], [⟨xS ++ v, w⟩], [], [], -1, 0, 2, false, false⟩) := by
  unfold Jax
  rw [show hdP ++ (xS ++ v) = [104, 101, 97, 100, 101, 114] ++ 58 :: (xS ++ v) from rfl, qsi (by decide) (by simp [xS]; omega), qul]
  dsimp only
  rw [hn, qul, qum (by simp), qum (by simp), show JcY (tv w).s = some (w, none) from hvl, qul, qum (by simp)]
  dsimp only
  rw [show JcP (up (up r0)).Ag (xS ++ v) w = _ from hset]; rfl
 rw [hnm]; rfl
theorem qsk {v : Str} (hv : LW v) (hne : v ≠ []) : JG (up r0) (vyP ++ v) ⟨0, 0, [], false⟩ = some (none, ⟨[47, 98], [99], [], [v], [], -1, 0, 1, false, false⟩) := by
 have vl := hv.l
 have hn := qni (s := v) (fun c hc => .inl (hv.c c hc)) (by omega) hne
 have ht : (((if (decide (vyP ++ v = ([112, 97, 115, 115] : Str)) || decide (vyP ++ v = ([116, 111, 107, 101, 110] : Str))) = true then some true else (JA (vyP ++ v) ([118, 97, 114, 121, 58] : Str)).bind fun x17 => some x17).bind fun t902 => if t902 = true then some 0 else if (decide (vyP ++ v = ([116, 116, 108] : Str)) || decide (vyP ++ v = ([100, 101, 110, 121] : Str))) = true then some 2 else some 1) : Option Int) = some 0 := by
  rw [qum (by simp [vyP]), show ([118, 97, 114, 121, 58] : Str) = vyP from rfl, qtm, qul, qul, qun rfl]
 unfold JG
 rw [ht, qul, qum (by simp), qum (by simp [vyP]), qum (by simp [vyP]), qum (by simp [vyP]), qum (by simp [vyP]), qum (by simp [vyP]), qum (by simp [vyP]), qum (by simp [vyP])]
 have hnm : Jax (up r0) (vyP ++ v) ⟨0, 0, [], false⟩ = some (none, ⟨[47, 98], [99], [], [v], [], -1, 0, 1, false, false⟩) := by
  unfold Jax
  rw [show vyP ++ v = [118, 97, 114, 121] ++ 58 :: v from rfl, qsi (by decide) (by simp; omega), qul]
  dsimp only
  rw [hn, qul, qum (by simp), qun (by simp), show JD (up r0).Vary (v, (none : Err)).1 = some false from rfl, qul, qun (by simp), qak (by show ([] : List Str).length + 1 ≤ lim; simp [lim])]; rfl
 rw [hnm]; rfl
theorem qtn {v w : Str} (hv : LW v) (hw : LW w) : ∃ d, qbc NN [(⟨hA, 0, ([104, 101, 97, 100, 101, 114, 32, 34, 120, 45] : Str) ++ v ++ ([34, 32, 61, 32, 34] : Str) ++ w ++ ([34, 59] : Str)⟩ : JJ)] = some (some d, 0, none) ∧ qar NN d rq = some (qcu aA [acF, ⟨xS ++ v, w⟩] [] [], none) := by
 have vl := hv.l
 have wl := hw.l
 have hu : tenant_upstream NN fA [⟨xS ++ v, w⟩] = some [acF, ⟨xS ++ v, w⟩] := by
  have hset : JcP [acF] (xS ++ v) w = some [acF, ⟨xS ++ v, w⟩] := by
   unfold JcP
   rw [qmu (by simp [xS]; omega), qul, qak (by simp [qa7]), Jbr, qnh _ (qqx hv), show JaX acF.Name = some acS from by decide +kernel, qul, qun (by simp [acS, xS]), qak (by simp [lim]), Jbr, qul, qun (by simp), qak (by simp [lim])]; rfl
  have h0 := qsd
  unfold tenant_upstream at h0 ⊢
  cases e1 : JdB NN fA with
  | none => rw [e1] at h0; cases h0
  | some a =>
   rw [e1, qul, qak (by constructor <;> omega)] at h0
   rw [qul, qak (by constructor <;> omega)]
   cases e2 : tenant_upstream_L0 (Int.toNat 7) 0 a with
   | none => rw [e2] at h0; cases h0
   | some b =>
    rw [e2, qul] at h0
    rw [qul]
    cases e3 : J4 NN b with
    | none => rw [e3] at h0; cases h0
    | some g =>
     rw [e3, qul, qak (by simp [qa7]), tenant_upstream_L2, qul] at h0
     cases Option.some.inj h0
     rw [qul, qak (by simp [qa7]), tenant_upstream_L2, hset, qul, tenant_upstream_L2]; rfl
 have hr := qqr (w := w) (a := hdP ++ (xS ++ v)) (qqs (qdf hw) (by omega) (qsg hv)) (by omega) (by
  rw [qun (by simp [hdP]), show hdP ++ (xS ++ v) = 104 :: ([101, 97, 100, 101, 114, 58] ++ (xS ++ v)) from rfl, qki (by decide)]; rfl) (by simp [hdP]) (qsj hv hw) rfl
 exact ⟨_, qnf (qtb hv hw), qng hr (qfh (by show ([99] : Str) ≠ []; simp) (by show ([47, 98] : Str).length ≤ 100; simp) (by show ([99] : Str).length ≤ 100; simp)) qin (by show ([] : List Str).length ≤ 100; simp) qow qim hu⟩
theorem qto {v : Str} (hv : LW v) (hne : v ≠ []) : ∃ d, qbc NN [(⟨hA, 0, ([118, 97, 114, 121, 32, 34] : Str) ++ v ++ ([34, 59] : Str)⟩ : JJ)] = some (some d, 0, none) ∧ qar NN d rq = some (qcu aA [acF] [v] [], none) := by
 have vl := hv.l
 have hr := qte (a := vyP ++ v) (qtg (qsh hv)) (by
  rw [qun (by simp [vyP]), show ([118, 97, 114, 121, 58] : Str) = vyP from rfl, qtm]; rfl) (by simp [vyP]) (qsk hv hne) rfl
 exact ⟨_, qnf (qtc hv), qng hr (qfh (by show ([99] : Str) ≠ []; simp) (by show ([47, 98] : Str).length ≤ 100; simp) (by show ([99] : Str).length ≤ 100; simp)) qin (by show ([v] : List Str).length ≤ 100; simp) (qtj v) qim qsd⟩
theorem qnj {r : Rs1} {w : Str} (h : r.Ah.length ≤ 100) : JG r tagS (tv w) = some (none, ⟨r.Ae, r.Af, r.Ag, r.Vary, if w ∈ r.Ah then r.Ah else r.Ah ++ [w], r.TTL, r.Ai, r.Aj, r.Ak, r.Al⟩) := by
 have ht : (((if (decide (tagS = ([112, 97, 115, 115] : Str)) || decide (tagS = ([116, 111, 107, 101, 110] : Str))) = true then some true else (JA tagS ([118, 97, 114, 121, 58] : Str)).bind fun x17 => some x17).bind fun t902 => if t902 = true then some 0 else if (decide (tagS = ([116, 116, 108] : Str)) || decide (tagS = ([100, 101, 110, 121] : Str))) = true then some 2 else some 1) : Option Int) = some 1 := by decide +kernel
 unfold JG
 rw [ht, qul, qum (by simp [tv]), qum (by simp [tagS]), qum (by simp [tagS]), qun (by simp [tagS]), show (tv w).s = w from rfl, qrz (by omega), qul]
 by_cases q : w ∈ r.Ah
 ·rw [qum (by simpa using q), qun q]
 ·rw [qun (by simpa using q), qum q, qak (by simp only [lim, List.length_singleton]; omega)]
theorem qtp {v w : Str} (hv : LW v) (hne : v ≠ []) (hw : LW w) (hne2 : w ≠ []) : ∃ d, qbc NN [(⟨hA, 0, ([116, 97, 103, 32, 34] : Str) ++ v ++ ([34, 59, 32, 116, 97, 103, 32, 34] : Str) ++ w ++ ([34, 59] : Str)⟩ : JJ)] = some (some d, 0, none) ∧ qar NN d rq = some (qcu aA [acF] [] (if w = v then [v] else sortS [v, w]), none) := by
 have vl := hv.l
 have wl := hw.l
 have hs : Jae ⟨11, 0, tagS⟩ = some (1, 0, true) := by decide +kernel
 have h1 := qnj (r := up (up r0)) (w := v) (by decide)
 rw [qum (by simp [up, r0])] at h1
 have h2 := qnj (r := up (up (⟨[47, 98], [99], [], [], [v], -1, 0, 2, false, false⟩ : Rs1))) (w := w) (by show ([v] : List Str).length ≤ 100; simp)
 have hr := qtf (v := v) (w := w) (a := tagS) (qth (qdf hv) (by omega) (qdf hw) (by omega) hs) (by omega) (by omega) (by decide +kernel) (by decide) h1 rfl h2 rfl
 have hwd : tenant_words NN (if w ∈ [v] then [v] else [v] ++ [w]) = some (if w = v then [v] else sortS [v, w]) := by
  by_cases q : w = v
  ·rw [qun (by simpa using q), qun q, qqt hv hne]
  ·rw [qum (by simpa using q), qum q]; exact qqu hv hne hw hne2 q
 exact ⟨_, qnf (qtd hv hw), qng hr (qfh (by show ([99] : Str) ≠ []; simp) (by show ([47, 98] : Str).length ≤ 100; simp) (by show ([99] : Str).length ≤ 100; simp)) qin (by show ([] : List Str).length ≤ 100; simp) qow hwd qsd⟩
end Tn
set_option maxRecDepth 100000
namespace Tn
theorem qtq : ∃ d, qbc NN [(⟨hA, 0, ([100, 101, 110, 121, 32, 52, 48, 51, 59] : Str)⟩ : JJ)] = some (some d, 0, none) ∧ qar NN d rq = some (⟨0, -1, 403, aA, aA, [acF], [], [], false, false⟩, none) :=
 ⟨⟨[(hA, ⟨0, [⟨1, 403, []⟩, ⟨11, 0, [100, 101, 110, 121]⟩, ⟨12, 0, []⟩]⟩)]⟩, by kernel_rfl, by kernel_rfl⟩
theorem qtr : ∃ d, qbc NN [(⟨hA, 0, ([112, 97, 115, 115, 59, 32, 116, 111, 107, 101, 110, 59] : Str)⟩ : JJ)] = some (some d, 0, none) ∧ qar NN d rq = some (⟨0, -1, 0, aA, aA, [acF], [], [], true, true⟩, none) :=
 ⟨⟨[(hA, ⟨0, [⟨11, 0, [112, 97, 115, 115]⟩, ⟨11, 0, [116, 111, 107, 101, 110]⟩, ⟨12, 0, []⟩]⟩)]⟩, by kernel_rfl, by kernel_rfl⟩
theorem qts {a b : Int} (a0 : 0 ≤ a) (a1 : a < 10) (b0 : 0 ≤ b) (b1 : b < 10) : ∃ d, qbc NN [(⟨hA, 0, ([116, 116, 108, 32] : Str) ++ ([qdz (48 + a), qdz (48 + b)] : Str) ++ ([59] : Str)⟩ : JJ)] = some (some d, 0, none) ∧ qar NN d rq = some (⟨0, a * 10 + b, 0, aA, aA, [acF], [], [], false, false⟩, none) := by
 refine ⟨⟨[(hA, ⟨0, [⟨1, a * 10 + b, []⟩, ⟨11, 0, [116, 116, 108]⟩, ⟨12, 0, []⟩]⟩)]⟩, ?_⟩
 obtain ⟨m, rfl⟩ := Int.eq_ofNat_of_zero_le a0
 obtain ⟨n, rfl⟩ := Int.eq_ofNat_of_zero_le b0
 have hm : m < 10 := by omega
 have hn : n < 10 := by omega
 clear a0 a1 b0 b1
 rcases m with _ | _ | _ | _ | _ | _ | _ | _ | _ | _ | m <;> first | omega | (rcases n with _ | _ | _ | _ | _ | _ | _ | _ | _ | _ | n <;> first | omega | (constructor <;> kernel_rfl))
theorem qkj {s : Str} (hs : s.length ≤ qa7) : ∀ (r : Str) (i : Nat) (y : Str), s.drop i = r → LW y → y ≠ [] → ∃ v, Jai s r i y = some v ∧ LW v ∧ v ≠ []
 | [], i, y, _, hy, hne => ⟨y, rfl, hy, hne⟩
 | c :: r, i, y, h, hy, hne => by
  have hi : i < s.length := by
   rcases Nat.lt_or_ge i s.length with q | q
   ·exact q
   ·rw [List.drop_eq_nil_of_le q] at h; cases h
  have hd : s.drop (i + 1) = r := by rw [← List.drop_drop, h]; rfl
  have hsub : subL s (i : Int) ((i : Int) + 1) = [c] := by
   unfold subL
   rw [Int.toNat_natCast, h, show ((i : Int) + 1 - (i : Int)).toNat = 1 from by omega]; rfl
  have e : (((if decide ((c.toNat : Int) ≥ 97) = true then some (decide ((c.toNat : Int) ≤ 122)) else some false).bind fun x19 => some (x19 && decide ((y.length : Int) < 20))) : Option Bool) = some ((decide ((c.toNat : Int) ≥ 97) && decide ((c.toNat : Int) ≤ 122)) && decide ((y.length : Int) < 20)) := by
   cases decide ((c.toNat : Int) ≥ 97) <;> rfl
  rw [Jai, e, qul]
  by_cases q : ((decide ((c.toNat : Int) ≥ 97) && decide ((c.toNat : Int) ≤ 122)) && decide ((y.length : Int) < 20)) = true
  ·have q' := q
   simp only [Bool.and_eq_true, decide_eq_true_eq] at q'
   have yl := hy.l
   rw [qun q, qak (by omega), hsub, qak (by simp only [lim, List.length_singleton]; omega)]
   refine qkj hs r (i + 1) _ hd ⟨fun d hd => ?_, by simp only [List.length_append, List.length_singleton]; omega⟩ (by simp)
   rcases List.mem_append.1 hd with hd | hd
   ·exact hy.c d hd
   ·rw [List.mem_singleton] at hd; subst hd; omega
  ·rw [qum q]; exact qkj hs r (i + 1) y hd hy hne
theorem qla {s : Str} (hs : s.length ≤ qa7) : ∃ v, Ja8 s = some v ∧ LW v ∧ v ≠ [] := by
 obtain ⟨v, h1, h2, h3⟩ := qkj hs s 0 [119] rfl ⟨by decide, by decide⟩ (by simp)
 unfold Ja8
 rw [qak hs, h1]; exact ⟨v, rfl, h2, h3⟩
end Tn
