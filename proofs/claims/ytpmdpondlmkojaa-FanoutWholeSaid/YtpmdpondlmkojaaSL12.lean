/- The rules in the shapes that the generator of walks uses: data with their encodings; functions into Option that mirror the code. -/
import Derived.Test.YtpmdpondlmkojaaSL11
set_option linter.unusedVariables false
namespace Go.SL
open Go

/-! ### mirrors -/
abbrev Err := Option Int
inductive Fl (R S : Type) where
  | ret (r : R)
  | go (s : S)
def lim : Nat := 68719476736
def ck (n : Int) : Option Int := if -9223372036854775808 ≤ n ∧ n ≤ 9223372036854775807 then some n else none
def ckk (k : IntKind) (n : Int) : Option Int := if k.wrap n = n then some n else none
def ix {α : Type} (l : List α) (i : Int) : Option α := if 0 ≤ i then l[i.toNat]? else none
def app {α : Type} (l x : List α) : Option (List α) := if l.length + x.length ≤ lim then some (l ++ x) else none
def cat (a b : Str) : Option Str := if a.length + b.length ≤ lim then some (a ++ b) else none
def sub? {α : Type} (l : List α) (lo hi : Int) : Option (List α) := if 0 ≤ lo ∧ lo ≤ hi ∧ hi ≤ l.length then some ((l.drop lo.toNat).take (hi - lo).toNat) else none
def set? {α : Type} (l : List α) (i : Int) (x : α) : Option (List α) := if 0 ≤ i ∧ i < l.length then some (l.set i.toNat x) else none
def rm (a b : Int) : Option Int := if b = 0 then none else some (a.tmod b)
def quo (a b : Int) : Option Int := if b = 0 then none else ck (a.tdiv b)
def lk {α : Type} (l : List α) : Option Unit := if l.length ≤ lim then some () else none
def mks (n : Int) : Option Nat := if 0 ≤ n ∧ n ≤ lim then some n.toNat else none
def u8of (n : Int) : UInt8 := UInt8.ofNat (n % 256).toNat

section
variable {α β : Type} {r : β}
theorem bnd {m : Option α} {f : α → Option β} (h : m.bind f = some r) : ∃ x, m = some x ∧ f x = some r := by
  cases m with
  | none => cases h
  | some x => exact ⟨x, rfl, h⟩
theorem si {a b : α} (h : some a = some b) : a = b := by cases h; rfl
def chk (p : Prop) [Decidable p] : Option Unit := if p then some () else none
abbrev InI (n : Int) : Prop := -9223372036854775808 ≤ n ∧ n ≤ 9223372036854775807
theorem chkb {p : Prop} [Decidable p] {f : Unit → Option β} (h : (chk p).bind f = some r) : p ∧ f () = some r := by
  unfold chk at h; split at h
  · rename_i hk; exact ⟨hk, h⟩
  · cases h
@[simp] theorem chk_t {p : Prop} [Decidable p] (h : p) : chk p = some () := by unfold chk; rw [if_pos h]
def Fl.el {R S : Type} (s : Fl R S) (f : R → Option β) (g : S → Option β) : Option β := match s with
  | .ret r => f r
  | .go t => g t
theorem elg {R S : Type} {t : S} {f : R → Option β} {g : S → Option β} (h : (Fl.go t).el f g = some r) : g t = some r := h
theorem elr {R S : Type} {t : R} {f : R → Option β} {g : S → Option β} (h : (Fl.ret t).el f g = some r) : f t = some r := h
theorem fgo {R S : Type} {a b : S} (h : (Fl.go a : Fl R S) = Fl.go b) : a = b := by cases h; rfl
theorem ift {c : Bool} {A B : Option β} (h : c = true) (hm : (if c = true then A else B) = some r) : A = some r := by rw [if_pos h] at hm; exact hm
theorem iff_ {c : Bool} {A B : Option β} (h : c = false) (hm : (if c = true then A else B) = some r) : B = some r := by rw [if_neg (by rw [h]; decide)] at hm; exact hm
theorem and_t {a b : Bool} (h : a = true) (k : b = true) : (a && b) = true := by rw [h, k]; rfl
theorem and_f {a b : Bool} (h : a = false) : (a && b) = false := by rw [h]; rfl
theorem and_g {a b : Bool} (h : a = true) (k : b = false) : (a && b) = false := by rw [h, k]; rfl
theorem or_t {a b : Bool} (h : a = true) : (a || b) = true := by rw [h]; rfl
theorem or_u {a b : Bool} (h : a = false) (k : b = true) : (a || b) = true := by rw [h, k]; rfl
theorem or_f {a b : Bool} (h : a = false) (k : b = false) : (a || b) = false := by rw [h, k]; rfl
theorem not_t {a : Bool} (h : a = false) : (!a) = true := by rw [h]; rfl
theorem not_f {a : Bool} (h : a = true) : (!a) = false := by rw [h]; rfl

theorem wrap_inK {k : IntKind} {n : Int} (h : k.wrap n = n) : InK k n := by
  cases k <;> simp only [IntKind.wrap, IntKind.bits, IntKind.signed] at h <;> simp at h <;> simp only [InK] <;> omega
theorem wrapK {k : IntKind} {n : Int} (h : k.wrap n = n) : InK k n := wrap_inK h
theorem ckb {n : Int} {f : Int → Option β} (h : (ck n).bind f = some r) : InK .i64 n ∧ f n = some r := by
  unfold ck at h; split at h
  · rename_i hk; exact ⟨hk, h⟩
  · cases h
theorem ckkb {k : IntKind} {n : Int} {f : Int → Option β} (h : (ckk k n).bind f = some r) : InK k n ∧ f n = some r := by
  unfold ckk at h; split at h
  · rename_i hk; exact ⟨wrap_inK hk, h⟩
  · cases h
theorem ixb {l : List α} {i : Int} {f : α → Option β} (h : (ix l i).bind f = some r) : ∃ x, 0 ≤ i ∧ l[i.toNat]? = some x ∧ f x = some r := by
  unfold ix at h; split at h
  · rename_i hk
    obtain ⟨x, h1, h2⟩ := bnd h
    exact ⟨x, hk, h1, h2⟩
  · cases h
theorem apb {l x : List α} {f : List α → Option β} (h : (app l x).bind f = some r) : l.length + x.length ≤ lim ∧ f (l ++ x) = some r := by
  unfold app at h; split at h
  · rename_i hk; exact ⟨hk, h⟩
  · cases h
theorem catb {a b : Str} {f : Str → Option β} (h : (cat a b).bind f = some r) : a.length + b.length ≤ lim ∧ f (a ++ b) = some r := by
  unfold cat at h; split at h
  · rename_i hk; exact ⟨hk, h⟩
  · cases h
theorem subb {l : List α} {lo hi : Int} {f : List α → Option β} (h : (sub? l lo hi).bind f = some r) : (0 ≤ lo ∧ lo ≤ hi ∧ hi ≤ l.length) ∧ f ((l.drop lo.toNat).take (hi - lo).toNat) = some r := by
  unfold sub? at h; split at h
  · rename_i hk; exact ⟨hk, h⟩
  · cases h
theorem setb {l : List α} {i : Int} {x : α} {f : List α → Option β} (h : (set? l i x).bind f = some r) : (0 ≤ i ∧ i < l.length) ∧ f (l.set i.toNat x) = some r := by
  unfold set? at h; split at h
  · rename_i hk; exact ⟨hk, h⟩
  · cases h
theorem rmb {a b : Int} {f : Int → Option β} (h : (rm a b).bind f = some r) : b ≠ 0 ∧ f (a.tmod b) = some r := by
  unfold rm at h; split at h
  · cases h
  · rename_i hk; exact ⟨hk, h⟩
theorem quob {a b : Int} {f : Int → Option β} (h : (quo a b).bind f = some r) : b ≠ 0 ∧ InK .i64 (a.tdiv b) ∧ f (a.tdiv b) = some r := by
  unfold quo at h; split at h
  · cases h
  · rename_i hk; exact ⟨hk, ckb h⟩
theorem lkb {l : List α} {f : Unit → Option β} (h : (lk l).bind f = some r) : l.length ≤ lim ∧ f () = some r := by
  unfold lk at h; split at h
  · rename_i hk; exact ⟨hk, h⟩
  · cases h
theorem mksb {n : Int} {f : Nat → Option β} (h : (mks n).bind f = some r) : (0 ≤ n ∧ n ≤ lim) ∧ f n.toNat = some r := by
  unfold mks at h; split at h
  · rename_i hk; exact ⟨hk, h⟩
  · cases h
end

/-! ### loops over lists -/
theorem ltx {α : Type} {l : List α} {i : Nat} (h : decide ((i : Int) < (l.length : Int)) = true) : ∃ x, l[i]? = some x ∧ l.drop i = x :: l.drop (i + 1) := by
  have hi : i < l.length := by simpa using h
  exact ⟨l[i], List.getElem?_eq_getElem hi, List.drop_eq_getElem_cons hi⟩
theorem lty {α : Type} {l : List α} {i : Nat} (h : decide ((i : Int) < (l.length : Int)) = false) : l.drop i = [] := by
  have hi : l.length ≤ i := by simpa using h
  exact List.drop_eq_nil_of_le hi
theorem cnt {α : Type} {l : List α} {i : Nat} {x : α} (h : l[i]? = some x) (hl : l.length ≤ lim) : InK .i64 ((i : Int) + 1) := by
  have := (List.getElem?_eq_some_iff.1 h).1
  simp only [lim] at hl
  simp only [InK]; omega
theorem ltm {α : Type} {l : List α} {i : Nat} {x : α} (h : l[i]? = some x) : l.length - (i + 1) < l.length - i := by
  have := (List.getElem?_eq_some_iff.1 h).1
  omega
theorem nn (n : Nat) : (0 : Int) ≤ n := Int.natCast_nonneg n
/-- Counting up to a number. -/
theorem ltn {n : Int} {i : Nat} (h : decide ((i : Int) < n) = true) : n.toNat - i = (n.toNat - (i + 1)) + 1 := by
  have : (i : Int) < n := by simpa using h
  omega
theorem lto {n : Int} {i : Nat} (h : decide ((i : Int) < n) = false) : n.toNat - i = 0 := by
  have : n ≤ (i : Int) := by simpa using h
  omega
theorem cntn {n : Int} {i : Nat} (h : decide ((i : Int) < n) = true) (hn : InK .i64 n) : InK .i64 ((i : Int) + 1) := by
  have : (i : Int) < n := by simpa using h
  simp only [InK] at hn ⊢; omega
theorem ltnm {n : Int} {i : Nat} (h : decide ((i : Int) < n) = true) : n.toNat - (i + 1) < n.toNat - i := by
  have := ltn h; omega

/-! ### encodings -/
abbrev eI (k : IntKind) (n : Int) : List Value := [.int k n]
abbrev eN (n : Int) : List Value := [.int .i64 n]
abbrev eB (b : Bool) : List Value := [.bool b]
abbrev eS (s : Str) : List Value := [str s]
abbrev eU (x : UInt8) : List Value := [.int .u8 (x.toNat : Int)]
theorem mp {α : Type} {enc : α → List Value} {l : List α} {i : Nat} {x : α} (h : l[i]? = some x) : (l.map enc)[i]? = some (enc x) := by simp [h]
abbrev RdL {α : Type} (enc : α → List Value) (K : Hp) (a : Option Addr) (sz : Nat) (l : List α) : Prop := RdS K a sz (l.map enc)
abbrev OwnL {α : Type} (enc : α → List Value) (a : Option Addr) (e sz cap : Nat) (l : List α) : HProp := OwnA a e sz cap (l.map enc)
theorem hasK {α : Type} {enc : α → List Value} {K : Hp} {a : Option Addr} {sz i : Nat} {l : List α} {x : α} (h : RdL enc K a sz l) (hx : l[i]? = some x) : Has a :=
  h.has (by have := (List.getElem?_eq_some_iff.1 hx).1; simp; omega)
theorem hasO {α : Type} {a : Option Addr} {i : Nat} {l : List α} {x : α} (h : 0 < l.length → Has a) (hx : l[i]? = some x) : Has a :=
  h (by have := (List.getElem?_eq_some_iff.1 hx).1; omega)
theorem lt_of {α : Type} {i : Int} {l : List α} {x : α} (h0 : 0 ≤ i) (hx : l[i.toNat]? = some x) : i < (l.length : Int) := by
  have := (List.getElem?_eq_some_iff.1 hx).1; omega
theorem lt_of' {α : Type} {i : Nat} {l : List α} {x : α} (hx : l[i]? = some x) : i < l.length := (List.getElem?_eq_some_iff.1 hx).1
theorem lt_ofN {α : Type} {i : Nat} {l : List α} {x : α} (hx : l[i]? = some x) : (i : Int) < (l.length : Int) := by
  have := (List.getElem?_eq_some_iff.1 hx).1; omega

/-! ### removing by place -/
theorem r0 {A : HProp} {L : List HProp} : Rem A (A :: L) L := .here
theorem r1 {A B : HProp} {L : List HProp} : Rem A (B :: A :: L) (B :: L) := .there .here
theorem r2 {A B C : HProp} {L : List HProp} : Rem A (B :: C :: A :: L) (B :: C :: L) := .there r1
theorem r3 {A B C D : HProp} {L : List HProp} : Rem A (B :: C :: D :: A :: L) (B :: C :: D :: L) := .there r2
theorem r4 {A B C D E : HProp} {L : List HProp} : Rem A (B :: C :: D :: E :: A :: L) (B :: C :: D :: E :: L) := .there r3
theorem r5 {A B C D E F : HProp} {L : List HProp} : Rem A (B :: C :: D :: E :: F :: A :: L) (B :: C :: D :: E :: F :: L) := .there r4
theorem r6 {A B C D E F G : HProp} {L : List HProp} : Rem A (B :: C :: D :: E :: F :: G :: A :: L) (B :: C :: D :: E :: F :: G :: L) := .there r5
theorem r7 {A B C D E F G H : HProp} {L : List HProp} : Rem A (B :: C :: D :: E :: F :: G :: H :: A :: L) (B :: C :: D :: E :: F :: G :: H :: L) := .there r6

theorem r8 {A B C D E F G H I : HProp} {L : List HProp} : Rem A (B :: C :: D :: E :: F :: G :: H :: I :: A :: L) (B :: C :: D :: E :: F :: G :: H :: I :: L) := .there r7
theorem r9 {A B C D E F G H I J : HProp} {L : List HProp} : Rem A (B :: C :: D :: E :: F :: G :: H :: I :: J :: A :: L) (B :: C :: D :: E :: F :: G :: H :: I :: J :: L) := .there r8
theorem r10 {A B C D E F G H I J M : HProp} {L : List HProp} : Rem A (B :: C :: D :: E :: F :: G :: H :: I :: J :: M :: A :: L) (B :: C :: D :: E :: F :: G :: H :: I :: J :: M :: L) := .there r9
theorem r11 {A B C D E F G H I J M N : HProp} {L : List HProp} : Rem A (B :: C :: D :: E :: F :: G :: H :: I :: J :: M :: N :: A :: L) (B :: C :: D :: E :: F :: G :: H :: I :: J :: M :: N :: L) := .there r10
theorem m0 {α : Type} {a : α} {l : List α} : a ∈ a :: l := .head _
theorem m1 {α : Type} {a b : α} {l : List α} : a ∈ b :: a :: l := .tail _ m0
theorem m2 {α : Type} {a b c : α} {l : List α} : a ∈ b :: c :: a :: l := .tail _ m1
theorem m3 {α : Type} {a b c d : α} {l : List α} : a ∈ b :: c :: d :: a :: l := .tail _ m2
theorem m4 {α : Type} {a b c d e : α} {l : List α} : a ∈ b :: c :: d :: e :: a :: l := .tail _ m3
theorem m5 {α : Type} {a b c d e f : α} {l : List α} : a ∈ b :: c :: d :: e :: f :: a :: l := .tail _ m4

section
variable {P : Program} {K : Hp} {H H' : List HProp} {c : Value → Prop}
theorem ni_t {a : Bool} (h : (!a) = true) : a = false := by cases a; rfl; cases h
theorem ni_f {a : Bool} (h : (!a) = false) : a = true := by cases a; cases h; rfl
theorem u8_addS {x y : UInt8} {n m : Int} (e1 : n = x.toNat) (e2 : m = y.toNat) (h : c (.int .u8 ((x + y).toNat : Int))) : IntStep .u8 (n + m) c := by
  subst e1 e2
  have hw : IntKind.u8.wrap ((x.toNat : Int) + y.toNat) = ((x + y).toNat : Int) := by
    rw [UInt8.toNat_add]; simp only [IntKind.wrap, IntKind.bits, IntKind.signed]; simp
  exact ⟨by rw [hw]; exact h⟩
theorem u8_subS {x y : UInt8} {n m : Int} (e1 : n = x.toNat) (e2 : m = y.toNat) (h : c (.int .u8 ((x - y).toNat : Int))) : IntStep .u8 (n - m) c := by
  subst e1 e2
  have hw : IntKind.u8.wrap ((x.toNat : Int) - y.toNat) = ((x - y).toNat : Int) := by
    have := x.toNat_lt; have := y.toNat_lt
    rw [UInt8.toNat_sub]; simp only [IntKind.wrap, IntKind.bits, IntKind.signed]; simp; omega
  exact ⟨by rw [hw]; exact h⟩
/-! ### errors -/
def errV (t : TypeId) (e : Err) : Value := match e with
  | none => .nilIface
  | some n => .iface t (.int .i64 n)
theorem eq_err {t u : TypeId} {ms : Array (String × TypeId)} {xo : Operand} {cv : Value} {e : Err} (ht : P.underlying t = some (.interface ms)) (h : c (.bool e.isNone)) : NStep P (.bin .eql t xo (.const cv) (errV u e) .nilIface) c := by
  cases e with
  | none => exact eq_nilI ht h
  | some n => exact eq_iface_nil ht h
theorem neq_err {t u : TypeId} {ms : Array (String × TypeId)} {xo : Operand} {cv : Value} {e : Err} (ht : P.underlying t = some (.interface ms)) (h : c (.bool e.isSome)) : NStep P (.bin .neq t xo (.const cv) (errV u e) .nilIface) c := by
  cases e with
  | none => exact neq_nilI ht h
  | some n => exact neq_iface_nil ht h

/-! ### numbers -/
theorem u8in (x : UInt8) : InK .i64 (x.toNat : Int) := by
  have := x.toNat_lt; simp only [InK]; omega
theorem rem_t {t : TypeId} {xo yo : Operand} {k : IntKind} {a b : Int} (hb : b ≠ 0) (h : c (.int k (a.tmod b))) : NStep P (.bin .rem t xo yo (.int k a) (.int k b)) c :=
  NStep.mk _ (fun w => by simp [M.sem, eqGuard, binOp, Op.intDiv, hb]) h
theorem quo_t {t : TypeId} {xo yo : Operand} {k : IntKind} {a b : Int} (hb : b ≠ 0) (hi : InK k (a.tdiv b)) (h : c (.int k (a.tdiv b))) : NStep P (.bin .quo t xo yo (.int k a) (.int k b)) c :=
  NStep.mk _ (fun w => by simp [M.sem, eqGuard, binOp, Op.intDiv, hb, wrap_in hi]) h
theorem u8_rem {t : TypeId} {xo yo : Operand} {x y : UInt8} {n m : Int} (e1 : n = x.toNat) (e2 : m = y.toNat) (hb : y ≠ 0) (h : c (.int .u8 ((x % y).toNat : Int))) : NStep P (.bin .rem t xo yo (.int .u8 n) (.int .u8 m)) c := by
  subst e1 e2
  have h0 : (y.toNat : Int) ≠ 0 := fun e => hb (by apply UInt8.toNat_inj.1; simpa using e)
  have e : ((x.toNat : Int).tmod (y.toNat : Int)) = ((x % y).toNat : Int) := by simp [Int.tmod]
  rw [← e] at h
  exact rem_t h0 h
theorem u8_wrap {n : Int} {x : UInt8} (h : n % 256 = (x.toNat : Int)) : IntKind.u8.wrap n = (x.toNat : Int) := by
  have := x.toNat_lt
  simp only [IntKind.wrap, IntKind.bits, IntKind.signed]; simp; omega
theorem u8_step {e : Int} (x : UInt8) (hx : e % 256 = (x.toNat : Int)) (h : c (.int .u8 (x.toNat : Int))) : IntStep .u8 e c := ⟨by rw [u8_wrap hx]; exact h⟩
theorem u8ofI (n : Int) : n % 256 = ((u8of n).toNat : Int) := by
  unfold u8of
  have h1 : (n % 256).toNat < 256 := by omega
  rw [UInt8.toNat_ofNat']
  omega
theorem conv_u8 {src dst : TypeId} {k : IntKind} {n : Int} (ht : P.underlying dst = some (.int .u8)) (hs : (P.underlying src).isSome) (h : c (.int .u8 ((u8of n).toNat : Int))) : NStep P (.conv src dst (.int k n)) c :=
  NStep.mk _ (fun w => by
    cases hu : P.underlying src with
    | none => simp [hu] at hs
    | some d => simp [M.sem, convert, run_underlying hu, run_underlying ht, Conv.intToInt, u8_wrap (u8ofI n)]) h

/-! ### texts -/
theorem idx_str {t : TypeId} {k : IntKind} {s : Str} {i : Int} {x : UInt8} (ht : P.underlying t = some .string) (h0 : 0 ≤ i) (hx : s[i.toNat]? = some x) (h : c (.int .u8 (x.toNat : Int))) : NStep P (.index t (str s) (.int k i)) c :=
  NStep.mk _ (fun w => by
    have : (⟨s.toArray⟩ : ByteArray)[i.toNat]? = some x := by
      have h1 := (List.getElem?_eq_some_iff.1 hx).1
      have h2 : i.toNat < (⟨s.toArray⟩ : ByteArray).size := by simpa [ByteArray.size] using h1
      rw [getElem?_pos (⟨s.toArray⟩ : ByteArray) i.toNat h2]
      have : s[i.toNat] = x := (List.getElem?_eq_some_iff.1 hx).2
      rw [← this]; rfl
    simp [M.sem, Instr.index, asIntOf, run_underlying ht, str, h0, this]) h
theorem cat_str {t : TypeId} {xo yo : Operand} {a b : Str} (hl : a.length + b.length ≤ lim) (h : c (str (a ++ b))) : NStep P (.bin .add t xo yo (str a) (str b)) c :=
  add_str (by simp only [lim] at hl; omega) h
end
end Go.SL
