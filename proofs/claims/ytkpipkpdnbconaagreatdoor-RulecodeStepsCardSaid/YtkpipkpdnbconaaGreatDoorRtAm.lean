import Derived.Test.YtkpipkpdnbconaaGreatDoorRtAll
set_option linter.unusedVariables false
set_option linter.unusedSimpArgs false
open Go Go.SL Go.Proofs Pl
namespace Rt.Rc
def acw (x : M) : Option Str :=
 if x.Kind = 4 then some x.Text
 else if x.Kind = 5 then some ([104, 101, 97, 100, 101, 114, 58] ++ x.Text)
 else if x.Kind = 6 then some ([118, 97, 114, 121, 58] ++ x.Text)
 else if x.Kind = 7 then some [116, 97, 103]
 else if x.Kind = 8 then some [116, 116, 108]
 else if x.Kind = 9 then some [100, 101, 110, 121]
 else if x.Kind = 10 then some [112, 97, 115, 115]
 else if x.Kind = 11 then some [116, 111, 107, 101, 110]
 else none
def acs (x : M) : List I := match acw x with
 | some w => [⟨11, 0, w⟩]
 | none => []
theorem acs_len (x : M) : (acs x).length ≤ 1 := by unfold acs; split <;> simp
def foldC (g : Sg → Int → Nat → M → List I × Int × Sg) : Sg → Int → Nat → List M → List I × Int
 | _, k, _, [] => ([], k)
 | σ, k, b, x :: l => ((g σ k b x).1 ++ (foldC g (g σ k b x).2.2 (g σ k b x).2.1 (b + (g σ k b x).1.length) l).1, (foldC g (g σ k b x).2.2 (g σ k b x).2.1 (b + (g σ k b x).1.length) l).2)
def upd (σ : Sg) (s : Str) (k : Int) : Sg := fun q => if s = q then some k else σ q
def if2 (b : Nat) (A T : List I) : List I := A ++ ⟨10, (b + A.length + 1 + T.length : Nat), []⟩ :: T
def if3 (b : Nat) (A T O : List I) : List I := A ++ ⟨10, (b + A.length + 1 + T.length + 1 : Nat), []⟩ :: (T ++ ⟨9, (b + A.length + 1 + T.length + 1 + O.length : Nat), []⟩ :: O)
def hdC (d : Nat) (σ : Sg) (b : Nat) : List M → List I
 | [] => []
 | e :: _ => cE d σ b e
def cS : Nat → Sg → Int → Nat → M → List I × Int × Sg
 | 0, σ, k, _, _ => ([], k, σ)
 | d + 1, σ, k, b, x =>
  if x.Kind = 2 then match x.Kids with
   | [e, t] => (if2 b (cE d σ b e) (foldC (cS d) σ k (b + (cE d σ b e).length + 1) t.Kids).1, (foldC (cS d) σ k (b + (cE d σ b e).length + 1) t.Kids).2, σ)
   | [e, t, o] => (if3 b (cE d σ b e) (foldC (cS d) σ k (b + (cE d σ b e).length + 1) t.Kids).1 (foldC (cS d) σ (foldC (cS d) σ k (b + (cE d σ b e).length + 1) t.Kids).2 (b + (cE d σ b e).length + 1 + (foldC (cS d) σ k (b + (cE d σ b e).length + 1) t.Kids).1.length + 1) (brn o)).1,
     (foldC (cS d) σ (foldC (cS d) σ k (b + (cE d σ b e).length + 1) t.Kids).2 (b + (cE d σ b e).length + 1 + (foldC (cS d) σ k (b + (cE d σ b e).length + 1) t.Kids).1.length + 1) (brn o)).2, σ)
   | _ => ([], k, σ)
  else if x.Kind = 3 then (hdC d σ b x.Kids ++ [⟨4, k, []⟩], k + 1, upd σ x.Text k)
  else (hdC d σ b x.Kids ++ acs x, k, σ)
theorem cS_2 {d b : Nat} {σ : Sg} {k : Int} {x e t : M} (h : x.Kind = 2) (hk : x.Kids = [e, t]) {T : List I × Int} (hT : foldC (cS d) σ k (b + (cE d σ b e).length + 1) t.Kids = T) : cS (d + 1) σ k b x = (if2 b (cE d σ b e) T.1, T.2, σ) := by
 rw [cS, if_pos h, hk]; simp only; rw [hT]
theorem cS_3 {d b : Nat} {σ : Sg} {k : Int} {x e t o : M} (h : x.Kind = 2) (hk : x.Kids = [e, t, o]) {T O : List I × Int} (hT : foldC (cS d) σ k (b + (cE d σ b e).length + 1) t.Kids = T)
  (hO : foldC (cS d) σ T.2 (b + (cE d σ b e).length + 1 + T.1.length + 1) (brn o) = O) : cS (d + 1) σ k b x = (if3 b (cE d σ b e) T.1 O.1, O.2, σ) := by
 rw [cS, if_pos h, hk]; simp only; rw [hT, hO]
theorem cS_let {d b : Nat} {σ : Sg} {k : Int} {x : M} (h : x.Kind = 3) : cS (d + 1) σ k b x = (hdC d σ b x.Kids ++ [⟨4, k, []⟩], k + 1, upd σ x.Text k) := by
 rw [cS, if_neg (by omega), if_pos h]
theorem cS_act {d b : Nat} {σ : Sg} {k : Int} {x : M} (h2 : x.Kind ≠ 2) (h3 : x.Kind ≠ 3) : cS (d + 1) σ k b x = (hdC d σ b x.Kids ++ acs x, k, σ) := by
 rw [cS, if_neg h2, if_neg h3]
theorem hdC_len {d b : Nat} {σ : Sg} : ∀ (l : List M), (hdC d σ b l).length ≤ 6 * cntL d l
 | [] => by simp [hdC]
 | e :: l => by
  have := cE_len (σ := σ) d b e
  rw [hdC, cntL_cons]; omega
theorem foldC_len {d : Nat} {g : Sg → Int → Nat → M → List I × Int × Sg} : ∀ (l : List M) (σ : Sg) (k : Int) (b : Nat), (∀ x ∈ l, ∀ σ k b, (g σ k b x).1.length ≤ 6 * cnt d x ∧ k ≤ (g σ k b x).2.1 ∧ (g σ k b x).2.1 ≤ k + cnt d x) → (foldC g σ k b l).1.length ≤ 6 * cntL d l ∧ k ≤ (foldC g σ k b l).2 ∧ (foldC g σ k b l).2 ≤ k + cntL d l
 | [], σ, k, b, _ => by simp [foldC, cntL]
 | x :: l, σ, k, b, h => by
  obtain ⟨h1, h2, h3⟩ := h x (by simp) σ k b
  obtain ⟨g1, g2, g3⟩ := foldC_len (d := d) l (g σ k b x).2.2 (g σ k b x).2.1 (b + (g σ k b x).1.length) fun q hq => h q (by simp [hq])
  rw [foldC, cntL_cons]
  simp only [List.length_append]
  omega
theorem cS_len : ∀ (d : Nat) (x : M), Ok d x → ∀ (σ : Sg) (k : Int) (b : Nat), (cS d σ k b x).1.length ≤ 6 * cnt d x ∧ k ≤ (cS d σ k b x).2.1 ∧ (cS d σ k b x).2.1 ≤ k + cnt d x
 | 0, x, h, _, _, _ => h.elim
 | d + 1, x, h, σ, k, b => by
  obtain ⟨h1, h2, h3⟩ := h
  rw [cnt_eq]
  have kidsL : ∀ t ∈ x.Kids, ∀ (σ : Sg) (k : Int) (b : Nat), (foldC (cS d) σ k b t.Kids).1.length ≤ 6 * cnt d t ∧ k ≤ (foldC (cS d) σ k b t.Kids).2 ∧ (foldC (cS d) σ k b t.Kids).2 ≤ k + cnt d t := fun t ht σ k b => by
   have hok := h3 t ht
   cases d with
   | zero => exact hok.elim
   | succ d =>
    obtain ⟨g1, g2, g3⟩ := foldC_len (d := d + 1) (g := cS (d + 1)) t.Kids σ k b fun q hq => cS_len (d + 1) q (hok.2.2 q hq).succ
    have e : cntL (d + 1) t.Kids = cntL d t.Kids := by
     unfold cntL
     congr 1
     exact List.map_congr_left fun q hq => cnt_succ (hok.2.2 q hq)
    rw [cnt_eq]
    rw [e] at g1 g3
    omega
  have brL : ∀ t ∈ x.Kids, ∀ (σ : Sg) (k : Int) (b : Nat), (foldC (cS d) σ k b (brn t)).1.length ≤ 6 * cnt d t ∧ k ≤ (foldC (cS d) σ k b (brn t)).2 ∧ (foldC (cS d) σ k b (brn t)).2 ≤ k + cnt d t := fun t ht σ k b => by
   obtain ⟨o1, o2⟩ := brn_ok (h3 t ht)
   obtain ⟨g1, g2, g3⟩ := foldC_len (d := d) (g := cS d) (brn t) σ k b fun q hq => cS_len d q (o1 q hq)
   omega
  by_cases q2 : x.Kind = 2
  ·rw [cS, if_pos q2]
   split
   ·rename_i e t hk
    have hA := cE_len (σ := σ) d b e
    obtain ⟨t1, t2, t3⟩ := kidsL t (by rw [hk]; simp) σ k (b + (cE d σ b e).length + 1)
    rw [hk, cntL_cons, cntL_cons]
    simp only [if2, List.length_append, List.length_cons]
    omega
   ·rename_i e t o hk
    have hA := cE_len (σ := σ) d b e
    obtain ⟨t1, t2, t3⟩ := kidsL t (by rw [hk]; simp) σ k (b + (cE d σ b e).length + 1)
    obtain ⟨o1, o2, o3⟩ := brL o (by rw [hk]; simp) σ (foldC (cS d) σ k (b + (cE d σ b e).length + 1) t.Kids).2 (b + (cE d σ b e).length + 1 + (foldC (cS d) σ k (b + (cE d σ b e).length + 1) t.Kids).1.length + 1)
    rw [hk, cntL_cons, cntL_cons, cntL_cons]
    simp only [if3, List.length_append, List.length_cons]
    omega
   ·simp; omega
  ·have hA := hdC_len (σ := σ) (d := d) (b := b) x.Kids
   by_cases q3 : x.Kind = 3
   ·rw [cS_let q3]
    simp only [List.length_append, List.length_cons, List.length_nil]
    omega
   ·rw [cS_act q2 q3]
    have := acs_len x
    simp only [List.length_append]
    omega
def HB (d : Nat) (f : Cp → List M → Option Cp) : Prop := ∀ (C : List I) (nm : List Jf) (z : Int) (l : List M) (ρ ρ' : Env), (∀ x ∈ l, Gd d x) → foldS (stm d) ρ l = .ok ρ' → l.length ≤ 700 → nm.length + 701 * (d + 1) ≤ 90000 → C.length + 6 * cntL d l ≤ 700000 → 0 ≤ z → z + cntL d l ≤ 1000000 →
 f ⟨C, nm, z⟩ l = some ⟨C ++ (foldC (cS d) (sgP nm) z C.length l).1, nm, (foldC (cS d) (sgP nm) z C.length l).2⟩
theorem sgP_snoc (nm : List Jf) (s : Str) (k : Int) : sgP (nm ++ [⟨s, k⟩]) = upd (sgP nm) s k := by
 funext q
 unfold sgP upd
 rw [List.reverse_append, List.reverse_cons, List.reverse_nil, List.nil_append, List.cons_append, List.find?_cons]
 by_cases h : s = q
 ·rw [decide_eq_true h, if_pos h]; rfl
 ·rw [decide_eq_false h, if_neg h]; rfl
theorem if_kids {m : Nat} {x : M} (hk : x.Kind = 2) (h : Jv (m + 1) x = some true) : ∃ e t, t.Kind = 12 ∧ (x.Kids = [e, t] ∨ ∃ o, (o.Kind = 12 ∨ o.Kind = 2) ∧ x.Kids = [e, t, o]) := by
 obtain ⟨l3, k1⟩ := stated_if2 hk h
 have k2 := stated_if hk h
 obtain ⟨m', e, _, hv⟩ := stated_inv h
 cases e
 obtain ⟨l2, _⟩ := hv hk
 match hx : x.Kids, l2, l3 with
 | [e, t], _, _ => exact ⟨e, t, k1 t (by rw [hx]; rfl), .inl rfl⟩
 | [e, t, o], _, _ =>
  refine ⟨e, t, k1 t (by rw [hx]; rfl), .inr ⟨o, ?_, rfl⟩⟩
  by_cases q : o.Kind = 12
  ·exact .inl q
  ·exact .inr (k2 o (by rw [hx]; simp) q)
 | [], h, _ => simp at h
 | [a], h, _ => simp at h
 | a :: b :: c :: e :: l, _, h => simp at h
theorem brn12 {t : M} (h : t.Kind = 12) : brn t = t.Kids := by unfold brn; rw [if_pos h]
theorem brn2 {t : M} (h : t.Kind = 2) : brn t = [t] := by unfold brn; rw [if_neg (by omega)]
set_option maxRecDepth 100000 in
theorem pchoice {f : Cp → List M → Option Cp} : ∀ (d n : Nat) (C : List I) (nm : List Jf) (z : Int) (x : M) (ρ ρ' : Env), (∀ e, e ≤ d → HB e f) → x.Kind = 2 → Gd (d + 1) x → stm (d + 1) ρ x = .ok ρ' → d + 250000 ≤ n → nm.length + 701 * (d + 1) ≤ 90000 → C.length + 6 * cnt (d + 1) x ≤ 700000 → 0 ≤ z → z + cnt (d + 1) x ≤ 1000000 →
  JS f n ⟨C, nm, z⟩ x = some ⟨C ++ (cS (d + 1) (sgP nm) z C.length x).1, nm, (cS (d + 1) (sgP nm) z C.length x).2.1⟩
 | d, 0, _, _, _, _, _, _, _, _, _, _, hn, _, _, _, _ => by omega
 | d, n + 1, C, nm, z, x, ρ, ρ', hf, q2, hg, hs, hn, hnm, hC, hz, hz2 => by
  obtain ⟨⟨h1, h2, h3⟩, m, hm⟩ := hg
  obtain ⟨m, rfl, hv0, hv2⟩ := stated_inv hm
  obtain ⟨l2, hb⟩ := hv2 q2
  obtain ⟨e, t, ht12, hk⟩ := if_kids q2 hm
  rw [cnt_eq] at hC hz2
  have hex : ∃ ks, x.Kids = e :: t :: ks := by rcases hk with hk | ⟨o, _, hk⟩ <;> exact ⟨_, hk⟩
  obtain ⟨ks, hks⟩ := hex
  obtain ⟨te, hte, hst⟩ := stm_inv hks hs
  rcases hst with ⟨q, _⟩ | ⟨_, rfl, hbr⟩ | ⟨_, q, _⟩
  ·omega
  ·have hE : XE ρ' d e := XE_of (h3 e (by rw [hks]; simp)) (hv0 e (by rw [hks]; rfl)) hte
   have hT := brs_none hbr
   have gd : ∀ k ∈ t :: ks, (∀ q ∈ brn k, Gd d q) ∧ (brn k).length ≤ 700 := fun k hk1 => by
    have hk2 : k ∈ x.Kids := by rw [hks]; simp at hk1 ⊢; exact .inr hk1
    obtain ⟨l', e1, e2, e3⟩ := branch_ok (h3 k hk2) ((hb k (by rw [hks]; simpa using hk1)).imp (fun h => ⟨h.1, fun q hq => ⟨m, h.2 q hq⟩⟩) fun h => ⟨h.1, m, h.2⟩)
    rw [brn_eq] at e1
    cases e1
    exact ⟨e3, e2⟩
   have hAl := cE_len (σ := sgP nm) d C.length e
   rw [hks, cntL_cons, cntL_cons] at hC hz2
   have eA := pexpr (z := z) (by omega) d n C e hE (by omega) (by omega) (nm := nm)
   obtain ⟨gt, lt⟩ := gd t (by simp)
   obtain ⟨ρt, hρt⟩ := hT t (by simp)
   obtain ⟨okt, ct⟩ := brn_ok (h3 t (by rw [hks]; simp))
   rw [brn12 ht12] at gt lt hρt okt ct
   have lT := foldC_len (d := d) (g := cS d) t.Kids (sgP nm) z (C.length + (cE d (sgP nm) C.length e).length + 1) fun q hq => cS_len d q (okt q hq)
   have eT := hf d (Nat.le_refl _) (C ++ cE d (sgP nm) C.length e ++ [⟨10, 0, []⟩]) nm z t.Kids ρ' ρt gt hρt lt (by omega) (by simp only [List.length_append, List.length_cons, List.length_nil]; omega) hz (by omega)
   simp only [List.length_append, List.length_cons, List.length_nil, Nat.zero_add] at eT
   rw [JS, hks, ix0, Option.bind_some, eA, Option.bind_some, emit_eq (by simp only [List.length_append]; omega), Option.bind_some, ix1, Option.bind_some]
   simp only
   rw [eT, Option.bind_some]
   generalize hTT : foldC (cS d) (sgP nm) z (C.length + (cE d (sgP nm) C.length e).length + 1) t.Kids = T at lT ⊢
   generalize hAA : cE d (sgP nm) C.length e = A at hAl hTT ⊢
   rcases hk with hk | ⟨o, ho, hk⟩
   ·rw [hks] at hk
    cases hk
    rw [if_pos (by simp), here_at (C := C ++ A) (i := ⟨10, 0, []⟩) (D := T.1) (C.length + A.length + 1 + T.1.length) (by simp) (by simp) (by simp <;> omega), Option.bind_some, cS_2 (T := T) q2 hks (by rw [hAA]; exact hTT), hAA]
    simp [if2]
   ·rw [hks] at hk
    cases hk
    have hot : (∀ q ∈ brn o, Gd d q) ∧ (brn o).length ≤ 700 := gd o (by simp)
    obtain ⟨go, lo⟩ := hot
    obtain ⟨ρo, hρo⟩ := hT o (by simp)
    obtain ⟨oko, co⟩ := brn_ok (h3 o (by rw [hks]; simp))
    rw [cntL_cons] at hC hz2
    rw [if_neg (by simp <;> omega), emit_eq (by simp only [List.length_append, List.length_cons, List.length_nil]; omega), Option.bind_some]
    simp only
    rw [here_at (C := C ++ A) (i := ⟨10, 0, []⟩) (D := T.1 ++ [⟨9, 0, []⟩]) (C.length + A.length + 1 + T.1.length + 1) (by simp) (by simp) (by simp; omega), Option.bind_some, show ix [e, t, o] 2 = some o from rfl, Option.bind_some, Option.bind_some]
    have eO : (if decide (o.Kind = 2) = true then (JS f n ⟨C ++ A ++ (⟨10, (C.length + A.length + 1 + T.1.length + 1 : Nat), []⟩ : I) :: (T.1 ++ [⟨9, 0, []⟩]), nm, T.2⟩ o) else f ⟨C ++ A ++ (⟨10, (C.length + A.length + 1 + T.1.length + 1 : Nat), []⟩ : I) :: (T.1 ++ [⟨9, 0, []⟩]), nm, T.2⟩ o.Kids) =
      some ⟨C ++ A ++ (⟨10, (C.length + A.length + 1 + T.1.length + 1 : Nat), []⟩ : I) :: (T.1 ++ [⟨9, 0, []⟩]) ++ (foldC (cS d) (sgP nm) T.2 (C.length + A.length + 1 + T.1.length + 1) (brn o)).1, nm, (foldC (cS d) (sgP nm) T.2 (C.length + A.length + 1 + T.1.length + 1) (brn o)).2⟩ := by
     have len : (C ++ A ++ (⟨10, (C.length + A.length + 1 + T.1.length + 1 : Nat), []⟩ : I) :: (T.1 ++ [⟨9, 0, []⟩])).length = C.length + A.length + 1 + T.1.length + 1 := by simp; omega
     by_cases qo : o.Kind = 2
     ·rw [if_pos (by simpa using qo), brn2 qo]
      rw [brn2 qo] at go hρo
      obtain ⟨ρ2, ho1, _⟩ := foldS_cons hρo
      have hgo := go o (by simp)
      cases d with
      | zero => exact hgo.1.elim
      | succ d =>
       have := pchoice d n (C ++ A ++ (⟨10, (C.length + A.length + 1 + T.1.length + 1 : Nat), []⟩ : I) :: (T.1 ++ [⟨9, 0, []⟩])) nm T.2 o ρ' ρ2 (fun e he => hf e (by omega)) qo hgo ho1 (by omega) (by omega) (by rw [len]; omega) (by omega) (by omega)
       rw [this, len]
       simp [foldC]
     ·have q12 : o.Kind = 12 := by omega
      rw [if_neg (by simpa using qo), brn12 q12]
      rw [brn12 q12] at go lo hρo oko co
      have := hf d (Nat.le_refl _) (C ++ A ++ (⟨10, (C.length + A.length + 1 + T.1.length + 1 : Nat), []⟩ : I) :: (T.1 ++ [⟨9, 0, []⟩])) nm T.2 o.Kids ρ' ρo go hρo lo (by omega) (by rw [len]; omega) (by omega) (by omega)
      rw [this, len]
    have lO := foldC_len (d := d) (g := cS d) (brn o) (sgP nm) T.2 (C.length + A.length + 1 + T.1.length + 1) fun q hq => cS_len d q (oko q hq)
    generalize hOO : foldC (cS d) (sgP nm) T.2 (C.length + A.length + 1 + T.1.length + 1) (brn o) = O at eO lO
    have fin : Jq ⟨C ++ A ++ (⟨10, (C.length + A.length + 1 + T.1.length + 1 : Nat), []⟩ : I) :: (T.1 ++ [⟨9, 0, []⟩]) ++ O.1, nm, O.2⟩ (((C ++ A ++ [(⟨10, 0, []⟩ : I)] ++ T.1).length : Nat) : Int) = some ⟨C ++ (cS (d + 1) (sgP nm) z C.length x).1, nm, (cS (d + 1) (sgP nm) z C.length x).2.1⟩ := by
     rw [here_at (C := C ++ A ++ (⟨10, (C.length + A.length + 1 + T.1.length + 1 : Nat), []⟩ : I) :: T.1) (i := ⟨9, 0, []⟩) (D := O.1) (C.length + A.length + 1 + T.1.length + 1 + O.1.length) (by simp) (by simp <;> omega) (by simp <;> omega), cS_3 (T := T) (O := O) q2 hks (by rw [hAA]; exact hTT) (by rw [hAA]; exact hOO), hAA]
     simp [if3]
    by_cases qo : o.Kind = 2
    ·rw [if_pos (by simpa using qo)] at eO ⊢
     rw [eO, Option.bind_some, fin, Option.bind_some]
    ·rw [if_neg (by simpa using qo)] at eO ⊢
     rw [Option.bind_some, eO, Option.bind_some, fin, Option.bind_some]
  ·omega
theorem stm_other {d : Nat} {ρ ρ' : Env} {x : M} (h : stm (d + 1) ρ x = .ok ρ') : (∃ e ks, x.Kids = e :: ks ∧ ∃ t, tyE d ρ e = .ok t) ∨ x.Kids = [] := by
 cases hk : x.Kids with
 | nil => exact .inr rfl
 | cons e ks =>
  obtain ⟨t, ht, _⟩ := stm_inv hk h
  exact .inl ⟨e, ks, rfl, t, ht⟩
theorem act_eq {C : List I} {nm : List Jf} {z : Int} {x : M} (hC : C.length ≤ 900000) (ht : x.Text.length ≤ 3000) (q3 : x.Kind ≠ 3) {P : Option Cp} :
  (if decide (x.Kind = 3) = true then P else if decide (x.Kind = 4) then (Jd ⟨C, nm, z⟩ 11 0 x.Text).bind fun x58 => some x58.2 else
   if decide (x.Kind = 5) then (chk (([104, 101, 97, 100, 101, 114, 58] : Str).length + x.Text.length ≤ lim)).bind fun _ => (Jd ⟨C, nm, z⟩ 11 0 (([104, 101, 97, 100, 101, 114, 58] : Str) ++ x.Text)).bind fun x65 => some x65.2 else
   if decide (x.Kind = 6) then (chk (([118, 97, 114, 121, 58] : Str).length + x.Text.length ≤ lim)).bind fun _ => (Jd ⟨C, nm, z⟩ 11 0 (([118, 97, 114, 121, 58] : Str) ++ x.Text)).bind fun x72 => some x72.2 else
   if decide (x.Kind = 7) then (Jd ⟨C, nm, z⟩ 11 0 ([116, 97, 103] : Str)).bind fun x76 => some x76.2 else
   if decide (x.Kind = 8) then (Jd ⟨C, nm, z⟩ 11 0 ([116, 116, 108] : Str)).bind fun x80 => some x80.2 else
   if decide (x.Kind = 9) then (Jd ⟨C, nm, z⟩ 11 0 ([100, 101, 110, 121] : Str)).bind fun x84 => some x84.2 else
   if decide (x.Kind = 10) then (Jd ⟨C, nm, z⟩ 11 0 ([112, 97, 115, 115] : Str)).bind fun x88 => some x88.2 else
   if decide (x.Kind = 11) then (Jd ⟨C, nm, z⟩ 11 0 ([116, 111, 107, 101, 110] : Str)).bind fun x92 => some x92.2 else some ⟨C, nm, z⟩) = some ⟨C ++ acs x, nm, z⟩ := by
 unfold acs acw
 rw [if_neg (by simpa using q3)]
 by_cases q4 : x.Kind = 4
 ·rw [if_pos (by simpa using q4), emit_eq (by omega), Option.bind_some, if_pos q4]
 rw [if_neg (by simpa using q4), if_neg q4]
 by_cases q5 : x.Kind = 5
 ·rw [if_pos (by simpa using q5), chk_bind (by simp [lim]; omega), emit_eq (by omega), Option.bind_some, if_pos q5]
 rw [if_neg (by simpa using q5), if_neg q5]
 by_cases q6 : x.Kind = 6
 ·rw [if_pos (by simpa using q6), chk_bind (by simp [lim]; omega), emit_eq (by omega), Option.bind_some, if_pos q6]
 rw [if_neg (by simpa using q6), if_neg q6]
 by_cases q7 : x.Kind = 7
 ·rw [if_pos (by simpa using q7), emit_eq (by omega), Option.bind_some, if_pos q7]
 rw [if_neg (by simpa using q7), if_neg q7]
 by_cases q8 : x.Kind = 8
 ·rw [if_pos (by simpa using q8), emit_eq (by omega), Option.bind_some, if_pos q8]
 rw [if_neg (by simpa using q8), if_neg q8]
 by_cases q9 : x.Kind = 9
 ·rw [if_pos (by simpa using q9), emit_eq (by omega), Option.bind_some, if_pos q9]
 rw [if_neg (by simpa using q9), if_neg q9]
 by_cases q10 : x.Kind = 10
 ·rw [if_pos (by simpa using q10), emit_eq (by omega), Option.bind_some, if_pos q10]
 rw [if_neg (by simpa using q10), if_neg q10]
 by_cases q11 : x.Kind = 11
 ·rw [if_pos (by simpa using q11), emit_eq (by omega), Option.bind_some, if_pos q11]
 rw [if_neg (by simpa using q11), if_neg q11]
 simp
set_option maxRecDepth 100000 in
theorem pstmt {f : Cp → List M → Option Cp} {d n : Nat} {C : List I} {nm : List Jf} {z : Int} {x : M} {ρ ρ' : Env} (hf : ∀ e, e ≤ d → HB e f) (hg : Gd (d + 1) x) (hs : stm (d + 1) ρ x = .ok ρ') (hn : d + 250000 ≤ n) (hnm : nm.length + 701 * (d + 1) ≤ 90000) (hC : C.length + 6 * cnt (d + 1) x ≤ 700000) (hz : 0 ≤ z) (hz2 : z + cnt (d + 1) x ≤ 1000000) :
  ∃ nm', J2 f n ⟨C, nm, z⟩ x = some ⟨C ++ (cS (d + 1) (sgP nm) z C.length x).1, nm ++ nm', (cS (d + 1) (sgP nm) z C.length x).2.1⟩ ∧ nm'.length ≤ 1 ∧ sgP (nm ++ nm') = (cS (d + 1) (sgP nm) z C.length x).2.2 := by
 unfold J2
 by_cases q2 : x.Kind = 2
 ·rw [if_pos (by simpa using q2), pchoice d n C nm z x ρ ρ' hf q2 hg hs hn hnm hC hz hz2, Option.bind_some]
  refine ⟨[], by simp, by simp, ?_⟩
  rw [List.append_nil, cS, if_pos q2]
  split <;> rfl
 ·rw [if_neg (by simpa using q2)]
  obtain ⟨⟨h1, h2, h3⟩, m, hm⟩ := hg
  obtain ⟨m, rfl, hv0, hv2⟩ := stated_inv hm
  rw [cnt_eq] at hC hz2
  have key : ∀ (C' : List I), C'.length ≤ 800000 → C' = C ++ hdC d (sgP nm) C.length x.Kids → ∃ nm', (if decide (x.Kind = 3) = true then (Jd ⟨C', nm, z⟩ 4 (⟨C', nm, z⟩ : Cp).slots ([] : Str)).bind fun x29 =>
    (chk (x29.2.names.length + [(⟨x.Text, x29.2.slots⟩ : Jf)].length ≤ lim)).bind fun _ => (chk (InI (x29.2.slots + 1))).bind fun _ =>
    some (⟨x29.2.code, (x29.2.names ++ [(⟨x.Text, x29.2.slots⟩ : Jf)]), (x29.2.slots + 1)⟩ : Jc) else some ⟨C' ++ acs x, nm, z⟩) = some ⟨C ++ (cS (d + 1) (sgP nm) z C.length x).1, nm ++ nm', (cS (d + 1) (sgP nm) z C.length x).2.1⟩ ∧ nm'.length ≤ 1 ∧ sgP (nm ++ nm') = (cS (d + 1) (sgP nm) z C.length x).2.2 := fun C' hl e => by
   by_cases q3 : x.Kind = 3
   ·rw [if_pos (by simpa using q3), emit_eq (by omega), Option.bind_some]
    simp only
    rw [chk_bind (by simp only [lim, List.length_cons, List.length_nil]; omega), chk_bind (by constructor <;> omega), cS_let q3, e]
    exact ⟨[⟨x.Text, z⟩], by simp, by simp, sgP_snoc _ _ _⟩
   ·rw [if_neg (by simpa using q3), cS_act q2 q3, e]
    exact ⟨[], by simp, by simp, by simp⟩
  have hl := hdC_len (σ := sgP nm) (d := d) (b := C.length) x.Kids
  rcases stm_other hs with ⟨e, ks, hk, t, ht⟩ | hk
  ·have hE : XE ρ d e := XE_of (h3 e (by rw [hk]; simp)) (hv0 e (by rw [hk]; rfl)) ht
   have hc : cnt d e ≤ cntL d x.Kids := by rw [hk, cntL_cons]; omega
   have hAl := cE_len (σ := sgP nm) d C.length e
   have eA := pexpr (z := z) (by omega) d n C e hE (by omega) (by omega) (nm := nm)
   rw [if_pos (by rw [hk]; simp <;> omega), hk, ix0, Option.bind_some, eA, Option.bind_some]
   rw [hk] at hl key
   have k := key (C ++ cE d (sgP nm) C.length e) (by simp only [List.length_append]; omega) rfl
   by_cases q3 : x.Kind = 3
   ·rw [if_pos (by simpa using q3)] at k ⊢
    exact k
   ·rw [act_eq (by simp only [List.length_append]; omega) h1 q3]
    rw [if_neg (by simpa using q3)] at k
    exact k
  ·rw [if_neg (by rw [hk]; simp)]
   rw [hk] at key
   have k := key C (by omega) (by simp [hdC])
   by_cases q3 : x.Kind = 3
   ·rw [if_pos (by simpa using q3)] at k ⊢
    exact k
   ·rw [act_eq (by omega) h1 q3]
    rw [if_neg (by simpa using q3)] at k
    exact k
set_option maxRecDepth 100000 in
theorem pblock_L0 {f : Cp → List M → Option Cp} {d n : Nat} (hf : ∀ e, e ≤ d → HB e f) (hn : d + 250000 ≤ n) : ∀ (l : List M) (i : Nat) (C : List I) (nm : List Jf) (z : Int) (ρ ρ' : Env), (∀ x ∈ l, Gd (d + 1) x) → foldS (stm (d + 1)) ρ l = .ok ρ' → nm.length + l.length + 701 * (d + 1) ≤ 90000 → C.length + 6 * cntL (d + 1) l ≤ 700000 → 0 ≤ z → z + cntL (d + 1) l ≤ 1000000 →
  ∃ nm', JG f n l i ⟨C, nm, z⟩ = some ⟨C ++ (foldC (cS (d + 1)) (sgP nm) z C.length l).1, nm ++ nm', (foldC (cS (d + 1)) (sgP nm) z C.length l).2⟩
 | [], i, C, nm, z, ρ, ρ', _, _, _, _, _, _ => ⟨[], by simp [JG, foldC]⟩
 | x :: l, i, C, nm, z, ρ, ρ', hg, hs, hnm, hC, hz, hz2 => by
  obtain ⟨ρ1, hs1, hs2⟩ := foldS_cons hs
  rw [cntL_cons] at hC hz2
  simp only [List.length_cons] at hnm
  have hgx := hg x (by simp)
  obtain ⟨nm1, e1, e2, e3⟩ := pstmt hf hgx hs1 hn (by omega) (C := C) (by omega) hz (by omega) (nm := nm)
  obtain ⟨c1, c2, c3⟩ := cS_len (d + 1) x hgx.1 (sgP nm) z C.length
  obtain ⟨nm2, g⟩ := pblock_L0 hf hn l (i + 1) (C ++ (cS (d + 1) (sgP nm) z C.length x).1) (nm ++ nm1) (cS (d + 1) (sgP nm) z C.length x).2.1 ρ1 ρ' (fun q hq => hg q (by simp [hq])) hs2 (by simp only [List.length_append]; omega) (by simp only [List.length_append]; omega) (by omega) (by omega)
  refine ⟨nm1 ++ nm2, ?_⟩
  rw [JG, e1, Option.bind_some, g, e3, foldC]
  simp only [List.append_assoc, List.length_append]
set_option maxRecDepth 100000 in
theorem pblock : ∀ (d n : Nat), d + 300000 ≤ n → HB d (JI n)
 | d, 0, h => by omega
 | 0, n + 1, _ => fun C nm z l ρ ρ' hg hs hl hnm hC hz hz2 => by
  cases l with
  | nil =>
   rw [JI, chk_bind (by simp [szMax]), JG, Option.bind_some]
   simp only
   rw [chk_bind (by omega)]
   simp only [foldC, List.append_nil]
   rw [show subL nm (0 : Int) (nm.length : Int) = nm by simp [subL]]
  | cons x l => exact (hg x (by simp)).1.elim
 | d + 1, n + 1, hn => fun C nm z l ρ ρ' hg hs hl hnm hC hz hz2 => by
  obtain ⟨nm', e⟩ := pblock_L0 (f := JI n) (d := d) (n := n) (fun e he => pblock e n (by omega)) (by omega) l 0 C nm z ρ ρ' hg hs (by omega) hC hz hz2
  rw [JI, chk_bind (by simp only [szMax]; omega), e, Option.bind_some]
  simp only
  rw [chk_bind (by simp only [List.length_append]; omega)]
  rw [show subL (nm ++ nm') (0 : Int) (nm.length : Int) = nm by simp [subL]]
def haltI : I := ⟨12, 0, []⟩
def prog (d : Nat) (l : List M) : List I := (foldC (cS d) (fun _ => none) 0 0 l).1 ++ [haltI]
set_option maxRecDepth 100000 in
theorem Compile_pure {n d : Nat} {y : M} {b : Bool} (hy : Ok (d + 1) y) (hd : d ≤ 100) (hn : 400000 ≤ n) (hc : cntL d y.Kids ≤ 10000) (hv : Jar n y = some b) :
  JaF n y = some (if b = true then (match foldS (stm d) base y.Kids with
   | .ok _ => if (prog d y.Kids).length ≤ 2048 then (prog d y.Kids, none) else ([], some 5)
   | .error e => ([], some e.2)) else ([], some 2)) := by
 unfold JaF
 rw [Check_pure (d := d) hy (by omega) (by omega) hv, Option.bind_some]
 cases b with
 | false => rfl
 | true =>
  simp only [if_true]
  unfold chkR
  cases q : foldS (stm d) base y.Kids with
  | error e => rw [if_pos (by simp)]
  | ok ρ =>
   obtain ⟨o1, o2, o3⟩ := hy
   have hv := Valid_inv hv
   have hg : ∀ k ∈ y.Kids, Gd d k := fun k hk => ⟨o3 k hk, n, hv k hk⟩
   have h := pblock d n (by omega) [] [] 0 y.Kids base ρ hg q o2 (by simp only [List.length_nil]; omega) (by simp only [List.length_nil]; omega) (by omega) (by omega)
   rw [if_neg (by simp), h, Option.bind_some]
   obtain ⟨l1, l2, l3⟩ := foldC_len (d := d) (g := cS d) y.Kids (fun _ => none) 0 0 fun q hq => cS_len d q (o3 q hq)
   have e : sgP [] = fun _ => none := rfl
   simp only [List.nil_append, List.length_nil, e]
   rw [emit_eq (by omega), Option.bind_some]
   simp only
   unfold prog haltI
   by_cases q2 : ((foldC (cS d) (fun _ => none) 0 0 y.Kids).1 ++ [(⟨12, 0, []⟩ : I)]).length ≤ 2048
   ·rw [if_neg (by simp only [decide_eq_true_eq]; omega), if_pos q2]
   ·rw [if_pos (by simp only [decide_eq_true_eq]; omega), if_neg q2]
end Rt.Rc
set_option linter.unusedVariables false
set_option linter.unusedSimpArgs false
open Go Go.SL Go.Proofs Pl
namespace Rt.Rc
def SF (x : M) : Prop :=
 x.Kind = 2 ∨ (x.Kind = 3 ∧ x.Kids.length = 1) ∨ (x.Kind = 4 ∧ x.Kids.length = 1 ∧ (x.Text = [112, 97, 116, 104] ∨ x.Text = [113, 117, 101, 114, 121])) ∨ (x.Kind = 5 ∧ x.Kids.length = 1 ∧ prt x.Text = true) ∨ (x.Kind = 6 ∧ x.Kids.length = 0 ∧ prt x.Text = true) ∨
 ((x.Kind = 7 ∨ x.Kind = 8 ∨ x.Kind = 9) ∧ x.Kids.length = 1) ∨ ((x.Kind = 10 ∨ x.Kind = 11) ∧ x.Kids.length = 0)
theorem one_len {m : Nat} {x : M} (h : (if decide ((x.Kids.length : Int) = 1) = true then (ix x.Kids 0).bind fun x121 => (Jo m x121).bind fun x123 => some x123 else some false).bind (fun x124 => some x124) = some true) : x.Kids.length = 1 := by
 by_cases q : (x.Kids.length : Int) = 1
 ·omega
 ·rw [if_neg (by simpa using q)] at h; cases h
theorem stated_form {m : Nat} {x : M} (ht : x.Text.length ≤ 3000) (h : Jv (m + 1) x = some true) : SF x := by
 unfold SF
 by_cases q2 : x.Kind = 2
 ·exact .inl q2
 rw [Jv, if_neg (by simpa using q2)] at h
 by_cases q6 : x.Kind = 6
 ·rw [if_pos (by simpa using q6), printable_eq (by omega), Option.bind_some] at h
  simp only [Option.some.injEq, Bool.and_eq_true, decide_eq_true_eq] at h
  exact .inr (.inr (.inr (.inr (.inl ⟨q6, by omega, h.1⟩))))
 rw [if_neg (by simpa using q6)] at h
 by_cases q10 : x.Kind = 10
 ·rw [if_pos (by simpa using q10)] at h
  simp only [Option.some.injEq, Bool.and_eq_true, decide_eq_true_eq] at h
  exact .inr (.inr (.inr (.inr (.inr (.inr ⟨.inl q10, by omega⟩)))))
 rw [if_neg (by simpa using q10)] at h
 by_cases q11 : x.Kind = 11
 ·rw [if_pos (by simpa using q11)] at h
  simp only [Option.some.injEq, Bool.and_eq_true, decide_eq_true_eq] at h
  exact .inr (.inr (.inr (.inr (.inr (.inr ⟨.inr q11, by omega⟩)))))
 rw [if_neg (by simpa using q11)] at h
 by_cases q3 : x.Kind = 3
 ·rw [if_pos (by simpa using q3)] at h
  obtain ⟨b, hb, h⟩ := bnd h
  cases b with
  | false => rw [if_pos (by simp)] at h; cases h
  | true => rw [if_neg (by simp)] at h; exact .inr (.inl ⟨q3, one_len h⟩)
 rw [if_neg (by simpa using q3)] at h
 by_cases q4 : x.Kind = 4
 ·rw [if_pos (by simpa using q4)] at h
  cases q : (decide (x.Text ≠ ([112, 97, 116, 104] : Str)) && decide (x.Text ≠ ([113, 117, 101, 114, 121] : Str))) with
  | true => rw [q, if_pos rfl] at h; cases h
  | false =>
   rw [q, if_neg (by simp)] at h
   refine .inr (.inr (.inl ⟨q4, one_len h, ?_⟩))
   simp only [Bool.and_eq_false_iff, decide_eq_false_iff_not, ne_eq, Classical.not_not] at q
   exact q
 rw [if_neg (by simpa using q4)] at h
 by_cases q5 : x.Kind = 5
 ·rw [if_pos (by simpa using q5), printable_eq (by omega), Option.bind_some] at h
  cases q : prt x.Text with
  | false => rw [q, if_pos (by simp)] at h; cases h
  | true => rw [q, if_neg (by simp)] at h; exact .inr (.inr (.inr (.inl ⟨q5, one_len h, rfl⟩)))
 rw [if_neg (by simpa using q5)] at h
 by_cases q7 : x.Kind = 7
 ·rw [if_pos (by simpa using q7)] at h
  split at h
  ·cases h
  ·exact .inr (.inr (.inr (.inr (.inr (.inl ⟨.inl q7, one_len h⟩)))))
 rw [if_neg (by simpa using q7)] at h
 by_cases q8 : x.Kind = 8
 ·rw [if_pos (by simpa using q8)] at h
  split at h
  ·cases h
  ·exact .inr (.inr (.inr (.inr (.inr (.inl ⟨.inr (.inl q8), one_len h⟩)))))
 rw [if_neg (by simpa using q8)] at h
 by_cases q9 : x.Kind = 9
 ·rw [if_pos (by simpa using q9)] at h
  split at h
  ·cases h
  ·exact .inr (.inr (.inr (.inr (.inr (.inl ⟨.inr (.inr q9), one_len h⟩)))))
 rw [if_neg (by simpa using q9)] at h
 cases h
def isJ (i : I) : Bool := decide (i.Op = 9) || decide (i.Op = 10)
def Bd (b : Nat) (l : List I) : Prop := ∀ i ∈ l, isJ i = true → (b : Int) ≤ i.N ∧ i.N ≤ b + l.length
theorem Bd.append {b : Nat} {l k : List I} (h1 : Bd b l) (h2 : Bd (b + l.length) k) : Bd b (l ++ k) := fun i hi hj => by
 rw [List.length_append]
 rcases List.mem_append.1 hi with h | h
 ·have := h1 i h hj; omega
 ·have := h2 i h hj; omega
theorem Bd.nil (b : Nat) : Bd b [] := fun i hi _ => by cases hi
theorem Bd.one {b : Nat} {i : I} (h : isJ i = false) : Bd b [i] := fun j hj hx => by
 rw [List.mem_singleton.1 hj, h] at hx; cases hx
theorem Bd.no {b : Nat} {l : List I} (h : l.all (fun i => !isJ i) = true) : Bd b l := fun i hi hj => by
 have := List.all_eq_true.1 h i hi
 rw [hj] at this; cases this
theorem Bd.jump {b t : Nat} {o : Int} {l : List I} (h : Bd (b + 1) l) (h1 : b ≤ t) (h2 : t ≤ b + 1 + l.length) : Bd b (⟨o, (t : Int), []⟩ :: l) := fun i hi hj => by
 rw [List.length_cons]
 rcases List.mem_cons.1 hi with rfl | hi
 ·simp only; omega
 ·have := h i hi hj; omega
theorem tr_no (b : Bool) : (tr b).all (fun i => !isJ i) = true := by cases b <;> rfl
theorem cE_bd {σ : Sg} : ∀ (d b : Nat) (x : M), Bd b (cE d σ b x)
 | 0, b, x => Bd.nil b
 | d + 1, b, x => by
  by_cases q20 : x.Kind = 20; · rw [cE_20 q20]; exact Bd.one rfl
  by_cases q21 : x.Kind = 21; · rw [cE_21 q21]; exact Bd.one rfl
  by_cases q22 : x.Kind = 22; · rw [cE_22 q22]; exact Bd.no (tr_no _)
  by_cases q23 : x.Kind = 23; · rw [cE_23 q23]; refine Bd.one ?_; unfold nmI; split <;> rfl
  rw [cE, if_neg q20, if_neg q21, if_neg q22, if_neg q23]
  split
  ·rename_i e _
   refine (cE_bd d b e).append (Bd.one ?_)
   split <;> rfl
  ·rename_i e l _
   have h1 := cE_bd (σ := σ) d b e
   split
   ·refine h1.append (Bd.jump ?_ (by omega) (by simp only [List.length_append, List.length_cons, tr_len]; omega))
    exact (cE_bd d _ l).append (Bd.jump (Bd.no (tr_no _)) (by omega) (by rw [tr_len]; omega))
   ·split
    ·refine h1.append (Bd.jump ?_ (by omega) (by simp only [List.length_append, List.length_cons, tr_len]; omega))
     refine (Bd.no (tr_no _)).append (Bd.jump ?_ (by rw [tr_len]; omega) (by rw [tr_len]; omega))
     have := cE_bd (σ := σ) d (b + (cE d σ b e).length + 5) l
     rw [tr_len, show b + (cE d σ b e).length + 1 + 3 + 1 = b + (cE d σ b e).length + 5 by omega]
     exact this
    ·exact h1.append ((cE_bd d _ l).append (Bd.one rfl))
  ·exact Bd.nil b
theorem if2_bd {b : Nat} {A T : List I} (hA : Bd b A) (hT : Bd (b + A.length + 1) T) : Bd b (if2 b A T) := by
 unfold if2
 exact hA.append (Bd.jump hT (by omega) (by omega))
theorem if3_bd {b : Nat} {A T O : List I} (hA : Bd b A) (hT : Bd (b + A.length + 1) T) (hO : Bd (b + A.length + 1 + T.length + 1) O) : Bd b (if3 b A T O) := by
 unfold if3
 exact hA.append (Bd.jump (hT.append (Bd.jump hO (by omega) (by omega))) (by omega) (by simp only [List.length_append, List.length_cons]; omega))
theorem hdC_bd {σ : Sg} (d b : Nat) : ∀ (l : List M), Bd b (hdC d σ b l)
 | [] => Bd.nil b
 | e :: _ => cE_bd d b e
theorem acs_bd (b : Nat) (x : M) : Bd b (acs x) := by
 unfold acs; split
 ·exact Bd.one rfl
 ·exact Bd.nil b
theorem foldC_bd {g : Sg → Int → Nat → M → List I × Int × Sg} : ∀ (l : List M) (σ : Sg) (z : Int) (b : Nat), (∀ x ∈ l, ∀ σ z b, Bd b (g σ z b x).1) → Bd b (foldC g σ z b l).1
 | [], _, _, b, _ => Bd.nil b
 | x :: l, σ, z, b, h => by
  rw [foldC]
  exact (h x (by simp) σ z b).append (foldC_bd l _ _ _ fun q hq => h q (by simp [hq]))
theorem cS_bd : ∀ (d : Nat) (x : M) (σ : Sg) (z : Int) (b : Nat), Bd b (cS d σ z b x).1
 | 0, x, σ, z, b => Bd.nil b
 | d + 1, x, σ, z, b => by
  have fb : ∀ (l : List M) (σ : Sg) (z : Int) (b : Nat), Bd b (foldC (cS d) σ z b l).1 := fun l σ z b => foldC_bd l σ z b fun q _ σ z b => cS_bd d q σ z b
  by_cases q2 : x.Kind = 2
  ·rw [cS, if_pos q2]
   split
   ·exact if2_bd (cE_bd d b _) (fb _ _ _ _)
   ·exact if3_bd (cE_bd d b _) (fb _ _ _ _) (fb _ _ _ _)
   ·exact Bd.nil b
  ·by_cases q3 : x.Kind = 3
   ·rw [cS_let q3]; exact (hdC_bd d b _).append (Bd.one rfl)
   ·rw [cS_act q2 q3]; exact (hdC_bd d b _).append (acs_bd _ x)
end Rt.Rc
set_option linter.unusedVariables false
set_option linter.unusedSimpArgs false
open Go Go.SL Go.Proofs Pl
namespace Rt.Rc
abbrev I2 := Ju
def cv (i : I) : I2 := ⟨i.Op, i.N, i.S⟩
end Rt.Rc
set_option linter.unusedVariables false
set_option linter.unusedSimpArgs false
open Go Go.SL Go.Proofs Pl
namespace Rt.Rc
end Rt.Rc
set_option linter.unusedVariables false
set_option linter.unusedSimpArgs false
open Go Go.SL Go.Proofs Pl
namespace Rt.Rc
theorem small_cnt_L0 {e : Int} {f : M → Int → Int → Option (Bool × Int)} {d : Nat} (hf : ∀ k z m, f k z (e - 1) = some (true, m) → m + cnt d k ≤ z ∧ 0 ≤ m) : ∀ (l : List M) (i : Nat) (y : Int) (r : Fl (Bool × Int) Int), Jam e f l i y = some r → (∀ m, r = Fl.go m → m + cntL d l ≤ y ∧ (0 ≤ y → 0 ≤ m)) ∧ ∀ z, r = Fl.ret z → z.1 = false
 | [], i, y, r, h => by
  cases h
  exact ⟨fun m e => by cases e; simp [cntL], fun z e => by cases e⟩
 | k :: l, i, y, r, h => by
  rw [Jam] at h
  obtain ⟨_, h⟩ := chkb h
  obtain ⟨x, hx, h⟩ := bnd h
  obtain ⟨b, m⟩ := x
  cases b with
  | false =>
   rw [if_pos (by simp)] at h
   cases h
   exact ⟨fun m e => (by cases e), fun z e => by cases e; rfl⟩
  | true =>
   rw [if_neg (by simp)] at h
   obtain ⟨h1, h2⟩ := hf k y m hx
   obtain ⟨g1, g2⟩ := small_cnt_L0 hf l (i + 1) m r h
   refine ⟨fun m' e => ?_, g2⟩
   obtain ⟨a1, a2⟩ := g1 m' e
   rw [cntL_cons]
   exact ⟨by omega, fun _ => a2 h2⟩
theorem small_cnt : ∀ (n d : Nat) (x : M) (z e m : Int), Jaq n x z e = some (true, m) → m + cnt d x ≤ z ∧ 0 ≤ m
 | 0, d, x, z, e, m, h => by rw [Jaq] at h; cases h
 | n + 1, d, x, z, e, m, h => by
  rw [Jaq] at h
  obtain ⟨_, h⟩ := chkb h
  split at h
  ·cases h
  ·rename_i hq
   simp only [Bool.or_eq_true, decide_eq_true_eq, not_or] at hq
   obtain ⟨_, h⟩ := chkb h
   obtain ⟨r, hr, h⟩ := bnd h
   have key : ∀ d', (∀ m, r = Fl.go m → m + cntL d' x.Kids ≤ z - 1 ∧ (0 ≤ z - 1 → 0 ≤ m)) ∧ ∀ z, r = Fl.ret z → z.1 = false := fun d' => small_cnt_L0 (d := d') (fun k z m hk => small_cnt n d' k z _ m hk) x.Kids 0 (z - 1) r hr
   cases r with
   | ret q =>
    rw [el_ret] at h
    have := (key 0).2 q rfl
    cases h
    cases this
   | go q =>
    rw [el_go] at h
    cases h
    cases d with
    | zero =>
     have h0 := (key 0).1 m rfl
     have hc : cnt 0 x = 0 := rfl
     rw [hc]
     have : (0 : Int) ≤ cntL 0 x.Kids := by omega
     exact ⟨by omega, h0.2 (by omega)⟩
    | succ d =>
     have h1 := (key d).1 m rfl
     rw [cnt_eq]
     exact ⟨by omega, h1.2 (by omega)⟩
theorem Valid_small {n : Nat} {x : M} (h : Jar n x = some true) (d : Nat) : cnt d x ≤ 512 := by
 unfold Jar at h
 split at h
 ·cases h
 ·obtain ⟨s, hs, h⟩ := bnd h
  obtain ⟨b, m⟩ := s
  cases b with
  | false => rw [if_pos (by simp)] at h; cases h
  | true =>
   have := small_cnt n d x 512 32 m hs
   omega
def NL : Nat → M → Prop
 | 0, _ => True
 | d + 1, x => x.Kind ≠ 3 ∧ ∀ k ∈ x.Kids, NL d k
theorem NL.up : ∀ {d : Nat} {x : M}, Ok d x → NL d x → ∀ e, NL e x
 | 0, _, h, _, _ => h.elim
 | d + 1, x, _, _, 0 => trivial
 | d + 1, x, h, hn, e + 1 => ⟨hn.1, fun k hk => (NL.up (h.2.2 k hk) (hn.2 k hk)) e⟩
end Rt.Rc
set_option linter.unusedVariables false
set_option linter.unusedSimpArgs false
open Go Go.SL Go.Proofs Pl
namespace Rt.Rc
end Rt.Rc
set_option linter.unusedVariables false
set_option linter.unusedSimpArgs false
open Go Go.SL Go.Proofs Pl
namespace Rt.Rc
def acts1 : List Str := [[112, 97, 116, 104], [113, 117, 101, 114, 121], [116, 97, 103], [116, 116, 108], [100, 101, 110, 121]]
def acts0 : List Str := [[112, 97, 115, 115], [116, 111, 107, 101, 110]]
def sHeader : Str := [104, 101, 97, 100, 101, 114, 58]
def sVary : Str := [118, 97, 114, 121, 58]
def hp (s p : Str) : Bool := decide (s.length ≥ p.length) && decide (s.take p.length = p)
def actK (s : Str) : Option Int :=
 if s ∈ acts1 then some 1 else if s ∈ acts0 then some 0 else if hp s sHeader = true then (if prt s = true then some 1 else none) else if (hp s sVary && prt s) = true then some 0 else none
def eff (x : I) : Option (Int × Int) :=
 if x.Op = 1 then (if x.S = [] ∧ 0 ≤ x.N ∧ x.N ≤ 999999999 then some (0, 1) else none)
 else if x.Op = 2 then (if x.N = 0 ∧ prt x.S = true then some (0, 1) else none)
 else if x.Op = 3 then (if x.S = [] ∧ 0 ≤ x.N ∧ x.N ≤ 511 then some (0, 1) else none)
 else if x.Op = 4 then (if x.S = [] ∧ 0 ≤ x.N ∧ x.N ≤ 511 then some (1, 0) else none)
 else if x.Op = 5 then (if x.N = 0 ∧ x.S ∈ Js then some (0, 1) else none)
 else if x.Op = 6 then (if x.N = 0 ∧ x.S ∈ Jx then some (1, 1) else none)
 else if x.Op = 7 then (if x.N = 0 ∧ x.S ∈ JD then some (2, 1) else none)
 else if x.Op = 8 then (if x.N = 0 ∧ x.S = [] then some (1, 1) else none)
 else if x.Op = 9 then (if x.S = [] then some (0, 0) else none)
 else if x.Op = 10 then (if x.S = [] then some (1, 0) else none)
 else if x.Op = 11 then (if x.N = 0 then (actK x.S).map fun t => (t, 0) else none)
 else if x.Op = 12 then (if x.N = 0 ∧ x.S = [] then some (0, 0) else none)
 else none
def Ef (x : I) (r : Option (Int × Int × Bool)) : Prop := ∃ t l, r = some (t, l, (eff x).isSome) ∧ ∀ a b, eff x = some (a, b) → t = a ∧ l = b
theorem Ef.mk' {x : I} {t l : Int} {b : Bool} {c : Prop} [Decidable c] (he : eff x = if c then some (t, l) else none) (hb : b = decide c) : Ef x (some (t, l, b)) := by
 refine ⟨t, l, ?_, fun a b h => ?_⟩
 ·rw [he, hb]
  by_cases q : c
  ·simp [q]
  ·simp [q]
 ·rw [he] at h
  split at h <;> cases h
  exact ⟨rfl, rfl⟩
theorem prt2_L0 : ∀ (s : Str) (i : Nat), J7 s i = some (if prt s = true then Fl.go () else Fl.ret false)
 | [], i => by simp [J7, prt]
 | c :: s, i => by
  rw [J7, prt_cond, Option.bind_some, prt_cons]
  cases q : (decide ((c.toNat : Int) < 32) || decide ((c.toNat : Int) > 126)) with
  | true => rw [if_pos rfl]; rfl
  | false => rw [if_neg (by simp), prt2_L0 s (i + 1)]; rfl
theorem prt2_eq {s : Str} (h : s.length ≤ 100000) : JaN s = some (prt s) := by
 unfold JaN
 rw [chk_bind (by simp only [szMax]; omega), prt2_L0, Option.bind_some]
 cases prt s <;> rfl
theorem has_L0 (v : Str) : ∀ (l : List Str) (i : Nat), JaQ v l i = some (if v ∈ l then Fl.ret true else Fl.go ())
 | [], i => by simp [JaQ]
 | a :: l, i => by
  rw [JaQ]
  by_cases q : a = v
  ·rw [if_pos (by simpa using q), if_pos (by simp [q])]
  ·rw [if_neg (by simpa using q), has_L0 v l (i + 1)]
   have : v ≠ a := fun h => q h.symm
   simp [this]
theorem has2_eq {l : List Str} {v : Str} (h : l.length ≤ 1000) : Jba v l = some (decide (v ∈ l)) := by
 unfold Jba
 rw [chk_bind (by simp only [szMax]; omega), has_L0, Option.bind_some]
 by_cases q : v ∈ l
 ·rw [if_pos q, el_ret, decide_eq_true q]
 ·rw [if_neg q, el_go, decide_eq_false q]
theorem sub0 (s : Str) (k : Nat) : subL s (0 : Int) (k : Int) = s.take k := by
 unfold subL
 simp
theorem hp_eq (s p : Str) : (decide ((s.length : Int) ≥ (p.length : Int)) && decide (subL s (0 : Int) (p.length : Int) = p)) = hp s p := by
 rw [sub0]
 unfold hp
 congr 1
 rw [decide_eq_decide]; omega
theorem hp_app {s p : Str} (h : hp s p = true) : s = p ++ s.drop p.length := by
 simp only [hp, Bool.and_eq_true, decide_eq_true_eq] at h
 conv => lhs; rw [← List.take_append_drop p.length s, h.2]
theorem prt_append (a b : Str) : prt (a ++ b) = (prt a && prt b) := by simp [prt]
theorem begins_eq {s p : Str} (h : s.length ≤ 100000) : JaR s p = some (hp s p && prt s) := by
 unfold JaR
 by_cases q : (s.length : Int) ≥ (p.length : Int)
 ·rw [if_pos (by simpa using q), chk_bind (by omega), Option.bind_some]
  have e : decide (subL s (0 : Int) (p.length : Int) = p) = hp s p := by rw [← hp_eq, decide_eq_true q, Bool.true_and]
  rw [e]
  cases hp s p with
  | true => rw [if_pos rfl, prt2_eq h, Option.bind_some, Option.bind_some, Bool.true_and]
  | false => rw [if_neg (by simp), Option.bind_some, Bool.false_and]
 ·rw [if_neg (by simpa using q), Option.bind_some, if_neg (by simp), Option.bind_some]
  have : hp s p = false := by rw [← hp_eq, decide_eq_false q, Bool.false_and]
  rw [this, Bool.false_and]
theorem ifb {c : Bool} {o : Option Bool} {v : Bool} (h : o = some v) : (if c = true then o.bind (fun x => some x) else some false) = some (c && v) := by
 cases c with
 | true => rw [if_pos rfl, h, Option.bind_some, Bool.true_and]
 | false => rw [if_neg (by simp), Bool.false_and]
end Rt.Rc
set_option linter.unusedVariables false
set_option linter.unusedSimpArgs false
open Go Go.SL Go.Proofs Pl
namespace Rt.Rc
theorem hp_ne {s p q : Str} (h : hp s p = true) (hn : ∀ t, hp (p ++ t) q = false) : hp s q = false := by
 rw [hp_app h]; exact hn _
theorem vary_header (s : Str) (h : hp s sVary = true) : hp s sHeader = false := by
 refine hp_ne h fun t => ?_
 unfold hp sVary sHeader
 simp
theorem vary_acts1 {s : Str} (h : hp s sVary = true) : s ∉ acts1 := by
 intro hs
 have : ∀ w ∈ acts1, hp w sVary = false := by decide
 rw [this s hs] at h; cases h
theorem header_acts0 {s : Str} (h : hp s sHeader = true) : s ∉ acts0 := by
 intro hs
 have : ∀ w ∈ acts0, hp w sHeader = false := by decide
 rw [this s hs] at h; cases h
theorem acts10 {s : Str} (h : s ∈ acts0) : s ∉ acts1 := by
 intro hs
 have : ∀ w ∈ acts0, w ∉ acts1 := by decide
 exact this s h hs
theorem orb {c : Bool} {o : Option Bool} {v : Bool} (h : o = some v) : (if c = true then some true else o.bind (fun x => some x)) = some (c || v) := by
 cases c with
 | true => rw [if_pos rfl, Bool.true_or]
 | false => rw [if_neg (by simp), h, Option.bind_some, Bool.false_or]
theorem fn_iff (s : Str) : Jat s = some ((fnc s).1, (fnc s).2, decide (s ∈ Jx)) ∧ ((fnc s).2 ≠ 0 ↔ s ∈ Jx) := by
 obtain ⟨h1, h2⟩ := fnc_cases s
 have h3 : decide ((fnc s).2 ≠ 0) = decide (s ∈ Jx) := by
  have e : (Jat s).map (fun r => r.2.2) = some (decide (s ∈ Jx)) := by
   unfold Jat Jx
   by_cases q1 : s = [104, 101, 97, 100, 101, 114]; · subst q1; rfl
   by_cases q2 : s = [97, 114, 103]; · subst q2; rfl
   by_cases q3 : s = [108, 111, 119, 101, 114]; · subst q3; rfl
   by_cases q4 : s = [104, 97, 115]; · subst q4; rfl
   by_cases q5 : s = [108, 101, 110]; · subst q5; rfl
   by_cases q6 : s = [110, 117, 109, 98, 101, 114]; · subst q6; rfl
   by_cases q7 : s = [112, 97, 114, 116]; · subst q7; rfl
   by_cases q8 : s = [116, 101, 120, 116]; · subst q8; rfl
   simp [q1, q2, q3, q4, q5, q6, q7, q8]
  rw [h1] at e
  simpa using e
 rw [h3] at h1
 exact ⟨h1, decide_eq_decide.1 h3⟩
set_option maxHeartbeats 1000000 in
theorem effect_pure {x : I} (h : x.S.length ≤ 100000) : Ef x (Jbt (cv x)) := by
 unfold Jbt cv
 dsimp only
 by_cases q1 : x.Op = 1
 ·rw [if_pos (by simpa using q1)]; exact Ef.mk' (by unfold eff; rw [if_pos q1]) (by simp [Bool.and_assoc])
 by_cases q2 : x.Op = 2
 ·rw [if_neg (by simpa using q1), if_pos (by simpa using q2), ifb (prt2_eq h), Option.bind_some]; exact Ef.mk' (by unfold eff; rw [if_neg q1, if_pos q2]) (by simp)
 by_cases q3 : x.Op = 3
 ·rw [if_neg (by simpa using q1), if_neg (by simpa using q2), if_pos (by simpa using q3)]
  refine Ef.mk' (by unfold eff; rw [if_neg q1, if_neg q2, if_pos q3]) ?_
  have : decide (x.N < 512) = decide (x.N ≤ 511) := by rw [decide_eq_decide]; omega
  simp [this, Bool.and_assoc]
 by_cases q4 : x.Op = 4
 ·rw [if_neg (by simpa using q1), if_neg (by simpa using q2), if_neg (by simpa using q3), if_pos (by simpa using q4)]
  refine Ef.mk' (by unfold eff; rw [if_neg q1, if_neg q2, if_neg q3, if_pos q4]) ?_
  have : decide (x.N < 512) = decide (x.N ≤ 511) := by rw [decide_eq_decide]; omega
  simp [this, Bool.and_assoc]
 rw [if_neg (by simpa using q1), if_neg (by simpa using q2), if_neg (by simpa using q3), if_neg (by simpa using q4)]
 by_cases q5 : x.Op = 5
 ·have hp : JaO x.S = some (decide (x.S ∈ Js)) := by
   unfold JaO Js
   simp [Bool.or_assoc]
  rw [if_pos (by simpa using q5), ifb hp, Option.bind_some]; exact Ef.mk' (by unfold eff; rw [if_neg q1, if_neg q2, if_neg q3, if_neg q4, if_pos q5]) (by simp)
 by_cases q6 : x.Op = 6
 ·rw [if_neg (by simpa using q5), if_pos (by simpa using q6), (fn_iff x.S).1, Option.bind_some]; exact Ef.mk' (by unfold eff; rw [if_neg q1, if_neg q2, if_neg q3, if_neg q4, if_neg q5, if_pos q6]) (by simp)
 by_cases q7 : x.Op = 7
 ·have hl : Jba x.S ([([43] : Str), ([45] : Str), ([42] : Str), ([61, 61] : Str), ([33, 61] : Str), ([60] : Str), ([60, 61] : Str), ([115, 116, 97, 114, 116, 115] : Str), ([101, 110, 100, 115] : Str), ([99, 111, 110, 116, 97, 105, 110, 115] : Str)]) = some (decide (x.S ∈ JD)) := has2_eq (by decide)
  rw [if_neg (by simpa using q5), if_neg (by simpa using q6), if_pos (by simpa using q7), ifb hl, Option.bind_some]; exact Ef.mk' (by unfold eff; rw [if_neg q1, if_neg q2, if_neg q3, if_neg q4, if_neg q5, if_neg q6, if_pos q7]) (by simp)
 rw [if_neg (by simpa using q5), if_neg (by simpa using q6), if_neg (by simpa using q7)]
 by_cases q8 : x.Op = 8
 ·rw [if_pos (by simpa using q8)]; exact Ef.mk' (by unfold eff; rw [if_neg q1, if_neg q2, if_neg q3, if_neg q4, if_neg q5, if_neg q6, if_neg q7, if_pos q8]) (by simp [Bool.and_comm])
 by_cases q9 : x.Op = 9
 ·rw [if_neg (by simpa using q8), if_pos (by simpa using q9)]; exact Ef.mk' (by unfold eff; rw [if_neg q1, if_neg q2, if_neg q3, if_neg q4, if_neg q5, if_neg q6, if_neg q7, if_neg q8, if_pos q9]) (by simp)
 by_cases q10 : x.Op = 10
 ·rw [if_neg (by simpa using q8), if_neg (by simpa using q9), if_pos (by simpa using q10)]; exact Ef.mk' (by unfold eff; rw [if_neg q1, if_neg q2, if_neg q3, if_neg q4, if_neg q5, if_neg q6, if_neg q7, if_neg q8, if_neg q9, if_pos q10]) (by simp)
 rw [if_neg (by simpa using q8), if_neg (by simpa using q9), if_neg (by simpa using q10)]
 by_cases q11 : x.Op = 11
 ·have ee : eff x = if x.N = 0 then (actK x.S).map fun t => (t, 0) else none := by unfold eff; rw [if_neg q1, if_neg q2, if_neg q3, if_neg q4, if_neg q5, if_neg q6, if_neg q7, if_neg q8, if_neg q9, if_neg q10, if_pos q11]
  have e0 : Jba x.S [([112, 97, 115, 115] : Str), ([116, 111, 107, 101, 110] : Str)] = some (decide (x.S ∈ acts0)) := has2_eq (by decide)
  have e1 : Jba x.S [([112, 97, 116, 104] : Str), ([113, 117, 101, 114, 121] : Str), ([116, 97, 103] : Str), ([116, 116, 108] : Str), ([100, 101, 110, 121] : Str)] = some (decide (x.S ∈ acts1)) := has2_eq (by decide)
  have bv : JaR x.S [118, 97, 114, 121, 58] = some (hp x.S sVary && prt x.S) := begins_eq h
  have bh : JaR x.S [104, 101, 97, 100, 101, 114, 58] = some (hp x.S sHeader && prt x.S) := begins_eq h
  rw [if_pos (by simpa using q11), e0, Option.bind_some, orb bv, Option.bind_some]
  cases qz : (decide (x.S ∈ acts0) || (hp x.S sVary && prt x.S)) with
  | true =>
   rw [if_pos rfl]
   have ha : actK x.S = some 0 := by
    unfold actK
    simp only [Bool.or_eq_true, decide_eq_true_eq, Bool.and_eq_true] at qz
    rcases qz with qz | ⟨q1, q2⟩
    ·rw [if_neg (acts10 qz), if_pos qz]
    ·rw [if_neg (vary_acts1 q1)]
     by_cases m0 : x.S ∈ acts0
     ·rw [if_pos m0]
     ·rw [if_neg m0, if_neg (by rw [vary_header _ q1]; simp), q1, q2]; rfl
   exact Ef.mk' (c := x.N = 0) (by rw [ee, ha]; rfl) rfl
  | false =>
   rw [if_neg (by simp)]
   simp only [Bool.or_eq_false_iff, decide_eq_false_iff_not] at qz
   have ha : actK x.S = if (decide (x.S ∈ acts1) || (hp x.S sHeader && prt x.S)) = true then some 1 else none := by
    unfold actK
    by_cases m1 : x.S ∈ acts1
    ·rw [if_pos m1, decide_eq_true m1]; rfl
    ·rw [if_neg m1, if_neg qz.1, qz.2, decide_eq_false m1, Bool.false_or]
     cases hp x.S sHeader with
     | true => simp
     | false => simp
   by_cases n0 : x.N = 0
   ·rw [if_pos (by simpa using n0), e1, Option.bind_some, orb bh, Option.bind_some]
    exact Ef.mk' (c := (decide (x.S ∈ acts1) || (hp x.S sHeader && prt x.S)) = true) (by rw [ee, if_pos n0, ha]; split <;> rfl) (by simp)
   ·rw [if_neg (by simpa using n0)]
    exact Ef.mk' (c := False) (by rw [ee, if_neg n0]; rfl) (by simp)
 by_cases q12 : x.Op = 12
 ·rw [if_neg (by simpa using q11), if_pos (by simpa using q12)]; exact Ef.mk' (by unfold eff; rw [if_neg q1, if_neg q2, if_neg q3, if_neg q4, if_neg q5, if_neg q6, if_neg q7, if_neg q8, if_neg q9, if_neg q10, if_neg q11, if_pos q12]) (by simp [Bool.and_comm])
 ·rw [if_neg (by simpa using q11), if_neg (by simpa using q12)]
  have ee : eff x = none := by unfold eff; rw [if_neg q1, if_neg q2, if_neg q3, if_neg q4, if_neg q5, if_neg q6, if_neg q7, if_neg q8, if_neg q9, if_neg q10, if_neg q11, if_neg q12]
  exact ⟨0, 0, by rw [ee]; rfl, fun a b h => by rw [ee] at h; cases h⟩
end Rt.Rc
set_option linter.unusedVariables false
set_option linter.unusedSimpArgs false
open Go Go.SL Go.Proofs Pl
namespace Rt.Rc
abbrev AS := Option (Int × (Int → Bool))
abbrev AB := Nat → AS
def joinA (a : AS) (d : Int) (σ : Int → Bool) : Option AS := match a with
 | none => some (some (d, σ))
 | some (d0, σ0) => if d0 = d then some (some (d0, fun n => σ0 n && σ n)) else none
def updA (B : AB) (i : Nat) (a : AS) : AB := fun j => if j = i then a else B j
def nxt (x : I) (σ : Int → Bool) : Int → Bool := if x.Op = 4 then (fun n => decide (n = x.N) || σ n) else σ
def far (len i : Nat) (x : I) (B : AB) (d : Int) (σ : Int → Bool) : Option AB :=
 if isJ x = true then (if x.N ≤ i ∨ x.N ≥ len then none else (joinA (B x.N.toNat) d σ).map fun a => updA B x.N.toNat a) else some B
def near (i : Nat) (x : I) (B : AB) (d : Int) (σ : Int → Bool) : Option AB :=
 if x.Op = 9 then some B else (joinA (B (i + 1)) d σ).map fun a => updA B (i + 1) a
def stA (len i : Nat) (x : I) (B : AB) (g : Int) : Option (AB × Int) :=
 match eff x, B i with
 | some (t, l), some (d, σ) =>
  if d < t ∨ ¬ ((x.Op = 12) ↔ (i + 1 = len)) ∨ (x.Op = 3 ∧ σ x.N = false) then none
  else if x.Op = 12 then (if d = 0 then some (B, max (max g d) (d + (l - t))) else none)
  else (far len i x B (d + (l - t)) (nxt x σ)).bind fun B1 => (near i x B1 (d + (l - t)) (nxt x σ)).map fun B2 => (B2, max (max g d) (d + (l - t)))
 | _, _ => none
def wk (len : Nat) : Nat → List I → AB → Int → Option Int
 | _, [], _, g => some g
 | i, x :: l, B, g => (stA len i x B g).bind fun r => wk len (i + 1) l r.1 r.2
def B0 : AB := fun i => if i = 0 then some (0, fun _ => false) else none
def depthOf (c : List I) : Option Int := if c.length < 1 ∨ c.length > 2048 then none else wk c.length 0 c B0 0
theorem eff_bd {x : I} {t l : Int} (h : eff x = some (t, l)) : 0 ≤ t ∧ t ≤ 2 ∧ 0 ≤ l ∧ l ≤ 1 ∧ (x.Op = 12 → t = 0 ∧ l = 0) ∧ ((x.Op = 3 ∨ x.Op = 4) → 0 ≤ x.N ∧ x.N ≤ 511) := by
 unfold eff at h
 have go : ∀ {c : Prop} [Decidable c] {a b : Int}, (if c then some (a, b) else none) = some (t, l) → c ∧ a = t ∧ b = l := fun {c} _ {a b} h => by
  split at h
  ·rename_i hc; cases h; exact ⟨hc, rfl, rfl⟩
  ·cases h
 by_cases q1 : x.Op = 1
 ·rw [if_pos q1] at h; obtain ⟨_, rfl, rfl⟩ := go h; exact ⟨by omega, by omega, by omega, by omega, fun h => by omega, fun h => by omega⟩
 rw [if_neg q1] at h
 by_cases q2 : x.Op = 2
 ·rw [if_pos q2] at h; obtain ⟨_, rfl, rfl⟩ := go h; exact ⟨by omega, by omega, by omega, by omega, fun h => by omega, fun h => by omega⟩
 rw [if_neg q2] at h
 by_cases q3 : x.Op = 3
 ·rw [if_pos q3] at h; obtain ⟨hc, rfl, rfl⟩ := go h; exact ⟨by omega, by omega, by omega, by omega, fun h => by omega, fun _ => hc.2⟩
 rw [if_neg q3] at h
 by_cases q4 : x.Op = 4
 ·rw [if_pos q4] at h; obtain ⟨hc, rfl, rfl⟩ := go h; exact ⟨by omega, by omega, by omega, by omega, fun h => by omega, fun _ => hc.2⟩
 rw [if_neg q4] at h
 have no : ¬ (x.Op = 3 ∨ x.Op = 4) := by omega
 by_cases q5 : x.Op = 5
 ·rw [if_pos q5] at h; obtain ⟨_, rfl, rfl⟩ := go h; exact ⟨by omega, by omega, by omega, by omega, fun h => by omega, fun h => absurd h no⟩
 rw [if_neg q5] at h
 by_cases q6 : x.Op = 6
 ·rw [if_pos q6] at h; obtain ⟨_, rfl, rfl⟩ := go h; exact ⟨by omega, by omega, by omega, by omega, fun h => by omega, fun h => absurd h no⟩
 rw [if_neg q6] at h
 by_cases q7 : x.Op = 7
 ·rw [if_pos q7] at h; obtain ⟨_, rfl, rfl⟩ := go h; exact ⟨by omega, by omega, by omega, by omega, fun h => by omega, fun h => absurd h no⟩
 rw [if_neg q7] at h
 by_cases q8 : x.Op = 8
 ·rw [if_pos q8] at h; obtain ⟨_, rfl, rfl⟩ := go h; exact ⟨by omega, by omega, by omega, by omega, fun h => by omega, fun h => absurd h no⟩
 rw [if_neg q8] at h
 by_cases q9 : x.Op = 9
 ·rw [if_pos q9] at h; obtain ⟨_, rfl, rfl⟩ := go h; exact ⟨by omega, by omega, by omega, by omega, fun h => by omega, fun h => absurd h no⟩
 rw [if_neg q9] at h
 by_cases q10 : x.Op = 10
 ·rw [if_pos q10] at h; obtain ⟨_, rfl, rfl⟩ := go h; exact ⟨by omega, by omega, by omega, by omega, fun h => by omega, fun h => absurd h no⟩
 rw [if_neg q10] at h
 by_cases q11 : x.Op = 11
 ·rw [if_pos q11] at h
  split at h
  ·obtain ⟨k, hk, e⟩ := Option.map_eq_some_iff.1 h
   cases e
   have : t = 0 ∨ t = 1 := by
    unfold actK at hk
    split at hk
    ·cases hk; simp
    ·split at hk
     ·cases hk; simp
     ·split at hk
      ·split at hk
       ·cases hk; simp
       ·cases hk
      ·split at hk
       ·cases hk; simp
       ·cases hk
   exact ⟨by omega, by omega, by omega, by omega, fun h => by omega, fun h => absurd h no⟩
  ·cases h
 rw [if_neg q11] at h
 by_cases q12 : x.Op = 12
 ·rw [if_pos q12] at h; obtain ⟨_, rfl, rfl⟩ := go h; exact ⟨by omega, by omega, by omega, by omega, fun h => ⟨rfl, rfl⟩, fun h => absurd h no⟩
 rw [if_neg q12] at h
 cases h
end Rt.Rc
set_option linter.unusedVariables false
set_option linter.unusedSimpArgs false
open Go Go.SL Go.Proofs Pl
namespace Rt.Rc
theorem wk_cons {len i : Nat} {x : I} {l : List I} {B : AB} {g : Int} : wk len i (x :: l) B g = (stA len i x B g).bind fun r => wk len (i + 1) l r.1 r.2 := rfl
end Rt.Rc
set_option linter.unusedVariables false
set_option linter.unusedSimpArgs false
open Go Go.SL Go.Proofs Pl
namespace Rt.Rc
abbrev RS := Jl
def Asc (l : List Int) : Prop := l.Pairwise (· < ·)
theorem both_L2 {e : Int} : ∀ (b : List Int) (i : Nat) (y : List Int), Asc b → y.length ≤ 1000000 → Jaa e b i y = some (if e ∈ b then y ++ [e] else y)
 | [], i, y, _, _ => by simp [Jaa]
 | a :: b, i, y, h, hy => by
  obtain ⟨h1, h2⟩ := List.pairwise_cons.1 h
  rw [Jaa]
  by_cases q : e = a
  ·have hn : e ∉ b := fun hb => by have := h1 e hb; omega
   rw [if_pos (by simpa using q), chk_bind (by simp [lim]; omega)]
   have n2 : ∀ (l : List Int) (j : Nat) (z : List Int), (∀ w ∈ l, e < w) → Jaa e l j z = some z := fun l => by
    induction l with
    | nil => intro j z _; simp [Jaa]
    | cons w l ih =>
     intro j z hl
     have := hl w (by simp)
     rw [Jaa, if_neg (by simp; omega)]
     exact ih (j + 1) z fun v hv => hl v (by simp [hv])
   rw [n2 b _ _ fun w hw => by rw [q]; exact h1 w hw, if_pos (by simp [q])]
  ·rw [if_neg (by simpa using q), both_L2 b (i + 1) y h2 hy]
   simp [q]
theorem both_L0 {b : List Int} (hb : Asc b) (hbl : b.length ≤ 100000) : ∀ (a : List Int) (i : Nat) (y : List Int), y.length + a.length ≤ 1000000 → JaK b a i y = some (y ++ a.filter (fun n => decide (n ∈ b)))
 | [], i, y, _ => by simp [JaK]
 | e :: a, i, y, h => by
  simp only [List.length_cons] at h
  rw [JaK, chk_bind (by simp only [szMax]; omega), both_L2 b 0 y hb (by omega), Option.bind_some]
  by_cases q : e ∈ b
  ·rw [if_pos q, both_L0 hb hbl a (i + 1) _ (by simp only [List.length_append, List.length_cons, List.length_nil]; omega)]
   simp [q]
  ·rw [if_neg q, both_L0 hb hbl a (i + 1) _ (by omega)]
   simp [q]
theorem both_eq {a b : List Int} (hb : Asc b) (ha : a.length ≤ 100000) (hbl : b.length ≤ 100000) : Jbp a b = some (a.filter (fun n => decide (n ∈ b))) := by
 unfold Jbp
 rw [chk_bind (by simp only [szMax]; omega), both_L0 hb hbl a 0 [] (by simp; omega), Option.bind_some, List.nil_append]
theorem ints1 {l : List Int} {n : Int} (hl : Asc l) : JbG (l.filter (fun m => decide (m ∈ [n]))) [n] = some (decide (n ∈ l)) := by
 have e : l.filter (fun m => decide (m ∈ [n])) = if n ∈ l then [n] else [] := by
  induction l with
  | nil => rfl
  | cons a l ih =>
   obtain ⟨h1, h2⟩ := List.pairwise_cons.1 hl
   have ih := ih h2
   by_cases q : a = n
   ·have hn : n ∉ l := fun h => by have := h1 n h; omega
    rw [if_neg hn] at ih
    rw [List.filter_cons, ih]
    simp [q]
   ·have q' : ¬ n = a := fun h => q h.symm
    rw [List.filter_cons, ih]
    simp [q, q']
 rw [e]
 by_cases q : n ∈ l
 ·rw [if_pos q, decide_eq_true q]
  unfold JbG
  rw [if_neg (by simp), chk_bind (by simp [szMax]), Ja3, show ix [n] (((0 : Nat)) : Int) = some n from rfl, Option.bind_some, if_neg (by simp), Ja3]
  rfl
 ·rw [if_neg q, decide_eq_false q]
  unfold JbG
  rw [if_pos (by simp)]
def wth (n : Int) : List Int → List Int
 | [] => [n]
 | e :: l => if n < e then n :: e :: l else if n = e then e :: l else e :: wth n l
theorem wth_mem {n m : Int} : ∀ {l : List Int}, m ∈ wth n l ↔ m = n ∨ m ∈ l
 | [] => by simp [wth]
 | e :: l => by
  rw [wth]
  split
  ·simp
  ·split
   ·rename_i h; subst h; simp
   ·rw [List.mem_cons, wth_mem, List.mem_cons]
    constructor
    ·rintro (h | h | h)
     ·exact .inr (.inl h)
     ·exact .inl h
     ·exact .inr (.inr h)
    ·rintro (h | h | h)
     ·exact .inr (.inl h)
     ·exact .inl h
     ·exact .inr (.inr h)
theorem wth_asc {n : Int} : ∀ {l : List Int}, Asc l → Asc (wth n l)
 | [], _ => by simp [wth, Asc]
 | e :: l, h => by
  obtain ⟨h1, h2⟩ := List.pairwise_cons.1 h
  rw [wth]
  split
  ·rename_i hn
   refine List.pairwise_cons.2 ⟨fun m hm => ?_, h⟩
   rcases List.mem_cons.1 hm with rfl | hm
   ·exact hn
   ·have := h1 m hm; omega
  ·split
   ·exact h
   ·refine List.pairwise_cons.2 ⟨fun m hm => ?_, wth_asc h2⟩
    rcases wth_mem.1 hm with rfl | hm
    ·omega
    ·exact h1 m hm
theorem wth_len {n : Int} : ∀ {l : List Int}, (wth n l).length ≤ l.length + 1
 | [] => by simp [wth]
 | e :: l => by
  rw [wth]
  split
  ·simp
  ·split
   ·simp
   ·have := wth_len (n := n) (l := l)
    simp only [List.length_cons]; omega
theorem with_true {n : Int} : ∀ (l : List Int) (i : Nat) (y : List Int), (∀ m ∈ l, n < m) → y.length + l.length ≤ 1000000 → J5 n l i y true = some (y ++ l, true)
 | [], i, y, _, _ => by simp [J5]
 | e :: l, i, y, h, hl => by
  simp only [List.length_cons] at hl
  have := h e (by simp)
  rw [J5, if_neg (by simp), if_pos (by simp; omega), chk_bind (by simp [lim]; omega), with_true l (i + 1) _ (fun m hm => h m (by simp [hm])) (by simp; omega)]
  simp
theorem with_false {n : Int} : ∀ (l : List Int) (i : Nat) (y : List Int), Asc l → y.length + l.length ≤ 100000 → ∃ z b, J5 n l i y false = some (z, b) ∧ (if b = true then z else z ++ [n]) = y ++ wth n l ∧ z.length ≤ 1000000
 | [], i, y, _, hl => ⟨y, false, rfl, rfl, by omega⟩
 | e :: l, i, y, h, hl => by
  simp only [List.length_cons] at hl
  obtain ⟨h1, h2⟩ := List.pairwise_cons.1 h
  rw [J5, wth]
  by_cases q : n ≤ e
  ·rw [if_pos (by simpa using q), chk_bind (by simp [lim]; omega)]
   by_cases q2 : e = n
   ·rw [if_neg (by simpa using q2), with_true l (i + 1) _ (fun m hm => by have := h1 m hm; omega) (by simp; omega), if_neg (by omega), if_pos q2.symm]
    exact ⟨_, _, rfl, by simp [q2], by simp; omega⟩
   ·rw [if_pos (by simpa using q2), chk_bind (by simp [lim]; omega), with_true l (i + 1) _ (fun m hm => by have := h1 m hm; omega) (by simp; omega), if_pos (by omega)]
    exact ⟨_, _, rfl, by simp, by simp; omega⟩
  ·rw [if_neg (by simpa using q), if_pos (by simp; omega), chk_bind (by simp [lim]; omega), if_neg (by omega), if_neg (by omega)]
   obtain ⟨z, b, e1, e2, e3⟩ := with_false l (i + 1) (y ++ [e]) h2 (by simp; omega)
   exact ⟨z, b, e1, by rw [e2]; simp, e3⟩
theorem with_eq {l : List Int} {n : Int} (h : Asc l) (hl : l.length ≤ 10000) : Jbz l n = some (wth n l) := by
 unfold Jbz
 obtain ⟨z, b, e1, e2, e3⟩ := with_false (n := n) l 0 [] h (by simp; omega)
 rw [chk_bind (by simp only [szMax]; omega), e1, Option.bind_some]
 cases b with
 | true => rw [if_neg (by simp)]; simpa using e2
 | false => rw [if_pos (by simp), chk_bind (by simp [lim]; omega)]; simpa using e2
structure SL (l : List Int) (σ : Int → Bool) : Prop where
 asc : Asc l
 rng : ∀ n ∈ l, 0 ≤ n ∧ n ≤ 511
 mem : ∀ n : Int, 0 ≤ n → n ≤ 511 → (n ∈ l ↔ σ n = true)
structure RR (len : Nat) (L : List RS) (B : AB) : Prop where
 last : B len = none
 len : L.length = len + 1
 bits : ∀ i s, L[i]? = some s → s.reached = (B i).isSome ∧ ∀ d σ, B i = some (d, σ) → s.depth = d ∧ 0 ≤ d ∧ d ≤ i ∧ s.stored.length ≤ i ∧ SL s.stored σ
theorem SL.both {a b : List Int} {σ τ : Int → Bool} (ha : SL a σ) (hb : SL b τ) : SL (a.filter (fun n => decide (n ∈ b))) (fun n => σ n && τ n) :=
 ⟨ha.asc.filter _, fun n hn => ha.rng n (List.mem_filter.1 hn).1, fun n h0 h1 => by
  rw [List.mem_filter, ha.mem n h0 h1, decide_eq_true_eq, hb.mem n h0 h1]; simp⟩
theorem SL.with {x : I} {l : List Int} {σ : Int → Bool} (h : SL l σ) (q : x.Op = 4) (hx : 0 ≤ x.N ∧ x.N ≤ 511) : SL (wth x.N l) (nxt x σ) :=
 ⟨wth_asc h.asc, fun n hn => by rcases wth_mem.1 hn with rfl | hn; exact hx; exact h.rng n hn, fun n h0 h1 => by
  unfold nxt
  rw [if_pos q, wth_mem, h.mem n h0 h1]; simp⟩
theorem rjoin {len k : Nat} {L : List RS} {B : AB} {l : List Int} {d : Int} {σ : Int → Bool} (h : RR len L B) (hk : k < len) (hl : len ≤ 2048) (ht : SL l σ) (hd : 0 ≤ d ∧ d ≤ k) (hll : l.length ≤ k) :
  ∃ s, ix L (k : Int) = some s ∧ ∃ s' b, Jbf s d l = some (s', b) ∧ match joinA (B k) d σ with
   | none => b = false
   | some a => b = true ∧ RR len (L.set k s') (updA B k a) := by
 have hk' : k < L.length := by rw [h.len]; omega
 obtain ⟨s, hs⟩ : ∃ s, L[k]? = some s := ⟨L[k], List.getElem?_eq_getElem _⟩
 obtain ⟨h1, h2⟩ := h.bits k s hs
 have up : ∀ (a : AS) (s' : RS), (s'.reached = a.isSome ∧ ∀ d σ, a = some (d, σ) → s'.depth = d ∧ 0 ≤ d ∧ d ≤ k ∧ s'.stored.length ≤ k ∧ SL s'.stored σ) → RR len (L.set k s') (updA B k a) := fun a s' ha =>
  ⟨by unfold updA; rw [if_neg (by omega)]; exact h.last, by rw [List.length_set]; exact h.len, fun i z hz => by
   unfold updA
   by_cases q : i = k
   ·subst q
    rw [List.getElem?_set_self hk'] at hz
    cases hz
    simp only [if_true]
    exact ha
   ·rw [List.getElem?_set_ne (fun e => q e.symm)] at hz
    simp only [if_neg q]
    exact h.bits i z hz⟩
 refine ⟨s, by unfold ix; rw [if_pos (by omega), Int.toNat_natCast]; exact hs, ?_⟩
 unfold Jbf
 cases hB : B k with
 | none =>
  rw [hB] at h1
  have h1 : s.reached = false := h1
  rw [if_pos (by simp [h1])]
  exact ⟨_, _, rfl, rfl, up (some (d, σ)) _ ⟨rfl, fun d' σ' e => by cases e; exact ⟨rfl, hd.1, hd.2, hll, ht⟩⟩⟩
 | some p =>
  obtain ⟨d0, σ0⟩ := p
  rw [hB] at h1
  have h1 : s.reached = true := h1
  obtain ⟨g1, g2, g3, g4, g5⟩ := h2 d0 σ0 hB
  rw [if_neg (by simp [h1]), both_eq ht.asc (by omega) (by omega), Option.bind_some]
  refine ⟨_, _, rfl, ?_⟩
  simp only [joinA]
  by_cases q : d0 = d
  ·rw [if_pos q]
   simp only
   refine ⟨by simp [g1, q], up _ _ ⟨rfl, fun d' σ' e => ?_⟩⟩
   cases e
   refine ⟨q.symm, g2, g3, ?_, g5.both ht⟩
   have := List.length_filter_le (fun n => decide (n ∈ l)) s.stored
   simp only
   omega
  ·rw [if_neg q]
   simp [g1, q]
theorem bsr {α : Type} {o : Option α} : o.bind (fun x => some x) = o := by cases o <;> rfl
theorem far_near {len i : Nat} {x : I} {B : AB} {d : Int} {σ : Int → Bool} : (far len i x B d σ).bind (fun B1 => near i x B1 d σ) = (near i x B d σ).bind (fun B1 => far len i x B1 d σ) := by
 unfold far near
 cases q : isJ x with
 | false =>
  simp only [Bool.false_eq_true, if_false, Option.bind_some]
  exact bsr.symm
 | true =>
  simp only [if_true]
  by_cases q9 : x.Op = 9
  ·simp only [if_pos q9, Option.bind_some]
   exact bsr
  ·simp only [if_neg q9]
   by_cases q2 : x.N ≤ i ∨ x.N ≥ len
   ·simp only [if_pos q2, Option.bind_none]
    cases joinA (B (i + 1)) d σ <;> rfl
   ·simp only [if_neg q2]
    by_cases e : x.N.toNat = i + 1
    ·rw [e]
    ·have e1 : ∀ a, updA B x.N.toNat a (i + 1) = B (i + 1) := fun a => by unfold updA; rw [if_neg (fun h => e h.symm)]
     have e2 : ∀ a, updA B (i + 1) a x.N.toNat = B x.N.toNat := fun a => by unfold updA; rw [if_neg e]
     cases q3 : joinA (B x.N.toNat) d σ with
     | none =>
      cases q4 : joinA (B (i + 1)) d σ with
      | none => rfl
      | some b =>
       simp only [Option.map_some, Option.map_none, Option.bind_some, Option.bind_none]
       rw [e2, q3]; rfl
     | some a =>
      cases q4 : joinA (B (i + 1)) d σ with
      | none =>
       simp only [Option.map_some, Option.map_none, Option.bind_some, Option.bind_none]
       rw [e1, q4]; rfl
      | some b =>
       simp only [Option.map_some, Option.bind_some]
       rw [e1, e2, q3, q4]
       simp only [Option.map_some]
       congr 1
       funext j
       unfold updA
       by_cases w1 : j = i + 1
       ·have : ¬ j = x.N.toNat := fun h => e (by omega)
        simp [w1, show ¬ i + 1 = x.N.toNat from fun h => e h.symm]
       ·simp [w1]
theorem rway {c : List I} {i k : Nat} {x : I} {s0 : RS} {w : Int × Int × Bool} {l ws : List Int} {j : Nat} {L : List RS} {B : AB} {d : Int} {σ : Int → Bool} (h : RR c.length L B) (hc : c.length ≤ 2048) (hi : i < k) (hk : k < c.length) (ht : SL l σ) (hd : (s0.depth - w.1) + w.2.1 = d) (hd0 : 0 ≤ d ∧ d ≤ k) (hll : l.length ≤ k) :
  match joinA (B k) d σ with
   | none => Jw i (c.map cv) (cv x) s0 w l ((k : Int) :: ws) j L = some (Fl.ret (0, false))
   | some a => ∃ L', Jw i (c.map cv) (cv x) s0 w l ((k : Int) :: ws) j L = Jw i (c.map cv) (cv x) s0 w l ws (j + 1) L' ∧ RR c.length L' (updA B k a) := by
 obtain ⟨s, e1, s', b, e2, e3⟩ := rjoin h hk hc ht hd0 hll
 have e : Jw i (c.map cv) (cv x) s0 w l ((k : Int) :: ws) j L = if (!b) = true then some (Fl.ret (0, false)) else Jw i (c.map cv) (cv x) s0 w l ws (j + 1) (L.set k s') := by
  rw [Jw, if_neg (by simp; omega), if_neg (by simp; omega), e1, Option.bind_some, hd, e2, Option.bind_some, Option.bind_some, Int.toNat_natCast]
 cases q : joinA (B k) d σ with
 | none =>
  rw [q] at e3
  have e3 : b = false := e3
  simp only
  rw [e, e3]; rfl
 | some a =>
  rw [q] at e3
  obtain ⟨e3, e4⟩ := e3
  simp only
  refine ⟨_, ?_, e4⟩
  rw [e, e3]; rfl
theorem rbad {c : List I} {i : Nat} {x : I} {s0 : RS} {w : Int × Int × Bool} {l ws : List Int} {j : Nat} {L : List RS} {n : Int} (h : n ≤ i ∨ n ≥ c.length) (hx : x.Op ≠ 12) : Jw i (c.map cv) (cv x) s0 w l (n :: ws) j L = some (Fl.ret (0, false)) := by
 rw [Jw]
 by_cases q : n ≤ i
 ·rw [if_pos (by simpa using q)]
 ·rw [if_neg (by simpa using q), if_pos]
  have : n ≥ c.length := by omega
  simp [cv, hx, this]
end Rt.Rc
set_option linter.unusedVariables false
set_option linter.unusedSimpArgs false
open Go Go.SL Go.Proofs Pl
namespace Rt.Rc
def RG (c : List I) (i : Nat) (g : Int) (L : List RS) (B : AB) : Prop :=
 ∃ r, JaA (c.map cv) ((c.drop i).map cv) i g L = some r ∧ match wk c.length i (c.drop i) B g with
  | some G => ∃ L', r = Fl.go (G, L')
  | none => r = Fl.ret (0, false)
set_option maxRecDepth 100000 in
theorem rstep {c : List I} (hc : c.length ≤ 2048) (hS : ∀ x ∈ c, x.S.length ≤ 100000) {i : Nat} {g : Int} {L : List RS} {B : AB} (hlt : i < c.length) (hR : RR c.length L B) (ih : ∀ g L B, (i + 1 < c.length → RR c.length L B) → RG c (i + 1) g L B) : RG c i g L B := by
 unfold RG at ih ⊢
 obtain ⟨s, hs⟩ : ∃ s, L[i]? = some s := ⟨L[i]'(by rw [hR.len]; omega), List.getElem?_eq_getElem _⟩
 have hsx : ix L (i : Int) = some s := by unfold ix; rw [if_pos (by omega), Int.toNat_natCast]; exact hs
 obtain ⟨r1, r2⟩ := hR.bits i s hs
 rw [List.drop_eq_getElem_cons hlt, List.map_cons]
 have hxS := hS c[i] (List.getElem_mem hlt)
 obtain ⟨t, l, e1, e2⟩ := effect_pure (x := c[i]) hxS
 generalize hx : c[i] = x at *
 rw [JaA, e1, Option.bind_some, hsx, Option.bind_some, wk_cons]
 have hlast : decide ((i : Int) = (((c.map cv).length : Int) - 1)) = decide (i + 1 = c.length) := by rw [decide_eq_decide, List.length_map]; omega
 rw [hlast, chk_bind (by rw [List.length_map]; constructor <;> omega)]
 have fail : ∀ {o : Option Int}, o = none → ∃ r, some (Fl.ret (0, false)) = (some r : Option (Fl (Int × Bool) (Int × List RS))) ∧ match o with
  | some G => ∃ L', r = Fl.go (G, L')
  | none => r = Fl.ret (0, false) := fun h => ⟨_, rfl, by rw [h]⟩
 cases he : eff x with
 | none =>
  rw [if_pos (by simp), Option.bind_some, if_pos rfl]
  exact fail (by simp [stA, he])
 | some tl =>
 obtain ⟨t', l'⟩ := tl
 obtain ⟨rfl, rfl⟩ := e2 t' l' he
 obtain ⟨b1, b2, b3, b4, b5, b6⟩ := eff_bd he
 cases hB : B i with
 | none =>
  rw [hB] at r1
  have r1 : s.reached = false := r1
  rw [if_pos (by simp [r1]), Option.bind_some, if_pos rfl]
  exact fail (by simp [stA, he, hB])
 | some p =>
 obtain ⟨d, σ⟩ := p
 rw [hB] at r1
 have r1 : s.reached = true := r1
 obtain ⟨h1, h2, h3, h4, h5⟩ := r2 d σ hB
 by_cases q1 : d < t
 ·rw [if_pos (by simp [h1, q1]), Option.bind_some, if_pos rfl]
  exact fail (by simp [stA, he, hB, q1])
 rw [if_neg (by simp [r1, h1, q1]), Option.bind_some]
 have hcv : (cv x).Op = x.Op := rfl
 have hcn : (cv x).N = x.N := rfl
 rw [hcv, hcn]
 by_cases q2 : (x.Op = 12) ↔ (i + 1 = c.length)
 ·have e : (decide (x.Op = 12) == decide (i + 1 = c.length)) = true := by
   by_cases w2 : i + 1 = c.length
   ·simp [q2.2 w2, w2]
   ·have w1 : ¬ x.Op = 12 := fun w => w2 (q2.1 w)
    simp [w1, w2]
  rw [e, if_neg (by simp)]
  by_cases q0 : x.Op = 12 ∧ d > 0
  ·rw [if_pos (by simp [q0.1, h1, q0.2])]
   have hn3 : ¬ x.Op = 3 := by omega
   refine fail ?_
   have : ¬ d = 0 := by omega
   simp [stA, he, hB, q1, q2, q0.1, this, hn3]
  rw [if_neg (by simp [h1]; intro w; omega)]
  have hload : (if decide (x.Op = 3) = true then (Jbp s.stored [x.N]).bind fun x93 => (JbG x93 [x.N]).bind fun x97 => some (!x97) else some false) = some (decide (x.Op = 3 ∧ σ x.N = false)) := by
   by_cases w : x.Op = 3
   ·have := b6 (.inl w)
    rw [if_pos (by simpa using w), both_eq (by simp [Asc]) (by omega) (by simp), Option.bind_some, ints1 h5.asc, Option.bind_some]
    have hm := h5.mem x.N this.1 this.2
    by_cases w2 : x.N ∈ s.stored
    ·simp [w, w2, hm.1 w2]
    ·have : σ x.N = false := by
      cases q : σ x.N with
      | false => rfl
      | true => exact absurd (hm.2 q) w2
     simp [w, w2, this]
   ·rw [if_neg (by simpa using w)]; simp [w]
  rw [hload, Option.bind_some]
  by_cases q3 : x.Op = 3 ∧ σ x.N = false
  ·rw [if_pos (by simpa using q3)]
   exact fail (by simp [stA, he, hB, q3])
  rw [if_neg (by simpa using q3), chk_bind (by simp only; constructor <;> omega), chk_bind (by simp only; constructor <;> omega)]
  have hst : stA c.length i x B g = if x.Op = 12 then (if d = 0 then some (B, max (max g d) (d + (l - t))) else none) else (far c.length i x B (d + (l - t)) (nxt x σ)).bind fun B1 => (near i x B1 (d + (l - t)) (nxt x σ)).map fun B2 => (B2, max (max g d) (d + (l - t))) := by
   unfold stA
   rw [he, hB]
   simp only
   rw [if_neg]
   rintro (w | w | w)
   ·exact q1 w
   ·exact w q2
   ·exact q3 w
  rw [hst]
  obtain ⟨sl, hsl, hSL, hsll⟩ : ∃ sl, (if decide (x.Op = 4) = true then (Jbz s.stored x.N).bind fun x114 => some x114 else some s.stored : Option (List Int)) = some sl ∧ SL sl (nxt x σ) ∧ sl.length ≤ i + 1 := by
   by_cases w : x.Op = 4
   ·have := b6 (.inr w)
    rw [if_pos (by simpa using w), with_eq h5.asc (by omega), Option.bind_some]
    have hw := wth_len (n := x.N) (l := s.stored)
    exact ⟨_, rfl, h5.with w this, by omega⟩
   ·rw [if_neg (by simpa using w)]
    refine ⟨_, rfl, ?_, by omega⟩
    have : nxt x σ = σ := by unfold nxt; rw [if_neg w]
    rw [this]; exact h5
  rw [hsl, Option.bind_some]
  have hmx : ∀ a b : Int, max (max g s.depth) ((s.depth - t) + l) = max (max g d) (d + (l - t)) := fun _ _ => by rw [h1]; congr 1; omega
  have hdd : (s.depth - t) + l = d + (l - t) := by rw [h1]; omega
  by_cases q12 : x.Op = 12
  ·-- the end
   have q4 := q2.1 q12
   obtain ⟨rfl, rfl⟩ := b5 q12
   have d0 : d = 0 := by omega
   rw [if_pos q12, if_pos d0, if_neg (by simp [q12]), Option.bind_some, if_neg (by simp [q12]), Option.bind_some, chk_bind (by simp [szMax])]
   have hkL : c.length < L.length := by rw [hR.len]; omega
   have hlx : ix L ((i : Int) + 1) = some L[c.length] := by
    have := ixn (s := L) hkL
    rw [← this]; congr 1; omega
   have hz : (L[c.length]).reached = false := by
    have := (hR.bits c.length _ (List.getElem?_eq_getElem hkL)).1
    rw [hR.last] at this; exact this
   rw [Jw, if_neg (by simp only [decide_eq_true_eq]; omega), if_neg (by simp [cv, q12]), hlx, Option.bind_some, Jbf, if_pos (by simp [hz]), Option.bind_some, Option.bind_some, if_neg (by simp), Jw, Option.bind_some, el_go, Option.bind_some]
   simp only
   rw [hmx 0 0]
   exact ih _ _ B fun h => by omega
  ·have q4 : ¬ i + 1 = c.length := fun w => q12 (q2.2 w)
   rw [if_neg q12, show (far c.length i x B (d + (l - t)) (nxt x σ)).bind (fun B1 => (near i x B1 (d + (l - t)) (nxt x σ)).map fun B2 => (B2, max (max g d) (d + (l - t)))) = ((far c.length i x B (d + (l - t)) (nxt x σ)).bind (fun B1 => near i x B1 (d + (l - t)) (nxt x σ))).map fun B2 => (B2, max (max g d) (d + (l - t))) by
    cases far c.length i x B (d + (l - t)) (nxt x σ) <;> rfl, far_near]
   have fin : ∀ (o : Option (List RS)) (a : Option AB), (match a with | none => o = none | some B' => ∃ L', o = some L' ∧ RR c.length L' B') → ∃ r, ((match o with | none => some (Fl.ret (0, false)) | some L' => some (Fl.go L') : Option (Fl (Int × Bool) (List RS))).bind fun s2 => s2.el (fun r => some (Fl.ret r)) fun t2 => JaA (c.map cv) ((c.drop (i + 1)).map cv) (i + 1) (max (max g s.depth) ((s.depth - t) + l)) t2) = some r ∧ match (a.map fun B2 => (B2, max (max g d) (d + (l - t)))).bind fun r => wk c.length (i + 1) (c.drop (i + 1)) r.1 r.2 with
     | some G => ∃ L', r = Fl.go (G, L')
     | none => r = Fl.ret (0, false) := fun o a h => by
    cases a with
    | none =>
     have h : o = none := h
     subst h
     exact ⟨_, rfl, rfl⟩
    | some B' =>
     obtain ⟨L', rfl, hR'⟩ := h
     simp only [Option.bind_some, el_go, Option.map_some]
     rw [hmx 0 0]
     exact ih _ L' B' fun _ => hR'
   by_cases q9 : x.Op = 9
   ·-- a jump
    have hj : isJ x = true := by simp [isJ, q9]
    rw [if_pos (by simpa using q9), Option.bind_some, if_neg (by simp [q9]), Option.bind_some, chk_bind (by simp [szMax])]
    have hnear : near i x B (d + (l - t)) (nxt x σ) = some B := by unfold near; rw [if_pos q9]
    rw [hnear, Option.bind_some]
    unfold far
    rw [if_pos hj]
    by_cases q5 : x.N ≤ i ∨ x.N ≥ c.length
    ·rw [if_pos q5, rbad q5 q12]
     exact fin none none rfl
    ·rw [if_neg q5]
     obtain ⟨k, hk⟩ : ∃ k : Nat, x.N = (k : Int) := ⟨x.N.toNat, by omega⟩
     have hw := rway (x := x) (s0 := s) (w := (t, l, (some (t, l)).isSome)) (ws := []) (j := 0) hR hc (show i < k by omega) (show k < c.length by omega) hSL hdd ⟨by omega, by omega⟩ (by omega)
     rw [hk, Int.toNat_natCast]
     cases q6 : joinA (B k) (d + (l - t)) (nxt x σ) with
     | none =>
      rw [q6] at hw
      simp only at hw
      rw [hw]
      exact fin none none rfl
     | some a =>
      rw [q6] at hw
      obtain ⟨L', w1, w2⟩ := hw
      rw [w1, Jw]
      exact fin (some L') (some (updA B k a)) ⟨L', rfl, w2⟩
   ·rw [if_neg (by simpa using q9), Option.bind_some]
    have hw := rway (x := x) (s0 := s) (w := (t, l, (some (t, l)).isSome)) (ws := if x.Op = 10 then [x.N] else []) (j := 0) hR hc (show i < i + 1 by omega) (show i + 1 < c.length by omega) hSL hdd ⟨by omega, by omega⟩ hsll
    have hws : (if decide (x.Op = 10) = true then (chk (([((i : Int) + 1)] : List Int).length + [x.N].length ≤ lim)).bind fun _ => some ([((i : Int) + 1)] ++ [x.N]) else some [((i : Int) + 1)] : Option (List Int)) = some (((i + 1 : Nat) : Int) :: if x.Op = 10 then [x.N] else []) := by
     by_cases w : x.Op = 10
     ·rw [if_pos (by simpa using w), chk_bind (by simp [lim]), if_pos w]; rfl
     ·rw [if_neg (by simpa using w), if_neg w]; rfl
    rw [hws, Option.bind_some, chk_bind (by split <;> simp [szMax])]
    unfold near
    rw [if_neg q9]
    cases q6 : joinA (B (i + 1)) (d + (l - t)) (nxt x σ) with
    | none =>
     rw [q6] at hw
     simp only at hw
     rw [hw]
     exact fin none none rfl
    | some a =>
     rw [q6] at hw
     obtain ⟨L', w1, w2⟩ := hw
     rw [w1]
     simp only [Option.map_some, Option.bind_some]
     unfold far
     by_cases q10 : x.Op = 10
     ·have hj : isJ x = true := by simp [isJ, q10]
      rw [if_pos q10, if_pos hj]
      by_cases q5 : x.N ≤ i ∨ x.N ≥ c.length
      ·rw [if_pos q5, rbad q5 q12]
       exact fin none none rfl
      ·rw [if_neg q5]
       obtain ⟨k, hk⟩ : ∃ k : Nat, x.N = (k : Int) := ⟨x.N.toNat, by omega⟩
       have hw2 := rway (x := x) (s0 := s) (w := (t, l, (some (t, l)).isSome)) (ws := []) (j := 1) w2 hc (show i < k by omega) (show k < c.length by omega) hSL hdd ⟨by omega, by omega⟩ (by omega)
       rw [hk, Int.toNat_natCast]
       cases q7 : joinA (updA B (i + 1) a k) (d + (l - t)) (nxt x σ) with
       | none =>
        rw [q7] at hw2
        simp only at hw2
        rw [hw2]
        exact fin none none rfl
       | some a2 =>
        rw [q7] at hw2
        obtain ⟨L2, v1, v2⟩ := hw2
        rw [v1, Jw]
        exact fin (some L2) (some (updA (updA B (i + 1) a) k a2)) ⟨L2, rfl, v2⟩
     ·have hj : isJ x = false := by simp [isJ, q9, q10]
      rw [if_neg q10, if_neg (by simp [hj]), Jw]
      exact fin (some L') (some (updA B (i + 1) a)) ⟨L', rfl, w2⟩
 ·have e : (decide (x.Op = 12) == decide (i + 1 = c.length)) = false := by
   by_cases w1 : x.Op = 12
   ·by_cases w2 : i + 1 = c.length
    ·exact absurd (by simp [w1, w2]) q2
    ·simp [w1, w2]
   ·by_cases w2 : i + 1 = c.length
    ·simp [w1, w2]
    ·exact absurd (by simp [w1, w2]) q2
  rw [e, if_pos (by simp)]
  exact fail (by simp [stA, he, hB, q2])
theorem rwalk {c : List I} (hc : c.length ≤ 2048) (hS : ∀ x ∈ c, x.S.length ≤ 100000) : ∀ (m i : Nat) (g : Int) (L : List RS) (B : AB), i + m = c.length → (i < c.length → RR c.length L B) → RG c i g L B
 | 0, i, g, L, B, hi, _ => by
  unfold RG
  rw [List.drop_eq_nil_of_le (by omega)]
  exact ⟨_, rfl, L, rfl⟩
 | m + 1, i, g, L, B, hi, hR => rstep hc hS (by omega) (hR (by omega)) fun g L B hR => rwalk hc hS m (i + 1) g L B (by omega) hR
theorem Depth_pure {c : List I} (hS : ∀ x ∈ c, x.S.length ≤ 100000) : JbH (c.map cv) = some (match depthOf c with
  | some G => (G, true)
  | none => (0, false)) := by
 unfold JbH depthOf
 rw [List.length_map]
 by_cases q : c.length < 1 ∨ c.length > 2048
 ·have e : (decide ((c.length : Int) < 1) || decide ((c.length : Int) > 2048)) = true := by
   simp only [Bool.or_eq_true, decide_eq_true_eq]; omega
  rw [if_pos e, if_pos q]
 ·have e : (decide ((c.length : Int) < 1) || decide ((c.length : Int) > 2048)) = false := by
   simp only [Bool.or_eq_false_iff, decide_eq_false_iff_not]; omega
  rw [if_neg (by rw [e]; simp), if_neg q]
  have hn : Int.toNat ((c.length : Int) + 1) = c.length + 1 := by omega
  have hz : ix (List.replicate (Int.toNat ((c.length : Int) + 1)) ((⟨false, 0, []⟩ : Jl) : Jl)) 0 = some ⟨false, 0, []⟩ := by
   rw [hn]; rfl
  rw [chk_bind (by constructor <;> omega), chk_bind (by simp only [lim]; omega), hz, Option.bind_some, chk_bind (by simp only [szMax]; omega)]
  have hR : RR c.length ((List.replicate (Int.toNat ((c.length : Int) + 1)) ((⟨false, 0, []⟩ : Jl) : Jl)).set ((0 : Int).toNat) ⟨true, 0, []⟩) B0 := by
   rw [hn]
   refine ⟨by unfold B0; rw [if_neg (by omega)], by simp, fun i s hs => ?_⟩
   rw [show ((0 : Int)).toNat = 0 from rfl] at hs
   unfold B0
   by_cases q0 : i = 0
   ·subst q0
    rw [List.getElem?_set_self (by simp)] at hs
    cases hs
    refine ⟨rfl, fun d σ h => ?_⟩
    simp only [if_true] at h
    cases h
    exact ⟨rfl, by omega, by omega, by simp, by simp [Asc], fun n hn => (by cases hn), fun n _ _ => by simp⟩
   ·rw [List.getElem?_set_ne (fun e => q0 e.symm)] at hs
    have := List.mem_of_getElem? hs
    rw [List.mem_replicate] at this
    rw [this.2, if_neg q0]
    exact ⟨rfl, fun d σ h => by cases h⟩
  obtain ⟨r, h1, h2⟩ := rwalk (by omega) hS c.length 0 0 _ B0 (by omega) fun _ => hR
  rw [List.drop_zero] at h1 h2
  simp only
  rw [h1, Option.bind_some]
  cases q3 : wk c.length 0 c B0 0 with
  | none => rw [q3] at h2; have h2 : r = Fl.ret (0, false) := h2; rw [h2, el_ret]
  | some G => rw [q3] at h2; obtain ⟨L', rfl⟩ := h2; rw [el_go]
end Rt.Rc
set_option linter.unusedVariables false
set_option linter.unusedSimpArgs false
open Go Go.SL Go.Proofs Pl
namespace Rt.Rc
end Rt.Rc
set_option linter.unusedVariables false
set_option linter.unusedSimpArgs false
open Go Go.SL Go.Proofs Pl
namespace Rt.Rc
abbrev St := Int → Bool
def cap (a b : St) : St := fun n => a n && b n
theorem cap_self (a : St) : cap a a = a := by funext n; simp [cap]
theorem cap_comm (a b : St) : cap a b = cap b a := by funext n; simp [cap, Bool.and_comm]
theorem cap_assoc (a b c : St) : cap (cap a b) c = cap a (cap b c) := by funext n; simp [cap, Bool.and_assoc]
theorem joinA_join {b a : AS} {d : Int} {σ τ : St} (h : joinA b d σ = some a) : joinA a d τ = joinA b d (cap σ τ) := by
 cases b with
 | none => cases h; simp only [joinA, if_true]; rfl
 | some p =>
  obtain ⟨d0, σ0⟩ := p
  unfold joinA at h
  simp only at h
  split at h
  ·rename_i q
   subst q
   cases h
   simp only [joinA, if_true]
   exact congrArg some (congrArg some (Prod.ext rfl (cap_assoc σ0 σ τ)))
  ·cases h
theorem joinA_ok {b : AS} {d : Int} (h : ∀ e, b = some e → e.1 = d) (σ : St) : ∃ τ, joinA b d σ = some (some (d, τ)) ∧ (b = none → τ = σ) := by
 cases b with
 | none => exact ⟨σ, rfl, fun _ => rfl⟩
 | some p =>
  obtain ⟨d0, σ0⟩ := p
  have := h _ rfl
  simp only at this
  subst this
  exact ⟨cap σ0 σ, by simp only [joinA, if_true]; rfl, fun e => by cases e⟩
def Sg1 (len b : Nat) (L : List I) (d δ : Int) (σ : St) (Q : St → Prop) : Prop :=
 ∀ (B : AB) (g : Int), B b = some (d, σ) → (∀ j, b < j → j < b + L.length → B j = none) → (∀ e, B (b + L.length) = some e → e.1 = d + δ) →
  ∃ σ' B' g', Q σ' ∧ (∀ R, wk len b (L ++ R) B g = wk len (b + L.length) R B' g') ∧ joinA (B (b + L.length)) (d + δ) σ' = some (B' (b + L.length)) ∧ ∀ j, b + L.length < j → B' j = B j
def Seg (len b : Nat) (L : List I) (d δ : Int) (σ : St) (Q : St → Prop) : Prop := (L = [] ∧ δ = 0 ∧ Q σ) ∨ (L ≠ [] ∧ Sg1 len b L d δ σ Q)
theorem Seg.mono {len b : Nat} {L : List I} {d δ : Int} {σ : St} {Q R : St → Prop} (h : Seg len b L d δ σ Q) (hq : ∀ τ, Q τ → R τ) : Seg len b L d δ σ R := by
 rcases h with ⟨h1, h2, h3⟩ | ⟨h1, h2⟩
 ·exact .inl ⟨h1, h2, hq _ h3⟩
 ·exact .inr ⟨h1, fun B g a b c => by obtain ⟨σ', B', g', k, r⟩ := h2 B g a b c; exact ⟨σ', B', g', hq _ k, r⟩⟩
theorem Seg.run {len b : Nat} {L : List I} {d δ : Int} {σ : St} {Q : St → Prop} (h : Seg len b L d δ σ Q) {B : AB} {g : Int} (hB : B b = some (d, σ)) (hn : ∀ j, b < j → j ≤ b + L.length → B j = none) :
  ∃ σ' B' g', Q σ' ∧ (∀ R, wk len b (L ++ R) B g = wk len (b + L.length) R B' g') ∧ B' (b + L.length) = some (d + δ, σ') ∧ ∀ j, b + L.length < j → B' j = B j := by
 rcases h with ⟨rfl, rfl, h3⟩ | ⟨h1, h2⟩
 ·exact ⟨σ, B, g, h3, fun R => rfl, by simpa using hB, fun j _ => rfl⟩
 ·have hl : 0 < L.length := List.length_pos_iff.2 h1
  have he : B (b + L.length) = none := hn _ (by omega) (Nat.le_refl _)
  obtain ⟨σ', B', g', k1, k2, k3, k4⟩ := h2 B g hB (fun j a b => hn j a (by omega)) fun e h => by rw [he] at h; cases h
  rw [he] at k3
  exact ⟨σ', B', g', k1, k2, (Option.some.inj k3).symm, k4⟩
theorem Seg.append {len b : Nat} {L M : List I} {d δ ε : Int} {σ : St} {Q R : St → Prop} (h : Seg len b L d δ σ Q) (h2 : ∀ τ, Q τ → Seg len (b + L.length) M (d + δ) ε τ R) (hM : M ≠ []) : Seg len b (L ++ M) d (δ + ε) σ R := by
 have hm : 0 < M.length := List.length_pos_iff.2 hM
 refine .inr ⟨by simp [hM], fun B g a1 a2 a3 => ?_⟩
 simp only [List.length_append] at a2 a3 ⊢
 obtain ⟨τ, B1, g1, q1, q2, q3, q4⟩ := h.run a1 fun j x y => a2 j x (by omega)
 rcases h2 τ q1 with ⟨e, _⟩ | ⟨_, k⟩
 ·exact absurd e hM
 ·rw [show b + (L.length + M.length) = b + L.length + M.length by omega] at a3 ⊢
  have e1 : B1 (b + L.length + M.length) = B (b + L.length + M.length) := q4 _ (by omega)
  obtain ⟨τ', B2, g2, p1, p2, p3, p4⟩ := k B1 g1 q3 (fun j x y => by rw [q4 j (by omega)]; exact a2 j (by omega) (by omega)) fun e h => by rw [e1] at h; rw [a3 e h]; omega
  refine ⟨τ', B2, g2, p1, fun R => by rw [List.append_assoc, q2, p2], ?_, fun j hj => by rw [p4 j hj, q4 j (by omega)]⟩
  rw [← p3, e1, show d + (δ + ε) = d + δ + ε by omega]
theorem Seg.one {len b : Nat} {x : I} {d t l : Int} {σ : St} (he : eff x = some (t, l)) (ht : t ≤ d) (hj : isJ x = false) (h12 : x.Op ≠ 12) (h3 : x.Op = 3 → σ x.N = true) (hb : b + 1 < len) : Seg len b [x] d (l - t) σ (fun τ => τ = nxt x σ) := by
 refine .inr ⟨by simp, fun B g a1 a2 a3 => ?_⟩
 simp only [List.length_cons, List.length_nil, Nat.zero_add] at a2 a3 ⊢
 obtain ⟨τ, ha, _⟩ := joinA_ok a3 (nxt x σ)
 refine ⟨nxt x σ, updA B (b + 1) (some (d + (l - t), τ)), max (max g d) (d + (l - t)), rfl, fun R => ?_, ?_, fun j hj => ?_⟩
 ·have h9 : x.Op ≠ 9 := by unfold isJ at hj; simp at hj; exact hj.1
  rw [List.cons_append, List.nil_append, wk_cons]
  unfold stA
  rw [he, a1]
  simp only
  have hno : ¬ (d < t ∨ ¬ ((x.Op = 12) ↔ (b + 1 = len)) ∨ (x.Op = 3 ∧ σ x.N = false)) := by
   intro h
   rcases h with h | h | h
   ·omega
   ·exact h ⟨fun q => absurd q h12, fun q => by omega⟩
   ·have := h3 h.1
    rw [h.2] at this
    cases this
  rw [if_neg hno, if_neg h12]
  unfold far near
  rw [if_neg (by simp [hj]), Option.bind_some, if_neg h9, ha]
  rfl
 ·rw [ha]; unfold updA; rw [if_pos rfl]
 ·unfold updA; rw [if_neg (by omega)]
theorem eff_10 {n : Int} : eff ⟨10, n, []⟩ = some (1, 0) := by simp [eff]
theorem eff_9 {n : Int} : eff ⟨9, n, []⟩ = some (0, 0) := by simp [eff]
theorem Seg.if2 {len b : Nat} {T : List I} {d : Int} {σ : St} {Q R : St → Prop} (hd : 1 ≤ d) (hT : Seg len (b + 1) T (d - 1) 0 σ Q) (hb : b + 1 + T.length < len) (hR : ∀ τ, Q τ → R (cap σ τ)) : Seg len b (⟨10, (b + 1 + T.length : Nat), []⟩ :: T) d (-1) σ R := by
 refine .inr ⟨by simp, fun B g a1 a2 a3 => ?_⟩
 simp only [List.length_cons] at a2 a3 ⊢
 rw [show b + (T.length + 1) = b + 1 + T.length by omega] at a2 a3 ⊢
 have a3' : ∀ e, B (b + 1 + T.length) = some e → e.1 = d - 1 := fun e h => by rw [a3 e h]; omega
 obtain ⟨τ, ha, _⟩ := joinA_ok a3' σ
 have st : ∀ B2, near b ⟨10, (b + 1 + T.length : Nat), []⟩ (updA B (b + 1 + T.length) (some (d - 1, τ))) (d - 1) σ = some B2 → ∀ R', wk len b ((⟨10, (b + 1 + T.length : Nat), []⟩ : I) :: R') B g = wk len (b + 1) R' B2 (max (max g d) (d - 1)) := fun B2 h R' => by
  rw [wk_cons]
  unfold stA
  rw [eff_10, a1]
  simp only
  rw [if_neg (by simp; omega), if_neg (by simp)]
  unfold far
  rw [show isJ (⟨10, ((b + 1 + T.length : Nat) : Int), []⟩ : I) = true from rfl, if_pos rfl, if_neg (by simp only; omega)]
  simp only [Int.toNat_natCast]
  rw [show d + (0 - 1) = d - 1 by omega, show nxt (⟨10, ((b + 1 + T.length : Nat) : Int), []⟩ : I) σ = σ from by unfold nxt; simp, ha]
  simp only [Option.map_some, Option.bind_some]
  rw [h]
  simp
 rcases hT with ⟨rfl, _, hq⟩ | ⟨hT, hk⟩
 ·simp only [List.length_nil, Nat.add_zero] at a3 a3' ha st ⊢
  have ha2 : joinA (some (d - 1, τ)) (d - 1) σ = some (some (d - 1, cap τ σ)) := by simp only [joinA, if_true]; rfl
  refine ⟨σ, _, _, by have := hR _ hq; rwa [cap_self] at this, fun R' => st (updA (updA B (b + 1) (some (d - 1, τ))) (b + 1) (some (d - 1, cap τ σ))) ?_ R', ?_, fun j hj => ?_⟩
  ·unfold near
   rw [if_neg (by simp), show updA B (b + 1) (some (d - 1, τ)) (b + 1) = some (d - 1, τ) from if_pos rfl, ha2]; rfl
  ·rw [show d + -1 = d - 1 by omega, show updA (updA B (b + 1) (some (d - 1, τ))) (b + 1) (some (d - 1, cap τ σ)) (b + 1) = some (d - 1, cap τ σ) from if_pos rfl, ← ha2, joinA_join ha, cap_self]
  ·unfold updA; rw [if_neg (by omega), if_neg (by omega)]
 ·have hl : 0 < T.length := List.length_pos_iff.2 hT
  have hnear : near b ⟨10, (b + 1 + T.length : Nat), []⟩ (updA B (b + 1 + T.length) (some (d - 1, τ))) (d - 1) σ = some (updA (updA B (b + 1 + T.length) (some (d - 1, τ))) (b + 1) (some (d - 1, σ))) := by
   unfold near
   rw [if_neg (by simp), show updA B (b + 1 + T.length) (some (d - 1, τ)) (b + 1) = none from by unfold updA; rw [if_neg (by omega)]; exact a2 _ (by omega) (by omega)]
   rfl
  obtain ⟨σ', B', g', k1, k2, k3, k4⟩ := hk (updA (updA B (b + 1 + T.length) (some (d - 1, τ))) (b + 1) (some (d - 1, σ))) (max (max g d) (d - 1)) (if_pos rfl)
   (fun j x y => by unfold updA; rw [if_neg (by omega), if_neg (by omega)]; exact a2 j (by omega) (by omega))
   (fun e h => by unfold updA at h; rw [if_neg (by omega), if_pos rfl] at h; cases h; simp)
  refine ⟨cap σ σ', B', g', hR _ k1, fun R' => by rw [List.cons_append, st _ hnear, k2], ?_, fun j hj => ?_⟩
  ·rw [show updA (updA B (b + 1 + T.length) (some (d - 1, τ))) (b + 1) (some (d - 1, σ)) (b + 1 + T.length) = some (d - 1, τ) from by unfold updA; rw [if_neg (by omega), if_pos rfl], show d - 1 + 0 = d - 1 by omega] at k3
   rw [← k3, joinA_join ha, show d + -1 = d - 1 by omega]
  ·rw [k4 j hj]; unfold updA; rw [if_neg (by omega), if_neg (by omega)]
theorem Seg.if3 {len b : Nat} {T O : List I} {d δ : Int} {σ : St} {Q P R : St → Prop} (hd : 1 ≤ d) (hdB : 1 ≤ d + δ) (hT : Seg len (b + 1) T (d - 1) δ σ Q) (hO : Seg len (b + 1 + T.length + 1) O (d - 1) δ σ P) (hb : b + 1 + T.length + 1 + O.length < len) (hR : ∀ τ υ, Q τ → P υ → R (cap τ υ)) :
  Seg len b (⟨10, (b + 1 + T.length + 1 : Nat), []⟩ :: (T ++ ⟨9, (b + 1 + T.length + 1 + O.length : Nat), []⟩ :: O)) d (δ - 1) σ R := by
 refine .inr ⟨by simp, fun B g a1 a2 a3 => ?_⟩
 simp only [List.length_cons, List.length_append] at a2 a3 ⊢
 rw [show b + (T.length + (O.length + 1) + 1) = b + 1 + T.length + 1 + O.length by omega] at a2 a3 ⊢
 have a3' : ∀ e, B (b + 1 + T.length + 1 + O.length) = some e → e.1 = d - 1 + δ := fun e h => by rw [a3 e h]; omega
 have hq : ∀ e, B (b + 1 + T.length + 1) = some e → e.1 = d - 1 := fun e h => by
  rcases hO with ⟨rfl, e0, _⟩ | ⟨hO, _⟩
  ·rw [a3' e h]; omega
  ·have hl : 0 < O.length := List.length_pos_iff.2 hO
   rw [a2 _ (by omega) (by omega)] at h; cases h
 obtain ⟨τ, ha, hτ⟩ := joinA_ok hq σ
 have st : ∀ R', wk len b ((⟨10, (b + 1 + T.length + 1 : Nat), []⟩ : I) :: R') B g = wk len (b + 1) R' (updA (updA B (b + 1 + T.length + 1) (some (d - 1, τ))) (b + 1) (some (d - 1, σ))) (max (max g d) (d - 1)) := fun R' => by
  rw [wk_cons]
  unfold stA
  rw [eff_10, a1]
  simp only
  rw [if_neg (by simp; omega), if_neg (by simp)]
  unfold far
  rw [show isJ (⟨10, ((b + 1 + T.length + 1 : Nat) : Int), []⟩ : I) = true from rfl, if_pos rfl, if_neg (by simp only; omega)]
  simp only [Int.toNat_natCast]
  rw [show d + (0 - 1) = d - 1 by omega, show nxt (⟨10, ((b + 1 + T.length + 1 : Nat) : Int), []⟩ : I) σ = σ from by unfold nxt; simp, ha]
  simp only [Option.map_some, Option.bind_some]
  unfold near
  rw [if_neg (by simp), show updA B (b + 1 + T.length + 1) (some (d - 1, τ)) (b + 1) = none from by unfold updA; rw [if_neg (by omega)]; exact a2 _ (by omega) (by omega)]
  simp [joinA]
 generalize hB2 : updA (updA B (b + 1 + T.length + 1) (some (d - 1, τ))) (b + 1) (some (d - 1, σ)) = B2 at st
 generalize max (max g d) (d - 1) = g2 at st
 have b1 : B2 (b + 1) = some (d - 1, σ) := by rw [← hB2]; exact if_pos rfl
 have b2 : B2 (b + 1 + T.length + 1) = some (d - 1, τ) := by rw [← hB2]; unfold updA; rw [if_neg (by omega), if_pos rfl]
 have b3 : ∀ j, b + 1 < j → j ≠ b + 1 + T.length + 1 → B2 j = B j := fun j x y => by rw [← hB2]; unfold updA; rw [if_neg (by omega), if_neg y]
 obtain ⟨σT, B3, g3, q1, q2, q3, q4⟩ := hT.run (g := g2) b1 fun j x y => by rw [b3 j x (by omega)]; exact a2 j (by omega) (by omega)
 have a4 : ∀ e, B3 (b + 1 + T.length + 1 + O.length) = some e → e.1 = d - 1 + δ := fun e h => by
  rw [q4 _ (by omega)] at h
  rcases hO with ⟨rfl, e0, _⟩ | ⟨hO, _⟩
  ·simp only [List.length_nil, Nat.add_zero] at h
   rw [b2] at h
   cases h
   simp only
   omega
  ·have hl : 0 < O.length := List.length_pos_iff.2 hO
   rw [b3 _ (by omega) (by omega)] at h
   exact a3' e h
 obtain ⟨υ, hu, _⟩ := joinA_ok a4 σT
 have st2 : ∀ R', wk len (b + 1 + T.length) ((⟨9, (b + 1 + T.length + 1 + O.length : Nat), []⟩ : I) :: R') B3 g3 = wk len (b + 1 + T.length + 1) R' (updA B3 (b + 1 + T.length + 1 + O.length) (some (d - 1 + δ, υ))) (max (max g3 (d - 1 + δ)) (d - 1 + δ)) := fun R' => by
  rw [wk_cons]
  unfold stA
  rw [eff_9, q3]
  simp only
  rw [if_neg (by simp; omega), if_neg (by simp)]
  unfold far
  rw [show isJ (⟨9, ((b + 1 + T.length + 1 + O.length : Nat) : Int), []⟩ : I) = true from rfl, if_pos rfl, if_neg (by simp only; omega)]
  simp only [Int.toNat_natCast]
  rw [show d - 1 + δ + (0 - 0) = d - 1 + δ by omega, show nxt (⟨9, ((b + 1 + T.length + 1 + O.length : Nat) : Int), []⟩ : I) σT = σT from by unfold nxt; simp, hu]
  simp only [Option.map_some, Option.bind_some]
  unfold near
  rw [if_pos (by simp)]
  rfl
 generalize hB4 : updA B3 (b + 1 + T.length + 1 + O.length) (some (d - 1 + δ, υ)) = B4 at st2
 generalize max (max g3 (d - 1 + δ)) (d - 1 + δ) = g4 at st2
 have c1 : B4 (b + 1 + T.length + 1 + O.length) = some (d - 1 + δ, υ) := by rw [← hB4]; exact if_pos rfl
 have c2 : ∀ j, b + 1 + T.length < j → j ≠ b + 1 + T.length + 1 + O.length → B4 j = B2 j := fun j x y => by rw [← hB4]; unfold updA; rw [if_neg y, q4 j x]
 have run : ∀ R', wk len b ((⟨10, (b + 1 + T.length + 1 : Nat), []⟩ : I) :: (T ++ ⟨9, (b + 1 + T.length + 1 + O.length : Nat), []⟩ :: O) ++ R') B g = wk len (b + 1 + T.length + 1) (O ++ R') B4 g4 := fun R' => by
  rw [List.cons_append, st, List.append_assoc, q2, List.cons_append, st2]
 rcases hO with ⟨rfl, rfl, hp⟩ | ⟨hO, hk⟩
 ·simp only [List.length_nil, Nat.add_zero] at *
  rw [q4 _ (by omega), b2] at hu
  rw [show d - 1 + 0 = d - 1 by omega] at hu c1
  refine ⟨cap σT σ, B4, g4, hR _ _ q1 hp, fun R' => run R', ?_, fun j hj => by rw [c2 j (by omega) (by omega), b3 j (by omega) (by omega)]⟩
  rw [c1, cap_comm, show d + (0 - 1) = d - 1 by omega, ← joinA_join ha, hu]
 ·have hl : 0 < O.length := List.length_pos_iff.2 hO
  rw [q4 _ (by omega), b3 _ (by omega) (by omega)] at hu
  have hn : B (b + 1 + T.length + 1) = none := a2 _ (by omega) (by omega)
  have hτ := hτ hn
  subst hτ
  obtain ⟨σO, B5, g5, k1, k2, k3, k4⟩ := hk B4 g4 (by rw [c2 _ (by omega) (by omega)]; exact b2) (fun j x y => by rw [c2 j (by omega) (by omega), b3 j (by omega) (by omega)]; exact a2 j (by omega) (by omega)) fun e h => by rw [c1] at h; cases h; rfl
  refine ⟨cap σT σO, B5, g5, hR _ _ q1 k1, fun R' => by rw [run, k2], ?_, fun j hj => by rw [k4 j hj, c2 j (by omega) (by omega), b3 j (by omega) (by omega)]⟩
  rw [c1] at k3
  rw [← k3, show d + (δ - 1) = d - 1 + δ by omega, joinA_join hu]
end Rt.Rc
set_option linter.unusedVariables false
set_option linter.unusedSimpArgs false
open Go Go.SL Go.Proofs Pl
namespace Rt.Rc
def Rel (ρ : Env) (s : Sg) (σ : St) : Prop := (∀ q k, s q = some k → 0 ≤ k ∧ k ≤ 511 ∧ σ k = true) ∧ ∀ q, s q = none → ρ q ≠ 0 → q ∈ Js
theorem Rel.mono {ρ : Env} {s : Sg} {σ τ : St} (h : Rel ρ s σ) (hs : ∀ n, σ n = true → τ n = true) : Rel ρ s τ :=
 ⟨fun q k e => by obtain ⟨a, b, c⟩ := h.1 q k e; exact ⟨a, b, hs _ c⟩, h.2⟩
theorem pre_mem {s : Str} (h : base s ≠ 0) : s ∈ Js := by
 unfold base pre at h
 split at h
 ·rename_i q
  unfold Js
  simp only [Bool.or_eq_true, decide_eq_true_eq] at q
  rcases q with ((q | q) | q) | q <;> subst q <;> simp
 ·exact absurd rfl h
theorem Rel.nil : Rel Rt.base (fun _ => none) (fun _ => false) := ⟨fun q k e => (by cases e), fun q _ h => pre_mem h⟩
theorem cmp_mem {s : Str} (h : cmp s = true) : s ∈ JD := by
 unfold cmp at h
 unfold JD
 simp only [Bool.or_eq_true, decide_eq_true_eq] at h
 rcases h with q | q | q | q | q | q | q <;> subst q <;> simp
theorem num_bd {s : Str} (h : nmr s = true) : 0 ≤ num s ∧ num s ≤ 999999999 := by
 obtain ⟨h1, h2, h3⟩ := nmr_all h
 have go : ∀ (t : Str) (a : Int), t.all isD = true → 0 ≤ a → 0 ≤ t.foldl (fun n c => 10 * n + ((c.toNat : Int) - 48)) a ∧ t.foldl (fun n c => 10 * n + ((c.toNat : Int) - 48)) a + 1 ≤ (a + 1) * 10 ^ t.length := by
  intro t
  induction t with
  | nil => intro a _ ha; simp [ha]
  | cons c t ih =>
   intro a hc ha
   simp only [List.all_cons, Bool.and_eq_true] at hc
   have hd := hc.1
   simp only [isD, Bool.and_eq_true, decide_eq_true_eq] at hd
   rw [List.foldl_cons, List.length_cons]
   obtain ⟨g1, g2⟩ := ih (10 * a + ((c.toNat : Int) - 48)) hc.2 (by omega)
   refine ⟨g1, Int.le_trans g2 ?_⟩
   rw [Int.pow_succ, Int.mul_comm (10 ^ t.length) 10, ← Int.mul_assoc]
   exact Int.mul_le_mul_of_nonneg_right (by omega) (Int.le_of_lt (Int.pow_pos (by omega)))
 obtain ⟨g1, g2⟩ := go s 0 h1 (by omega)
 refine ⟨g1, ?_⟩
 unfold num
 have : s.length = 1 ∨ s.length = 2 ∨ s.length = 3 ∨ s.length = 4 ∨ s.length = 5 ∨ s.length = 6 ∨ s.length = 7 ∨ s.length = 8 ∨ s.length = 9 := by omega
 rcases this with e | e | e | e | e | e | e | e | e <;> rw [e] at g2 <;> omega
theorem nxt_id {x : I} {σ : St} (h : x.Op ≠ 4) : nxt x σ = σ := by unfold nxt; rw [if_neg h]
theorem Seg.one' {len b : Nat} {x : I} {d t l δ : Int} {σ : St} (he : eff x = some (t, l)) (ht : t ≤ d) (hj : isJ x = false) (h12 : x.Op ≠ 12) (h4 : x.Op ≠ 4) (h3 : x.Op = 3 → σ x.N = true) (hb : b + 1 < len) (hδ : δ = l - t) : Seg len b [x] d δ σ (fun τ => τ = σ) := by
 subst hδ
 have := Seg.one he ht hj h12 h3 hb
 rwa [nxt_id h4] at this
theorem tr_seg {len b : Nat} {d : Int} {σ : St} (v : Bool) (hd : 0 ≤ d) (hb : b + 3 < len) : Seg len b (tr v) d 1 σ (fun τ => τ = σ) := by
 have e1 : eff ⟨1, 0, []⟩ = some (0, 1) := by simp [eff]
 have e2 : eff ⟨1, if v then 0 else 1, []⟩ = some (0, 1) := by cases v <;> simp [eff]
 have e3 : eff ⟨7, 0, [61, 61]⟩ = some (2, 1) := by simp [eff, JD]
 have h1 : Seg len b [⟨1, 0, []⟩] d 1 σ (fun τ => τ = σ) := Seg.one' e1 (by omega) rfl (by simp) (by simp) (by simp) (by omega) (by omega)
 have h2 : Seg len (b + 1) [⟨1, if v then 0 else 1, []⟩] (d + 1) 1 σ (fun τ => τ = σ) := Seg.one' e2 (by omega) rfl (by simp) (by simp) (by simp) (by omega) (by omega)
 have h3 : Seg len (b + 2) [⟨7, 0, [61, 61]⟩] (d + 2) (-1) σ (fun τ => τ = σ) := Seg.one' e3 (by omega) rfl (by simp) (by simp) (by simp) (by omega) (by omega)
 have h12 := Seg.append h1 (fun τ e => by subst e; exact h2) (by simp)
 have h123 := Seg.append h12 (fun τ e => by subst e; rw [show d + (1 + 1) = d + 2 by omega]; exact h3) (by simp)
 exact h123
theorem cE_seg {len : Nat} {ρ : Env} {s : Sg} {σ : St} (hr : Rel ρ s σ) : ∀ (n b : Nat) (x : M) (d : Int), XE ρ n x → 0 ≤ d → b + (cE n s b x).length < len → Seg len b (cE n s b x) d 1 σ (fun τ => τ = σ)
 | 0, _, _, _, h, _, _ => h.elim
 | n + 1, b, x, d, ⟨hx, h⟩, hd, hb => by
  rcases h with ⟨q, hn, _⟩ | ⟨q, hp, _⟩ | ⟨q, _⟩ | ⟨q, hn, _⟩ | ⟨q, k, hk, hxk⟩ | ⟨q, k, l, hk, hxk, hxl⟩
  ·rw [cE_20 q] at hb ⊢
   obtain ⟨n0, n1⟩ := num_bd hn
   exact Seg.one' (t := 0) (l := 1) (by simp [eff, n0, n1]) hd rfl (by simp) (by simp) (by simp) hb (by omega)
  ·rw [cE_21 q] at hb ⊢
   exact Seg.one' (t := 0) (l := 1) (by simp [eff, hp]) hd rfl (by simp) (by simp) (by simp) hb (by omega)
  ·rw [cE_22 q] at hb ⊢
   exact tr_seg _ hd (by simpa [tr_len] using hb)
  ·rw [cE_23 q] at hb ⊢
   unfold nmI at hb ⊢
   cases e : s x.Text with
   | some k =>
    rw [e] at hb
    obtain ⟨k0, k1, k2⟩ := hr.1 _ _ e
    exact Seg.one' (t := 0) (l := 1) (by simp [eff, k0, k1]) hd rfl (by simp) (by simp) (fun _ => k2) hb (by omega)
   | none =>
    rw [e] at hb
    have := hr.2 _ e hn
    exact Seg.one' (t := 0) (l := 1) (by simp [eff, this]) hd rfl (by simp) (by simp) (by simp) hb (by omega)
  ·rcases q with ⟨q, hf⟩ | q
   ·rw [cE_24 q hk] at hb ⊢
    simp only [List.length_append, List.length_cons, List.length_nil] at hb
    have h1 := cE_seg (len := len) hr n b k d hxk hd (by omega)
    have hm := (fn_iff x.Text).2.1 hf
    have := Seg.append h1 (M := [⟨6, 0, x.Text⟩]) (ε := 0) (R := fun τ => τ = σ) (fun τ e => by subst e; exact Seg.one' (t := 1) (l := 1) (by simp [eff, hm]) (by omega) rfl (by simp) (by simp) (by simp) (by omega) (by omega)) (by simp)
    rwa [show (1 : Int) + 0 = 1 by omega] at this
   ·rw [cE_15 q hk] at hb ⊢
    simp only [List.length_append, List.length_cons, List.length_nil] at hb
    have h1 := cE_seg (len := len) hr n b k d hxk hd (by omega)
    have := Seg.append h1 (M := [⟨8, 0, []⟩]) (ε := 0) (R := fun τ => τ = σ) (fun τ e => by subst e; exact Seg.one' (t := 1) (l := 1) (by simp [eff]) (by omega) rfl (by simp) (by simp) (by simp) (by omega) (by omega)) (by simp)
    rwa [show (1 : Int) + 0 = 1 by omega] at this
  ·by_cases q14 : x.Kind = 14
   ·rw [cE_14 q14 hk] at hb ⊢
    simp only [List.length_append, List.length_cons, tr_len] at hb
    have h1 := cE_seg (len := len) hr n b k d hxk hd (by omega)
    have h2 := cE_seg (len := len) hr n (b + (cE n s b k).length + 1) l d hxl hd (by omega)
    have h3 := tr_seg (len := len) (b := b + (cE n s b k).length + 1 + (cE n s (b + (cE n s b k).length + 1) l).length + 1) (d := d) (σ := σ) false hd (by omega)
    have e1 : d + 1 - 1 = d := by omega
    have h4 := Seg.if3 (len := len) (b := b + (cE n s b k).length) (d := d + 1) (δ := 1) (Q := fun τ => τ = σ) (P := fun τ => τ = σ) (R := fun τ => τ = σ) (T := cE n s (b + (cE n s b k).length + 1) l) (O := tr false) (by omega) (by omega) (by rw [e1]; exact h2) (by rw [e1]; exact h3) (by rw [tr_len]; omega) (fun τ υ e1 e2 => by subst e1 e2; exact cap_self _)
    rw [tr_len] at h4
    have := Seg.append h1 (fun τ e => by subst e; exact h4) (by simp)
    exact this
   ·by_cases q13 : x.Kind = 13
    ·rw [cE_13 q13 hk] at hb ⊢
     simp only [List.length_append, List.length_cons, tr_len] at hb
     have h1 := cE_seg (len := len) hr n b k d hxk hd (by omega)
     have h2 := cE_seg (len := len) hr n (b + (cE n s b k).length + 5) l d hxl hd (by omega)
     have h3 := tr_seg (len := len) (b := b + (cE n s b k).length + 1) (d := d) (σ := σ) true hd (by omega)
     have e1 : d + 1 - 1 = d := by omega
     have h4 := Seg.if3 (len := len) (b := b + (cE n s b k).length) (d := d + 1) (δ := 1) (Q := fun τ => τ = σ) (P := fun τ => τ = σ) (R := fun τ => τ = σ) (T := tr true) (O := cE n s (b + (cE n s b k).length + 5) l) (by omega) (by omega) (by rw [e1]; exact h3) (by rw [e1, tr_len]; exact h2) (by rw [tr_len]; omega) (fun τ υ e1 e2 => by subst e1 e2; exact cap_self _)
     rw [tr_len] at h4
     have := Seg.append h1 (fun τ e => by subst e; exact h4) (by simp)
     exact this
    ·rw [cE_op (by omega) hk] at hb ⊢
     simp only [List.length_append, List.length_cons, List.length_nil] at hb
     have h1 := cE_seg (len := len) hr n b k d hxk hd (by omega)
     have h2 := cE_seg (len := len) hr n (b + (cE n s b k).length) l (d + 1) hxl (by omega) (by omega)
     have hm : opw x ∈ JD := by
      unfold opw
      by_cases q17 : x.Kind = 17
      ·rw [if_pos q17]; simp [JD]
      by_cases q18 : x.Kind = 18
      ·rw [if_neg q17, if_pos q18]; simp [JD]
      by_cases q19 : x.Kind = 19
      ·rw [if_neg q17, if_neg q18, if_pos q19]; simp [JD]
      rw [if_neg q17, if_neg q18, if_neg q19]
      rcases q with q | q | q | q | q | q
      ·exact absurd q q13
      ·exact absurd q q14
      ·exact absurd q q17
      ·exact absurd q q18
      ·exact absurd q q19
      ·exact cmp_mem q.2
     have h3 := Seg.append h2 (M := [⟨7, 0, opw x⟩]) (ε := -1) (R := fun τ => τ = σ) (fun τ e => by subst e; exact Seg.one' (t := 2) (l := 1) (by simp [eff, hm]) (by omega) rfl (by simp) (by simp) (by simp) (by omega) (by omega)) (by simp)
     have := Seg.append h1 (fun τ e => by subst e; exact h3) (by simp)
     rwa [show (1 : Int) + (1 + -1) = 1 by omega] at this
end Rt.Rc
set_option linter.unusedVariables false
set_option linter.unusedSimpArgs false
open Go Go.SL Go.Proofs Pl
namespace Rt.Rc
theorem hp_pre (p s : Str) : hp (p ++ s) p = true := by simp [hp]
theorem acs_eff {x : M} (h : SF x) (h2 : x.Kind ≠ 2) (h3 : x.Kind ≠ 3) : ∃ w, acs x = [⟨11, 0, w⟩] ∧ eff ⟨11, 0, w⟩ = some ((x.Kids.length : Int), 0) := by
 have go : ∀ w k, acw x = some w → actK w = some k → k = (x.Kids.length : Int) → ∃ w, acs x = [⟨11, 0, w⟩] ∧ eff ⟨11, 0, w⟩ = some ((x.Kids.length : Int), 0) := fun w k h1 h2 h3 => by
  subst h3
  refine ⟨w, by unfold acs; rw [h1], ?_⟩
  simp [eff, h2]
 rcases h with q | ⟨q, _⟩ | ⟨q, l, t⟩ | ⟨q, l, t⟩ | ⟨q, l, t⟩ | ⟨q, l⟩ | ⟨q, l⟩
 ·exact absurd q h2
 ·exact absurd q h3
 ·rcases t with t | t
  ·exact go _ 1 (by unfold acw; rw [if_pos q, t]) (by decide) (by rw [l]; rfl)
  ·exact go _ 1 (by unfold acw; rw [if_pos q, t]) (by decide) (by rw [l]; rfl)
 ·refine go (sHeader ++ x.Text) 1 (by unfold acw; rw [if_neg (by omega), if_pos q]; rfl) ?_ (by rw [l]; rfl)
  have h0 := hp_pre sHeader x.Text
  unfold actK
  rw [if_neg (fun m => ?_), if_neg (header_acts0 h0), if_pos h0, prt_append, t, if_pos (by decide)]
  ·revert m
   unfold acts1 sHeader
   simp
 ·refine go (sVary ++ x.Text) 0 (by unfold acw; rw [if_neg (by omega), if_neg (by omega), if_pos q]; rfl) ?_ (by rw [l]; rfl)
  have h0 := hp_pre sVary x.Text
  have h1 := vary_header _ h0
  unfold actK
  rw [if_neg (vary_acts1 h0), if_neg (fun m => ?_), if_neg (by rw [h1]; simp), h0, prt_append, t, if_pos (by decide)]
  ·revert m
   unfold acts0 sVary
   simp
 ·rcases q with q | q | q
  ·exact go [116, 97, 103] 1 (by unfold acw; rw [if_neg (by omega), if_neg (by omega), if_neg (by omega), if_pos q]) (by decide) (by rw [l]; rfl)
  ·exact go [116, 116, 108] 1 (by unfold acw; rw [if_neg (by omega), if_neg (by omega), if_neg (by omega), if_neg (by omega), if_pos q]) (by decide) (by rw [l]; rfl)
  ·exact go [100, 101, 110, 121] 1 (by unfold acw; rw [if_neg (by omega), if_neg (by omega), if_neg (by omega), if_neg (by omega), if_neg (by omega), if_pos q]) (by decide) (by rw [l]; rfl)
 ·rcases q with q | q
  ·exact go [112, 97, 115, 115] 0 (by unfold acw; rw [if_neg (by omega), if_neg (by omega), if_neg (by omega), if_neg (by omega), if_neg (by omega), if_neg (by omega), if_pos q]) (by decide) (by rw [l]; rfl)
  ·exact go [116, 111, 107, 101, 110] 0 (by unfold acw; rw [if_neg (by omega), if_neg (by omega), if_neg (by omega), if_neg (by omega), if_neg (by omega), if_neg (by omega), if_neg (by omega), if_pos q]) (by decide) (by rw [l]; rfl)
def Up (σ τ : St) : Prop := ∀ m, σ m = true → τ m = true
def ES (len n : Nat) (x : M) : Prop := ∀ (ρ ρ' : Env) (s : Sg) (σ : St) (z : Int) (b : Nat), stm n ρ x = .ok ρ' → Rel ρ s σ → 0 ≤ z → (cS n s z b x).2.1 ≤ 512 → b + (cS n s z b x).1.length < len →
 Seg len b (cS n s z b x).1 0 0 σ (fun τ => Up σ τ ∧ Rel ρ' (cS n s z b x).2.2 τ)
def NE (n : Nat) (x : M) : Prop := ∀ (s : Sg) (z : Int) (b : Nat), (cS n s z b x).1 ≠ []
theorem foldC_seg {len n : Nat} : ∀ (l : List M) (ρ ρ' : Env) (s : Sg) (σ : St) (z : Int) (b : Nat), (∀ x ∈ l, Ok n x ∧ NE n x ∧ ES len n x) → foldS (stm n) ρ l = .ok ρ' → Rel ρ s σ → 0 ≤ z → (foldC (cS n) s z b l).2 ≤ 512 → b + (foldC (cS n) s z b l).1.length < len →
  Seg len b (foldC (cS n) s z b l).1 0 0 σ (fun τ => Up σ τ)
 | [], ρ, ρ', s, σ, z, b, _, _, _, _, _, _ => .inl ⟨rfl, rfl, fun _ h => h⟩
 | x :: l, ρ, ρ', s, σ, z, b, hx, hs, hr, hz, hk, hb => by
  obtain ⟨ρ1, e1, e2⟩ := foldS_cons hs
  obtain ⟨ok, ne, es⟩ := hx x (by simp)
  obtain ⟨c1, c2, c3⟩ := cS_len n x ok s z b
  obtain ⟨f1, f2, f3⟩ := foldC_len (d := n) (g := cS n) l (cS n s z b x).2.2 (cS n s z b x).2.1 (b + (cS n s z b x).1.length) fun q hq => cS_len n q (hx q (by simp [hq])).1
  rw [foldC] at hk hb ⊢
  simp only [List.length_append] at hk hb ⊢
  have h1 := es ρ ρ1 s σ z b e1 hr hz (by omega) (by omega)
  cases l with
  | nil =>
   rw [foldC, List.append_nil]
   exact h1.mono fun τ h => h.1
  | cons y l =>
   have h2 : ∀ τ, Up σ τ ∧ Rel ρ1 (cS n s z b x).2.2 τ → Seg len (b + (cS n s z b x).1.length) (foldC (cS n) (cS n s z b x).2.2 (cS n s z b x).2.1 (b + (cS n s z b x).1.length) (y :: l)).1 (0 + 0) 0 τ (fun υ => Up σ υ) := fun τ hτ =>
    (foldC_seg (y :: l) ρ1 ρ' (cS n s z b x).2.2 τ (cS n s z b x).2.1 (b + (cS n s z b x).1.length) (fun q hq => hx q (by simp at hq ⊢; exact .inr hq)) e2 hτ.2 (by omega) hk (by omega)).mono fun υ hυ m hm => hυ m (hτ.1 m hm)
   have hy : (foldC (cS n) (cS n s z b x).2.2 (cS n s z b x).2.1 (b + (cS n s z b x).1.length) (y :: l)).1 ≠ [] := by
    rw [foldC]
    exact fun e => (hx y (by simp)).2.1 _ _ _ (List.append_eq_nil_iff.1 e).1
   exact Seg.append h1 h2 hy
theorem cS_ne : ∀ {n : Nat} {x : M}, Gd n x → NE n x
 | 0, x, h => h.1.elim
 | n + 1, x, ⟨⟨h1, h2, h3⟩, m, hm⟩ => fun s z b => by
  obtain ⟨m, rfl, hv0, hv2⟩ := stated_inv hm
  have sf := stated_form h1 hm
  by_cases q2 : x.Kind = 2
  ·obtain ⟨e, t, ht12, hk⟩ := if_kids q2 hm
   rcases hk with hk | ⟨o, _, hk⟩
   ·rw [cS_2 q2 hk rfl]; simp [if2]
   ·rw [cS_3 q2 hk rfl rfl]; simp [if3]
  ·by_cases q3 : x.Kind = 3
   ·rw [cS_let q3]; simp
   ·rw [cS_act q2 q3]
    obtain ⟨w, e, _⟩ := acs_eff sf q2 q3
    simp [e]
theorem cS_seg {len : Nat} : ∀ (n : Nat) (x : M), Gd n x → ES len n x
 | 0, x, h => h.1.elim
 | n + 1, x, ⟨⟨h1, h2, h3⟩, m, hm⟩ => fun ρ ρ' s σ z b hs hr hz hk hb => by
  obtain ⟨m, rfl, hv0, hv2⟩ := stated_inv hm
  have sf := stated_form h1 hm
  by_cases q2 : x.Kind = 2
  ·obtain ⟨l2, hbr⟩ := hv2 q2
   obtain ⟨e, t, ht12, hkd⟩ := if_kids q2 hm
   have hex : ∃ ks, x.Kids = e :: t :: ks := by rcases hkd with hk | ⟨o, _, hk⟩ <;> exact ⟨_, hk⟩
   obtain ⟨ks, hks⟩ := hex
   obtain ⟨te, hte, hst⟩ := stm_inv hks hs
   rcases hst with ⟨q, _⟩ | ⟨_, rfl, hbs⟩ | ⟨_, q, _⟩
   ·omega
   ·have hE : XE ρ' n e := XE_of (h3 e (by rw [hks]; simp)) (hv0 e (by rw [hks]; rfl)) hte
    have hT := brs_none hbs
    have gd : ∀ k ∈ t :: ks, ∀ q ∈ brn k, Gd n q := fun k hk1 => by
     have hk2 : k ∈ x.Kids := by rw [hks]; simp at hk1 ⊢; exact .inr hk1
     obtain ⟨l', e1, e2, e3⟩ := branch_ok (h3 k hk2) ((hbr k (by rw [hks]; simpa using hk1)).imp (fun h => ⟨h.1, fun q hq => ⟨m, h.2 q hq⟩⟩) fun h => ⟨h.1, m, h.2⟩)
     rw [brn_eq] at e1
     cases e1
     exact e3
    have gs : ∀ k ∈ t :: ks, ∀ q ∈ brn k, Ok n q ∧ NE n q ∧ ES len n q := fun k hk1 q hq => ⟨(gd k hk1 q hq).1, cS_ne (gd k hk1 q hq), cS_seg n q (gd k hk1 q hq)⟩
    have gt := gs t (by simp)
    obtain ⟨ρt, hρt⟩ := hT t (by simp)
    rw [brn12 ht12] at gt hρt
    have lT := foldC_len (d := n) (g := cS n) t.Kids s z (b + (cE n s b e).length + 1) fun q hq => cS_len n q (gt q hq).1
    rcases hkd with hkd | ⟨o, ho, hkd⟩
    ·rw [cS_2 q2 hkd rfl] at hk hb ⊢
     simp only [if2, List.length_append, List.length_cons] at hk hb ⊢
     have hA := cE_seg (len := len) hr n b e 0 hE (by omega) (by omega)
     have hTs := foldC_seg t.Kids ρ' ρt s σ z (b + (cE n s b e).length + 1) gt hρt hr hz hk (by omega)
     have hI := Seg.if2 (len := len) (b := b + (cE n s b e).length) (d := 0 + 1) (R := fun τ => Up σ τ ∧ Rel ρ' s τ) (by omega) hTs (by omega) fun τ h => by
      have : Up σ (cap σ τ) := fun k hk => by unfold cap; rw [hk, h k hk]; rfl
      exact ⟨this, hr.mono this⟩
     have := Seg.append hA (fun τ e => by subst e; exact hI) (by simp)
     rwa [show (1 : Int) + -1 = 0 by omega] at this
    ·rw [hks] at hkd
     cases hkd
     obtain ⟨ρo, hρo⟩ := hT o (by simp)
     have go := gs o (by simp)
     rw [cS_3 q2 hks rfl rfl] at hk hb ⊢
     simp only [if3, List.length_append, List.length_cons] at hk hb ⊢
     have lO := foldC_len (d := n) (g := cS n) (brn o) s (foldC (cS n) s z (b + (cE n s b e).length + 1) t.Kids).2 (b + (cE n s b e).length + 1 + (foldC (cS n) s z (b + (cE n s b e).length + 1) t.Kids).1.length + 1) fun q hq => cS_len n q (go q hq).1
     have hA := cE_seg (len := len) hr n b e 0 hE (by omega) (by omega)
     have hTs := foldC_seg (len := len) t.Kids ρ' ρt s σ z (b + (cE n s b e).length + 1) gt hρt hr hz (by omega) (by omega)
     have hOs := foldC_seg (len := len) (brn o) ρ' ρo s σ (foldC (cS n) s z (b + (cE n s b e).length + 1) t.Kids).2 (b + (cE n s b e).length + 1 + (foldC (cS n) s z (b + (cE n s b e).length + 1) t.Kids).1.length + 1) go hρo hr (by omega) (by omega) (by omega)
     have hI := Seg.if3 (len := len) (b := b + (cE n s b e).length) (d := 0 + 1) (δ := 0) (R := fun τ => Up σ τ ∧ Rel ρ' s τ) (by omega) (by omega) hTs hOs (by omega) fun τ υ h h' => by
      have : Up σ (cap τ υ) := fun k hk => by unfold cap; rw [h k hk, h' k hk]; rfl
      exact ⟨this, hr.mono this⟩
     have := Seg.append hA (fun τ e => by subst e; exact hI) (by simp)
     rwa [show (1 : Int) + (0 - 1) = 0 by omega] at this
   ·exact absurd q2 q
  ·by_cases q3 : x.Kind = 3
   ·have l1 : x.Kids.length = 1 := by
     rcases sf with q | ⟨_, q⟩ | ⟨q, _⟩ | ⟨q, _⟩ | ⟨q, _⟩ | ⟨q, _⟩ | ⟨q, _⟩ <;> first | exact q | omega
    obtain ⟨e, he⟩ := len1 (l := x.Kids) (by rw [l1]; rfl)
    obtain ⟨te, hte, hst⟩ := stm_inv he hs
    rcases hst with ⟨_, rfl⟩ | ⟨q, _⟩ | ⟨q, _⟩
    ·have hE : XE ρ n e := XE_of (h3 e (by rw [he]; simp)) (hv0 e (by rw [he]; rfl)) hte
     rw [cS_let q3, he] at hk hb ⊢
     simp only [hdC, List.length_append, List.length_cons, List.length_nil] at hk hb ⊢
     have hA := cE_seg (len := len) hr n b e 0 hE (by omega) (by omega)
     have hS : Seg len (b + (cE n s b e).length) [⟨4, z, []⟩] (0 + 1) (0 - 1) σ (fun τ => Up σ τ ∧ Rel (ext ρ x.Text te) (upd s x.Text z) τ) := by
      refine (Seg.one (x := ⟨4, z, []⟩) (t := 1) (l := 0) (by simp [eff]; omega) (by omega) rfl (by simp) (by simp) (by omega)).mono fun τ e => ?_
      subst e
      have up : Up σ (nxt ⟨4, z, []⟩ σ) := fun k hk => by unfold nxt; simp [hk]
      refine ⟨up, fun q k hq => ?_, fun q hq hq2 => ?_⟩
      ·unfold upd at hq
       by_cases w : x.Text = q
       ·rw [if_pos w] at hq
        cases hq
        exact ⟨hz, by omega, by unfold nxt; simp⟩
       ·rw [if_neg w] at hq
        obtain ⟨a, b, c⟩ := hr.1 q k hq
        exact ⟨a, b, up k c⟩
      ·unfold upd at hq
       by_cases w : x.Text = q
       ·rw [if_pos w] at hq; cases hq
       ·rw [if_neg w] at hq
        unfold ext at hq2
        rw [if_neg w] at hq2
        exact hr.2 q hq hq2
     have := Seg.append hA (fun τ e => by subst e; exact hS) (by simp)
     rwa [show (1 : Int) + (0 - 1) = 0 by omega] at this
    ·omega
    ·exact absurd q3 q
   ·obtain ⟨w, ew, ef⟩ := acs_eff sf q2 q3
    rw [cS_act q2 q3, ew] at hk hb ⊢
    simp only [List.length_append, List.length_cons, List.length_nil] at hk hb ⊢
    have act : ∀ (d : Int) (b : Nat), (x.Kids.length : Int) = d → b + 1 < len → Seg len b [⟨11, 0, w⟩] d (-d) σ (fun τ => τ = σ) := fun d b hd hb => by
     refine Seg.one' ef (by omega) rfl (by simp) (by simp) (by simp) hb (by omega)
    match hks : x.Kids with
    | [] =>
     have e : ρ' = ρ := by rw [stm, hks] at hs; cases hs; rfl
     subst e
     rw [hks] at act hb
     simp only [hdC, List.nil_append, List.length_nil] at hb ⊢
     exact (act 0 b rfl (by omega)).mono fun τ e => by subst e; exact ⟨fun _ h => h, hr⟩
    | e :: ks =>
     obtain ⟨te, hte, hst⟩ := stm_inv hks hs
     have e1 : ks = [] := by
      have : x.Kids.length ≤ 1 := by
       rcases sf with q | ⟨_, q⟩ | ⟨_, q, _⟩ | ⟨_, q, _⟩ | ⟨_, q, _⟩ | ⟨_, q⟩ | ⟨_, q⟩ <;> omega
      rw [hks] at this
      simp only [List.length_cons] at this
      exact List.length_eq_zero_iff.1 (by omega)
     subst e1
     rcases hst with ⟨q, _⟩ | ⟨q, _⟩ | ⟨_, _, rfl⟩
     ·exact absurd q q3
     ·exact absurd q q2
     ·have hE : XE ρ' n e := XE_of (h3 e (by rw [hks]; simp)) (hv0 e (by rw [hks]; rfl)) hte
      rw [hks] at act hb
      simp only [hdC] at hb ⊢
      have hA := cE_seg (len := len) hr n b e 0 hE (by omega) (by omega)
      have := Seg.append hA (M := [⟨11, 0, w⟩]) (ε := -1) (R := fun τ => Up σ τ ∧ Rel ρ' s τ) (fun τ e => by subst e; exact (act 1 _ rfl (by omega)).mono fun τ e => by subst e; exact ⟨fun _ h => h, hr⟩) (by simp)
      rwa [show (1 : Int) + -1 = 0 by omega] at this
end Rt.Rc
set_option linter.unusedVariables false
set_option linter.unusedSimpArgs false
open Go Go.SL Go.Proofs Pl
namespace Rt.Rc
theorem depthOf_of {L : List I} (hl : (L ++ [haltI]).length ≤ 2048) {Q : St → Prop} (h : Seg (L ++ [haltI]).length 0 L 0 0 (fun _ => false) Q) : (depthOf (L ++ [haltI])).isSome = true := by
 obtain ⟨τ, B', g', _, k2, k3, _⟩ := h.run (B := B0) (g := 0) rfl fun j a b => by unfold B0; rw [if_neg (by omega)]
 unfold depthOf
 rw [if_neg (by simp only [List.length_append, List.length_cons, List.length_nil] at hl ⊢; omega), k2]
 have e : eff haltI = some (0, 0) := by decide
 simp only [Nat.zero_add] at k3 ⊢
 rw [wk_cons]
 unfold stA
 rw [e, k3]
 simp only
 rw [if_neg (by unfold haltI; simp), if_pos (show haltI.Op = 12 from rfl), if_pos (by omega)]
 rfl
theorem prog_depth {ys : List M} (hl : (prog 39 ys).length ≤ 2048) (hc : cntL 39 ys ≤ 511) (hg : ∀ k ∈ ys, Gd 39 k) {ρ : Env} (hs : foldS (stm 39) base ys = .ok ρ) : (depthOf (prog 39 ys)).isSome = true := by
 unfold prog at hl ⊢
 obtain ⟨l1, l2, l3⟩ := foldC_len (d := 39) (g := cS 39) ys (fun _ => none) 0 0 fun q hq => cS_len 39 q (hg q hq).1
 exact depthOf_of hl (foldC_seg (len := ((foldC (cS 39) (fun _ => none) 0 0 ys).1 ++ [haltI]).length) ys base ρ (fun _ => none) (fun _ => false) 0 0 (fun q hq => ⟨(hg q hq).1, cS_ne (hg q hq), cS_seg 39 q (hg q hq)⟩) hs Rel.nil (by omega) (by omega) (by simp))
end Rt.Rc
set_option linter.unusedVariables false
set_option linter.unusedSimpArgs false
open Go Go.SL Go.Proofs Pl
namespace Rt.Rc
theorem tr_S {v : Bool} : ∀ i ∈ tr v, i.S.length ≤ 100000 := by simp [tr]
theorem cE_S {s : Sg} : ∀ (d b : Nat) (x : M), Ok d x → ∀ i ∈ cE d s b x, i.S.length ≤ 100000
 | 0, _, _, h => h.elim
 | d + 1, b, x, ⟨h1, h2, h3⟩ => by
  intro i hi
  rw [cE] at hi
  by_cases q20 : x.Kind = 20; · rw [if_pos q20] at hi; simp at hi; subst hi; simp
  by_cases q21 : x.Kind = 21; · rw [if_neg q20, if_pos q21] at hi; simp at hi; subst hi; simp only; omega
  by_cases q22 : x.Kind = 22; · rw [if_neg q20, if_neg q21, if_pos q22] at hi; exact tr_S i hi
  by_cases q23 : x.Kind = 23
  ·rw [if_neg q20, if_neg q21, if_neg q22, if_pos q23] at hi
   simp at hi
   subst hi
   unfold nmI
   split
   ·simp
   ·simp only; omega
  rw [if_neg q20, if_neg q21, if_neg q22, if_neg q23] at hi
  split at hi
  ·rename_i k e
   rcases List.mem_append.1 hi with hi | hi
   ·exact cE_S d b k (h3 k (by rw [e]; simp)) i hi
   ·split at hi <;> simp at hi <;> subst hi <;> simp only [List.length_nil] <;> omega
  ·rename_i k l e
   have hk := h3 k (by rw [e]; simp)
   have hl := h3 l (by rw [e]; simp)
   split at hi
   ·simp only [List.mem_append, List.mem_cons] at hi
    rcases hi with hi | hi | hi | hi | hi
    ·exact cE_S _ _ _ hk i hi
    ·subst hi; simp
    ·exact cE_S _ _ _ hl i hi
    ·subst hi; simp
    ·exact tr_S i hi
   ·split at hi
    ·simp only [List.mem_append, List.mem_cons] at hi
     rcases hi with hi | hi | hi | hi | hi
     ·exact cE_S _ _ _ hk i hi
     ·subst hi; simp
     ·exact tr_S i hi
     ·subst hi; simp
     ·exact cE_S _ _ _ hl i hi
    ·simp only [List.mem_append, List.mem_cons, List.not_mem_nil, or_false] at hi
     rcases hi with hi | hi | hi
     ·exact cE_S _ _ _ hk i hi
     ·exact cE_S _ _ _ hl i hi
     ·subst hi
      unfold opw
      simp only
      split
      ·simp
      ·split
       ·simp
       ·split
        ·simp
        ·omega
  ·cases hi
theorem hdC_S {d b : Nat} {s : Sg} : ∀ (l : List M), (∀ k ∈ l, Ok d k) → ∀ i ∈ hdC d s b l, i.S.length ≤ 100000
 | [], _, i, hi => by cases hi
 | e :: l, h, i, hi => cE_S d b e (h e (by simp)) i hi
theorem acs_S {x : M} (h : x.Text.length ≤ 3000) : ∀ i ∈ acs x, i.S.length ≤ 100000 := by
 intro i hi
 unfold acs acw at hi
 split at hi
 ·rename_i w hw
  simp only [List.mem_singleton] at hi
  subst hi
  show w.length ≤ 100000
  have go : ∀ v : Str, some v = some w → v.length ≤ 100000 → w.length ≤ 100000 := fun v e h => by cases e; exact h
  repeat' split at hw
  all_goals first | exact go _ hw (by simp only [List.length_append, List.length_cons, List.length_nil]; omega) | exact go _ hw (by omega) | cases hw
 ·cases hi
theorem foldC_S {g : Sg → Int → Nat → M → List I × Int × Sg} : ∀ (l : List M) (s : Sg) (z : Int) (b : Nat), (∀ x ∈ l, ∀ s z b, ∀ i ∈ (g s z b x).1, i.S.length ≤ 100000) → ∀ i ∈ (foldC g s z b l).1, i.S.length ≤ 100000
 | [], s, z, b, _, i, hi => by cases hi
 | x :: l, s, z, b, h, i, hi => by
  rw [foldC] at hi
  rcases List.mem_append.1 hi with hi | hi
  ·exact h x (by simp) _ _ _ i hi
  ·exact foldC_S l _ _ _ (fun q hq => h q (by simp [hq])) i hi
theorem cS_S : ∀ (d : Nat) (x : M), Ok d x → ∀ (s : Sg) (z : Int) (b : Nat), ∀ i ∈ (cS d s z b x).1, i.S.length ≤ 100000
 | 0, x, h => h.elim
 | d + 1, x, ⟨h1, h2, h3⟩ => fun s z b i hi => by
  have hf : ∀ (l : List M) (s : Sg) (z : Int) (b : Nat), (∀ q ∈ l, Ok d q) → ∀ i ∈ (foldC (cS d) s z b l).1, i.S.length ≤ 100000 := fun l s z b h => foldC_S l s z b fun q hq => cS_S d q (h q hq)
  by_cases q2 : x.Kind = 2
  ·rw [cS, if_pos q2] at hi
   split at hi
   ·rename_i e t hk
    have ht := h3 t (by rw [hk]; simp)
    have kt : ∀ q ∈ t.Kids, Ok d q := fun q hq => by
     cases d with
     | zero => exact ht.elim
     | succ d => exact (ht.2.2 q hq).succ
    simp only [if2, List.mem_append, List.mem_cons] at hi
    rcases hi with hi | hi | hi
    ·exact cE_S _ _ _ (h3 e (by rw [hk]; simp)) i hi
    ·subst hi; simp
    ·exact hf _ _ _ _ kt i hi
   ·rename_i e t o hk
    have ht := h3 t (by rw [hk]; simp)
    have kt : ∀ q ∈ t.Kids, Ok d q := fun q hq => by
     cases d with
     | zero => exact ht.elim
     | succ d => exact (ht.2.2 q hq).succ
    have ko : ∀ q ∈ brn o, Ok d q := (brn_ok (h3 o (by rw [hk]; simp))).1
    simp only [if3, List.mem_append, List.mem_cons] at hi
    rcases hi with hi | hi | hi | hi | hi
    ·exact cE_S _ _ _ (h3 e (by rw [hk]; simp)) i hi
    ·subst hi; simp
    ·exact hf _ _ _ _ kt i hi
    ·subst hi; simp
    ·exact hf _ _ _ _ ko i hi
   ·cases hi
  ·by_cases q3 : x.Kind = 3
   ·rw [cS_let q3] at hi
    simp only [List.mem_append, List.mem_cons, List.not_mem_nil, or_false] at hi
    rcases hi with hi | hi
    ·exact hdC_S _ h3 i hi
    ·subst hi; simp
   ·rw [cS_act q2 q3] at hi
    simp only [List.mem_append] at hi
    rcases hi with hi | hi
    ·exact hdC_S _ h3 i hi
    ·exact acs_S h1 i hi
theorem prog_S {d : Nat} {l : List M} (h : ∀ k ∈ l, Ok d k) : ∀ i ∈ prog d l, i.S.length ≤ 100000 := by
 intro i hi
 unfold prog at hi
 rcases List.mem_append.1 hi with hi | hi
 ·exact foldC_S l _ _ _ (fun q hq => cS_S d q (h q hq)) i hi
 ·simp at hi; subst hi; simp [haltI]
theorem plain_L0 : ∀ (l : List I) (i : Nat) (y : List I2), y.length + l.length ≤ 1000000 → Jaz l i y = some (y ++ l.map cv)
 | [], i, y, _ => by rw [Jaz]; simp
 | x :: l, i, y, h => by
  simp only [List.length_cons] at h
  rw [Jaz, chk_bind (by simp only [List.length_cons, List.length_nil, lim]; omega), plain_L0 l (i + 1) _ (by simp only [List.length_append, List.length_cons, List.length_nil]; omega)]
  simp [cv]
theorem plain_eq {l : List I} (h : l.length ≤ 100000) : Jbd l = some (l.map cv) := by
 unfold Jbd
 rw [chk_bind (by simp only [szMax]; omega), plain_L0 l 0 [] (by simp; omega), Option.bind_some, List.nil_append]
end Rt.Rc
set_option linter.unusedVariables false
set_option linter.unusedSimpArgs false
open Go Go.SL Go.Proofs Pl
namespace Rt.Rc
def wgt (m : Int) (x : I) : Int := if x.Op = 6 ∨ (x.Op = 7 ∧ x.S = [43]) then m else 1
def lnx (x : I) (b : Nat) (A : Nat → Int) : Int := if x.Op = 9 then A x.N.toNat else if x.Op = 10 then max (A (b + 1)) (A x.N.toNat) else A (b + 1)
def lw (m : Int) : Nat → List I → (Nat → Int) → Nat → Int
 | _, [], A => A
 | b, x :: l, A => fun j => if j = b then wgt m x + lnx x b (lw m (b + 1) l A) else lw m (b + 1) l A j
theorem lw_cons {m : Int} {b : Nat} {x : I} {l : List I} {A : Nat → Int} : lw m b (x :: l) A b = wgt m x + lnx x b (lw m (b + 1) l A) := by
 rw [lw]; exact if_pos rfl
theorem lw_append {m : Int} : ∀ (L M : List I) (b : Nat) (A : Nat → Int), lw m b (L ++ M) A = lw m b L (lw m (b + L.length) M A)
 | [], M, b, A => rfl
 | x :: L, M, b, A => by
  rw [List.cons_append, lw, lw_append L M (b + 1) A, lw, List.length_cons, show b + 1 + L.length = b + (L.length + 1) by omega]
theorem lw_out {m : Int} : ∀ (L : List I) (b j : Nat) (A : Nat → Int), b + L.length ≤ j → lw m b L A j = A j
 | [], b, j, A, h => rfl
 | x :: L, b, j, A, h => by
  simp only [List.length_cons] at h
  rw [lw]
  show (if j = b then _ else _) = _
  rw [if_neg (by omega), lw_out L (b + 1) j A (by omega)]
def Cs (m : Int) (b : Nat) (L : List I) (c : Int) : Prop := ∀ A : Nat → Int, lw m b L A b = c + A (b + L.length)
theorem Cs.nil {m : Int} {b : Nat} : Cs m b [] 0 := fun A => by simp [lw]
theorem Cs.append {m : Int} {b : Nat} {L M : List I} {c e : Int} (h : Cs m b L c) (h2 : Cs m (b + L.length) M e) : Cs m b (L ++ M) (c + e) := fun A => by
 rw [lw_append, h, h2, List.length_append, ← Nat.add_assoc]; omega
theorem Cs.one {m : Int} {b : Nat} {x : I} (h9 : x.Op ≠ 9) (h10 : x.Op ≠ 10) : Cs m b [x] (wgt m x) := fun A => by
 rw [lw_cons]; unfold lnx; rw [if_neg h9, if_neg h10]; rfl
theorem Cs.one' {m c : Int} {b : Nat} {x : I} (h9 : x.Op ≠ 9) (h10 : x.Op ≠ 10) (h : wgt m x = c) : Cs m b [x] c := by subst h; exact Cs.one h9 h10
theorem Cs.if2 {m : Int} {b : Nat} {T : List I} {c : Int} (h : Cs m (b + 1) T c) (h0 : 0 ≤ c) : Cs m b (⟨10, (b + 1 + T.length : Nat), []⟩ :: T) (1 + c) := fun A => by
 rw [lw_cons]
 unfold lnx
 rw [if_neg (by simp), if_pos rfl, h A, List.length_cons]
 simp only [Int.toNat_natCast]
 rw [lw_out T (b + 1) (b + 1 + T.length) A (Nat.le_refl _), show b + (T.length + 1) = b + 1 + T.length by omega]
 have : wgt m ⟨10, ((b + 1 + T.length : Nat) : Int), []⟩ = 1 := by simp [wgt]
 rw [this]
 omega
theorem Cs.if3 {m : Int} {b : Nat} {T O : List I} {c e : Int} (h : Cs m (b + 1) T c) (h2 : Cs m (b + 1 + T.length + 1) O e) :
  Cs m b (⟨10, (b + 1 + T.length + 1 : Nat), []⟩ :: (T ++ ⟨9, (b + 1 + T.length + 1 + O.length : Nat), []⟩ :: O)) (1 + max (c + 1) e) := fun A => by
 rw [lw_cons]
 unfold lnx
 rw [if_neg (by simp), if_pos rfl, lw_append, h]
 simp only [Int.toNat_natCast]
 rw [lw_out T (b + 1) (b + 1 + T.length + 1) _ (by omega), lw_cons]
 have e1 : lw m (b + 1 + T.length) (⟨9, ((b + 1 + T.length + 1 + O.length : Nat) : Int), []⟩ :: O) A (b + 1 + T.length + 1) = e + A (b + 1 + T.length + 1 + O.length) := by
  rw [lw]
  show (if _ = _ then _ else _) = _
  rw [if_neg (by omega), h2]
 rw [e1]
 unfold lnx
 rw [if_pos rfl]
 simp only [Int.toNat_natCast]
 rw [lw_out O _ _ A (Nat.le_refl _)]
 have w1 : wgt m ⟨10, ((b + 1 + T.length + 1 : Nat) : Int), []⟩ = 1 := by simp [wgt]
 have w2 : wgt m ⟨9, ((b + 1 + T.length + 1 + O.length : Nat) : Int), []⟩ = 1 := by simp [wgt]
 rw [w1, w2, show b + ((⟨10, ((b + 1 + T.length + 1 : Nat) : Int), []⟩ : I) :: (T ++ (⟨9, ((b + 1 + T.length + 1 + O.length : Nat) : Int), []⟩ : I) :: O)).length = b + 1 + T.length + 1 + O.length by simp only [List.length_cons, List.length_append]; omega]
 omega
theorem tr_cs {m : Int} {b : Nat} {v : Bool} : Cs m b (tr v) 3 := by
 have h1 : Cs m b [⟨1, 0, []⟩] 1 := Cs.one' (by simp) (by simp) (by simp [wgt])
 have h2 : Cs m (b + 1) [⟨1, if v then 0 else 1, []⟩] 1 := Cs.one' (by simp) (by simp) (by simp [wgt])
 have h3 : Cs m (b + 2) [⟨7, 0, [61, 61]⟩] 1 := Cs.one' (by simp) (by simp) (by simp [wgt])
 exact Cs.append (Cs.append h1 h2) h3
def cx (m : Int) : Nat → M → Int
 | 0, _ => 0
 | d + 1, x =>
  if x.Kind = 20 ∨ x.Kind = 21 ∨ x.Kind = 23 then 1
  else if x.Kind = 22 then 3
  else match x.Kids with
   | [k] => cx m d k + (if x.Kind = 24 then m else 1)
   | [k, l] => if x.Kind = 14 then cx m d k + (1 + max (cx m d l + 1) 3) else if x.Kind = 13 then cx m d k + (1 + max (3 + 1) (cx m d l)) else cx m d k + (cx m d l + (if x.Kind = 17 then m else 1))
   | _ => 0
theorem cE_cs {m : Int} {ρ : Env} {s : Sg} : ∀ (d b : Nat) (x : M), XE ρ d x → Cs m b (cE d s b x) (cx m d x)
 | 0, _, _, h => h.elim
 | d + 1, b, x, ⟨hx, h⟩ => by
  rw [cx]
  rcases h with ⟨q, hn, _⟩ | ⟨q, hp, _⟩ | ⟨q, _⟩ | ⟨q, hn, _⟩ | ⟨q, k, hk, hxk⟩ | ⟨q, k, l, hk, hxk, hxl⟩
  ·rw [cE_20 q, if_pos (by omega)]; exact Cs.one' (by simp) (by simp) (by simp [wgt])
  ·rw [cE_21 q, if_pos (by omega)]; exact Cs.one' (by simp) (by simp) (by simp [wgt])
  ·rw [cE_22 q, if_neg (by omega), if_pos q]; exact tr_cs
  ·rw [cE_23 q, if_pos (by omega)]
   unfold nmI
   split
   ·exact Cs.one' (by simp) (by simp) (by simp [wgt])
   ·exact Cs.one' (by simp) (by simp) (by simp [wgt])
  ·rw [if_neg (by omega), if_neg (by omega), hk]
   simp only
   rcases q with ⟨q, hf⟩ | q
   ·rw [cE_24 q hk, if_pos q]
    exact (cE_cs d b k hxk).append (Cs.one' (by simp) (by simp) (by simp [wgt]))
   ·rw [cE_15 q hk, if_neg (by omega)]
    exact (cE_cs d b k hxk).append (Cs.one' (by simp) (by simp) (by simp [wgt]))
  ·rw [if_neg (by omega), if_neg (by omega), hk]
   simp only
   by_cases q14 : x.Kind = 14
   ·rw [cE_14 q14 hk, if_pos q14]
    have := Cs.if3 (m := m) (b := b + (cE d s b k).length) (O := tr false) (cE_cs (s := s) d (b + (cE d s b k).length + 1) l hxl) tr_cs
    rw [tr_len] at this
    exact (cE_cs d b k hxk).append this
   ·by_cases q13 : x.Kind = 13
    ·rw [cE_13 q13 hk, if_neg q14, if_pos q13]
     have := Cs.if3 (m := m) (b := b + (cE d s b k).length) (T := tr true) tr_cs (by rw [tr_len]; exact cE_cs (s := s) d (b + (cE d s b k).length + 5) l hxl)
     rw [tr_len] at this
     exact (cE_cs d b k hxk).append this
    ·rw [cE_op (by omega) hk, if_neg q14, if_neg q13]
     refine (cE_cs d b k hxk).append ((cE_cs d _ l hxl).append (Cs.one' (by simp) (by simp) ?_))
     unfold wgt opw
     by_cases q17 : x.Kind = 17
     ·rw [if_pos q17, if_pos q17, if_pos (by simp)]
     ·rw [if_neg q17, if_neg q17, if_neg]
      intro e
      rcases e with e | ⟨_, e⟩
      ·simp at e
      ·simp only at e
       by_cases q18 : x.Kind = 18
       ·rw [if_pos q18] at e; simp at e
       ·rw [if_neg q18] at e
        by_cases q19 : x.Kind = 19
        ·rw [if_pos q19] at e; simp at e
        ·rw [if_neg q19] at e
         rcases q with q | q | q | q | q | ⟨_, q⟩ <;> first | contradiction | skip
         rw [e] at q
         exact absurd q (by decide)
def cL (f : M → Int) (l : List M) : Int := (l.map f).sum
theorem cL_cons (f : M → Int) (x : M) (l : List M) : cL f (x :: l) = f x + cL f l := by simp [cL]
def cst (m : Int) : Nat → M → Int
 | 0, _ => 0
 | d + 1, x => match x.Kids with
  | [] => 1
  | k0 :: ks => cx m d k0 + (if x.Kind = 2 then (match ks with
   | [] => 1
   | [b] => 1 + cL (cst m d) (brn b)
   | b :: c :: _ => 1 + max (cL (cst m d) (brn b) + 1) (cL (cst m d) (brn c))) else 1)
theorem cx_pos {m : Int} (hm : 0 ≤ m) : ∀ (d : Nat) (x : M), 0 ≤ cx m d x
 | 0, _ => by simp [cx]
 | d + 1, x => by
  rw [cx]
  split
  ·omega
  ·split
   ·omega
   ·split
    ·rename_i k e
     have := cx_pos hm d k
     split <;> omega
    ·rename_i k l e
     have h1 := cx_pos hm d k
     have h2 := cx_pos hm d l
     split
     ·omega
     ·split
      ·omega
      ·split <;> omega
    ·omega
theorem cL_pos {f : M → Int} : ∀ (l : List M), (∀ x ∈ l, 0 ≤ f x) → 0 ≤ cL f l
 | [], _ => by simp [cL]
 | x :: l, h => by
  have := cL_pos l fun q hq => h q (by simp [hq])
  have := h x (by simp)
  rw [cL_cons]; omega
theorem cst_pos {m : Int} (hm : 0 ≤ m) : ∀ (d : Nat) (x : M), 0 ≤ cst m d x
 | 0, _ => by simp [cst]
 | d + 1, x => by
  rw [cst]
  split
  ·omega
  ·rename_i k0 ks e
   have := cx_pos hm d k0
   have hl : ∀ l, 0 ≤ cL (cst m d) l := fun l => cL_pos l fun q _ => cst_pos hm d q
   split
   ·split
    ·omega
    ·rename_i b; have := hl (brn b); omega
    ·rename_i b c _; have := hl (brn b); have := hl (brn c); omega
   ·omega
theorem foldC_cs {m : Int} {n : Nat} : ∀ (l : List M) (ρ ρ' : Env) (s : Sg) (z : Int) (b : Nat), (∀ x ∈ l, ∀ ρ ρ' s z b, stm n ρ x = .ok ρ' → Cs m b (cS n s z b x).1 (cst m n x)) → foldS (stm n) ρ l = .ok ρ' → Cs m b (foldC (cS n) s z b l).1 (cL (cst m n) l)
 | [], ρ, ρ', s, z, b, _, _ => Cs.nil
 | x :: l, ρ, ρ', s, z, b, h, hs => by
  obtain ⟨ρ1, e1, e2⟩ := foldS_cons hs
  rw [foldC, cL_cons]
  exact (h x (by simp) ρ ρ1 s z b e1).append (foldC_cs l ρ1 ρ' _ _ _ (fun q hq => h q (by simp [hq])) e2)
theorem cS_cs {m : Int} (hm0 : 0 ≤ m) : ∀ (n : Nat) (x : M), Gd n x → ∀ (ρ ρ' : Env) (s : Sg) (z : Int) (b : Nat), stm n ρ x = .ok ρ' → Cs m b (cS n s z b x).1 (cst m n x)
 | 0, x, h => h.1.elim
 | n + 1, x, ⟨⟨h1, h2, h3⟩, mm, hm⟩ => fun ρ ρ' s z b hs => by
  obtain ⟨mm, rfl, hv0, hv2⟩ := stated_inv hm
  have sf := stated_form h1 hm
  rw [cst]
  by_cases q2 : x.Kind = 2
  ·obtain ⟨l2, hbr⟩ := hv2 q2
   obtain ⟨e, t, ht12, hkd⟩ := if_kids q2 hm
   have hex : ∃ ks, x.Kids = e :: t :: ks := by rcases hkd with hk | ⟨o, _, hk⟩ <;> exact ⟨_, hk⟩
   obtain ⟨ks, hks⟩ := hex
   obtain ⟨te, hte, hst⟩ := stm_inv hks hs
   rcases hst with ⟨q, _⟩ | ⟨_, rfl, hbs⟩ | ⟨_, q, _⟩
   ·omega
   ·have hE : XE ρ' n e := XE_of (h3 e (by rw [hks]; simp)) (hv0 e (by rw [hks]; rfl)) hte
    have hT := brs_none hbs
    have gd : ∀ k ∈ t :: ks, ∀ q ∈ brn k, Gd n q := fun k hk1 => by
     have hk2 : k ∈ x.Kids := by rw [hks]; simp at hk1 ⊢; exact .inr hk1
     obtain ⟨l', e1, e2, e3⟩ := branch_ok (h3 k hk2) ((hbr k (by rw [hks]; simpa using hk1)).imp (fun h => ⟨h.1, fun q hq => ⟨mm, h.2 q hq⟩⟩) fun h => ⟨h.1, mm, h.2⟩)
     rw [brn_eq] at e1
     cases e1
     exact e3
    have fd : ∀ k ∈ t :: ks, ∀ s z b, Cs m b (foldC (cS n) s z b (brn k)).1 (cL (cst m n) (brn k)) := fun k hk1 s z b => by
     obtain ⟨ρk, hk⟩ := hT k hk1
     exact foldC_cs _ ρ' ρk s z b (fun q hq => cS_cs hm0 n q (gd k hk1 q hq)) hk
    have ft := fd t (by simp)
    have pt : 0 ≤ cL (cst m n) (brn t) := cL_pos _ fun q _ => cst_pos hm0 n q
    rw [brn12 ht12] at ft pt
    rcases hkd with hkd | ⟨o, ho, hkd⟩
    ·rw [cS_2 q2 hkd rfl, hkd]
     simp only
     rw [if_pos q2, brn12 ht12]
     unfold Rt.Rc.if2
     exact (cE_cs n b e hE).append (Cs.if2 (ft _ _ _) pt)
    ·rw [hks] at hkd
     cases hkd
     have fo := fd o (by simp)
     rw [cS_3 q2 hks rfl rfl, hks]
     simp only
     rw [if_pos q2, brn12 ht12]
     unfold Rt.Rc.if3
     exact (cE_cs n b e hE).append (Cs.if3 (ft _ _ _) (fo _ _ _))
   ·exact absurd q2 q
  ·have hlast : ∀ (x' : I), x'.Op = 4 ∨ x'.Op = 11 → ∀ b, Cs m b [x'] 1 := fun x' h b => Cs.one' (by omega) (by omega) (by unfold wgt; rw [if_neg (by omega)])
   have hend : ∃ x' : I, (x'.Op = 4 ∨ x'.Op = 11) ∧ (cS (n + 1) s z b x).1 = hdC n s b x.Kids ++ [x'] := by
    by_cases q3 : x.Kind = 3
    ·rw [cS_let q3]; exact ⟨_, .inl rfl, rfl⟩
    ·obtain ⟨w, e, _⟩ := acs_eff sf q2 q3
     rw [cS_act q2 q3, e]; exact ⟨_, .inr rfl, rfl⟩
   obtain ⟨x', hx', e'⟩ := hend
   rw [e']
   match hks : x.Kids with
   | [] =>
    simp only [hdC, List.nil_append]
    exact hlast x' hx' b
   | e :: ks =>
    obtain ⟨te, hte, hst⟩ := stm_inv hks hs
    have hE : XE ρ n e := XE_of (h3 e (by rw [hks]; simp)) (hv0 e (by rw [hks]; rfl)) hte
    simp only [hdC]
    rw [if_neg q2]
    exact (cE_cs n b e hE).append (hlast x' hx' _)
end Rt.Rc
set_option linter.unusedVariables false
set_option linter.unusedSimpArgs false
open Go Go.SL Go.Proofs Pl
namespace Rt.Rc
def Rp (len : Nat) (A : Nat → Int) (l : List Int) : Prop := l.length = len + 1 ∧ ∀ j, j ≤ len → l[j]? = some (A j)
theorem Rp.ix {len j : Nat} {A : Nat → Int} {l : List Int} {z : Int} (h : Rp len A l) (hz : z = (j : Int)) (hj : j ≤ len) : ix l z = some (A j) := by
 subst hz
 unfold Go.SL.ix
 rw [if_pos (by omega), Int.toNat_natCast, h.2 j hj]
theorem Rp.set {len i : Nat} {A : Nat → Int} {l : List Int} {v : Int} (h : Rp len A l) (hi : i ≤ len) : Rp len (fun j => if j = i then v else A j) (l.set i v) := by
 refine ⟨by rw [List.length_set]; exact h.1, fun j hj => ?_⟩
 by_cases q : j = i
 ·subst q
  rw [List.getElem?_set_self (by rw [h.1]; omega)]
  simp
 ·rw [List.getElem?_set_ne (fun e => q e.symm), h.2 j hj]
  simp [q]
theorem long_in {w op nn : Int} {len i : Nat} {A : Nat → Int} {l : List Int} {F : Int → List Int → Option (Int × List Int)} (hR : Rp len A l) (hi : i < len) (hl : len ≤ 2048) (hA : ∀ j, 0 ≤ A j ∧ A j ≤ 100000) (hw : 0 ≤ w ∧ w ≤ 100) (hN : op = 9 ∨ op = 10 → 0 ≤ nn ∧ nn ≤ len) :
  ((chk (InI ((i : Int) + 1))).bind fun _ =>
  (ix l ((i : Int) + 1)).bind fun x42 =>
  if decide (op = 9) then
  (ix l nn).bind fun x50 =>
  if decide (op = 10) then
  (ix l nn).bind fun x59 =>
  (chk (InI (w + (max x50 x59)))).bind fun _ =>
  (ix l (i : Int)).bind fun x67 =>
  (chk (InI ((i : Int) - 1))).bind fun _ =>
  F ((i : Int) - 1) (l.set (((i : Int)).toNat) (w + (max x50 x59)))
  else
  (chk (InI (w + x50))).bind fun _ =>
  (ix l (i : Int)).bind fun x67 =>
  (chk (InI ((i : Int) - 1))).bind fun _ =>
  F ((i : Int) - 1) (l.set (((i : Int)).toNat) (w + x50))
  else
  if decide (op = 10) then
  (ix l nn).bind fun x59 =>
  (chk (InI (w + (max x42 x59)))).bind fun _ =>
  (ix l (i : Int)).bind fun x67 =>
  (chk (InI ((i : Int) - 1))).bind fun _ =>
  F ((i : Int) - 1) (l.set (((i : Int)).toNat) (w + (max x42 x59)))
  else
  (chk (InI (w + x42))).bind fun _ =>
  (ix l (i : Int)).bind fun x67 =>
  (chk (InI ((i : Int) - 1))).bind fun _ =>
  F ((i : Int) - 1) (l.set (((i : Int)).toNat) (w + x42))) = F ((i : Int) - 1) (l.set i (w + (if op = 9 then A nn.toNat else if op = 10 then max (A (i + 1)) (A nn.toNat) else A (i + 1)))) := by
 have h1 := hA (i + 1)
 have h2 := hA nn.toNat
 rw [chk_bind (by constructor <;> omega), hR.ix (j := i + 1) (by omega) (by omega), Option.bind_some]
 by_cases q9 : op = 9
 ·obtain ⟨n0, n1⟩ := hN (.inl q9)
  rw [if_pos (by simpa using q9), hR.ix (z := nn) (j := nn.toNat) (by omega) (by omega), Option.bind_some, if_neg (by simp; omega), chk_bind (by constructor <;> omega), hR.ix (j := i) rfl (by omega), Option.bind_some, chk_bind (by constructor <;> omega), if_pos q9, Int.toNat_natCast]
 ·by_cases q10 : op = 10
  ·obtain ⟨n0, n1⟩ := hN (.inr q10)
   rw [if_neg (by simpa using q9), if_pos (by simpa using q10), hR.ix (z := nn) (j := nn.toNat) (by omega) (by omega), Option.bind_some, chk_bind (by constructor <;> omega), hR.ix (j := i) rfl (by omega), Option.bind_some, chk_bind (by constructor <;> omega), if_neg q9, if_pos q10, Int.toNat_natCast]
  ·rw [if_neg (by simpa using q9), if_neg (by simpa using q10), chk_bind (by constructor <;> omega), hR.ix (j := i) rfl (by omega), Option.bind_some, chk_bind (by constructor <;> omega), if_neg q9, if_neg q10, Int.toNat_natCast]
theorem lw_bd {m : Int} (hm : 1 ≤ m ∧ m ≤ 40) : ∀ (L : List I) (b : Nat) (A : Nat → Int) (K : Int), 0 ≤ K → (∀ j, 0 ≤ A j ∧ A j ≤ K) → ∀ j, 0 ≤ lw m b L A j ∧ lw m b L A j ≤ K + 40 * L.length
 | [], b, A, K, hK, h, j => by have := h j; simp only [lw, List.length_nil]; omega
 | x :: L, b, A, K, hK, h, j => by
  have ih := lw_bd hm L (b + 1) A K hK h
  rw [lw, List.length_cons]
  show 0 ≤ (if j = b then _ else _) ∧ (if j = b then _ else _) ≤ _
  split
  ·have h1 := ih (b + 1)
   have h2 := ih x.N.toNat
   unfold wgt lnx
   constructor <;> (split <;> split <;> (try split) <;> omega)
  ·have := ih j
   omega
theorem long_L0 {m : Int} {c : List I} {n : Nat} (hm : 1 ≤ m ∧ m ≤ 40) (hl : c.length ≤ 2048) (hb : ∀ x ∈ c, isJ x = true → 0 ≤ x.N ∧ x.N ≤ c.length) : ∀ (i k : Nat) (l : List Int), i ≤ c.length → i + 1 ≤ k → Rp c.length (lw m i (c.drop i) (fun _ => 0)) l →
  ∃ l', Jz (c.map cv) m k ((i : Int) - 1) l = some (-1, l') ∧ Rp c.length (lw m 0 c (fun _ => 0)) l'
 | 0, k + 1, l, _, _, hR => ⟨l, by rw [Jz, if_neg (by simp)]; rfl, by simpa using hR⟩
 | i + 1, k + 1, l, hi, hk, hR => by
  have hlt : i < c.length := by omega
  have e0 : (((i + 1 : Nat) : Int) - 1) = (i : Int) := by omega
  have hx : ix (c.map cv) (i : Int) = some (cv c[i]) := by
   unfold ix
   rw [if_pos (by omega), Int.toNat_natCast, List.getElem?_map, List.getElem?_eq_getElem hlt]; rfl
  have hd : lw m i (c.drop i) (fun _ => 0) = fun j => if j = i then wgt m c[i] + lnx c[i] i (lw m (i + 1) (c.drop (i + 1)) (fun _ => 0)) else lw m (i + 1) (c.drop (i + 1)) (fun _ => 0) j := by
   rw [List.drop_eq_getElem_cons hlt, lw]
  have hA : ∀ j, 0 ≤ lw m (i + 1) (c.drop (i + 1)) (fun _ => 0) j ∧ lw m (i + 1) (c.drop (i + 1)) (fun _ => 0) j ≤ 100000 := fun j => by
   have := lw_bd hm (c.drop (i + 1)) (i + 1) (fun _ => 0) 0 (by omega) (fun _ => by simp) j
   have e : (c.drop (i + 1)).length = c.length - (i + 1) := List.length_drop
   omega
  have hN : (cv c[i]).Op = 9 ∨ (cv c[i]).Op = 10 → 0 ≤ (cv c[i]).N ∧ (cv c[i]).N ≤ (c.length : Int) := fun h => hb c[i] (List.getElem_mem hlt) (by have h' : c[i].Op = 9 ∨ c[i].Op = 10 := h; unfold isJ; simpa using h')
  have key : ∀ w, wgt m c[i] = w → ∃ l', Jz (c.map cv) m k ((i : Int) - 1) (l.set i (w + (if (cv c[i]).Op = 9 then lw m (i + 1) (c.drop (i + 1)) (fun _ => 0) (cv c[i]).N.toNat else if (cv c[i]).Op = 10 then max (lw m (i + 1) (c.drop (i + 1)) (fun _ => 0) (i + 1)) (lw m (i + 1) (c.drop (i + 1)) (fun _ => 0) (cv c[i]).N.toNat) else lw m (i + 1) (c.drop (i + 1)) (fun _ => 0) (i + 1)))) = some (-1, l') ∧ Rp c.length (lw m 0 c (fun _ => 0)) l' := by
   intro w hw
   have hR2 : Rp c.length (lw m i (c.drop i) (fun _ => 0)) (l.set i (w + (if (cv c[i]).Op = 9 then lw m (i + 1) (c.drop (i + 1)) (fun _ => 0) (cv c[i]).N.toNat else if (cv c[i]).Op = 10 then max (lw m (i + 1) (c.drop (i + 1)) (fun _ => 0) (i + 1)) (lw m (i + 1) (c.drop (i + 1)) (fun _ => 0) (cv c[i]).N.toNat) else lw m (i + 1) (c.drop (i + 1)) (fun _ => 0) (i + 1)))) := by
    rw [hd]
    subst hw
    exact hR.set (by omega)
   exact long_L0 (n := n) hm hl hb i k _ (by omega) (by omega) hR2
  have hwb : 0 ≤ wgt m c[i] ∧ wgt m c[i] ≤ 100 := by unfold wgt; split <;> omega
  rw [Jz, e0, if_pos (by simp), hx, Option.bind_some]
  by_cases q6 : (cv c[i]).Op = 6
  ·have hw : wgt m c[i] = m := by unfold wgt; exact if_pos (.inl q6)
   rw [if_pos (by simpa using q6), long_in hR hlt hl hA (by omega) hN]
   exact key m hw
  ·by_cases q7 : (cv c[i]).Op = 7 ∧ (cv c[i]).S = [43]
   ·have hw : wgt m c[i] = m := by unfold wgt; exact if_pos (.inr q7)
    rw [if_neg (by simpa using q6), if_pos (by simpa using q7), long_in hR hlt hl hA (by omega) hN]
    exact key m hw
   ·have hw : wgt m c[i] = 1 := by unfold wgt; exact if_neg (fun h => h.elim q6 q7)
    rw [if_neg (by simpa using q6), if_neg (by simpa using q7), long_in hR hlt hl hA (by omega) hN]
    exact key 1 hw
theorem long_eq {m : Int} {c : List I} {n : Nat} (hm : 1 ≤ m ∧ m ≤ 40) (hl : c.length ≤ 2048) (hn : 3000 ≤ n) (hb : ∀ x ∈ c, isJ x = true → 0 ≤ x.N ∧ x.N ≤ c.length) : Ja5 n (c.map cv) m = some (lw m 0 c (fun _ => 0) 0) := by
 unfold Ja5
 rw [List.length_map]
 have e1 : Int.toNat ((c.length : Int) + 1) = c.length + 1 := by omega
 have hR : Rp c.length (lw m c.length (c.drop c.length) (fun _ => 0)) (List.replicate (c.length + 1) 0) := by
  refine ⟨by simp, fun j hj => ?_⟩
  rw [List.drop_length, List.getElem?_replicate, if_pos (by omega)]
  rfl
 obtain ⟨l', h1, h2⟩ := long_L0 (n := n) hm hl hb c.length n _ (Nat.le_refl _) (by omega) hR
 rw [chk_bind (by constructor <;> omega), chk_bind (by simp only [lim]; omega), chk_bind (by constructor <;> omega), e1, h1, Option.bind_some]
 simp only
 rw [h2.ix (z := 0) (j := 0) rfl (by omega), Option.bind_some]
end Rt.Rc
set_option linter.unusedVariables false
set_option linter.unusedSimpArgs false
open Go Go.SL Go.Proofs Pl
namespace Rt.Rc
def QN (o : Option Int) : Prop := ∀ t, o = some t → t ≠ 1
theorem QN.ite {c : Bool} {a b : Option Int} (h1 : QN a) (h2 : QN b) : QN (if c = true then a else b) := by cases c <;> assumption
theorem QN.bind {α : Type} {o : Option α} {f : α → Option Int} (h : ∀ a, QN (f a)) : QN (o.bind f) := fun t ht => by
 cases o with
 | none => cases ht
 | some a => exact h a t ht
theorem QN.z : QN (some 0) := fun t h => by cases h; decide
theorem QN.t2 : QN (some 2) := fun t h => by cases h; decide
theorem QN.t3 : QN (some 3) := fun t h => by cases h; decide
theorem opr_ne1 {x : M} (l : List Int) (hx : x.Kind ≠ 17) : opr x l ≠ 1 := by
 have : QN (JH x l) := by
  unfold JH
  rw [if_neg (by simpa using hx)]
  refine .ite (.bind fun _ => .ite .t2 .z) ?_
  refine .ite (.bind fun _ => .ite .t2 .z) ?_
  refine .ite (.bind fun _ => .ite .t3 .z) ?_
  refine .ite (.bind fun _ => .ite .t3 .z) ?_
  refine .ite (.bind fun _ => .ite .t3 .z) ?_
  refine .ite ?_ .z
  refine .ite (.bind fun _ => .bind fun _ => .ite .t3 .z) ?_
  refine .ite (.bind fun _ => .bind fun _ => .ite .t3 .z) ?_
  refine .ite (.bind fun _ => .ite .t3 .z) ?_
  refine .ite (.bind fun _ => .ite .t3 .z) ?_
  exact .bind fun _ => .ite .t3 .z
 unfold opr
 cases q : JH x l with
 | none => simp
 | some t => exact this t q
theorem cx_stE {ρ : Env} : ∀ (d : Nat) (x : M) (t : Int), XE ρ d x → tyE d ρ x = .ok t → cx 1 d x ≤ stE d ρ x ∧ stE d ρ x ≤ cx 33 d x
 | 0, _, _, h, _ => h.elim
 | d + 1, x, t, ⟨hx, h⟩, ht => by
  have htv : tyv (d + 1) ρ x = t := by unfold tyv; rw [ht]
  rw [tyE] at ht
  cases q : kidsE (tyE d ρ) x.Kids with
  | error e => rw [q] at ht; cases ht
  | ok ts =>
   rw [q] at ht
   simp only at ht
   have hm := kidsE_mem q
   have hn := tyN_inv ht
   have hne : x.Kind ≠ 20 → x.Kind ≠ 21 → x.Kind ≠ 22 → x.Kind ≠ 23 → x.Kind ≠ 24 → x.Kind ≠ 17 → t ≠ 1 := fun a b c e f g => by
    rw [(hn.2.2.2.2.2 a b c e f).1]
    exact opr_ne1 ts g
   rw [stE, htv, cx, cx]
   unfold stN
   rcases h with ⟨q, _, _⟩ | ⟨q, _, _⟩ | ⟨q, _⟩ | ⟨q, _, _⟩ | ⟨q, k, hk, hxk⟩ | ⟨q, k, l, hk, hxk, hxl⟩
   ·simp [q]
   ·simp [q]
   ·simp [q]
   ·simp [q]
   ·obtain ⟨tk, htk⟩ := hm k (by rw [hk]; simp)
    have ih := cx_stE d k tk hxk htk
    rcases q with ⟨q, _⟩ | q
    ·simp only [q, hk, List.map_cons, List.map_nil, List.sum_cons, List.sum_nil, Int.add_zero]
     simp
     split <;> omega
    ·have := hne (by omega) (by omega) (by omega) (by omega) (by omega) (by omega)
     simp only [q, hk, this, List.map_cons, List.map_nil, List.sum_cons, List.sum_nil, Int.add_zero]
     simp
     omega
   ·obtain ⟨tk, htk⟩ := hm k (by rw [hk]; simp)
    obtain ⟨tl, htl⟩ := hm l (by rw [hk]; simp)
    have ih := cx_stE d k tk hxk htk
    have ih2 := cx_stE d l tl hxl htl
    rcases q with q | q | q | q | q | ⟨q, _⟩
    ·simp only [q, hk, hd0, List.map_cons, List.map_nil, List.sum_cons, List.sum_nil, Int.add_zero]
     simp
     omega
    ·simp only [q, hk, hd0, List.map_cons, List.map_nil, List.sum_cons, List.sum_nil, Int.add_zero]
     simp
     omega
    ·simp only [q, hk, List.map_cons, List.map_nil, List.sum_cons, List.sum_nil, Int.add_zero]
     simp
     split <;> omega
    ·have := hne (by omega) (by omega) (by omega) (by omega) (by omega) (by omega)
     simp only [q, hk, this, List.map_cons, List.map_nil, List.sum_cons, List.sum_nil, Int.add_zero]
     simp
     omega
    ·have := hne (by omega) (by omega) (by omega) (by omega) (by omega) (by omega)
     simp only [q, hk, this, List.map_cons, List.map_nil, List.sum_cons, List.sum_nil, Int.add_zero]
     simp
     omega
    ·have := hne (by omega) (by omega) (by omega) (by omega) (by omega) (by omega)
     simp only [q, hk, this, List.map_cons, List.map_nil, List.sum_cons, List.sum_nil, Int.add_zero]
     simp
     omega
theorem cL_foldW {n : Nat} : ∀ (l : List M) (ρ ρ' : Env), (∀ x ∈ l, ∀ ρ ρ', stm n ρ x = .ok ρ' → cst 1 n x ≤ wS n ρ x ∧ wS n ρ x ≤ cst 33 n x) → foldS (stm n) ρ l = .ok ρ' → cL (cst 1 n) l ≤ foldW (wS n) (stm n) ρ l ∧ foldW (wS n) (stm n) ρ l ≤ cL (cst 33 n) l
 | [], ρ, ρ', _, _ => by simp [cL, foldW]
 | x :: l, ρ, ρ', h, hs => by
  obtain ⟨ρ1, e1, e2⟩ := foldS_cons hs
  have h1 := h x (by simp) ρ ρ1 e1
  have h2 := cL_foldW l ρ1 ρ' (fun q hq => h q (by simp [hq])) e2
  rw [cL_cons, cL_cons, foldW, e1]
  simp only
  omega
theorem cst_wS : ∀ (n : Nat) (x : M), Gd n x → ∀ (ρ ρ' : Env), stm n ρ x = .ok ρ' → cst 1 n x ≤ wS n ρ x ∧ wS n ρ x ≤ cst 33 n x
 | 0, x, h => h.1.elim
 | n + 1, x, ⟨⟨h1, h2, h3⟩, mm, hm⟩ => fun ρ ρ' hs => by
  obtain ⟨mm, rfl, hv0, hv2⟩ := stated_inv hm
  rw [cst, cst, wS]
  match hks : x.Kids with
  | [] => simp only; omega
  | e :: ks =>
   obtain ⟨te, hte, hst⟩ := stm_inv hks hs
   have hE : XE ρ n e := XE_of (h3 e (by rw [hks]; simp)) (hv0 e (by rw [hks]; rfl)) hte
   have ce := cx_stE n e te hE hte
   simp only
   by_cases q2 : x.Kind = 2
   ·rw [if_pos q2, if_pos q2, if_pos q2]
    obtain ⟨l2, hbr⟩ := hv2 q2
    obtain ⟨e', t, ht12, hkd⟩ := if_kids q2 hm
    rcases hst with ⟨q, _⟩ | ⟨_, rfl, hbs⟩ | ⟨_, q, _⟩
    ·omega
    ·have hT := brs_none hbs
     have fd : ∀ k ∈ ks, cL (cst 1 n) (brn k) ≤ foldW (wS n) (stm n) ρ' (brn k) ∧ foldW (wS n) (stm n) ρ' (brn k) ≤ cL (cst 33 n) (brn k) := fun k hk1 => by
      have hk2 : k ∈ x.Kids := by rw [hks]; simp [hk1]
      obtain ⟨l', e1, e2, e3⟩ := branch_ok (h3 k hk2) ((hbr k (by rw [hks]; simpa using hk1)).imp (fun h => ⟨h.1, fun q hq => ⟨mm, h.2 q hq⟩⟩) fun h => ⟨h.1, mm, h.2⟩)
      rw [brn_eq] at e1
      cases e1
      obtain ⟨ρk, hk⟩ := hT k hk1
      exact cL_foldW (brn k) ρ' ρk (fun q hq => cst_wS n q (e3 q hq)) hk
     rcases hkd with hkd | ⟨o, ho, hkd⟩
     ·rw [hks] at hkd
      cases hkd
      have := fd t (by simp)
      simp only
      omega
     ·rw [hks] at hkd
      cases hkd
      have a := fd t (by simp)
      have b := fd o (by simp)
      simp only
      omega
    ·exact absurd q2 q
   ·rw [if_neg q2, if_neg q2, if_neg q2]
    omega
theorem prog_lw {m : Int} (hm : 0 ≤ m) {ys : List M} (hg : ∀ k ∈ ys, Gd 39 k) {ρ : Env} (hs : foldS (stm 39) base ys = .ok ρ) : lw m 0 (prog 39 ys) (fun _ => 0) 0 = cL (cst m 39) ys + 1 := by
 have h1 := foldC_cs (m := m) (n := 39) ys base ρ (fun _ => none) 0 0 (fun q hq => cS_cs hm 39 q (hg q hq)) hs
 have h2 : Cs m (0 + (foldC (cS 39) (fun _ => none) 0 0 ys).1.length) [haltI] 1 := Cs.one' (by simp [haltI]) (by simp [haltI]) (by simp [wgt, haltI])
 have := h1.append h2 (fun _ => 0)
 unfold prog
 rw [this]
 omega
theorem prog_jumps {ys : List M} : ∀ x ∈ prog 39 ys, isJ x = true → 0 ≤ x.N ∧ x.N ≤ (prog 39 ys).length := by
 intro x hx hj
 have hb := foldC_bd (g := cS 39) ys (fun _ => none) 0 0 fun x _ s z b => cS_bd 39 x s z b
 unfold prog at hx ⊢
 rw [List.length_append]
 rcases List.mem_append.1 hx with h | h
 ·have := hb x h hj
  simp only [List.length_cons, List.length_nil] at this ⊢
  omega
 ·simp at h
  subst h
  simp [isJ, haltI] at hj
end Rt.Rc
