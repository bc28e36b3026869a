import Derived.Test.YtdnelkmckpapgaaDoorRtAll
set_option linter.unusedVariables false
set_option linter.unusedSimpArgs false
open Go Go.SL Go.Proofs Pl Rt
namespace Rt
theorem awake_eq : law44_awake 400100 = some true := by decide +kernel
abbrev fresh : Str := [102, 114, 101, 115, 104, 95, 110, 97, 109, 101]
abbrev hdr : Str := [104, 101, 97, 100, 101, 114]
abbrev pth : Str := [112, 97, 116, 104]
theorem uses_L0 {f : N → Str → Option Bool} {s : Str} : ∀ (l : List N) (i : Nat), (∀ k ∈ l, ∃ b, f k s = some b) → ∃ r, law44_uses_L0 f s l i = some r
  | [], i, _ => ⟨_, rfl⟩
  | k :: l, i, h => by
    rw [law44_uses_L0]
    exact bind_ex (h k (by simp)) fun _ _ => ite_ex (fun _ => ⟨_, rfl⟩) fun _ => uses_L0 l (i + 1) fun k hk => h k (by simp [hk])
theorem uses_ok {s : Str} : ∀ (d n : Nat) (x : N), OkN d x → d + 1 ≤ n → ∃ b, law44_uses n x s = some b
  | 0, n, x, h, _ => h.elim
  | d + 1, 0, x, h, hn => by omega
  | d + 1, n + 1, x, h, hn => by
    obtain ⟨h1, h2, h3⟩ := h
    rw [law44_uses]
    refine ite_ex (fun _ => ⟨_, rfl⟩) fun _ => ?_
    rw [chk_bind (by simp only [szMax]; omega)]
    obtain ⟨r, hr⟩ := uses_L0 (f := law44_uses n) (s := s) x.Kids 0 fun c hc => uses_ok d n c (h3 c hc) (by omega)
    rw [hr, Option.bind_some]
    cases r <;> exact ⟨_, rfl⟩
def NoN : Nat → Str → M → Prop
  | 0, _, _ => True
  | d + 1, s, y => y.Text ≠ s ∧ ∀ k ∈ y.Kids, NoN d s k
theorem uses_L0_inv {f : N → Str → Option Bool} {s : Str} : ∀ (l : List N) (i : Nat), ((law44_uses_L0 f s l i).bind fun s0 => s0.el some fun t0 => some false) = some false → (∀ k ∈ l, f k s = some true → False) → ∀ k ∈ l, f k s = some false
  | [], i, _, _, k, hk => by cases hk
  | a :: l, i, h, ht, k, hk => by
    rw [law44_uses_L0] at h
    cases q : f a s with
    | none => rw [q] at h; cases h
    | some b =>
      rw [q, Option.bind_some] at h
      cases b with
      | true => exact (ht a (by simp) q).elim
      | false =>
        rw [if_neg (by simp)] at h
        rcases List.mem_cons.1 hk with rfl | hk
        · exact q
        · exact uses_L0_inv l (i + 1) h (fun k hk => ht k (by simp [hk])) k hk
theorem uses_L0_true {f : N → Str → Option Bool} {s : Str} : ∀ (l : List N) (i : Nat), ((law44_uses_L0 f s l i).bind fun s0 => s0.el some fun t0 => some false) = some false → ∀ k ∈ l, f k s = some true → False
  | [], i, _, k, hk, _ => by cases hk
  | a :: l, i, h, k, hk, hf => by
    rw [law44_uses_L0] at h
    cases q : f a s with
    | none => rw [q] at h; cases h
    | some b =>
      rw [q, Option.bind_some] at h
      cases b with
      | true => rw [if_pos rfl] at h; cases h
      | false =>
        rw [if_neg (by simp)] at h
        rcases List.mem_cons.1 hk with rfl | hk
        · rw [q] at hf; cases hf
        · exact uses_L0_true l (i + 1) h k hk hf
theorem uses_non {s : Str} : ∀ (d n : Nat) (x : N) (y : M), Cvd d x y → law44_uses n x s = some false → NoN d s y
  | 0, n, x, y, _, _ => trivial
  | d + 1, 0, x, y, hc, h => by rw [law44_uses] at h; cases h
  | d + 1, n + 1, x, y, hc, h => by
    obtain ⟨c1, c2, c3, c4⟩ := hc
    rw [law44_uses] at h
    by_cases q : x.Text = s
    · rw [if_pos (by simpa using q)] at h; cases h
    · rw [if_neg (by simpa using q)] at h
      obtain ⟨_, h⟩ := chkb h
      have hk := uses_L0_inv x.Kids 0 h (uses_L0_true x.Kids 0 h)
      refine ⟨by rw [c2]; exact q, fun b hb => ?_⟩
      obtain ⟨a, ha, hab⟩ := c4.mem b hb
      exact uses_non d n a b hab (hk a ha)
theorem kidsE_congr {f g : M → Except Fault Int} : ∀ {l : List M}, (∀ k ∈ l, f k = g k) → kidsE f l = kidsE g l
  | [], _ => rfl
  | k :: l, h => by
    rw [kidsE, kidsE, h k (by simp), kidsE_congr fun q hq => h q (by simp [hq])]
theorem tyE_ext {s : Str} {t : Int} {ρ : Env} : ∀ (d : Nat) (y : M), NoN d s y → tyE d (ext ρ s t) y = tyE d ρ y
  | 0, y, _ => rfl
  | d + 1, y, h => by
    obtain ⟨h1, h2⟩ := h
    rw [tyE, tyE, kidsE_congr fun k hk => tyE_ext d k (h2 k hk)]
    have e : ext ρ s t y.Text = ρ y.Text := by unfold ext; rw [if_neg fun h => h1 h.symm]
    have : ∀ ts, tyN (ext ρ s t) y ts = tyN ρ y ts := fun ts => by unfold tyN; rw [e]
    cases kidsE (tyE d ρ) y.Kids with
    | error e => rfl
    | ok ts => exact this ts
/-! ### the trees -/
def letM (s : Str) (y : M) : M := ⟨3, s, [y], 7⟩
def nmM (s : Str) : M := ⟨23, s, [], 9⟩
def cmpM (s : Str) : M := ⟨16, [61, 61], [nmM s, nmM s], 9⟩
def useM (s : Str) : M := ⟨2, [], [cmpM s, ⟨12, [], [], 9⟩], 9⟩
def yesM : M := ⟨22, [116, 114, 117, 101], [], 8⟩
def inM : M := ⟨2, [], [yesM, ⟨12, [], [letM fresh yesM, useM fresh], 0⟩], 8⟩
def letN (s : Str) (x : N) : N := ⟨3, s, [x], 7⟩
def nmN (s : Str) : N := ⟨23, s, [], 9⟩
def cmpN (s : Str) : N := ⟨16, [61, 61], [nmN s, nmN s], 9⟩
def useN (s : Str) : N := ⟨2, [], [cmpN s, ⟨12, [], [], 9⟩], 9⟩
def yesN : N := ⟨22, [116, 114, 117, 101], [], 8⟩
def inN : N := ⟨2, [], [yesN, ⟨12, [], [letN fresh yesN, useN fresh], 0⟩], 8⟩
theorem ty_nm {d : Nat} {ρ : Env} {s : Str} : tyE (d + 1) ρ (nmM s) = if ρ s = 0 then .error (9, 8) else .ok (ρ s) := by
  rw [tyE]
  simp only [nmM, kidsE]
  unfold tyN
  simp
theorem ty_cmp {d : Nat} {ρ : Env} {s : Str} : tyE (d + 2) ρ (cmpM s) = if ρ s = 0 then .error (9, 8) else .ok 3 := by
  rw [tyE]
  simp only [show (cmpM s).Kids = [nmM s, nmM s] from rfl, kidsE, ty_nm]
  by_cases q : ρ s = 0
  · rw [if_pos q, if_pos q]
  · rw [if_neg q, if_neg q]
    simp only
    have hop : opr (cmpM s) [ρ s, ρ s] = 3 := by
      unfold opr ruletype_operator
      simp [cmpM, ix]
    rw [tyN_op (by simp [cmpM]) (by simp [cmpM]) (by simp [cmpM]) (by simp [cmpM]) (by simp [cmpM]), hop]
    rfl
theorem st_use {d : Nat} {ρ : Env} {s : Str} : stm (d + 3) ρ (useM s) = if ρ s = 0 then .error (9, 8) else .ok ρ := by
  rw [stm]
  simp only [show (useM s).Kids = [cmpM s, ⟨12, [], [], 9⟩] from rfl, ty_cmp]
  by_cases q : ρ s = 0
  · rw [if_pos q, if_pos q]
  · rw [if_neg q, if_neg q]
    simp [useM, nds, brs, brn, foldS]
theorem st_let {d : Nat} {ρ : Env} {s : Str} {y : M} {t : Int} (h : tyE d ρ y = .ok t) : stm (d + 1) ρ (letM s y) = if ρ s = 0 then .ok (ext ρ s t) else .error (7, 4) := by
  rw [stm]
  simp only [show (letM s y).Kids = [y] from rfl, h]
  simp [letM, nds]
  rfl
theorem ty_yes {d : Nat} {ρ : Env} : tyE (d + 1) ρ yesM = .ok 3 := by
  rw [tyE]
  simp only [yesM, kidsE]
  unfold tyN
  simp
theorem st_in {d : Nat} {ρ : Env} : stm (d + 4) ρ inM = if ρ fresh = 0 then .ok ρ else .error (7, 4) := by
  have hb : foldS (stm (d + 3)) ρ (brn ⟨12, [], [letM fresh yesM, useM fresh], 0⟩) = if ρ fresh = 0 then .ok (ext ρ fresh 3) else .error (7, 4) := by
    unfold brn
    have hl : stm (d + 3) ρ (letM fresh yesM) = if ρ fresh = 0 then .ok (ext ρ fresh 3) else .error (7, 4) := st_let ty_yes
    simp only [if_true, foldS, hl]
    by_cases q : ρ fresh = 0
    · simp only [q, if_true]
      rw [st_use, show ext ρ fresh 3 fresh = 3 from if_pos rfl, if_neg (by omega)]
    · simp only [q, if_false]
  rw [stm]
  simp only [show inM.Kids = [yesM, ⟨12, [], [letM fresh yesM, useM fresh], 0⟩] from rfl, ty_yes]
  simp only [show inM.Kind = 2 from rfl, brs, hb]
  by_cases q : ρ fresh = 0
  · rw [if_pos q, if_pos q]; simp [nds]
  · rw [if_neg q, if_neg q]; simp [nds]
/-! ### good statements -/
def Gs (x : N) (y : M) : Prop := OkN 41 x ∧ Cvd 41 x y ∧ ruletree_stated 400100 y = some true ∧ depN 41 x ≤ 31
theorem chk_list {l : List N} {ys : List M} (h : A2 Gs l ys) (hl : l.length ≤ 10) (hc : cntNL 41 l ≤ 511) : law44_check 400100 l = some ((chkR 41 ys).1, (chkR 41 ys).2.getD 0) := by
  have hA : A2 (Cvd 41) l ys := h.imp_mem fun _ _ _ g => g.2.1
  have all : ∀ {l : List N} {ys : List M}, A2 Gs l ys → (∀ q ∈ l, OkN 41 q ∧ depN 41 q ≤ 31) ∧ ∀ q ∈ ys, ruletree_stated 400100 q = some true := fun h => by
    induction h with
    | nil => exact ⟨fun q hq => (by cases hq), fun q hq => by cases hq⟩
    | cons hp _ ih =>
      refine ⟨fun q hq => ?_, fun q hq => ?_⟩
      · rcases List.mem_cons.1 hq with rfl | hq
        · exact ⟨hp.1, hp.2.2.2⟩
        · exact ih.1 q hq
      · rcases List.mem_cons.1 hq with rfl | hq
        · exact hp.2.2.1
        · exact ih.2 q hq
  obtain ⟨a1, a2⟩ := all h
  have hok : OkN 42 ⟨1, [], l, 1⟩ := ⟨by simp, show l.length ≤ 700 by omega, fun k hk => (a1 k hk).1⟩
  have hcv : Cvd 42 ⟨1, [], l, 1⟩ ⟨1, [], ys, 1⟩ := ⟨rfl, rfl, rfl, hA⟩
  have hv : ruletree_Valid 400100 ⟨1, [], ys, 1⟩ = some true := by
    refine Valid_conv (d := 41) hok hcv (by omega) rfl rfl ?_ ?_ a2
    · rw [cntN_eq]; simp only; omega
    · have e1 : depN 42 ⟨1, [], l, 1⟩ = 1 + depNL 41 l 0 := rfl
      have := (depNL_le 41 l 0 31).2 ⟨by omega, fun q hq => (a1 q hq).2⟩
      show depN 42 ⟨1, [], l, 1⟩ ≤ 32
      omega
  obtain ⟨z, e, hz⟩ := Of_ok 42 400100 ⟨1, [], l, 1⟩ hok (by omega)
  obtain rfl := Cvd.func hz hcv
  unfold law44_check law44_Program
  rw [Option.bind_some, e, Option.bind_some, Check_pure (d := 41) (hcv.ok hok) (by omega) (by omega) hv, Option.bind_some, num_eq, Option.bind_some]
  rfl
theorem stated_let {s : Str} {y : M} (hs : ruletree_named 400099 s = some true) (hy : ruletree_expression 400099 y = some true) : ruletree_stated 400100 (letM s y) = some true := by
  unfold letM
  rw [show (400100 : Nat) = 400099 + 1 from rfl, ruletree_stated, if_neg (by simp), if_neg (by simp), if_neg (by simp), if_neg (by simp), if_pos (by simp), hs, Option.bind_some, if_neg (by simp), if_pos (by simp), show ix [y] 0 = some y from rfl, Option.bind_some, hy]
  rfl
theorem Gs_use (s : Str) (hs : ruletree_stated 400100 (useM s) = some true) (hl : s.length ≤ 3000) : Gs (useN s) (useM s) := by
  refine ⟨?_, ?_, hs, ?_⟩
  · refine ⟨by simp [useN], by simp [useN], fun k hk => ?_⟩
    simp only [useN, List.mem_cons, List.not_mem_nil, or_false] at hk
    rcases hk with rfl | rfl
    · refine ⟨by simp [cmpN], by simp [cmpN], fun k hk => ?_⟩
      simp only [cmpN, List.mem_cons, List.not_mem_nil, or_false] at hk
      rcases hk with rfl | rfl <;> exact ⟨hl, by simp [nmN], fun k hk => by simp [nmN] at hk⟩
    · exact ⟨by simp, by simp, fun k hk => by simp at hk⟩
  · exact ⟨rfl, rfl, rfl, .cons ⟨rfl, rfl, rfl, .cons ⟨rfl, rfl, rfl, .nil⟩ (.cons ⟨rfl, rfl, rfl, .nil⟩ .nil)⟩ (.cons ⟨rfl, rfl, rfl, .nil⟩ .nil)⟩
  · show (3 : Nat) ≤ 31
    omega
theorem Gs_let {s : Str} {x : N} {y : M} (hx : OkN 40 x) (hc : Cvd 40 x y) (hs : s.length ≤ 3000) (h : ruletree_stated 400100 (letM s y) = some true) (hd : depN 40 x ≤ 30) : Gs (letN s x) (letM s y) := by
  refine ⟨⟨hs, by simp [letN], fun k hk => by simp [letN] at hk; subst hk; exact hx⟩, ⟨rfl, rfl, rfl, .cons hc .nil⟩, h, ?_⟩
  have e : depN 41 (letN s x) = 1 + depNL 40 [x] 0 := rfl
  have := (depNL_le 40 [x] 0 30).2 ⟨by omega, fun q hq => by rw [List.mem_singleton] at hq; subst hq; exact hd⟩
  omega
theorem Gs_in : Gs inN inM := by
  have y1 : OkN 38 yesN := ⟨by simp [yesN], by simp [yesN], fun k hk => by simp [yesN] at hk⟩
  have y2 : OkN 40 yesN := ⟨by simp [yesN], by simp [yesN], fun k hk => by simp [yesN] at hk⟩
  refine ⟨?_, ?_, by decide +kernel, ?_⟩
  · refine ⟨by simp [inN], by simp [inN], fun k hk => ?_⟩
    simp only [inN, List.mem_cons, List.not_mem_nil, or_false] at hk
    rcases hk with rfl | rfl
    · exact y2
    · refine ⟨by simp, by simp, fun k hk => ?_⟩
      simp only [List.mem_cons, List.not_mem_nil, or_false] at hk
      rcases hk with rfl | rfl
      · exact ⟨by simp [letN], by simp [letN], fun k hk => by simp [letN] at hk; subst hk; exact y1⟩
      · refine ⟨by simp [useN], by simp [useN], fun k hk => ?_⟩
        simp only [useN, List.mem_cons, List.not_mem_nil, or_false] at hk
        rcases hk with rfl | rfl
        · refine ⟨by simp [cmpN], by simp [cmpN], fun k hk => ?_⟩
          simp only [cmpN, List.mem_cons, List.not_mem_nil, or_false] at hk
          rcases hk with rfl | rfl <;> exact ⟨by simp [nmN], by simp [nmN], fun k hk => by simp [nmN] at hk⟩
        · exact ⟨by simp, by simp, fun k hk => by simp at hk⟩
  · exact ⟨rfl, rfl, rfl, .cons ⟨rfl, rfl, rfl, .nil⟩ (.cons ⟨rfl, rfl, rfl, .cons ⟨rfl, rfl, rfl, .cons ⟨rfl, rfl, rfl, .nil⟩ .nil⟩ (.cons ⟨rfl, rfl, rfl, .cons ⟨rfl, rfl, rfl, .cons ⟨rfl, rfl, rfl, .nil⟩ (.cons ⟨rfl, rfl, rfl, .nil⟩ .nil)⟩ (.cons ⟨rfl, rfl, rfl, .nil⟩ .nil)⟩ .nil)⟩ .nil)⟩
  · show (5 : Nat) ≤ 31
    omega
theorem cnt_use (s : Str) : cntN 41 (useN s) = 5 := rfl
theorem cnt_in : cntN 41 inN = 10 := rfl
theorem cnt_let (s : Str) (x : N) : cntN 41 (letN s x) = 1 + cntN 40 x := by
  rw [cntN_eq]; simp only [letN, cntNL, List.map_cons, List.map_nil, List.sum_cons, List.sum_nil]; omega
end Rt
theorem Rt.loop1 {a1 a2 a3 a4 a5 a6 a7 a8 a9 a10 a11 a12 a13 a14 a15 e : S_ref43_Node} {k i : Nat} {b : Bool} {it : S_struct___list___ref43_Node__line_int__want_int__} {L : List S_struct___list___ref43_Node__line_int__want_int__}
    (hL : ∀ k i, law44_RuletypeScopes_L0 a1 a2 a3 a4 a5 a6 a7 a8 a9 a10 a11 a12 a13 a14 a15 400100 e (k + 1) i = (ix L (i : Int)).bind fun x113 =>
      (law44_uses 400100 e ([104, 101, 97, 100, 101, 114] : Str)).bind fun x116 =>
      (if (x116 && decide ((x113.list.length : Int) = 2)) then (ix x113.list 0).bind fun x126 =>
      some (decide (x126.Text = ([104, 101, 97, 100, 101, 114] : Str))) else some false).bind fun x130 =>
      if x130 then
      law44_RuletypeScopes_L0 a1 a2 a3 a4 a5 a6 a7 a8 a9 a10 a11 a12 a13 a14 a15 400100 e k (i + 1)
      else
      (law44_check 400100 x113.list).bind fun x134 =>
      if (decide (x134.1 ≠ x113.line) || decide (x134.2 ≠ x113.want)) then
      some (Fl.ret false)
      else
      law44_RuletypeScopes_L0 a1 a2 a3 a4 a5 a6 a7 a8 a9 a10 a11 a12 a13 a14 a15 400100 e k (i + 1))
    (hi : ix L (i : Int) = some it) (hu : law44_uses 400100 e ([104, 101, 97, 100, 101, 114] : Str) = some b) (hc : law44_check 400100 it.list = some (it.line, it.want)) :
    law44_RuletypeScopes_L0 a1 a2 a3 a4 a5 a6 a7 a8 a9 a10 a11 a12 a13 a14 a15 400100 e (k + 1) i = law44_RuletypeScopes_L0 a1 a2 a3 a4 a5 a6 a7 a8 a9 a10 a11 a12 a13 a14 a15 400100 e k (i + 1) := by
  rw [hL, hi, Option.bind_some, hu, Option.bind_some]
  have hx : ∃ d, (if (b && decide ((it.list.length : Int) = 2)) = true then (ix it.list 0).bind fun x126 => some (decide (x126.Text = ([104, 101, 97, 100, 101, 114] : Str))) else some false) = some d := ite_ex (fun h => by
    simp only [Bool.and_eq_true, decide_eq_true_eq] at h
    exact bind_ex (ix_ok (by omega) (by omega)) fun _ _ => ⟨_, rfl⟩) fun _ => ⟨_, rfl⟩
  obtain ⟨d, hd⟩ := hx
  rw [hd, Option.bind_some]
  cases d with
  | true => rw [if_pos rfl]
  | false => rw [if_neg (by simp), hc, Option.bind_some, if_neg (by simp)]
theorem Rt.run_items {a1 a2 a3 a4 a5 a6 a7 a8 a9 a10 a11 a12 a13 a14 a15 e : S_ref43_Node} {b : Bool} {L : List S_struct___list___ref43_Node__line_int__want_int__}
    (hL : ∀ k i, law44_RuletypeScopes_L0 a1 a2 a3 a4 a5 a6 a7 a8 a9 a10 a11 a12 a13 a14 a15 400100 e (k + 1) i = (ix L (i : Int)).bind fun x113 =>
      (law44_uses 400100 e ([104, 101, 97, 100, 101, 114] : Str)).bind fun x116 =>
      (if (x116 && decide ((x113.list.length : Int) = 2)) then (ix x113.list 0).bind fun x126 =>
      some (decide (x126.Text = ([104, 101, 97, 100, 101, 114] : Str))) else some false).bind fun x130 =>
      if x130 then
      law44_RuletypeScopes_L0 a1 a2 a3 a4 a5 a6 a7 a8 a9 a10 a11 a12 a13 a14 a15 400100 e k (i + 1)
      else
      (law44_check 400100 x113.list).bind fun x134 =>
      if (decide (x134.1 ≠ x113.line) || decide (x134.2 ≠ x113.want)) then
      some (Fl.ret false)
      else
      law44_RuletypeScopes_L0 a1 a2 a3 a4 a5 a6 a7 a8 a9 a10 a11 a12 a13 a14 a15 400100 e k (i + 1))
    (h0 : ∀ i, law44_RuletypeScopes_L0 a1 a2 a3 a4 a5 a6 a7 a8 a9 a10 a11 a12 a13 a14 a15 400100 e 0 i = some (Fl.go ()))
    (hu : law44_uses 400100 e ([104, 101, 97, 100, 101, 114] : Str) = some b) (hc : ∀ it ∈ L, law44_check 400100 it.list = some (it.line, it.want)) :
    ∀ (k i : Nat), i + k = L.length → law44_RuletypeScopes_L0 a1 a2 a3 a4 a5 a6 a7 a8 a9 a10 a11 a12 a13 a14 a15 400100 e k i = some (Fl.go ())
  | 0, i, _ => h0 i
  | k + 1, i, h => by
    have hi : i < L.length := by omega
    rw [loop1 hL (ixn hi) hu (hc _ (List.getElem_mem hi))]
    exact run_items hL h0 hu hc k (i + 1) (by omega)
set_option maxRecDepth 100000 in
theorem law44_RuletypeScopes_true (x : S_ref43_Node) (o0 : S_ref43_Node.ok x) : ∃ n, law44_RuletypeScopes n x = some true := by
  refine ⟨400100, ?_⟩
  unfold law44_RuletypeScopes
  rcases Large_ok (n := 400100) o0 (by omega) with hL | ⟨hL, hx⟩
  · rw [hL, Option.bind_some, if_pos rfl, Option.bind_some, if_pos rfl, Option.bind_some]
  · rw [hL, Option.bind_some, if_neg (by simp), awake_eq, Option.bind_some, Option.bind_some, if_neg (by simp)]
    have cN := Large_cnt hL
    obtain ⟨y, hy, cy⟩ := Of_ok 40 400100 x hx (by omega)
    have yok := cy.ok hx
    obtain ⟨u, hu⟩ := uses_ok (s := fresh) 40 400100 x hx (by omega)
    obtain ⟨u2, hu2⟩ := uses_ok (s := hdr) 40 400100 x hx (by omega)
    have lt : ∀ s, law44_let s x = some (letN s x) := fun _ => rfl
    have us : ∀ s, law44_use s = some (useN s) := fun _ => rfl
    have ly : law44_let fresh (⟨22, [116, 114, 117, 101], [], 8⟩ : N) = some (letN fresh yesN) := rfl
    simp only [lt, us, ly, Option.bind_some, law44_Program]
    rw [hu, Option.bind_some]
    cases u with
    | true => rfl
    | false =>
      have hnon := uses_non 40 400100 x y cy hu
      have po : OkN 42 ⟨1, [], [letN fresh x, useN fresh, useN fresh], 1⟩ := ⟨by simp, by simp, fun k hk => by
        simp only [List.mem_cons, List.not_mem_nil, or_false] at hk
        rcases hk with rfl | rfl | rfl
        · exact ⟨by simp [letN], by simp [letN], fun k hk => by simp [letN] at hk; subst hk; exact hx⟩
        · exact (Gs_use fresh (by decide +kernel) (by simp)).1
        · exact (Gs_use fresh (by decide +kernel) (by simp)).1⟩
      have gu := Gs_use fresh (by decide +kernel) (by simp)
      have pc : Cvd 42 ⟨1, [], [letN fresh x, useN fresh, useN fresh], 1⟩ ⟨1, [], [letM fresh y, useM fresh, useM fresh], 1⟩ := ⟨rfl, rfl, rfl, .cons ⟨rfl, rfl, rfl, .cons cy .nil⟩ (.cons gu.2.1 (.cons gu.2.1 .nil))⟩
      have pn : cntN 42 ⟨1, [], [letN fresh x, useN fresh, useN fresh], 1⟩ = 12 + cntN 40 x := by
        rw [cntN_eq]
        simp only [cntNL, List.map_cons, List.map_nil, List.sum_cons, List.sum_nil]
        rw [cnt_let, cnt_use]; omega
      obtain ⟨b, b1, b2⟩ := Valid_rel (n := 400100) (d := 41) po pc (by omega) (by omega) (by show cntN 42 _ ≤ 10000; omega)
      rw [if_neg (by simp), b1, Option.bind_some, Option.bind_some]
      cases b with
      | false => rfl
      | true =>
        rw [Bool.not_true, if_neg (by simp), size_val 42 400100 _ po (by omega) (by omega), Option.bind_some, Option.bind_some]
        by_cases qs : ((cntN 42 ⟨1, [], [letN fresh x, useN fresh, useN fresh], 1⟩ : Nat) : Int) > 200
        · rw [decide_eq_true qs]; rfl
        · rw [decide_eq_false qs, if_neg (by simp), depth_val 42 400100 _ po (by omega) (by omega), Option.bind_some, Option.bind_some]
          by_cases qd : ((depN 42 ⟨1, [], [letN fresh x, useN fresh, useN fresh], 1⟩ : Nat) : Int) > 20
          · rw [decide_eq_true qd]; rfl
          · rw [decide_eq_false qd, if_neg (by simp)]
            have e1 : depN 42 ⟨1, [], [letN fresh x, useN fresh, useN fresh], 1⟩ = 1 + depNL 41 [letN fresh x, useN fresh, useN fresh] 0 := rfl
            have e2 : depN 41 (letN fresh x) = 1 + depNL 40 [x] 0 := rfl
            have d1 := ((depNL_le 41 [letN fresh x, useN fresh, useN fresh] 0 19).1 (by omega)).2 (letN fresh x) (by simp)
            have d2 := ((depNL_le 40 [x] 0 18).1 (by omega)).2 x (by simp)
            have vi := Valid_inv b2 (letM fresh y) (by simp)
            obtain ⟨m, hm, hex, _⟩ := stated_inv vi
            have hm : m = 400099 := by omega
            subst hm
            have hye := hex y rfl
            have gl : ∀ s, ruletree_named 400099 s = some true → s.length ≤ 3000 → Gs (letN s x) (letM s y) := fun s hs hl => Gs_let hx cy hl (stated_let hs hye) (by omega)
            have gf := gl fresh (by decide +kernel) (by simp)
            have gp := gl pth (by decide +kernel) (by simp)
            have gh := gl hdr (by decide +kernel) (by simp)
            have guh := Gs_use hdr (by decide +kernel) (by simp)
            have gi := Gs_in
            have cl : ∀ s, cntN 41 (letN s x) ≤ 190 := fun s => by rw [cnt_let]; omega
            have cu : ∀ s, cntN 41 (useN s) = 5 := cnt_use
            have ci := cnt_in
            have c0 := chk_list (.cons gf .nil) (by simp) (by simp only [cntNL, List.map_cons, List.map_nil, List.sum_cons, List.sum_nil]; have := cl fresh; omega)
            rw [c0, Option.bind_some]
            have bf : base fresh = 0 := by decide
            have bp : base pth = 1 := by decide
            have bh : base hdr = 0 := by decide
            cases qt : tyE 40 base y with
            | error e =>
              have hne := tyE_err qt
              have : chkR 41 [letM fresh y] = (e.1, some e.2) := by
                unfold chkR
                rw [foldS, stm]
                simp only [show (letM fresh y).Kids = [y] from rfl, qt]
              rw [this, if_pos (by simpa using hne)]
            | ok t =>
              have tyt := tyE_rg rg_base qt
              have tne : t ≠ 0 := by rcases tyt with rfl | rfl | rfl <;> decide
              have l0 : ∀ s, stm 41 base (letM s y) = if base s = 0 then .ok (ext base s t) else .error (7, 4) := fun s => st_let qt
              have l1 : stm 41 (ext base fresh t) (letM fresh y) = .error (7, 4) := by
                have h := st_let (d := 40) (ρ := ext base fresh t) (s := fresh) (y := y) (t := t) (by rw [tyE_ext 40 y hnon]; exact qt)
                rw [show ext base fresh t fresh = t from if_pos rfl, if_neg tne] at h
                exact h
              have u0 : ∀ ρ s, stm 41 ρ (useM s) = if ρ s = 0 then .error (9, 8) else .ok ρ := fun ρ s => st_use
              have i0 : ∀ ρ, stm 41 ρ inM = if ρ fresh = 0 then .ok ρ else .error (7, 4) := fun ρ => st_in
              have xf : ∀ s, ext base s t s = t := fun s => if_pos rfl
              have r0 : chkR 41 [letM fresh y] = (0, none) := by unfold chkR; simp only [foldS, l0, bf, if_true]
              have r1 : chkR 41 [letM fresh y, useM fresh] = (0, none) := by unfold chkR; simp only [foldS, l0, bf, if_true, u0, xf, tne, if_false]
              have r2 : chkR 41 [useM fresh, letM fresh y] = (9, some 8) := by unfold chkR; simp only [foldS, u0, bf, if_true]
              have r3 : chkR 41 [letM fresh y, letM fresh y] = (7, some 4) := by unfold chkR; simp only [foldS, l0, bf, if_true, l1]
              have r4 : chkR 41 [inM, inM, letM fresh y, useM fresh] = (0, none) := by unfold chkR; simp only [foldS, i0, l0, bf, if_true, u0, xf, tne, if_false]
              have r5 : chkR 41 [inM, useM fresh] = (9, some 8) := by unfold chkR; simp only [foldS, i0, bf, if_true, u0]
              have r6 : chkR 41 [letM fresh y, inM] = (7, some 4) := by unfold chkR; simp only [foldS, i0, l0, bf, if_true, xf, tne, if_false]
              have r7 : chkR 41 [letM pth y] = (7, some 4) := by unfold chkR; simp [foldS, l0, bp]
              have r8 : chkR 41 [letM hdr y, useM hdr] = (0, none) := by unfold chkR; simp only [foldS, l0, bh, if_true, u0, xf, tne, if_false]
              rw [r0, if_neg (by simp), chk_bind (by constructor <;> omega)]
              have sz : ∀ (l : List N), (∀ q ∈ l, cntN 41 q ≤ 190) → l.length ≤ 2 → cntNL 41 l ≤ 511 := fun l h hl => by
                match l, hl with
                | [], _ => simp [cntNL]
                | [a], _ => have := h a (by simp); simp only [cntNL, List.map_cons, List.map_nil, List.sum_cons, List.sum_nil]; omega
                | [a, b], _ => have := h a (by simp); have := h b (by simp); simp only [cntNL, List.map_cons, List.map_nil, List.sum_cons, List.sum_nil]; omega
              have c1 := chk_list (.cons gf (.cons gu .nil)) (by simp) (by simp only [cntNL, List.map_cons, List.map_nil, List.sum_cons, List.sum_nil, cu]; have := cl fresh; omega)
              have c2 := chk_list (.cons gu (.cons gf .nil)) (by simp) (by simp only [cntNL, List.map_cons, List.map_nil, List.sum_cons, List.sum_nil, cu]; have := cl fresh; omega)
              have c3 := chk_list (.cons gf (.cons gf .nil)) (by simp) (by simp only [cntNL, List.map_cons, List.map_nil, List.sum_cons, List.sum_nil]; have := cl fresh; omega)
              have c4 := chk_list (.cons gi (.cons gi (.cons gf (.cons gu .nil)))) (by simp) (by simp only [cntNL, List.map_cons, List.map_nil, List.sum_cons, List.sum_nil, cu, ci]; have := cl fresh; omega)
              have c5 := chk_list (.cons gi (.cons gu .nil)) (by simp) (by simp only [cntNL, List.map_cons, List.map_nil, List.sum_cons, List.sum_nil, cu, ci]; omega)
              have c6 := chk_list (.cons gf (.cons gi .nil)) (by simp) (by simp only [cntNL, List.map_cons, List.map_nil, List.sum_cons, List.sum_nil, ci]; have := cl fresh; omega)
              have c7 := chk_list (.cons gp .nil) (by simp) (by simp only [cntNL, List.map_cons, List.map_nil, List.sum_cons, List.sum_nil]; have := cl pth; omega)
              have c8 := chk_list (.cons gh (.cons guh .nil)) (by simp) (by simp only [cntNL, List.map_cons, List.map_nil, List.sum_cons, List.sum_nil, cu]; have := cl hdr; omega)
              rw [r1] at c1
              rw [r2] at c2
              rw [r3] at c3
              rw [r4] at c4
              rw [r5] at c5
              rw [r6] at c6
              rw [r7] at c7
              rw [r8] at c8
              rw [show ((8 : Int)).toNat = 8 from rfl, run_items (L := [⟨[letN fresh x, useN fresh], 0, 0⟩, ⟨[useN fresh, letN fresh x], 9, 8⟩, ⟨[letN fresh x, letN fresh x], 7, 4⟩, ⟨[inN, inN, letN fresh x, useN fresh], 0, 0⟩, ⟨[inN, useN fresh], 9, 8⟩, ⟨[letN fresh x, inN], 7, 4⟩, ⟨[letN pth x], 7, 4⟩, ⟨[letN hdr x, useN hdr], 0, 0⟩]) (fun k i => rfl) (fun i => rfl) hu2 ?_ 8 0 rfl]
              · rfl
              · intro it hit
                simp only [List.mem_cons, List.not_mem_nil, or_false] at hit
                rcases hit with rfl | rfl | rfl | rfl | rfl | rfl | rfl | rfl
                · exact c1
                · exact c2
                · exact c3
                · exact c4
                · exact c5
                · exact c6
                · exact c7
                · exact c8
