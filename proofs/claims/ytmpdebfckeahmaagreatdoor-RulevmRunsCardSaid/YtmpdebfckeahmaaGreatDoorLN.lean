/- The library: facts about walks, over any program. -/
import Derived.Test.YtmpdebfckeahmaaGreatDoorLM
import Derived.Lib.SlTrimSet
import Derived.Lib.Bytealg
set_option linter.unusedVariables false
set_option linter.unusedSimpArgs false
set_option linter.unusedSectionVars false
set_option linter.unusedVariables false
set_option linter.unusedSimpArgs false
namespace Go.SL
open Go Go.RowKit
section
variable {P : Program}
def trimM (s cut : Str) : Option Str := if s.length ≤ 4611686018427387904 ∧ (cut.length ≤ 1000 ∧ (cut.all fun b => decide (b.toNat < 128)) = true) then some (Go.Lib.trimS s cut) else none
theorem trimM_some {s cut r : Str} (h : trimM s cut = some r) : s.length ≤ 4611686018427387904 ∧ cut.length ≤ 1000 ∧ (cut.all fun b => decide (b.toNat < 128)) = true ∧ r = Go.Lib.trimS s cut := by
 unfold trimM at h; split at h
 ·rename_i h1; cases h; exact ⟨h1.1, h1.2.1, h1.2.2, rfl⟩
 ·cases h
theorem trim_gen {f : FuncId} (hc : ∀ a w, (callFunc f a).run P w = .ok (.enter f a) w)
  (h1 : ∀ (s cutset : ByteArray) (w : World), s.size ≤ 9223372036854775807 → cutset.size < 4294967281 → (∀ (j : Nat) b, cutset.data.toList[j]? = some b → b.toNat < 128) →
   Calls P f #[.string s, .string cutset] w fun e w' => e = .returned (.string ⟨(Lib.trimS s.data.toList cutset.data.toList).toArray⟩) ∧ Below w.heap.size w w')
  {s cut r : Str} {K : Hp} (hm : trimM s cut = some r) : Fn P f [str s, str cut] K [] (fun v K' H' => v = str r ∧ H' = []) := by
 obtain ⟨h2, h3, h4, rfl⟩ := trimM_some hm
 refine ⟨hc, fun F Γ w st => ?_⟩
 refine (h1 ⟨s.toArray⟩ ⟨cut.toArray⟩ w (by simp [ByteArray.size]; omega) (by simp [ByteArray.size]; omega) (fun j b hb => ?_)).mono fun e w' ⟨g1, g2⟩ => ?_
 ·have hm := List.mem_of_getElem? (show cut[j]? = some b by simpa using hb)
  exact of_decide_eq_true (List.all_eq_true.1 h4 b hm)
 ·exact ⟨_, K, [], g1, .refl _, ⟨rfl, rfl⟩, st.below g2⟩
def ixByteM (s : Str) (c : UInt8) : Option Int := some (Go.Lib.indexByte s c)
theorem ixb_gen {f : FuncId} (hc : ∀ a w, (callFunc f a).run P w = .ok (.enter f a) w)
  (h1 : ∀ (s : ByteArray) (c : Int) (w : World), Calls P f #[.string s, .int .u8 c] w fun e w' => e = .returned (.int .i64 (Lib.indexByte s.data.toList c.toNat.toUInt8)) ∧ w' = w)
  {s : Str} {c : UInt8} {r : Int} {K : Hp} (hm : ixByteM s c = some r) : Fn P f [str s, .int .u8 (c.toNat : Int)] K [] (fun v K' H' => v = .int .i64 r ∧ H' = []) := by
 unfold ixByteM at hm
 cases hm
 refine ⟨hc, fun F Γ w st => ?_⟩
 refine (h1 ⟨s.toArray⟩ (c.toNat : Int) w).mono fun e w' ⟨g1, g2⟩ => ?_
 subst g2
 refine ⟨_, K, [], g1, .refl _, ⟨?_, rfl⟩, st⟩
 simp
end
end Go.SL
namespace Go.SL
open Go
section
variable {P : Program} {α : Type} {sz cap : Nat} {l : List α} {a : Option Addr} {c : Value → Prop}
theorem sl_head {t e n : Nat} {hi : Option Int} (ht : P.underlying t = some (.slice e)) (hsz : tySize P e = some sz) (hn : n = l.length) (hcap : l.length ≤ cap) (hb : (0 : Int) ≤ 0 ∧ 0 ≤ hiI l.length hi ∧ hiI l.length hi ≤ l.length)
  (h : c (.slice a (subL l 0 (hiI l.length hi)).length cap)) : NStep P (.slice t (.slice a n cap) none (vI hi) none) c := by
 refine sl_part (l := l) (lo := none) (hi := hi) ht hsz hn hcap hb ?_
 have e1 : subA a cap (loI none).toNat sz = a := by
  show (if cap = (0 : Int).toNat then a else a.map (·.add ((0 : Int).toNat * sz))) = a
  split
  ·rfl
  ·cases a <;> simp [Addr.add]
 rw [e1]
 exact h
end
end Go.SL
set_option linter.unusedVariables false
set_option linter.unusedSimpArgs false
namespace Go.SL
open Go
section
variable {P : Program} {D : Dr} {I : World → Prop} {ops : Array Oper}
theorem draw_P {z : Nat} (rk : Nat → Nat) (hrk : ∀ x, x < z → rk x < z) (hrz : ∀ x, z ≤ x → rk x = x) (hzs : z ≤ ops.size) (hsel : Region.noSelect ops = true) (hpairs : ∀ i, i < ops.size → (∀ x ∈ SL.pres ops ops.size i, rk x < rk i) ∧ ∀ x, x < ops.size → rk x < rk i → (i < z ∧ commF P D ops x i = true) ∨ x ∈ SL.pres ops ops.size i)
  {Q : Exit → Act → World → Prop} {T : Act → Fam → Prop}
  (hT : ∀ (fuel : Nat) (listed : Array Bool) (a : Act) (C : Fam) (G : HProp) (w : World), listed.size = ops.size → (∀ i, i < ops.size → (listed.getD i false = false ↔ z ≤ i)) → ops.size - z ≤ fuel → Down ops listed → C G w → T a C → wpAny P .any ops Q fuel listed a w) :
  ∀ (fuel : Nat) (l : List Nat) (listed : Array Bool) (a : Act) (C : Fam) (G : HProp) (w : World), listed.size = ops.size → l.Pairwise (fun x y => rk x < rk y) → (∀ i, i ∈ l ↔ i < z ∧ listed.getD i false = false) → (∀ i, z ≤ i → listed.getD i false = false) →
   l.length + (ops.size - z) ≤ fuel → Down ops listed → C G w → Good I C → SOpsF P D I ops T l a C → wpAny P .any ops Q fuel listed a w := by
 have hs : ∀ (j : Nat) (o : Oper) cs b, ops[j]? = some o → o.op ≠ .select cs b := fun j o cs b ho => Region.noSelect_spec hsel j o cs b ho
 intro fuel
 induction fuel with
 | zero =>
  intro l listed a C G w hsz hsort hmem hrest hlen hd hw hC h
  have hl : l = [] := List.eq_nil_of_length_eq_zero (by omega)
  subst hl
  refine hT 0 listed a C G w hsz (fun i hi => ⟨fun hf => ?_, fun hz => hrest i hz⟩) (by simpa using hlen) hd hw h
  rcases Nat.lt_or_ge i z with q | q
  ·have := (hmem i).2 ⟨q, hf⟩; simp at this
  ·exact q
 | succ fuel ih =>
  intro l listed a C G w hsz hsort hmem hrest hlen hd hw hC h
  rcases l with _ | ⟨i0, l0⟩
  ·refine hT (fuel + 1) listed a C G w hsz (fun i hi => ⟨fun hf => ?_, fun hz => hrest i hz⟩) (by simpa using hlen) hd hw h
   rcases Nat.lt_or_ge i z with q | q
   ·have := (hmem i).2 ⟨q, hf⟩; simp at this
   ·exact q
  ·refine ⟨fun hr => ?_, fun i hi => ?_⟩
   ·exfalso
    have hi := (hmem i0).1 (by simp)
    have hi1 : i0 < ops.size := by omega
    have : i0 ∈ Region.ready .any ops listed := by
     refine mem_ready.2 ⟨?_, ?_⟩
     ·have hlt : i0 < listed.size := by omega
      simpa [hlt] using hi.2
     ·refine ⟨ops[i0]'hi1, by simp [hi1], fun e he hb => ?_⟩
      have hp := (hpairs i0 hi1).1 e.on (by
       have : ops.size = ops.size - 1 + 1 := by omega
       rw [this, SL.pres]
       simp only [Array.getElem?_eq_getElem hi1, List.mem_flatMap, List.mem_filter]
       exact ⟨e, ⟨by simpa using he, hb⟩, by simp⟩)
      have hnl : e.on ∉ (i0 :: l0) := by
       intro hm
       rcases List.mem_cons.1 hm with e1 | hm
       ·rw [e1] at hp; omega
       ·have := List.rel_of_pairwise_cons hsort hm; omega
      have := mt (hmem e.on).2 hnl
      simp only [not_and, Bool.not_eq_false] at this
      refine this ?_
      have q1 := hrk i0 hi.1
      rcases Nat.lt_or_ge e.on z with q | q
      ·exact q
      ·have := hrz _ q; omega
    rw [hr] at this
    simp at this
   ·obtain ⟨hi2, oi, hoi, hi3⟩ := mem_ready.1 hi
    have hi1 : i < ops.size := (Array.getElem?_eq_some_iff.1 hoi).1
    have hready : ∀ o, ops[i]? = some o → ∀ e ∈ o.after, Region.binds .any e = true → listed.getD e.on false = true := by
     intro o ho e he hb
     rw [hoi] at ho; cases ho
     exact hi3 e he hb
    have hiz : i < z := by
     rcases Nat.lt_or_ge i z with q | q
     ·exact q
     ·exfalso
      have h0 := (hmem i0).1 (by simp)
      have hp : i0 ∈ SL.pres ops ops.size i := by
       rcases (hpairs i hi1).2 i0 (by omega) (by have := hrk i0 h0.1; rw [hrz i q]; omega) with h | h
       ·omega
       ·exact h
      have := hd.pres ops.size i hready i0 hp
      rw [h0.2] at this; cases this
    have hil : i ∈ i0 :: l0 := (hmem i).2 ⟨hiz, by
     have hlt : i < listed.size := by omega
     simpa [hlt] using hi2⟩
    generalize hll : i0 :: l0 = l at *
    obtain ⟨l1, l2, rfl⟩ := List.append_of_mem hil
    have hfirst : SOpF P D I ops i (SOpsF P D I ops T (l1 ++ l2)) a C := by
     refine SOpsF_first hoi (fun cs b => hs i oi cs b hoi) l1 l2 (fun x hx => ?_) a C ⟨G, w, hw⟩ hC h
     have hxl := (hmem x).1 (by simp [hx])
     have hxi : rk x < rk i := (List.pairwise_append.1 hsort).2.2 x hx i (by simp)
     have hnp : x ∉ SL.pres ops ops.size i := fun hp => by
      have := hd.pres ops.size i hready x hp
      rw [hxl.2] at this; cases this
     have hc : commF P D ops x i = true := by
      rcases (hpairs i hi1).2 x (by omega) hxi with hc | hc
      ·exact hc.2
      ·exact absurd hc hnp
     unfold commF at hc
     split at hc
     ·rename_i ox oi' hox hoi'
      rw [hoi] at hoi'; cases hoi'
      simp only [Bool.and_eq_true] at hc
      exact ⟨ox, hox, hc.1, fun cs b => hs x ox cs b hox, hc.2⟩
     ·cases hc
    refine wpOp_mono (fun a w ⟨C, G, hw, hC, hn⟩ => ?_) (wpOp_of_SOpF hw hC hfirst)
    have hp := List.pairwise_append.1 hsort
    refine ih (l1 ++ l2) _ a C G w (by simp [hsz]) ?_ ?_ ?_ ?_ ⟨?_⟩ hw hC hn
    ·exact List.pairwise_append.2 ⟨hp.1, (List.pairwise_cons.1 hp.2.1).2, fun x hx y hy => hp.2.2 x hx y (by simp [hy])⟩
    ·intro j
     have hj := hmem j
     by_cases e : j = i
     ·subst e
      constructor
      ·intro hm
       exfalso
       rcases List.mem_append.1 hm with hm | hm
       ·have := hp.2.2 j hm j (by simp); omega
       ·have := List.rel_of_pairwise_cons hp.2.1 hm; omega
      ·rintro ⟨hlt, hf⟩
       have hlt' : j < listed.size := by omega
       simp [hlt'] at hf
     ·rw [getD_set_ne _ (fun x => e x.symm), ← hj]
      simp [e]
    ·intro j hj
     rw [getD_set_ne _ (by omega)]; exact hrest j hj
    ·simp at hlen ⊢; omega
    ·intro j o ho hj e he hb
     by_cases eq : i = j
     ·subst eq; exact getD_set_true (hready o ho e he hb)
     ·rw [getD_set_ne _ eq] at hj
      exact getD_set_true (hd.down j o ho hj e he hb)
noncomputable def getK (l : List Oper) : Nat → (Oper → Prop) → Prop :=
 List.rec (motive := fun _ => Nat → (Oper → Prop) → Prop) (fun _ _ => False) (fun o _ ih n k => Nat.rec (motive := fun _ => Prop) (k o) (fun m _ => ih m k) n) l
noncomputable def permK (ops : List Oper) (pm : List Nat) : (List Oper → Prop) → Prop :=
 List.rec (motive := fun _ => (List Oper → Prop) → Prop) (fun k => k []) (fun i _ ih k => getK ops i fun o => ih fun r => k (o :: r)) pm
theorem getK_elim : ∀ (l : List Oper) (n : Nat) (k : Oper → Prop), getK l n k → ∃ o, l[n]? = some o ∧ k o
 | [], n, k, h => h.elim
 | o :: l, 0, k, h => ⟨o, rfl, h⟩
 | o :: l, n + 1, k, h => by
  have h : getK l n k := h
  obtain ⟨o', e, hk⟩ := getK_elim l n k h
  exact ⟨o', by simpa using e, hk⟩
def Picks (ops : List Oper) : List Nat → List Oper → Prop
 | [], [] => True
 | i :: pm, o :: l => ops[i]? = some o ∧ Picks ops pm l
 | _, _ => False
theorem permK_elim (ops : List Oper) : ∀ (pm : List Nat) (k : List Oper → Prop), permK ops pm k → ∃ l, Picks ops pm l ∧ k l
 | [], k, h => ⟨[], trivial, h⟩
 | i :: pm, k, h => by
  have h : getK ops i fun o => permK ops pm fun r => k (o :: r) := h
  obtain ⟨o, e, h⟩ := getK_elim _ _ _ h
  obtain ⟨l, hp, hk⟩ := permK_elim ops pm _ h
  exact ⟨o :: l, ⟨e, hp⟩, hk⟩
theorem draw_soundP {d : DrI} {ops : List Oper} {Qk : KP} {Γ : World} (hq0 : d.toDr.qs = []) : ∀ (l : List Oper) (pm : List Nat) (env : List Value) (K : Hp) (H : List HProp), Picks ops pm l → d.Keep K H →
  vcOpsF P d ops Qk l env K H → SOpsF P d.toDr d.I ops.toArray (QF Γ Qk) pm (act env) (SatF Γ K H)
 | [], [], env, K, H, _, _, h => ⟨env, K, H, rfl, rfl, h⟩
 | [], i :: pm, env, K, H, hk, _, h => hk.elim
 | o :: rest, [], env, K, H, hk, _, h => hk.elim
 | o :: rest, i :: pm, env, K, H, hk, hkeep, h => by
  have h0 : ops.toArray[i]? = some o := by simpa using hk.1
  have hrest : Picks ops pm rest := hk.2
  simp only [SOpsF]
  unfold SOpF
  simp only [h0]
  rcases guard_caseF h with ⟨hw, h⟩ | ⟨hw, h⟩
  ·rw [if_pos hw]
   cases hc : clsF P d.toDr o.op with
   | n =>
    have hs := op_strongF hq0 (opF_nr (.inl hc) h)
    simp only [clsF_n hc] at hs ⊢
    obtain ⟨v, h1, h2⟩ := hs
    exact ⟨v, fun w hi => by rw [act_eval]; exact h1 w hi, by rw [act_put]; exact draw_soundP hq0 rest pm _ K H hrest hkeep h2⟩
   | r =>
    have hs := op_strongF hq0 (opF_nr (.inr hc) h)
    simp only [clsF_r hc] at hs ⊢
    obtain ⟨v, h1, h2⟩ := hs
    exact ⟨v, fun G w hw => by rw [act_eval]; exact h1 Γ w (hw.conv fun h x => SepL.cut x), by rw [act_put]; exact draw_soundP hq0 rest pm _ K H hrest hkeep h2⟩
   | a =>
    simp only []
    rcases clsF_a hc with ⟨t, n, ps, ho⟩ | ⟨t, ho⟩ | ⟨t, l, x, ho⟩
    ·obtain ⟨dst, op, type, pos, after, guard⟩ := o
     simp only at ho; subst ho
     unfold opStepF at h
     simp only [evKp_eq] at h
     obtain ⟨f, ob, h1, h2⟩ := h.out
     refine ⟨f, ob, fun w => ?_, fun b _ => ?_⟩
     ·rw [act_eval]
      have := h1 w
      simp only [execOp, amap]
      exact this
     ·rw [act_put, satF_blk]
      exact draw_soundP hq0 rest pm _ K (Blk b ob :: H) hrest hkeep.more (h2 b)
    ·obtain ⟨dst, op, type, pos, after, guard⟩ := o
     simp only at ho; subst ho
     unfold opStepF at h
     obtain ⟨f, ob, h1, h2⟩ := h.out
     refine ⟨f, ob, fun w => ?_, fun b _ => ?_⟩
     ·rw [act_eval]
      have := h1 w
      exact this
     ·rw [act_put, satF_blk]
      exact draw_soundP hq0 rest pm _ K (Blk b ob :: H) hrest hkeep.more (h2 b)
    ·obtain ⟨dst, op, type, pos, after, guard⟩ := o
     simp only at ho; subst ho
     unfold opStepF at h
     simp only [evK_eq] at h
     obtain ⟨f, ob, h1, h2⟩ := h.out
     refine ⟨f, ob, fun w => ?_, fun b _ => ?_⟩
     ·rw [act_eval]
      have := h1 w
      exact this
     ·rw [act_put, satF_blk]
      exact draw_soundP hq0 rest pm _ K (Blk b ob :: H) hrest hkeep.more (h2 b)
   | w =>
    simp only []
    intro G w hw'
    refine Oper.wp_mono ?_ (op_w (clsF_w hc) (opF_w hc h G) hw')
    rintro a w' ⟨v, K', H', rfl, s', hk', H0, hsp, hkp, h'⟩
    refine ⟨v, SatF Γ K' H0, by rw [act_put], ?_, satF_good hkp, draw_soundP hq0 rest pm _ K' H0 hrest hkp h'⟩
    exact s'.conv fun h x => by
     have y := hsp.sep x
     exact (sep_move H0 [] G h).2 (by simpa using y)
  ·rw [if_neg (by rw [hw]; simp)]
   rw [act_put]
   exact draw_soundP hq0 rest pm _ K H hrest hkeep h
def rkP (pm : List Nat) (z i : Nat) : Nat := if i < z then pm.idxOf i else i
def okFP (P : Program) (D : Dr) (ops : Array Oper) (z : Nat) (pm : List Nat) : Bool :=
 Region.noSelect ops && P.follows .mixedOrders && decide (z ≤ ops.size) && decide (pm.length = z) && (List.range z).all (fun i => decide (pm.count i = 1)) && pm.all (fun i => decide (i < z)) &&
 (List.range ops.size).all fun i =>
  let ps := pres ops ops.size i
  ps.all (fun x => decide (rkP pm z x < rkP pm z i)) && (List.range ops.size).all fun x => !decide (rkP pm z x < rkP pm z i) || (decide (i < z) && commF P D ops x i) || ps.contains x
theorem sub_perm {z : Nat} {pm : List Nat} (h1 : ∀ i, i < z → pm.count i = 1) (h2 : ∀ i ∈ pm, i < z) : pm.Perm (List.range z) := by
 refine List.perm_iff_count.2 fun a => ?_
 rcases Nat.lt_or_ge a z with q | q
 ·rw [h1 a q, List.nodup_range.count, if_pos (List.mem_range.2 q)]
 ·rw [List.count_eq_zero_of_not_mem fun h => by have := h2 a h; omega, List.count_eq_zero_of_not_mem fun h => by have := List.mem_range.1 h; omega]
theorem rkP_lt {z : Nat} {pm : List Nat} (hm : ∀ i, i ∈ pm ↔ i < z) (hl : pm.length ≤ z) {x : Nat} (hx : x < z) : rkP pm z x < z := by
 unfold rkP; rw [if_pos hx]
 exact Nat.lt_of_lt_of_le (List.idxOf_lt_length_of_mem ((hm x).2 hx)) hl
theorem pm_sorted {z : Nat} : ∀ {pm : List Nat}, (∀ i, i ∈ pm ↔ i < z) → pm.Nodup → pm.Pairwise (fun x y => rkP pm z x < rkP pm z y) := by
 intro pm hm hn
 rw [List.pairwise_iff_getElem]
 intro i j hi hj hij
 unfold rkP
 rw [if_pos ((hm _).1 (List.getElem_mem hi)), if_pos ((hm _).1 (List.getElem_mem hj)), hn.idxOf_getElem, hn.idxOf_getElem]
 exact hij
theorem okFP_pairs {z : Nat} {pm : List Nat} (hok : okFP P D ops z pm = true) : Region.noSelect ops = true ∧ P.follows .mixedOrders = true ∧ z ≤ ops.size ∧ (∀ i, i ∈ pm ↔ i < z) ∧ (pm.Nodup ∧ pm.length = z) ∧
  ∀ i, i < ops.size → (∀ x ∈ SL.pres ops ops.size i, rkP pm z x < rkP pm z i) ∧ ∀ x, x < ops.size → rkP pm z x < rkP pm z i → (i < z ∧ commF P D ops x i = true) ∨ x ∈ SL.pres ops ops.size i := by
 simp only [okFP, Bool.and_eq_true, List.all_eq_true, List.mem_range, decide_eq_true_eq, Bool.or_eq_true, List.contains_iff_mem, Bool.not_eq_true', decide_eq_false_iff_not] at hok
 have hp := sub_perm hok.1.1.2 hok.1.2
 refine ⟨hok.1.1.1.1.1.1, hok.1.1.1.1.1.2, hok.1.1.1.1.2, fun i => by rw [hp.mem_iff, List.mem_range], ⟨hp.nodup_iff.2 List.nodup_range, hok.1.1.1.2⟩, fun i hi => ⟨(hok.2 i hi).1, fun x hx hr => ?_⟩⟩
 rcases (hok.2 i hi).2 x hx with (h | h) | h
 ·exact absurd hr h
 ·exact .inl h
 ·exact .inr h
theorem draw_go_P {ops : Array Oper} {env : List Value} {K : Hp} {H : List HProp} {Q : KP} (d : DrI) (z : Nat) (pm : List Nat) (hq0 : d.toDr.qs = []) (hok : okFP P d.toDr ops z pm = true) (hk : d.Keep K H)
  (hv : permK ops.toList pm fun l1 => cutK ops.toList z fun _ l2 => vcOpsF P d ops.toList (vcOps P (some ⟨⟨[], true⟩, fun _ => none, [], []⟩) ops.toList Q l2) l1 env K H) : DStep P ops env K H Q := by
 obtain ⟨lo, hpk, hv⟩ := permK_elim _ _ _ hv
 rw [cutK_eq] at hv
 obtain ⟨hsel, hmix, hzs, hmem, ⟨hnd, hlp⟩, hpairs⟩ := okFP_pairs hok
 have hrk : ∀ x, x < z → rkP pm z x < z := fun x hx => rkP_lt hmem (Nat.le_of_eq hlp) hx
 have hrz : ∀ x, z ≤ x → rkP pm z x = x := fun x hx => by unfold rkP; rw [if_neg (by omega)]
 refine ⟨fun Γ w s id Q' hQ => ?_⟩
 refine wp_region_any hmix ?_
 have h1 := draw_soundP (P := P) (Γ := Γ) (ops := ops.toList) hq0 lo pm env K H hpk hk hv
 simp only [Array.toArray_toList] at h1
 refine draw_P (rkP pm z) hrk hrz hzs hsel hpairs ?_ ops.size pm (Array.replicate ops.size false) (act env) (SatF Γ K H) (SepH []) _ (by simp) (pm_sorted hmem hnd) (fun i => ?_) (fun i hi => ?_) (by omega) ⟨?_⟩ (s.drew.conv fun h x => ?_) (satF_good hk) h1
 ·intro fuel listed a C G w hsz hl hf hd hw ht
  obtain ⟨env', K', H', rfl, rfl, hq⟩ := ht
  have s' : Sat Γ K' H' w := hw.conv fun h x => SepL.cut x
  have h2 := draw_sound (P := P) (Γ := Γ) (ops := ops.toList) (Qk := Q) (ops.toList.drop z) z env' K' H' (fun j hj => by simp) hq
  have hl2 : (ops.toList.drop z).length = ops.size - z := by simp
  rw [hl2] at h2
  simp only [Array.toArray_toList] at h2
  refine draw_from (z := z) hsel (fun i hzi hi => ⟨fun x hx => by
    have h := (hpairs i hi).1 x hx
    rw [hrz i hzi] at h
    rcases Nat.lt_or_ge x z with q | q
    ·omega
    ·rw [hrz x q] at h; exact h, fun x hx => by
    rcases (hpairs i hi).2 x (by omega) (by
     rw [hrz i hzi]
     rcases Nat.lt_or_ge x z with q | q
     ·have := hrk x q; omega
     ·rw [hrz x q]; exact hx) with h | h
    ·omega
    ·exact .inr h⟩) (Qn := Qd Γ Q) ?_ fuel (List.range' z (ops.size - z)) listed (act env') (Sat Γ K' H') w hsz List.pairwise_lt_range' (fun i => ?_) (fun i hi => (List.mem_range'_1.1 hi).1) (by simpa using hf) hd s' (fun _ _ => ⟨fun i o h => (by cases h), fun p hp => (by cases hp), fun p hp => (by cases hp)⟩) h2
  ·rintro a C w hw ⟨env', K', H', rfl, rfl, hq⟩
   exact hQ env' K' H' w hq hw
  ·rw [List.mem_range'_1]
   constructor
   ·intro hi; have : i < ops.size := by omega
    exact ⟨this, (hl i this).2 hi.1⟩
   ·intro hi; exact ⟨(hl i hi.1).1 hi.2, by omega⟩
 ·rw [hmem i]
  constructor
  ·intro hi
   have : i < ops.size := by omega
   exact ⟨hi, by simp [this]⟩
  ·exact fun hi => hi.1
 ·rcases Nat.lt_or_ge i ops.size with q | q
  ·simp [q]
  ·simp [Array.getD]
 ·intro i o ho hi
  have hlt : i < ops.size := (Array.getElem?_eq_some_iff.1 ho).1
  simp [hlt] at hi
 ·exact SepL.unglue' x
end
end Go.SL
