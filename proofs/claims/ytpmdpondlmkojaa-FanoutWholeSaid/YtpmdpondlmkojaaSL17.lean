/- Parts of a slice of one's own, not from its head: read alone in the place where they are made. -/
import Derived.Test.YtpmdpondlmkojaaSL15
set_option linter.unusedVariables false
set_option linter.unusedSimpArgs false
namespace Go.SL
open Go
section
variable {P : Program} {K : Hp} {H H' : List HProp} {α : Type} {enc : α → List Value} {a : Option Addr} {t tx e ty sz cap : Nat} {l new : List α} {cs : Array Bool} {c : Value → Prop}
/-- What is known of the room of a slice of one's own. -/
theorem CStep.ownLe {root : Code} {n : Nat} {p : List Nat} {env : List Value} {Q : Exit → KP} (hr : Rem (OwnL enc a e sz cap l) H H') (h : l.length ≤ cap → CStep P root n p env K H Q) : CStep P root n p env K H Q :=
  CStep.conv fun Γ w s => ⟨K, H, s, h (by simpa using (s.rem hr).ownLen)⟩
theorem sl_part {t e n : Nat} {lo hi : Option Int} (ht : P.underlying t = some (.slice e)) (hsz : tySize P e = some sz) (hn : n = l.length) (hcap : l.length ≤ cap) (hb : 0 ≤ loI lo ∧ loI lo ≤ hiI l.length hi ∧ hiI l.length hi ≤ l.length)
    (h : c (.slice (subA a cap (loI lo).toNat sz) (subL l (loI lo) (hiI l.length hi)).length (cap - (loI lo).toNat))) : NStep P (.slice t (.slice a n cap) (vI lo) (vI hi) none) c :=
  sl_sl ht hsz hn (hn ▸ hcap) hb h
theorem src_part {tx n e' e2 c' : Nat} {lo hi : Int} (ht : P.underlying tx = some (.slice e')) (hr : Rem (OwnL enc a e2 sz cap l) H H') (hb : 0 ≤ lo ∧ lo ≤ hi ∧ hi ≤ (l.length : Int)) (hn : n = (subL l lo hi).length)
    (hl : ∀ x, (enc x).length = sz) (ho : ∀ x, allOne (enc x) = true) : SrcOK P K H sz tx (.slice (subA a cap lo.toNat sz) n c') ((subL l lo hi).map enc) := by
  refine ⟨fun Γ w s => ?_, fun m hm => by obtain ⟨x, _, rfl⟩ := List.mem_map.1 hm; exact hl x, fun m hm => by obtain ⟨x, _, rfl⟩ := List.mem_map.1 hm; exact allOne_spec (ho x)⟩
  obtain ⟨K', h1, h2, h3⟩ := s.fzA hr
  have hle := (s.rem hr).ownLen
  have hc : RdC enc K' a cap sz l := ⟨h2, by simpa using hle⟩
  exact (src_k ht (hc.subC hb).rd hn).src Γ w h3
/-- A literal of bytes, converted to its own type: the run-time marks the place behind its last cell. -/
theorem cv_mark {t e e2 b n k : Nat} {c : VP} (ht : P.underlying t = some (.slice e)) (he : P.underlying e = some (.int .u8)) (hr : Rem (OwnL enc (some ⟨b, 0, none⟩) e2 sz cap l) H H')
    (h : c (.slice (some ⟨b, 0, none⟩) n k) K (OwnL enc (some ⟨b, 0, none⟩) e2 sz cap l :: H')) : WStep P (.conv t t (.slice (some ⟨b, 0, none⟩) n k)) K H c := by
  refine ⟨fun Γ w s => ?_⟩
  obtain ⟨h1, h2, ⟨h3, _⟩ | ⟨b', cur, fz, hfz, hb, g1, g2, g3, g4, s0⟩⟩ := (s.rem hr).own
  · cases h3
  · obtain rfl : b = b' := by simpa using hb
    have hblk := s0.blk
    have hsh : w.shape? b = some (e2, cur.size) := by unfold World.shape?; rw [hblk]
    obtain ⟨lo, hi⟩ := fz
    have hfr : ∀ f : Nat × Nat, f = (if lo == hi then (cur.size, cur.size + 1) else (min lo cur.size, max hi (cur.size + 1))) → (w.freeze ⟨b, cur.size, none⟩ 1).heap[b]? = some (.cells cur e2 f) := fun f hf => by
      unfold World.freeze
      rw [if_neg (by decide)]
      simp only [Array.getElem?_modify, if_true, hblk, Option.map_some, hf]
    refine ⟨_, w.freeze ⟨b, cur.size, none⟩ 1, .slice (some ⟨b, 0, none⟩) n k, K, _, ?_, .inl rfl, ?_, h⟩
    · simp [M.sem, convert, run_underlying ht, run_underlying he, markStringish, hsh]
    · have s1 : Sat Γ K (Blk b (.cells cur e2 _) :: H') (w.freeze ⟨b, cur.size, none⟩ 1) := s0.upd (by unfold World.freeze; rw [if_neg (by decide)]) (by unfold World.freeze; rw [if_neg (by decide)]) (by unfold World.freeze; rw [if_neg (by decide)]) (hfr _ rfl) (fun i hi' => by
        unfold World.freeze; rw [if_neg (by decide)]
        simp only [Array.getElem?_modify]; rw [if_neg (fun e => hi' e.symm)])
      refine s1.mkOwnF ?_ h1 h2 g1 g2 g3 g4
      right
      by_cases hq : lo = hi
      · simp [hq]
      · rcases hfz with h | h
        · cases h; exact absurd rfl hq
        · simp only at h
          have : (lo == hi) = false := by simpa using hq
          rw [this]; simp; omega
theorem Sat.unk {Γ : World} {K : Hp} {b : Nat} {o : Obj} {H : List HProp} {w : World} (s : Sat Γ K (Blk b o :: H) w) : K b = none := by
  obtain ⟨h, d, ⟨h1, h2, d12, l1, l2, a, rest⟩, y⟩ := s.heap
  have hbh : h b = some o := l1 b o a
  rcases d b with x | x
  · exact x
  · rw [hbh] at x; cases x
/-- What is known of a block becomes the block again. -/
theorem Sat.thaw {Γ : World} {K K2 : Hp} {b : Nat} {o : Obj} {H : List HProp} {w : World} (hk : K.Le K2) (hb : K b = none) (hb2 : K2 b = some o) (s : Sat Γ K2 H w) : ∃ K3 : Hp, K.Le K3 ∧ Sat Γ K3 (Blk b o :: H) w := by
  obtain ⟨h, d, rest, y⟩ := s.heap
  have hhb : h b = none := by
    rcases d b with x | x
    · rw [hb2] at x; cases x
    · exact x
  have hdj : (Hp.one b o).Disj h := fun i => by
    by_cases e : i = b
    · subst e; exact .inr hhb
    · exact .inl (by simp [Hp.one, e])
  refine ⟨fun i => if i = b then Option.none else K2 i, fun i o' hi => ?_, s.os, s.tape, s.output, fun i o' hi => ?_, Hp.join (Hp.one b o) h, fun i => ?_, ⟨Hp.one b o, h, hdj, Hp.Le.joinL _ _, Hp.Le.joinR hdj, by simp [Blk, Hp.one], rest⟩, fun i u hi => ?_⟩
  · have : i ≠ b := fun e => by subst e; rw [hb] at hi; cases hi
    simp [this, hk i o' hi]
  · by_cases e : i = b
    · simp [e] at hi
    · simp only [e, if_false] at hi; exact s.know i o' hi
  · by_cases e : i = b
    · exact .inl (by simp [e])
    · rcases d i with x | x
      · exact .inl (by simp [e, x])
      · exact .inr (by simp [Hp.join, Hp.one, e, x])
  · by_cases e : i = b
    · subst e
      simp [Hp.join, Hp.one] at hi
      subst hi; exact s.know _ _ hb2
    · simp [Hp.join, Hp.one, e] at hi
      exact y i u hi
/-- A slice of one's own, read by a function that keeps nothing of it: it is one's own again behind the call. -/
theorem Fn.lendA {f : FuncId} {args : List Value} {M : List HProp} {R : VP} {css : List (List Value)} (hc : ∀ a w, (callFunc f a).run P w = .ok (.enter f a) w) (hK : ∀ v K1 K2 H', R v K1 H' → R v K2 H')
    (h : ∀ K', K.Le K' → RdS K' a sz css → css.length ≤ cap → Fn P f args K' M R) : Fn P f args K (OwnA a e sz cap css :: M) (fun v K' H' => ∃ H0, H' = OwnA a e sz cap css :: H0 ∧ R v K' H0) := by
  refine ⟨hc, fun F Γ w s => ?_⟩
  have s' : Sat Γ K (OwnA a e sz cap css :: (M ++ [F])) w := s
  have hle := s'.ownLen
  obtain ⟨hl, ho, ⟨rfl, rfl, rfl, s0⟩ | ⟨b, cur, fz, hfz, rfl, k1, k2, k3, k4, s0⟩⟩ := s'.own
  · refine ((h K (.refl _) .nil hle).2 F Γ w s0).mono ?_
    rintro e' w' ⟨v, K', H', rfl, g1, g2, g3⟩
    exact ⟨v, K', _, rfl, g1, ⟨H', rfl, g2⟩, g3.mkNil⟩
  · have hb := s0.unk
    obtain ⟨K', h1, h2, h3⟩ := s0.freeze
    refine ((h K' h1 ⟨hl, ho, fun _ => ⟨b, 0, cur.toList.toArray, e, fz, rfl, by simpa using h2, fun i v hv => by simpa using k4 i v hv⟩⟩ k2).2 F Γ w h3).mono ?_
    rintro e' w' ⟨v, K2, H', rfl, g1, g2, g3⟩
    obtain ⟨K3, q1, q2⟩ := g3.thaw (h1.trans g1) hb (g1 _ _ h2)
    exact ⟨v, K3, _, rfl, q1, ⟨H', rfl, hK v K2 K3 H' g2⟩, q2.mkOwnF hfz hl ho k1 k2 k3 k4⟩
theorem Fn.lend {f : FuncId} {args : List Value} {M : List HProp} {R : VP} (hc : ∀ a w, (callFunc f a).run P w = .ok (.enter f a) w)
    (h : ∀ K', K.Le K' → RdC enc K' a cap sz l → Fn P f args K' M R) (hK : ∀ v K1 K2 H', R v K1 H' → R v K2 H') : Fn P f args K (OwnL enc a e sz cap l :: M) (fun v K' H' => ∃ H0, H' = OwnL enc a e sz cap l :: H0 ∧ R v K' H0) :=
  Fn.lendA hc hK fun K' h1 h2 h3 => h K' h1 ⟨h2, by simpa using h3⟩
theorem Fn.lendR {α : Type} {Rr : Rp α} {l : List α} {css : List (List Value)} {f : FuncId} {args : List Value} {M : List HProp} {R : VP} (hR : RpOK sz Rr) (hlr : LR Rr K css l) (hc : ∀ a w, (callFunc f a).run P w = .ok (.enter f a) w)
    (h : ∀ K', K.Le K' → LiC Rr K' a cap sz l → Fn P f args K' M R) (hK : ∀ v K1 K2 H', R v K1 H' → R v K2 H') : Fn P f args K (OwnA a e sz cap css :: M) (fun v K' H' => ∃ H0, H' = OwnA a e sz cap css :: H0 ∧ R v K' H0) :=
  Fn.lendA hc hK fun K' h1 h2 h3 => h K' h1 ⟨LiR.mk' h2 (hlr.mono hR h1), by rw [← hlr.len]; exact h3⟩
theorem cntz {α : Type} {l : List α} {i : Nat} {x : α} (h : l[i]? = some x) (hl : l.length ≤ szMax) : InK .i64 ((i : Int) + 1) := by
  have := (List.getElem?_eq_some_iff.1 h).1
  simp only [szMax] at hl
  simp only [InK]; omega
end
end Go.SL
