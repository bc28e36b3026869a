import Derived.Test.YtiaaooopklhobaaGreatDoorRtAm
import Derived.KernelRfl
set_option linter.unusedVariables false
set_option linter.unusedSimpArgs false
set_option maxRecDepth 100000
open Go Go.SL Go.Proofs Pl Vary Rt Rt.Rv
namespace Tn
abbrev NM : Nat := 2000100
theorem qsu : Jdg NM = some true := by decide +kernel
theorem qxg : ∀ (x y : Str), Op.bytesLess x y = decide (x < y)
  | x, [] => by cases x <;> simp [Op.bytesLess]
  | [], _ :: _ => by simp [Op.bytesLess]
  | a :: x, b :: y => by
    simp only [Op.bytesLess, qxg x y, List.cons_lt_cons_iff]
    by_cases h : a < b
    · simp [h]
    · by_cases k : a = b
      · subst k; simp [h]
      · simp [h, k]
theorem qt5 (l : List Str) : (sortS l).Pairwise (· ≤ ·) := by
  refine (List.pairwise_mergeSort (fun a b c h k => ?_) (fun a b => ?_) l).imp fun h => of_decide_eq_true h
  · exact decide_eq_true (List.le_trans (of_decide_eq_true h) (of_decide_eq_true k))
  · rcases List.le_total a b with h | h <;> simp [h]
theorem qnq (x : Str × Err) : ∀ (r q t : List Jt), Jb8 (q ++ r ++ t) x r.length q.length = some (if r.any (fun s => decide (s.An = x.1)) = true then Fl.ret 8 else Fl.go ())
  | [], q, t => rfl
  | s :: r, q, t => by
    have ih := qnq x r (q ++ [s]) t
    rw [List.length_cons, Jb8]
    have e : q ++ (s :: r) ++ t = q ++ s :: (r ++ t) := by simp
    rw [e, qqe, qx0]
    by_cases h : s.An = x.1
    · rw [qx2 (by simpa using h), qx2 (by simp [h])]
    · rw [qx1 (by simpa using h)]
      have e2 : q ++ s :: (r ++ t) = q ++ [s] ++ r ++ t := by simp
      rw [e2]
      have e3 : (q ++ [s]).length = q.length + 1 := by simp
      rw [e3] at ih
      rw [ih]
      simp [h]
structure DI (d : JJ) (pre : List Jt) : Prop where
  k : d.sites.map (·.1) = pre.map (·.An)
  n : (pre.map (·.An)).Nodup
  h : ∀ s ∈ pre, s.An.length ≤ 100
theorem step_cases {n : Nat} {d : JJ} {pre : List Jt} (s : Jt) (t : List Jt) (hn : 2000100 ≤ n) (hp : pre.length ≤ 100) (hD : DI d pre) :
    (∃ e, qbf n d s = some (some e, d) ∧ Jc9 n (pre ++ s :: t) (pre.length : Int) = some e ∧ e ≠ 0) ∨ ∃ d', qbf n d s = some (none, d') ∧ Jc9 n (pre ++ s :: t) (pre.length : Int) = some 0 ∧ DI d' (pre ++ [s]) := by
  obtain ⟨h, e, hh, hl⟩ := qr8 s.An
  have hx := qqe pre t s
  unfold qbf Jc9
  rw [hx, qx0, hh, qx0, qx0]
  cases e with
  | some e => left; rw [qx2 (by rfl), qx2 (by rfl), qx0, qx2 (by rfl)]; exact ⟨8, rfl, rfl, by decide⟩
  | none =>
    rw [qx1 (show ¬ ((h, (none : Err)).2.isSome = true) by simp)]
    rw [qx0, qx0]
    by_cases q2 : h = s.An
    · subst q2
      rw [qx1 (show ¬ (decide ((s.An, (none : Err)).1 ≠ s.An) = true) by simp)]
      rw [qad (by constructor <;> omega)]
      have hL := qnq (s.An, (none : Err)) pre [] (s :: t)
      rw [List.nil_append, List.length_nil] at hL
      rw [Int.toNat_natCast, hL, qx0]
      have hg : (mget d.sites s.An).isSome = pre.any (fun x => decide (x.An = s.An)) := by
        have h1 := qd4 d.sites s.An
        rw [hD.k] at h1
        cases q : mget d.sites s.An with
        | none =>
          have := h1.1 q
          symm
          rw [Option.isSome_none, List.any_eq_false]
          intro x hx e
          exact this (List.mem_map.2 ⟨x, hx, by simpa using e⟩)
        | some v =>
          have : s.An ∈ pre.map (·.An) := Classical.byContradiction fun hn => by rw [h1.2 hn] at q; cases q
          obtain ⟨x, hx, e⟩ := List.mem_map.1 this
          symm
          rw [Option.isSome_some, List.any_eq_true]
          exact ⟨x, hx, by simpa using e⟩
      by_cases q3 : pre.any (fun x => decide (x.An = s.An)) = true
      · left
        rw [qx2 (by rw [hg, q3]; simp), qx2 q3]
        exact ⟨8, rfl, rfl, by decide⟩
      · rw [qx1 (by rw [hg]; simpa using q3), qx1 q3, Rt.el_go]
        have ht : (((some s).bind fun x49 => (if decide (x49.Tenant < 0) = true then some true else (some s).bind fun x56 => some (decide (x56.Tenant > 15))).bind fun x60 => some x60) : Option Bool) = some (decide (s.Tenant < 0) || decide (s.Tenant ≥ 16)) := by
          by_cases q : s.Tenant < 0
          · simp [q]
          · by_cases q4 : s.Tenant ≥ 16
            · have : s.Tenant > 15 := by omega
              simp [q, q4, this]
            · have : ¬ s.Tenant > 15 := by omega
              simp [q, q4, this]
        rw [ht, qx0]
        by_cases q4 : (decide (s.Tenant < 0) || decide (s.Tenant ≥ 16)) = true
        · left
          rw [qx2 q4, qx2 q4]
          exact ⟨1, rfl, rfl, by decide⟩
        · rw [qx1 q4, qx1 q4]
          have hT : tnum n s.Program = _ := rfl
          rcases tnum_eq (n := n) (s := s.Program) hn with ⟨e, h1, h2, h3⟩ | ⟨c, h1, h2⟩
          · left
            rw [h1, qx0, qx2 (by rfl)]
            unfold tnum at h2
            rw [qx0, h2]
            exact ⟨e, rfl, rfl, h3⟩
          · right
            rw [h1, qx0, qx1 (by simp)]
            unfold tnum at h2
            rw [qx0, h2]
            have hmn : s.An ∉ pre.map (·.An) := fun hm => by
              obtain ⟨x, hx, e⟩ := List.mem_map.1 hm
              exact q3 (List.any_eq_true.2 ⟨x, hx, by simpa using e⟩)
            refine ⟨_, rfl, rfl, ?_, ?_, ?_⟩
            · show (mset d.sites s.An _).map (·.1) = _
              rw [qk1, hD.k, qx1 hmn]; simp
            · rw [List.map_append, List.nodup_append]
              refine ⟨hD.n, by simp, fun a ha b hb e => ?_⟩
              simp at hb; subst hb; subst e; exact hmn ha
            · intro x hx
              rcases List.mem_append.1 hx with hx | hx
              · exact hD.h x hx
              · rw [List.mem_singleton] at hx; subst hx; exact (hl rfl).1
    · left
      rw [qx2 (by simp [q2]), qx2 (by simp [q2])]
      exact ⟨8, rfl, rfl, by decide⟩
theorem qlg {n : Nat} (hn : 2000100 ≤ n) : ∀ (r pre : List Jt) (d : JJ), pre.length + r.length ≤ 100 → DI d pre →
    (∃ k e, tenant_New_L0 n r pre.length d = some (Fl.ret (none, k, some e)) ∧ JbS n (pre ++ r) r pre.length = some (Fl.ret (k, e)) ∧ e ≠ 0) ∨ ∃ d', tenant_New_L0 n r pre.length d = some (Fl.go d') ∧ JbS n (pre ++ r) r pre.length = some (Fl.go ()) ∧ DI d' (pre ++ r)
  | [], pre, d, _, hD => .inr ⟨d, rfl, rfl, by simpa using hD⟩
  | s :: r, pre, d, hl, hD => by
    rw [List.length_cons] at hl
    rw [tenant_New_L0, JbS]
    rcases step_cases (d := d) (pre := pre) s r hn (by omega) hD with ⟨e, h1, h2, h3⟩ | ⟨d', h1, h2, h3⟩
    · rw [h1, h2, qx0, qx0, qx2 (by rfl), qx2 (by simpa using h3)]
      exact .inl ⟨_, e, rfl, rfl, h3⟩
    · rw [h1, h2, qx0, qx0, qx1 (by simp), qx1 (by simp)]
      have ih := qlg hn r (pre ++ [s]) d' (by simp; omega) h3
      simpa using ih
theorem L2m (e0 : Str) : ∀ (l : List Jt) (i : Nat) (y : Bool), JaE e0 l i y = some (y || l.any (fun s => decide (s.An = e0)))
  | [], i, y => by rw [JaE]; simp
  | s :: l, i, y => by rw [JaE, L2m e0 l]; simp [Bool.or_assoc]
theorem L0m {l : List Jt} (hl : l.length ≤ 100) : ∀ (r pre : List Str), (pre ++ r).length ≤ 100 → (pre ++ r).Pairwise (fun a b => a < b) → (∀ x ∈ pre ++ r, x ∈ l.map (·.An)) → Ja0 (pre ++ r) l r pre.length = some (Fl.go ())
  | [], pre, _, _, _ => rfl
  | e :: r, pre, hz, hp, hm => by
    have ih := L0m hl r (pre ++ [e]) (by simpa using hz) (by simpa using hp) (by simpa using hm)
    have hlen : pre.length ≤ 100 := by rw [List.length_append] at hz; omega
    rw [Ja0]
    have hfirst : ((if decide ((pre.length : Int) > 0) = true then (chk (InI ((pre.length : Int) - 1))).bind fun _ => (ix (pre ++ e :: r) ((pre.length : Int) - 1)).bind fun x78 => some (!Op.bytesLess x78 e) else some false) : Option Bool) = some false := by
      rcases List.eq_nil_or_concat pre with rfl | ⟨q, a, rfl⟩
      · rfl
      · rw [List.concat_eq_append] at hp hlen ⊢
        have e1 : (((q ++ [a]).length : Nat) : Int) - 1 = (q.length : Int) := by simp
        rw [qx2 (by simp), e1, qad (by simp at hlen; constructor <;> omega)]
        have e2 : q ++ [a] ++ e :: r = q ++ a :: (e :: r) := by simp
        rw [e2, qqe, qx0, qxg]
        have : a < e := by
          rw [e2, List.pairwise_append] at hp
          exact (List.pairwise_cons.1 hp.2.1).1 e (by simp)
        simp [this]
    rw [hfirst, qx0, qx1 (by simp), qad (by simp only [qa1]; omega), L2m, qx0]
    have ha : l.any (fun s => decide (s.An = e)) = true := by
      obtain ⟨s, hs, h⟩ := List.mem_map.1 (hm e (by simp))
      exact List.any_eq_true.2 ⟨s, hs, by simpa using h⟩
    rw [ha, qx1 (by simp)]
    simpa using ih
theorem mkall (l : List Jt) (h : l.length ≤ qa1 ∧ ∀ y0 ∈ l, Jt.ok y0) : Jb1 NM l = some true := by
  obtain ⟨b, hb, hS⟩ := qv1 (r := ⟨[], [], []⟩) h.1 (fun x hx => ⟨(h.2 x hx).1, (h.2 x hx).2.2⟩) ⟨by simp [qa1], by simp [qa1], fun x hx => by cases hx⟩
  unfold Jb1
  rw [hb, qx0]
  cases b with
  | true => rw [qx2 rfl, qx0, qx0, qx2 rfl, qsu]; rfl
  | false =>
    have hn := (hS rfl).n
    rw [qx1 (by simp), qsu, qx0, qx0, qx0, qx1 (by simp)]
    have hD : DI ⟨[]⟩ [] := ⟨rfl, by simp, fun s h => by cases h⟩
    have hc := qlg (n := NM) (by decide) l [] ⟨[]⟩ (by simp; omega) hD
    rw [List.length_nil, List.nil_append] at hc
    rcases hc with ⟨k, e, h1, h2, h3⟩ | ⟨d', h1, h2, h3⟩
    · have hN : tenant_New NM l = some (none, k, some e) := by unfold tenant_New; rw [qad h.1, h1]; rfl
      have hC : Jcg NM l = some (k, e) := by unfold Jcg; rw [qad h.1, h2]; rfl
      rw [hN, qx0]
      show (Jcg NM l).bind _ = _
      rw [hC, qx0, qx2 (by simpa using h3), qx2 (by simp), qht]
      simp
    · have hN : tenant_New NM l = some (some d', 0, none) := by unfold tenant_New; rw [qad h.1, h1]; rfl
      have hC : Jcg NM l = some (0, 0) := by unfold Jcg; rw [qad h.1, h2]; rfl
      have hH : tenant_Directory_Hosts d' = some (sortS (l.map (·.An))) := by
        unfold tenant_Directory_Hosts qnp qlf qp0
        rw [qx0, h3.k, qx2]
        · rfl
        · refine ⟨by rw [List.length_map]; simp only [lim]; omega, List.all_eq_true.2 fun x hx => ?_⟩
          obtain ⟨s, hs, rfl⟩ := List.mem_map.1 hx
          have := h3.h s hs
          exact decide_eq_true (by simp only [lim]; omega)
      have hpm : (sortS (l.map (·.An))).Perm (l.map (·.An)) := List.mergeSort_perm _ _
      have hle : (sortS (l.map (·.An))).length = l.length := by rw [hpm.length_eq, List.length_map]
      rw [hN, qx0]
      show (Jcg NM l).bind _ = _
      rw [hC, qx0, qx1 (by simp), qx1 (by simp), hH, qx0, qx1 (by rw [hle]; simp), qad (by rw [hle]; exact h.1)]
      have hL := L0m (l := l) (by omega) (sortS (l.map (·.An))) [] (by rw [List.nil_append, hle]; omega) (by
        rw [List.nil_append]
        have n1 : (sortS (l.map (·.An))).Pairwise (· ≠ ·) := hpm.nodup_iff.2 h3.n
        exact (List.Pairwise.and (qt5 _) n1).imp fun ⟨a, b⟩ => Classical.byContradiction fun hn => b (List.le_antisymm a (List.not_lt.1 hn))) (fun x hx => hpm.mem_iff.1 (by simpa using hx))
      rw [List.nil_append, List.length_nil] at hL
      rw [hL]; rfl
end Tn
theorem JdI (l : List Jt) (h : l.length ≤ qa1 ∧ ∀ y0 ∈ l, Jt.ok y0) : ∃ n, Jb1 n l = some true := ⟨Tn.NM, Tn.mkall l h⟩
