/- The library: facts about walks, over any program. -/
import Derived.Test.YtiaaooopklhobaaGreatDoorLS
import Derived.Shelf.Strings.Builder1
set_option linter.unusedVariables false
set_option linter.unusedSimpArgs false
set_option linter.unusedSectionVars false
namespace Go.SL
open Go Go.RowKit Go.Shelf Go.Proofs
section
variable {P : Program} {ρ : Ren}
set_option maxHeartbeats 4000000 in
set_option maxRecDepth 100000 in
theorem qv8 (L : Lays.n169 P ρ) (X : Builder.Extra P ρ) {b g cap : Nat} {p : Value} {l : List UInt8} {cur : Array Value} {fz : Nat × Nat} {w : World} (h0 : l ≠ []) (hbk : w.heap[b]? = some (.cells #[p, .slice (some ⟨g, 0, none⟩) l.length cap] (ρ.t 72) (0, 0)))
  (hg : w.heap[g]? = some (.cells cur (ρ.t 5) fz)) (hcap : cap ≠ 0) (hle : l.length ≤ cur.size) (hm : l.length ≤ 9223372036854775807) (hcell : ∀ (j : Nat) (x : UInt8), l[j]? = some x → cur[j]? = some (Value.int .u8 (x.toNat : Int))) :
  Calls P (ρ.f 169) #[.pointer (some ⟨b, 0, none⟩)] w fun e w' => e = .returned (.string ⟨l.toArray⟩) ∧ w' = w.drew.freeze ⟨g, 0, none⟩ l.length := by
 have c1 : w.drew.cell? ⟨b, 1, none⟩ = some (.slice (some ⟨g, 0, none⟩) l.length cap) := by
  have : w.drew.heap[b]? = some (.cells #[p, .slice (some ⟨g, 0, none⟩) l.length cap] (ρ.t 72) (0, 0)) := hbk
  rw [Lib.cell_of_heap this]; rfl
 have hg' : w.drew.heap[g]? = some (.cells cur (ρ.t 5) fz) := hg
 have hSD : (Builtin.unsafeSliceData_ #[(ρ.t 37)] (ρ.t 127) #[.slice (some ⟨g, 0, none⟩) l.length cap]).run P w.drew = .ok (.pointer (some ⟨g, 0, none⟩)) w.drew :=
  Lib.run_unsafeSliceData_row _ _ _ _ _ _ hcap
 have hUS : (Builtin.unsafeString_ #[(ρ.t 127), (ρ.t 3)] (ρ.t 9) #[.pointer (some ⟨g, 0, none⟩), .int .i64 l.length]).run P w.drew = .ok (.string ⟨l.toArray⟩) (w.drew.freeze ⟨g, 0, none⟩ l.length) := by
  refine Lib.run_unsafeString_row w.drew (ρ.t 127) (ρ.t 3) (ρ.t 9) (ρ.t 5) L.t127 X.cellsByte g cur.size (by simp [World.shape?, hg']) l h0 hle hm ?_
  intro j x hx
  have := hcell j x hx
  rw [qbj, Nat.zero_add]
  simp [World.cell?, hg', this]
 obtain ⟨j1, j2, j3, j4⟩ := (⟨L.mixed, L.z9, L.v9, run_underlying L.t9⟩ : _ ∧ _ ∧ _ ∧ _)
 obtain ⟨k1, k2, k3, k4⟩ := (⟨L.t72, L.a72, L.z72, run_underlying L.t72⟩ : _ ∧ _ ∧ _ ∧ _)
 obtain ⟨m1, m2, m3, m4⟩ := (⟨L.a37, L.z37, L.a70, L.z70⟩ : _ ∧ _ ∧ _ ∧ _)
 obtain ⟨n1, n2, n3, n4⟩ := (⟨run_underlying L.t37, run_underlying L.t127, run_underlying L.t3, run_underlying L.t70⟩ : _ ∧ _ ∧ _ ∧ _)
 obtain ⟨q1, q2, q3, q4⟩ := (⟨L.t37, L.t127, L.t3, L.t9⟩ : _ ∧ _ ∧ _ ∧ _)
 go_enter L.f169, Body.n169_ntmps ρ
 go_wp2
 go_region_o
 all_goals (go_wp2; go_ret; exact ⟨rfl, rfl⟩)
end
open Go
section
variable {P : Program} {t : TypeId} {xo yo : Operand} {c : Value → Prop}
theorem qvc {x : UInt8} {n : Int} {yk : IntKind} {b : Int} (d : UInt8) (e1 : n = (x.toNat : Int)) (hb : 0 ≤ b) (hd : (2 : Int) ^ (min b.toNat 8) = (d.toNat : Int)) (h : c (.int .u8 ((x / d).toNat : Int))) : NStep P (.bin .shr t xo yo (.int .u8 n) (.int yk b)) c := by
 subst e1
 have e : (x.toNat : Int).fdiv (2 ^ (min b.toNat 8)) = ((x / d).toNat : Int) := by
  rw [hd, Int.fdiv_eq_ediv_of_nonneg _ (by omega)]; simp
 rw [← e] at h
 exact NStep.mk _ (fun w => by
  simp only [M.sem, eqGuard, binOp, Op.shift, qx1 (Int.not_lt.2 hb)]
  rfl) h
theorem qvd {x y : UInt8} {n m : Int} (e1 : n = (x.toNat : Int)) (e2 : m = (y.toNat : Int)) (h : c (.int .u8 ((x &&& y).toNat : Int))) : NStep P (.bin .and t xo yo (.int .u8 n) (.int .u8 m)) c := by
 subst e1 e2
 have e : ((BitVec.ofInt 8 (x.toNat : Int) &&& BitVec.ofInt 8 (y.toNat : Int)).toNat : Int) = ((x &&& y).toNat : Int) := by
  have k : ∀ z : UInt8, BitVec.ofInt 8 (z.toNat : Int) = z.toBitVec := fun z => by
   apply BitVec.eq_of_toNat_eq
   have := z.toNat_lt
   simp
  rw [k, k]; rfl
 have w : IntKind.u8.wrap ((x &&& y).toNat : Int) = ((x &&& y).toNat : Int) := by
  have := (x &&& y).toNat_lt
  exact qdq (by simp only [InK]; omega)
 exact NStep.mk _ (fun w' => by
  simp only [M.sem, eqGuard, binOp, Op.intBits]
  show Result.ok (Next.value (.int .u8 (IntKind.u8.wrap (((BitVec.ofInt 8 (x.toNat : Int) &&& BitVec.ofInt 8 (y.toNat : Int)).toNat : Nat) : Int)))) w' = _
  rw [e, w]) h
end
section
variable {P : Program} {κ β : Type}
abbrev EnD (β : Type) := List Value × β
def vAg (x : EnD β) : Value := .agg x.1.toArray
abbrev pAg (p : κ × EnD β) : κ × β := (p.1, p.2.2)
structure MR (R : Rp β) (K : Hp) (me : List (κ × EnD β)) (m : List (κ × β)) : Prop where
 eq : me.map pAg = m
 rd : ∀ p ∈ me, R K p.2.1 p.2.2
theorem MR.nil {R : Rp β} {K : Hp} : MR (κ := κ) R K [] [] := ⟨rfl, fun p h => by cases h⟩
theorem MR.mono {sz : Nat} {R : Rp β} (hR : qha sz R) {K K' : Hp} {me : List (κ × EnD β)} {m : List (κ × β)} (h : MR R K me m) (hk : K.Le K') : MR R K' me m := ⟨h.eq, fun p hp => hR.mono hk (h.rd p hp)⟩
theorem MR.len {R : Rp β} {K : Hp} {me : List (κ × EnD β)} {m : List (κ × β)} (h : MR R K me m) : me.length = m.length := by rw [← h.eq, List.length_map]
variable [DecidableEq κ]
theorem qrx (me : List (κ × EnD β)) (k : κ) : mget (me.map pAg) k = (mget me k).map (·.2) := by
 induction me with
 | nil => rfl
 | cons p me ih =>
  rw [List.map_cons, qcy, qcy, ih]
  by_cases h : p.1 = k
  ·rw [qx2 h, qx2 (show (pAg p).1 = k from h)]; rfl
  ·rw [qx1 h, qx1 (show ¬ (pAg p).1 = k from h)]
theorem MR.get {R : Rp β} {K : Hp} {me : List (κ × EnD β)} {m : List (κ × β)} (h : MR R K me m) (k : κ) : mget m k = (mget me k).map (·.2) := by rw [← h.eq, qrx]
theorem MR.set {R : Rp β} {K : Hp} {me : List (κ × EnD β)} {m : List (κ × β)} (h : MR R K me m) (k : κ) {cs : List Value} {x : β} (hr : R K cs x) : MR R K (mset me k (cs, x)) (mset m k x) := by
 constructor
 ·unfold mset
  rw [h.get]
  cases mget me k with
  | none => simp [← h.eq, pAg]
  | some y =>
   simp only [Option.map_some, ← h.eq, List.map_map]
   apply List.map_congr_left
   intro p _
   by_cases h : p.1 = k
   ·simp [pAg, h]
   ·simp [pAg, h]
 ·intro p hp
  unfold mset at hp
  cases hg : mget me k with
  | none =>
   rw [hg] at hp
   rcases List.mem_append.1 hp with hp | hp
   ·exact h.rd p hp
   ·simp at hp; subst hp; exact hr
  | some y =>
   rw [hg] at hp
   obtain ⟨q, hq, rfl⟩ := List.mem_map.1 hp
   split
   ·exact hr
   ·exact h.rd q hq
theorem qjl {t kt et b : Nat} {R : Rp β} {kenc : κ → Value} {me : List (κ × EnD β)} {m : List (κ × β)} {k : κ} {zs : List Value} {z : β} {K : Hp} {H H' : List HProp} {c : Value → Prop} (hr : Rem (qhl kenc vAg b me) H H')
  (ht : P.underlying t = some (.map kt et)) (hz : qbk P et = some (.agg zs.toArray)) (hk : qo8 P kt kenc) (hm : MR R K me m) (h0 : R K zs z) (h : ∀ cs, R K cs ((mget m k).getD z) → c (.tuple #[.agg cs.toArray, .bool (mget m k).isSome])) :
  RStepS P (.lookup t (.map (some b)) (kenc k) true) K H c := by
 refine qf0 (venc := vAg) (z := (zs, z)) hr ht hz hk ?_
 rw [hm.get] at h
 cases hg : mget me k with
 | none => rw [hg] at h; exact h zs h0
 | some x => rw [hg] at h; exact h x.1 (hm.rd _ (qq9 hg))
end
section
variable {α : Type} {enc : α → List Value} {a : Option Addr} {e sz cap : Nat} {l : List α} {H H' : List HProp} {K : Hp}
theorem qxf {σ : Type} {ws : List Nat} {sl : σ → List (Nat × Value)} {Hf : σ → List HProp} {C : σ → Hp → Prop} {μ : σ → Nat} {env0 : List Value} {K0 : Hp} {m : Nat} {env : List Value} (hi : Int) (hr : Rem (OwnL enc a e sz cap l) H H')
  (h : RoundStep ws sl Hf C μ env0 K0 m env K (OwnL enc a e sz cap (subL l 0 hi) :: H')) : RoundStep ws sl Hf C μ env0 K0 m env K H :=
 RoundStep.conv fun Γ w s => ⟨K, _, s.tk hr hi, h⟩
end
section
variable {P : Program} {α : Type} {enc : α → List Value} {a : Option Addr} {e sz cap : Nat} {l : List α} {H H' : List HProp} {K : Hp} {t : TypeId} {c : VP}
theorem qt4 (f : α → List Value) (l : List α) (lo : Nat) (x : α) : clr (l.map f) lo (f x) = (clr l lo x).map f := by
 unfold clr; simp [List.map_take]
theorem qve {lo n e2 c' ty : Nat} {z : Value} {x : α} {cs : Array Bool} (hr : Rem (OwnL enc a e sz cap l) H H') (ht : P.underlying t = some (.slice e2)) (hz : qbk P e2 = some z) (hzl : z.cells.toList = enc x) (hzs : (enc x).length = sz) (hz1 : allOne (enc x) = true) (hsz : 0 < sz)
  (hn : n = l.length - lo) (hlo : lo ≤ l.length) (h : c (.tuple #[]) K (OwnL enc a e sz cap (clr l lo x) :: H')) :
  WStep P (.builtin .clear #[t] ty cs [.slice (subA a cap lo sz) n c']) K H c := by
 refine qu5 (css := l.map enc) (zl := enc x) hr ht hz hzl hzs hz1 hsz (by rw [List.length_map]; exact hn) (by rw [List.length_map]; exact hlo) ?_
 rw [qt4]; exact h
end
instance (priority := low) InK.dec (k : IntKind) (e : Int) : Decidable (InK k e) := by cases k <;> (unfold InK; infer_instance)
end Go.SL
