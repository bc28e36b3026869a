/- The library: facts about walks, over any program. -/
import Derived.Test.YtiaaooopklhobaaGreatDoorLO
import Derived.Lib.Atoi
set_option linter.unusedVariables false
set_option linter.unusedSimpArgs false
set_option linter.unusedSectionVars false
namespace Go.SL
open Go Go.RowKit
theorem qrp (w : World) (e : TypeId) (s : ByteArray) : Below w.heap.size w (Lib.bytesWorld w e s) :=
 ⟨by unfold Lib.bytesWorld; rfl, by unfold Lib.bytesWorld; rfl, by unfold Lib.bytesWorld; rfl, by rw [Lib.bytesWorld_size]; omega, fun k hk => Lib.bytesWorld_at_old w e s k hk⟩
def qok (s : Str) : Option (Int × Err) := if s.length ≤ 18 then (Go.Lib.atoi s).map fun v => (v, none) else none
theorem qrq {P : Program} {f : FuncId} {T : TypeId} (hc : ∀ a w, (callFunc f a).run P w = .ok (.enter f a) w)
  (h1 : ∀ (s : ByteArray) (n : Int) (w : World), s.size ≤ 18 → Lib.atoi s.data.toList = some n →
   Calls P f #[.string s] w fun e w' => e = .returned (.tuple #[.int .i64 n, .nilIface]) ∧ ∃ t, w' = Lib.bytesWorld w T t)
  {s : Str} {r : Int × Err} {K : Hp} {E : TypeId} (hm : qok s = some r) : Fn P f [str s] K [] (fun v K' H' => v = .tuple #[.int .i64 r.1, qc3 E r.2] ∧ H' = []) := by
 unfold qok at hm
 split at hm
 ·rename_i hl
  obtain ⟨n, hn, rfl⟩ := Option.map_eq_some_iff.1 hm
  refine ⟨hc, fun F Γ w st => ?_⟩
  refine (h1 ⟨s.toArray⟩ n w (by simp [ByteArray.size]; exact hl) (by simpa using hn)).mono fun e w' ⟨g1, t, g2⟩ => ?_
  subst g2
  exact ⟨_, K, [], g1, .refl _, ⟨rfl, rfl⟩, st.below (qrp w T t)⟩
 ·cases hm
open Go
open Go
section
variable {P : Program} {α : Type} {enc : α → List Value} {e e' sz cap : Nat} {a : Option Addr} {css : List (List Value)} {ls : List (List α)} {K : Hp} {H H1 H2 H3 : List HProp} {c : VP}
theorem qhn {k : IntKind} {L : List Int} {pre post cs : List Value} {n : Int} {b t T o : Nat} {d : DrI} {c : Value → Prop} (hm : (b, Obj.cells cs.toArray T (0, 0)) ∈ d.priv) (ht : tyShape P t = some none) (ho : o = pre.length + n.toNat) (hc : cs = pre ++ (L.map (.int k) ++ post)) (h0 : 0 ≤ n) (h1 : n < (L.length : Int))
  (h : c (.int k (L.getD n.toNat 0))) : LStep P (.load t (.pointer (some ⟨b, o, none⟩))) d c := by
 subst ho
 exact qap hm ht (qmo hc h0 h1) h
theorem qu8 {K0 : Hp} {F : HProp} {R : VP} {v : Value} {b T : Nat} {cs cs' : List Value} (hr : Rem (Cells b T cs) H H1) (e : cs = cs') (h : EndStep K0 F R v K (Cells b T cs' :: H1)) : EndStep K0 F R v K H :=
 EndStep.conv fun Γ w s => ⟨K, _, by subst e; exact s.rem hr, h⟩
end
open Go
open Go
section
variable {P : Program}
def LV (P : Program) (W : World) (laid : List (String × DataW Unit)) : Prop := ∃ ps, DataW.LaidVars P W laid ps
theorem qpr {W : World} {laid : List (String × DataW Unit)} (h : laidMet P laid W) : LV P W laid := let ⟨ps, a, _⟩ := h; ⟨ps, a⟩
theorem qcd {W : World} {x : String × DataW Unit} {laid : List (String × DataW Unit)} (h : LV P W (x :: laid)) : LV P W laid := by
 obtain ⟨ps, g, t, cs, fuel, p, q, _, _, _, _, h, _⟩ := h
 exact ⟨q, h⟩
theorem qho {W : World} {name : String} {g t e : Nat} {l : List Str} {rest : List (String × DataW Unit)} (hg : P.globalNamed name = some g) (hty : (P.globals[g]?).map (·.type) = some t) (ht : P.underlying t = some (.slice e)) (he : P.underlying e = some .string) (hce : P.cellsOf e = 1)
  (h : LV P W ((name, txtD l) :: rest)) : GlL eS 1 g l (old W) := by
 obtain ⟨ps, ⟨g', t', cs, fuel, p, q, hg', ht', hvar, hd, _, _⟩⟩ := h
 obtain rfl := Option.some.inj (hg.symm.trans hg')
 obtain rfl := Option.some.inj (hty.symm.trans ht')
 obtain ⟨Bd, hB⟩ := qu4 (DataW.weights P t (txtD l : DataW Unit))
 have hr : RdrA Bd P t (slR 1 strR) := RdrA.slr ht hce rfl qtj fun m => Rdr.str he
 obtain ⟨l', a, cap, e1, e2, e3, e4⟩ := hr fuel (fun _ => ()) W (fun _ => true) false fuel cs.toList (txtD l, p) (Nat.le_refl _) hd hB
 have hl : l' = l := by
  rcases DataW.trod_slice ht hd with ⟨_, e0⟩ | ⟨a', len, cap', elems, rst, m, hm, ec, ex, hb, hle, hmx, hlen, hel, _, _⟩
  ·exact absurd (congrArg (·.1) e0) (by unfold txtD; intro x; cases x)
  ·rw [ec] at e1
   simp only [List.cons.injEq, Value.slice.injEq, and_true] at e1
   obtain ⟨rfl, rfl, rfl⟩ := e1
   have h1 : elems.map (·.1) = l.map fun s => (DataW.lit (.string s) : DataW Unit) := by
    have := congrArg (·.1) ex
    unfold txtD at this
    injection this with h1 h2
    exact h1.symm
   have hll : l.length = l'.length := by
    have := congrArg List.length h1
    simp only [List.length_map] at this
    omega
   apply List.ext_getElem? 
   intro i
   rcases Nat.lt_or_ge i l'.length with hi | hi
   ·obtain ⟨x, hx⟩ : ∃ x, l'[i]? = some x := ⟨_, List.getElem?_eq_getElem hi⟩
    obtain ⟨css, c, k1, k2, k3⟩ := e4.get (by simpa using hx)
    have hk := hel i hi
    rw [List.getElem?_eq_getElem (by omega)] at hk
    obtain ⟨c', q1, q2⟩ := Option.bind_eq_some_iff.1 hk
    obtain ⟨s, rfl, q3, _⟩ := DataW.trod_string he q2
    have hs : l[i]? = some s.data.toList := by
     have := congrArg (·[i]?) h1
     simp only [List.getElem?_map] at this
     rw [List.getElem?_eq_getElem (by omega)] at this
     simp only [Option.map_some] at this
     rw [q3] at this
     cases h2 : l[i]? with
     | none => rw [h2] at this; cases this
     | some y =>
      rw [h2] at this
      simp only [Option.map_some, Option.some.injEq, DataW.lit.injEq, Lit.string.injEq] at this
      rw [this]
    rw [hce] at q1
    have hc := (cells?_get q1).2 0 _ rfl
    obtain ⟨b, off, hab, hcell⟩ := k1.cell k2
    have hv := hcell W (fun _ _ h => h) 0 (str x) (by rw [k3.1]; rfl)
    have e0 : (a'.add (i * 1)).add 0 = ⟨b, off + (i * 1 + 0), none⟩ := by
     have : a' = ⟨b, off, none⟩ := by simpa using hab
     subst this
     simp [Addr.add]
    rw [e0, hv] at hc
    have hx' : x = s.data.toList := by
     have h2 := Option.some.inj hc
     unfold str at h2
     injection h2 with h3
     rw [← h3]
    rw [hx, hs, hx']
   ·rw [List.getElem?_eq_none hi, List.getElem?_eq_none (by omega)]
 subst hl
 refine ⟨a, l'.length, cap, rfl, ?_, ⟨LiR.flat (enc := eS) (fun K cs a h => h.1) e4, e2⟩⟩
 refine ⟨fun m hm => by simp at hm; subst hm; rfl, fun m hm v hv => by simp at hm; subst hm; simp at hv; subst hv; rfl, fun _ => ?_⟩
 unfold World.var? at hvar
 rw [hg] at hvar
 simp only [qx0] at hvar
 cases hw : W.heap[g]? with
 | none => rw [hw] at hvar; cases hvar
 | some o =>
  rw [hw] at hvar
  cases o with
  | cells c T fz =>
   simp only [Option.some.injEq] at hvar
   subst hvar
   refine ⟨g, 0, c, T, fz, rfl, hw, fun i v hv => ?_⟩
   simp only [List.flatten_cons, List.flatten_nil, List.append_nil] at hv
   rw [← e1] at hv
   simpa using hv
  | _ => cases hvar
end
open Go
section
variable {P : Program}
theorem Split.pf : ∀ (M L : List HProp), Split (M ++ L) M L
 | [], _ => .nil
 | _ :: M, L => .cons .here (Split.pf M L)
theorem sp {H M L : List HProp} (h : H = M ++ L) : Split H M L := by rw [h]; exact Split.pf M L
theorem pf {H M L : List HProp} (h : H = M ++ L) : ConvH H M := ConvH.of (sp h)
def remL : Nat → List HProp → Option (HProp × List HProp)
 | _, [] => none
 | 0, a :: l => some (a, l)
 | n + 1, a :: l => match remL n l with
  | some (x, r) => some (x, a :: r)
  | none => none
def selL : List Nat → List HProp → Option (List HProp × List HProp)
 | [], l => some ([], l)
 | n :: ns, l => match remL n l with
  | some (x, r) => match selL ns r with
   | some (m, q) => some (x :: m, q)
   | none => none
  | none => none
theorem remL_rem : ∀ {n : Nat} {l r : List HProp} {a : HProp}, remL n l = some (a, r) → Rem a l r
 | 0, [], _, _, h => by simp [remL] at h
 | _ + 1, [], _, _, h => by simp [remL] at h
 | 0, a :: l, _, _, h => by cases h; exact .here
 | n + 1, a :: l, _, _, h => by
  unfold remL at h
  cases hr : remL n l with
  | none => rw [hr] at h; cases h
  | some q => obtain ⟨x, r⟩ := q; rw [hr] at h; cases h; exact .there (remL_rem hr)
theorem selL_split : ∀ {ns : List Nat} {l m q : List HProp}, selL ns l = some (m, q) → Split l m q
 | [], _, _, _, h => by cases h; exact .nil
 | n :: ns, l, _, _, h => by
  unfold selL at h
  cases hr : remL n l with
  | none => rw [hr] at h; cases h
  | some p =>
   obtain ⟨x, r⟩ := p; rw [hr] at h; simp only at h
   cases hs : selL ns r with
   | none => rw [hs] at h; cases h
   | some p => obtain ⟨m, q⟩ := p; rw [hs] at h; cases h; exact .cons (remL_rem hr) (selL_split hs)
theorem ss (ns : List Nat) {H M L : List HProp} (h : selL ns H = some (M, L)) : Split H M L := selL_split h
theorem sc (ns : List Nat) {H M L : List HProp} (h : selL ns H = some (M, L)) : ConvH H M := ConvH.of (selL_split h)
theorem en {K0 : Hp} {F : HProp} {R : VP} {v : Value} {K : Hp} {H H' : List HProp} (h1 : K0.Le K) (h2 : R v K H') (h3 : ConvH H (H' ++ [F])) : EndStep K0 F R v K H := EndStep.mk H' h1 h2 h3
def sbA : List Nat → Nat → List Value → List Value
 | [], _, l => l
 | _ :: _, _, [] => []
 | w :: ws, i, a :: xs => match Nat.beq w i with
  | true => undef :: sbA ws (i + 1) xs
  | false => a :: sbA (w :: ws) (i + 1) xs
def sbB : List Nat → Nat → List Value → List Value
 | [], _, l => l
 | _ :: _, _, [] => []
 | w :: ws, i, a :: xs => match Nat.beq w i with
  | true => undef :: sbB ws (i + 1) xs
  | false => a :: sbB (w :: ws) (i + 1) xs
theorem qmp : ∀ (ws : List Nat) (i : Nat) (a b : List Value), sbA ws i a = sbB ws i b → a.length = b.length ∧ ∀ t, i + t ∉ ws → look a t = look b t
 | [], i, a, b, h => by
  rw [sbA, sbB] at h; subst h; exact ⟨rfl, fun _ _ => rfl⟩
 | w :: ws, i, [], [], h => ⟨rfl, fun _ _ => rfl⟩
 | w :: ws, i, [], b :: zs, h => by
  rw [sbA, sbB] at h; split at h <;> cases h
 | w :: ws, i, a :: xs, [], h => by
  rw [sbA, sbB] at h; split at h <;> cases h
 | w :: ws, i, a :: xs, b :: zs, h => by
  rw [sbA, sbB] at h
  split at h
  ·rename_i hc
   injection h with _ h
   obtain ⟨h1, h2⟩ := qmp ws (i + 1) xs zs h
   refine ⟨by simp [h1], fun t ht => ?_⟩
   cases t with
   | zero => exact absurd (List.mem_cons.2 (.inl (Nat.eq_of_beq_eq_true hc).symm)) ht
   | succ t => exact h2 t (fun hm => ht (by rw [Nat.add_right_comm] at hm; exact List.mem_cons_of_mem _ hm))
  ·injection h with h0 h
   obtain ⟨h1, h2⟩ := qmp (w :: ws) (i + 1) xs zs h
   refine ⟨by simp [h1], fun t ht => ?_⟩
   cases t with
   | zero => exact h0
   | succ t => exact h2 t (by rw [Nat.add_right_comm]; exact ht)
theorem qps {ws : List Nat} {a b : List Value} (h : sbA ws 0 a = sbB ws 0 b) : qc7 (fun _ => undef) ws a = qc7 (fun _ => undef) ws b := by
 obtain ⟨h1, h2⟩ := qmp ws 0 a b h
 refine qfu _ _ (by simp [qcx, h1]) fun t => ?_
 rw [qcs, qcs, h1]
 split
 ·rfl
 ·rename_i hn
  by_cases hm : t ∈ ws
  ·have hb : b.length ≤ t := Classical.byContradiction fun e => hn ⟨hm, by omega⟩
   rw [qfv _ _ hb, qfv _ _ (by omega)]
  ·exact h2 t (by simpa using hm)
theorem mt {σ : Type} {ws : List Nat} {sl : σ → List (Nat × Value)} {Hf : σ → List HProp} {C : σ → Hp → Prop} {env0 : List Value} {K0 : Hp}
  {env : List Value} {K : Hp} {H : List HProp} (s : σ) (h1 : qbr (sl s) env) (h2 : sbA ws 0 env = sbB ws 0 env0) (h3 : ConvH H (Hf s))
  (h4 : K0.Le K) (h6 : C s K) : MeetStep ws sl Hf C env0 K0 env K H := ⟨fun Γ w x => ⟨s, K, h6, h4, h1, qps h2, x.conv h3⟩⟩
theorem rd {σ : Type} {ws : List Nat} {sl : σ → List (Nat × Value)} {Hf : σ → List HProp} {C : σ → Hp → Prop} {μ : σ → Nat} {env0 : List Value} {K0 : Hp} {m : Nat}
  {env : List Value} {K : Hp} {H : List HProp} (s : σ) (h1 : qbr (sl s) env) (h2 : sbA ws 0 env = sbB ws 0 env0) (h3 : ConvH H (Hf s))
  (h4 : K0.Le K) (h5 : μ s < m) (h6 : C s K) : RoundStep ws sl Hf C μ env0 K0 m env K H := ⟨fun Γ w x => ⟨s, K, h5, h6, h4, h1, qps h2, x.conv h3⟩⟩
theorem cs {β : Type} {root : Code} {n : Nat} {p : List Nat} {b : Operand} {t : Bool} {env : List Value} {K : Hp} {H : List HProp} {Q : Exit → KP} {X Y : Option β} {r : β} (hc : qo3 (codeAt root p) = some b) (hv : ev env b = .bool t)
  (hm : (if t = true then X else Y) = some r) (h1 : t = true → X = some r → qoa P root n (0 :: p) Q env K H) (h2 : t = false → Y = some r → qoa P root n (1 :: p) Q env K H) : CStep P root n p env K H Q := by
 refine qac hc ?_
 rw [qa5, hv]
 exact qaf (fun h => h1 h (ift h hm)) (fun h => h2 h (qbd h hm))
theorem ci {β : Type} {e : Int} {c : Value → Prop} {f : Unit → Option β} {r : β} (hm : (chk (InI e)).bind f = some r) (h : f () = some r → c (.int .i64 e)) : IntStep .i64 e c :=
 qan (k := .i64) (qax hm).1 (h (qax hm).2)
theorem lr {K : Hp} : K.Le K := Hp.Le.refl K
theorem nl {a b : Nat} (h : Nat.ble a b = true) : a ≤ b := Nat.le_of_ble_eq_true h
theorem ct {b : Bool} {A B : Prop} (h : b = true) (a : A) : qdu b A B := qnc h a
theorem cf {b : Bool} {A B : Prop} (h : b = false) (a : B) : qdu b A B := qsf h a
theorem cT {A B : Prop} (a : A) : qdu true A B := qsg a
theorem cF {A B : Prop} (a : B) : qdu false A B := qsh a
theorem ro {m : M} {K : Hp} {H : List HProp} {c : Value → Prop} (h : RStepS P m K H c) : RStep P m K H c := RStep.of h
theorem fa {s b off f o : Nat} {c : Value → Prop} (ho : qez P s f = some o) (h : qe5 (off + o) fun o' => c (.pointer (some ⟨b, o', none⟩))) : NStep P (.fieldAddr s (.pointer (some ⟨b, off, none⟩)) f) c := JeA ho h
theorem ld {t b off : Nat} {T : TypeId} {cs : List Value} {v : Value} {K : Hp} {H H' : List HProp} {c : Value → Prop} (hr : Rem (Cells b T cs) H H') (ht : tyShape P t = some none)
  (hv : cs[off]? = some v) (h : c v) : RStepS P (.load t (.pointer (some ⟨b, off, none⟩))) K H c := qo5 hr ht hv h
def rg : Nat → Nat → List Nat
 | _, 0 => []
 | a, n + 1 => a :: rg (a + 1) n
end
end Go.SL
