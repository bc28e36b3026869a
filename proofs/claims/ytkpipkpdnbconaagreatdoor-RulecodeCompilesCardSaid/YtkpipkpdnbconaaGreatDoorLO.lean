/- The library: facts about walks, over any program. -/
import Derived.Test.YtkpipkpdnbconaaGreatDoorLN
import Derived.Lib.Atoi
set_option linter.unusedVariables false
set_option linter.unusedSimpArgs false
namespace Go.SL
open Go Go.RowKit
theorem bw_below (w : World) (e : TypeId) (s : ByteArray) : Below w.heap.size w (Lib.bytesWorld w e s) :=
 ⟨by unfold Lib.bytesWorld; rfl, by unfold Lib.bytesWorld; rfl, by unfold Lib.bytesWorld; rfl, by rw [Lib.bytesWorld_size]; omega, fun k hk => Lib.bytesWorld_at_old w e s k hk⟩
def atoiM (s : Str) : Option (Int × Err) := if s.length ≤ 18 then (Go.Lib.atoi s).map fun v => (v, none) else none
theorem atoi_gen {P : Program} {f : FuncId} {T : TypeId} (hc : ∀ a w, (callFunc f a).run P w = .ok (.enter f a) w)
  (h1 : ∀ (s : ByteArray) (n : Int) (w : World), s.size ≤ 18 → Lib.atoi s.data.toList = some n →
   Calls P f #[.string s] w fun e w' => e = .returned (.tuple #[.int .i64 n, .nilIface]) ∧ ∃ t, w' = Lib.bytesWorld w T t)
  {s : Str} {r : Int × Err} {K : Hp} {E : TypeId} (hm : atoiM s = some r) : Fn P f [str s] K [] (fun v K' H' => v = .tuple #[.int .i64 r.1, errV E r.2] ∧ H' = []) := by
 unfold atoiM at hm
 split at hm
 ·rename_i hl
  obtain ⟨n, hn, rfl⟩ := Option.map_eq_some_iff.1 hm
  refine ⟨hc, fun F Γ w st => ?_⟩
  refine (h1 ⟨s.toArray⟩ n w (by simp [ByteArray.size]; exact hl) (by simpa using hn)).mono fun e w' ⟨g1, t, g2⟩ => ?_
  subst g2
  exact ⟨_, K, [], g1, .refl _, ⟨rfl, rfl⟩, st.below (bw_below w T t)⟩
 ·cases hm
end Go.SL
set_option linter.unusedVariables false
set_option linter.unusedSimpArgs false
namespace Go.SL
open Go
section
variable {P : Program} {α : Type} {enc : α → List Value} {e e' sz cap : Nat} {a : Option Addr} {css : List (List Value)} {ls : List (List α)} {K : Hp} {H H1 H2 H3 : List HProp}
theorem els_snoc {c : List Value} {x : List α} : ∀ {css : List (List Value)} {ls : List (List α)}, css.length = ls.length → els enc e sz (css ++ [c]) (ls ++ [x]) = els enc e sz css ls ++ [elP enc e sz c x]
 | [], [], _ => rfl
 | c0 :: css, l0 :: ls, h => by
  simp only [List.cons_append, els]
  rw [els_snoc (by simpa using h)]
 | [], _ :: _, h => by simp at h
 | _ :: _, [], h => by simp at h
variable {m : M} {c : VP}
theorem apEl {t tx ty k : Nat} {xv : Value} {x : List α} {ai : Option Addr} {ci : Nat} {cs : Array Bool} (hr : Rem (OwnE enc e' e sz a cap css ls) H H1) (hl : LR hdR K css ls) (hx : Rem (OwnL enc ai e sz ci x) H1 H2) (hn : k = ls.length)
  (T : ElT P t e' 1) (hs : SrcOK P K H2 1 tx xv [[.slice ai x.length ci]]) (hlim : ls.length + 1 ≤ lim)
  (h : ∀ a' cap', Has a' → c (.slice a' (ls ++ [x]).length cap') K (OwnE enc e' e sz a' cap' (css ++ [[.slice ai x.length ci]]) (ls ++ [x]) :: H2)) :
  WStep P (.builtin .append #[t, tx] ty cs [.slice a k cap, xv]) K H c := by
 subst hn
 have hcl := hl.len
 have hm := ap (P := P) (enc := id) (l := css) (new := [[Value.slice ai x.length ci]]) (K := K) (H := OwnL id a e' 1 cap css :: SepH (els enc e sz css ls) :: OwnL enc ai e sz ci x :: H2) (cs := cs) (ty := ty) (tx := tx) (x := xv)
  (c := fun v K' H' => ∃ a' cap', Has a' ∧ v = .slice a' (ls ++ [x]).length cap' ∧ K' = K ∧ H' = OwnL id a' e' 1 cap' (css ++ [[.slice ai x.length ci]]) :: SepH (els enc e sz css ls) :: OwnL enc ai e sz ci x :: H2)
  .here T ⟨fun Γ w s => hs.src Γ w s.drop.drop, hs.len, hs.one⟩ (by simp only [List.length_cons, List.length_nil]; omega) (fun a' cap' ha => ⟨a', cap', ha (by simp), by simp [hcl], rfl, rfl⟩)
 have eid : ∀ (a : Option Addr) (cap : Nat) (css : List (List Value)), OwnL id a e' 1 cap css = OwnA a e' 1 cap css := fun a cap css => by unfold OwnL; rw [List.map_id]
 rw [hcl] at hm
 refine ⟨fun Γ w s => ?_⟩
 have s1 : Sat Γ K (OwnL id a e' 1 cap css :: SepH (els enc e sz css ls) :: OwnL enc ai e sz ci x :: H2) w := (s.rem hr).conv fun h y => by
  rw [eid]
  have y1 := sep_tl (fun _ => hx.sep) y
  have y2 := sep_flat y1
  exact sep_tl (fun _ => sep_fold) y2
 obtain ⟨r, w', v, K', H', g1, g2, g3, a', cap', ha, rfl, rfl, rfl⟩ := hm.out Γ w s1
 refine ⟨r, w', _, _, _, g1, g2, g3.conv fun h y => ?_, h a' cap' ha⟩
 rw [eid] at y
 have y1 := sep_tl (fun _ => sep_flat) y
 have y2 : SepL ((OwnA a' e' 1 cap' (css ++ [[.slice ai x.length ci]]) :: els enc e sz (css ++ [[.slice ai x.length ci]]) (ls ++ [x])) ++ H2) h := by
  rw [els_snoc hcl]
  simpa [elP] using y1
 exact sep_fold y2
theorem Sat.fzEls {Γ : World} {w : World} : ∀ {css : List (List Value)} {ls : List (List α)} {K : Hp}, LR hdR K css ls → Sat Γ K (els enc e sz css ls ++ H) w → ∃ K', K.Le K' ∧ LR (sliL enc sz) K' css ls ∧ Sat Γ K' H w
 | [], [], K, _, s => ⟨K, .refl _, LR.nil, s⟩
 | [], _ :: _, K, h, _ => by have := h.len; simp at this
 | _ :: _, [], K, h, _ => by have := h.len; simp at this
 | c0 :: css, l0 :: ls, K, h, s => by
  obtain ⟨a, cap, rfl⟩ := h.all 0 c0 l0 rfl rfl
  have ht : LR hdR K css ls := ⟨by have := h.len; simpa using this, fun i c x h1 h2 => h.all (i + 1) c x (by simpa using h1) (by simpa using h2)⟩
  have s1 : Sat Γ K (OwnL enc a e sz cap l0 :: (els enc e sz css ls ++ H)) w := s
  have hle := s1.ownLen
  obtain ⟨K1, h1, h2, h3⟩ := s1.ownFreeze
  obtain ⟨K2, g1, g2, g3⟩ := Sat.fzEls (ht.mono hdR_ok h1) h3
  refine ⟨K2, h1.trans g1, ⟨by have := g2.len; simpa using this, fun i c x k1 k2 => ?_⟩, g3⟩
  cases i with
  | zero =>
   simp at k1 k2
   subst k1 k2
   exact ⟨a, cap, rfl, ⟨RdS.mono h2 g1, by simpa using hle⟩⟩
  | succ i => exact g2.all i c x (by simpa using k1) (by simpa using k2)
theorem Sat.fzE {Γ : World} {w : World} (hr : Rem (OwnE enc e' e sz a cap css ls) H H1) (hl : LR hdR K css ls) (s : Sat Γ K H w) : ∃ K', K.Le K' ∧ LiC (sliL enc sz) K' a cap 1 ls ∧ Sat Γ K' H1 w := by
 obtain ⟨K1, h1, h2, h3, h4⟩ := s.fzEo hr hl
 have h5 : Sat Γ K1 (els enc e sz css ls ++ H1) w := h4.conv fun _ => sep_flat
 obtain ⟨K2, g1, g2, g3⟩ := Sat.fzEls (hl.mono hdR_ok h1) h5
 exact ⟨K2, h1.trans g1, ⟨LiR.mk' (RdS.mono h3 g1) g2, h2.le⟩, g3⟩
variable {ops : Array Oper} {env : List Value} {Q : KP} {root : Code} {n : Nat} {p : List Nat} {QC : Exit → KP}
theorem fzEaD (hr : Rem (OwnE enc e' e sz a cap css ls) H H1) (hl : LR hdR K css ls) (h : ∀ K', K.Le K' → LiC (sliL enc sz) K' a cap 1 ls → DStep P ops env K' H1 Q) : DStep P ops env K H Q :=
 DStep.conv fun Γ w s => let ⟨K', h1, h2, h3⟩ := s.fzE hr hl; ⟨K', _, h3, h K' h1 h2⟩
theorem fzEaF {f : FuncId} {args : List Value} (hf : ∀ a w, (callFunc f a).run P w = .ok (.enter f a) w) (hr : Rem (OwnE enc e' e sz a cap css ls) H H1) (hl : LR hdR K css ls) (h : ∀ K', K.Le K' → LiC (sliL enc sz) K' a cap 1 ls → CallStep P f args K' H1 c) : CallStep P f args K H c :=
 CallStep.conv hf fun Γ w s => let ⟨K', h1, h2, h3⟩ := s.fzE hr hl; ⟨K', _, h3, h K' h1 h2⟩
end
end Go.SL
set_option linter.unusedVariables false
set_option linter.unusedSimpArgs false
namespace Go.SL
open Go
section
variable {P : Program} {α : Type} {enc : α → List Value} {e e' sz cap : Nat} {a : Option Addr} {css : List (List Value)} {ls : List (List α)} {K : Hp} {H H1 H2 H3 : List HProp} {c : VP}
theorem apES {t tx ty k i : Nat} {xv : Value} {x new : List α} {ai : Option Addr} {ci : Nat} {cs : Array Bool} (hr : Rem (OwnS enc e sz css ls) H H1) (hx : ls[i]? = some x) (hc : css[i]? = some [.slice ai x.length ci]) (hn : k = x.length)
  (T : ElT P t e sz) (hs : SrcOK P K H1 sz tx xv (new.map enc)) (hlim : x.length + new.length ≤ lim)
  (h : ∀ a' cap', (0 < (x ++ new).length → Has a') → c (.slice a' (x ++ new).length cap') K (OwnL enc a' e sz cap' (x ++ new) :: OwnX enc e sz css ls i :: H1)) :
  WStep P (.builtin .append #[t, tx] ty cs [.slice ai k ci, xv]) K H c := by
 refine WStep.conv fun Γ w s => ?_
 exact ⟨K, _, s.openS hr hx hc, apE hn .here T ⟨fun Γ w s => hs.src Γ w s.drop, hs.len, hs.one⟩ hlim h⟩
theorem ld_arr_l {k : IntKind} {L : List Int} {pre post cs : List Value} {n : Int} {b t T o : Nat} {d : DrI} {c : Value → Prop} (hm : (b, Obj.cells cs.toArray T (0, 0)) ∈ d.priv) (ht : tyShape P t = some none) (ho : o = pre.length + n.toNat) (hc : cs = pre ++ (L.map (.int k) ++ post)) (h0 : 0 ≤ n) (h1 : n < (L.length : Int))
  (h : c (.int k (L.getD n.toNat 0))) : LStep P (.load t (.pointer (some ⟨b, o, none⟩))) d c := by
 subst ho
 exact load1_l hm ht (arr_get hc h0 h1) h
theorem cellsE {K0 : Hp} {F : HProp} {R : VP} {v : Value} {b T : Nat} {cs cs' : List Value} (hr : Rem (Cells b T cs) H H1) (e : cs = cs') (h : EndStep K0 F R v K (Cells b T cs' :: H1)) : EndStep K0 F R v K H :=
 EndStep.conv fun Γ w s => ⟨K, _, by subst e; exact s.rem hr, h⟩
theorem nilCE {root : Code} {n : Nat} {p : List Nat} {env : List Value} {Q : Exit → KP} (enc : α → List Value) (e' e sz : Nat) (h : CStep P root n p env K (OwnE enc e' e sz none 0 [] [] :: H) Q) : CStep P root n p env K H Q :=
 CStep.conv fun Γ w s => ⟨K, _, by
  have s1 : Sat Γ K (OwnL (id : List Value → List Value) none e' 1 0 [] :: H) w := s.nilO
  refine s1.conv fun h y => ?_
  have y1 : SepL ([OwnA none e' 1 0 []] ++ H) h := y
  exact sep_fold y1, h⟩
end
end Go.SL
set_option linter.unusedVariables false
set_option linter.unusedSimpArgs false
namespace Go.SL
open Go
theorem bsW {P : Program} {t e sz len : Nat} {z : Value} {parts : List (Nat × Value)} {K : Hp} {H : List HProp} {c : VP} {cl : List Value} (T : ElT P t e sz) (hz : tyZeroV P e = some z)
  (hb : Nat.ble (len * sz) 16777216 = true) (hk : buildK (rowPl sz 0 len) parts (zrow z.cells 0 (len * sz)) fun cs => cs = cl)
  (h : ∀ b, c (.slice (some ⟨b, 0, none⟩) len len) K (Cells b e cl :: H)) : WStep P (.buildSlice t len parts) K H c := by
 refine buildSlice_rule T.ht T.hsz hz (Nat.le_of_ble_eq_true hb) ?_
 refine buildK_mono _ _ _ _ _ ?_ hk
 rintro cs rfl b
 exact h b
end Go.SL
