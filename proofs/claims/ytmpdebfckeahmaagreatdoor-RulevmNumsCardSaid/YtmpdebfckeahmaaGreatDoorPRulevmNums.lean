import Derived.Test.YtmpdebfckeahmaaGreatDoorRtAll
set_option linter.unusedVariables false
set_option linter.unusedSimpArgs false
open Go Go.SL Go.Proofs Pl Rt Rt.Rc Rt.Rv
namespace Rt.Rv
def nC (a b c d : Int) (s : Str) : List Rc.I := [⟨1, a, []⟩, ⟨1, b, []⟩, ⟨7, 0, [42]⟩, ⟨1, c, []⟩, ⟨1, d, []⟩, ⟨7, 0, [42]⟩, ⟨7, 0, s⟩, ⟨6, 0, [116, 101, 120, 116]⟩, ⟨11, 0, [116, 97, 103]⟩, ⟨12, 0, []⟩]
def i0 : In2 := ⟨[], [], [], [], []⟩
theorem i0_ok : IOK i0 := ⟨by decide, by decide, by decide, by decide, by decide⟩
theorem eff_push {n : Int} (h : 0 ≤ n ∧ n ≤ 999999999) : eff ⟨1, n, []⟩ = some (0, 1) := by unfold eff; rw [if_pos rfl, if_pos ⟨rfl, h⟩]
theorem nC_depth {a b c d : Int} {s : Str} (ha : 0 ≤ a ∧ a ≤ 999999999) (hb : 0 ≤ b ∧ b ≤ 999999999) (hc : 0 ≤ c ∧ c ≤ 999999999) (hd : 0 ≤ d ∧ d ≤ 999999999) (hs : s ∈ Jn) : depthOf (nC a b c d s) = some 3 := by
  have e7 : eff ⟨7, 0, s⟩ = some (2, 1) := by unfold eff; simp [hs]
  have e7' : eff ⟨7, 0, [42]⟩ = some (2, 1) := by decide
  have e6 : eff ⟨6, 0, [116, 101, 120, 116]⟩ = some (1, 1) := by decide
  have e11 : eff ⟨11, 0, [116, 97, 103]⟩ = some (1, 0) := by decide
  have e12 : eff ⟨12, 0, []⟩ = some (0, 0) := by decide
  unfold depthOf nC
  rw [if_neg (by simp)]
  simp [wk_cons, Rc.stA, eff_push ha, eff_push hb, eff_push hc, eff_push hd, e7, e7', e6, e11, e12, B0, far, near, isJ, joinA, updA, wk]
  decide
theorem nC_run {a b c d z : Int} {s : Str} {v : V1} (ha : 0 ≤ a ∧ a ≤ 999999999) (hb : 0 ≤ b ∧ b ≤ 999999999) (hc : 0 ≤ c ∧ c ≤ 999999999) (hd : 0 ≤ d ∧ d ≤ 999999999) (hv : opP s (nm' (a * b)) (nm' (c * d)) = (v, true)) (hv2 : v = nm' z) :
    (runP (nC a b c d s) 701 0 (m0 i0 1073741824)).2 = none ∧ (runP (nC a b c d s) 701 0 (m0 i0 1073741824)).1.Tags = [Go.Lib.itoa (clip z)] := by
  have e1 : nm' a = ⟨2, a, [], false⟩ := nm_id (by omega) (by omega)
  have e2 : nm' b = ⟨2, b, [], false⟩ := nm_id (by omega) (by omega)
  have e3 : nm' c = ⟨2, c, [], false⟩ := nm_id (by omega) (by omega)
  have e4 : nm' d = ⟨2, d, [], false⟩ := nm_id (by omega) (by omega)
  have k1 : opP [42] (nm' a) (nm' b) = (nm' (a * b), true) := by rw [e1, e2]; exact op_mul (by omega) (by omega) (by omega) (by omega)
  have k2 : opP [42] (nm' c) (nm' d) = (nm' (c * d), true) := by rw [e3, e4]; exact op_mul (by omega) (by omega) (by omega) (by omega)
  have k3 : ∀ j, callP [116, 101, 120, 116] v j = (tx' (Go.Lib.itoa (clip z)), true) := fun j => by rw [hv2]; exact call_text (clip_bd z).1 (clip_bd z).2
  have hl := itoa_len (clip_bd z).1 (clip_bd z).2
  have go : ∀ {f i : Nat} {m M : M1} {x : Rc.I}, (nC a b c d s)[i]? = some x → stepP m (i : Int) x = (((i + 1 : Nat) : Int), none, M) → runP (nC a b c d s) (f + 1) i m = runP (nC a b c d s) f (i + 1) M := fun h1 h2 => runP_go h1 h2
  have g : runP (nC a b c d s) 701 0 (m0 i0 1073741824) = ({ (m0 i0 1073741824).result with Steps := 10, Tags := [Go.Lib.itoa (clip z)] }, none) := by
    refine Eq.trans (go (x := ⟨1, a, []⟩) rfl (st_push (show (1 : Int) ≤ 1073741824 by decide))) ?_
    refine Eq.trans (go (x := ⟨1, b, []⟩) rfl (st_push (show (2 : Int) ≤ 1073741824 by decide))) ?_
    refine Eq.trans (go (x := ⟨7, 0, [42]⟩) rfl (st_op (st := []) rfl (show (3 : Int) ≤ 1073741824 by decide) k1 rfl)) ?_
    refine Eq.trans (go (x := ⟨1, c, []⟩) rfl (st_push (show (4 : Int) ≤ 1073741824 by decide))) ?_
    refine Eq.trans (go (x := ⟨1, d, []⟩) rfl (st_push (show (5 : Int) ≤ 1073741824 by decide))) ?_
    refine Eq.trans (go (x := ⟨7, 0, [42]⟩) rfl (st_op (st := [nm' (a * b)]) rfl (show (6 : Int) ≤ 1073741824 by decide) k2 rfl)) ?_
    refine Eq.trans (go (x := ⟨7, 0, s⟩) rfl (st_op (st := []) rfl (show (7 : Int) ≤ 1073741824 by decide) hv (by rw [hv2]; rfl))) ?_
    refine Eq.trans (go (x := ⟨6, 0, [116, 101, 120, 116]⟩) rfl (st_call (st := []) rfl (show (8 : Int) ≤ 1073741824 by decide) (k3 _) (by show (Go.Lib.itoa (clip z)).length < 64; omega))) ?_
    refine Eq.trans (go (x := ⟨11, 0, [116, 97, 103]⟩) rfl (st_tag (st := []) rfl (show (9 : Int) ≤ 1073741824 by decide) rfl)) ?_
    refine Eq.trans (runP_stop (x := ⟨12, 0, []⟩) rfl (st_halt (show (10 : Int) ≤ 1073741824 by decide))) ?_
    rfl
  rw [g]; exact ⟨rfl, rfl⟩
end Rt.Rv
theorem tm_bd {x : Int} (h : 0 ≤ x) : 0 ≤ Int.tmod x 999999999 ∧ Int.tmod x 999999999 ≤ 999999999 := by
  rw [Int.tmod_eq_emod_of_nonneg h]; omega
theorem op3 (op : UInt8) : ∃ (s : Str) (z : Int → Int → Int), s ∈ Jn ∧ ix ([([43] : Str), ([45] : Str), ([42] : Str)]) ((op % (3 : UInt8)).toNat : Int) = some s ∧ ∀ x y : Int, opP s (nm' x) (nm' y) = (nm' (z (clip x) (clip y)), true) := by
  have hh : ∀ x : Int, nm' x = ⟨2, clip x, [], false⟩ := fun x => rfl
  have hb := clip_bd
  have h3 : (op % 3).toNat < 3 := by
    rw [UInt8.toNat_mod]; exact Nat.mod_lt _ (by decide)
  have hi : ((op % (3 : UInt8)).toNat : Int) = 0 ∨ ((op % (3 : UInt8)).toNat : Int) = 1 ∨ ((op % (3 : UInt8)).toNat : Int) = 2 := by omega
  rcases hi with e | e | e
  · refine ⟨[43], fun x y => x + y, by decide, by rw [e]; rfl, fun x y => ?_⟩
    rw [hh, hh]; exact op_add (hb x).1 (hb x).2 (hb y).1 (hb y).2
  · refine ⟨[45], fun x y => x - y, by decide, by rw [e]; rfl, fun x y => ?_⟩
    rw [hh, hh]; exact op_sub (hb x).1 (hb x).2 (hb y).1 (hb y).2
  · refine ⟨[42], fun x y => x * y, by decide, by rw [e]; rfl, fun x y => ?_⟩
    rw [hh, hh]; exact op_mul (hb x).1 (hb x).2 (hb y).1 (hb y).2
theorem JbC (a b : JD) (op : UInt8) (o0 : JD.ok a) (o1 : JD.ok b) (o2 : True) : ∃ n, JaO n a b op = some true := by
  refine ⟨1000100, ?_⟩
  generalize hN : 1000100 = n
  obtain ⟨p0, p1⟩ := o0
  obtain ⟨p2, p3⟩ := o1
  simp only [InK] at p0 p1 p2 p3
  have b0 := tm_bd p0.1
  have b1 := tm_bd p1.1
  have b2 := tm_bd p2.1
  have b3 := tm_bd p3.1
  obtain ⟨s, z, hs, hix, hop⟩ := op3 op
  have hv := hop (Int.tmod a.f0 999999999 * Int.tmod a.f1 999999999) (Int.tmod b.f0 999999999 * Int.tmod b.f1 999999999)
  have hG := nC_depth b0 b1 b2 b3 hs
  have hS : ∀ x ∈ nC (Int.tmod a.f0 999999999) (Int.tmod a.f1 999999999) (Int.tmod b.f0 999999999) (Int.tmod b.f1 999999999) s, x.S.length ≤ 100000 := fun x hx => by
    have hsl : s.length ≤ 100000 := by
      have : ∀ y ∈ Jn, y.length ≤ 100000 := by decide
      exact this s hs
    simp only [nC, List.mem_cons, List.not_mem_nil, or_false] at hx
    rcases hx with rfl | rfl | rfl | rfl | rfl | rfl | rfl | rfl | rfl | rfl <;> first | exact hsl | simp
  obtain ⟨r, hr, _, _, _, hrun, _⟩ := Run_both (n := n) (most := 1073741824) (by omega) (by simp [nC]) hS i0_ok hG
  obtain ⟨g1, g2⟩ := nC_run b0 b1 b2 b3 hv rfl
  rw [← hr] at g1 g2
  have q0 := nm_id (n := Int.tmod a.f0 999999999) (by omega) (by omega)
  have q1 := nm_id (n := Int.tmod a.f1 999999999) (by omega) (by omega)
  have q2 := nm_id (n := Int.tmod b.f0 999999999) (by omega) (by omega)
  have q3 := nm_id (n := Int.tmod b.f1 999999999) (by omega) (by omega)
  have k1 : opP [42] (nm' (Int.tmod a.f0 999999999)) (nm' (Int.tmod a.f1 999999999)) = (nm' (Int.tmod a.f0 999999999 * Int.tmod a.f1 999999999), true) := by rw [q0, q1]; exact op_mul (by omega) (by omega) (by omega) (by omega)
  have k2 : opP [42] (nm' (Int.tmod b.f0 999999999)) (nm' (Int.tmod b.f1 999999999)) = (nm' (Int.tmod b.f0 999999999 * Int.tmod b.f1 999999999), true) := by rw [q2, q3]; exact op_mul (by omega) (by omega) (by omega) (by omega)
  have ref : ∀ (o : Str) (x y v : V1), VOK 2048 x → VOK 2048 y → opP o x y = (v, true) → Js n o (cv2 x) (cv2 y) = some (cv2 v, true) := fun o x y v hx hy hxy => by
    obtain ⟨w, h1, h2⟩ := opr_eq2 (op := o) (n := n) (by omega) (by omega) hx hy
    rw [hxy] at h1 h2
    rw [h1, h2 rfl]
  have r1 := ref _ _ _ _ (nm_ok _ _) (nm_ok _ _) k1
  have r2 := ref _ _ _ _ (nm_ok _ _) (nm_ok _ _) k2
  have r3 := ref _ _ _ _ (nm_ok _ _) (nm_ok _ _) hv
  rw [q0, q1] at r1
  rw [q2, q3] at r2
  obtain ⟨w, c1, c2⟩ := call_eq2 (nm := [116, 101, 120, 116]) (n := n) (x := nm' (z (clip (Int.tmod a.f0 999999999 * Int.tmod a.f1 999999999)) (clip (Int.tmod b.f0 999999999 * Int.tmod b.f1 999999999)))) (m := 2048) (by omega) i0_ok (by omega) (nm_ok _ _)
  have ct := call_text (x := clip (z (clip (Int.tmod a.f0 999999999 * Int.tmod a.f1 999999999)) (clip (Int.tmod b.f0 999999999 * Int.tmod b.f1 999999999)))) (j := inp i0) (clip_bd _).1 (clip_bd _).2
  have ct' : callP [116, 101, 120, 116] (nm' (z (clip (Int.tmod a.f0 999999999 * Int.tmod a.f1 999999999)) (clip (Int.tmod b.f0 999999999 * Int.tmod b.f1 999999999)))) (inp i0) = _ := ct
  rw [ct'] at c1 c2
  have hw := c2 rfl
  have hlen := itoa_len (clip_bd (z (clip (Int.tmod a.f0 999999999 * Int.tmod a.f1 999999999)) (clip (Int.tmod b.f0 999999999 * Int.tmod b.f1 999999999)))).1 (clip_bd _).2
  have hbd := clip_bd (z (clip (Int.tmod a.f0 999999999 * Int.tmod a.f1 999999999)) (clip (Int.tmod b.f0 999999999 * Int.tmod b.f1 999999999)))
  unfold JaO
  rw [awake_eq' (by omega), Option.bind_some, if_neg (by simp), hix, Option.bind_some, chk_bind (by decide)]
  have hL0 : JA a b (2 : Int).toNat 0 [] = some [⟨1, Int.tmod a.f0 999999999, []⟩, ⟨1, Int.tmod a.f1 999999999, []⟩, ⟨7, 0, [42]⟩, ⟨1, Int.tmod b.f0 999999999, []⟩, ⟨1, Int.tmod b.f1 999999999, []⟩, ⟨7, 0, [42]⟩] := by
    show JA a b 2 0 [] = _
    rw [JA, show ix [a, b] ((0 : Nat) : Int) = some a from rfl, Option.bind_some, chk_bind (by constructor <;> omega), chk_bind (by constructor <;> omega), chk_bind (by simp [lim]),
      JA, show ix [a, b] ((0 + 1 : Nat) : Int) = some b from rfl, Option.bind_some, chk_bind (by constructor <;> omega), chk_bind (by constructor <;> omega), chk_bind (by simp [lim]), JA]
    rfl
  rw [hL0, Option.bind_some, chk_bind (by simp [lim])]
  refine (congrArg (fun o => Option.bind o _) hrun).trans ?_
  rw [Option.bind_some, chk_bind (by constructor <;> omega), chk_bind (by constructor <;> omega)]
  refine (congrArg (fun o => Option.bind o _) r1).trans ?_
  rw [Option.bind_some, chk_bind (by constructor <;> omega), chk_bind (by constructor <;> omega)]
  refine (congrArg (fun o => Option.bind o _) r2).trans ?_
  rw [Option.bind_some]
  refine (congrArg (fun o => Option.bind o _) r3).trans ?_
  rw [Option.bind_some]
  refine (congrArg (fun o => Option.bind o _) c1).trans ?_
  rw [Option.bind_some, hw, g1, g2]
  have e1 : decide (Go.Lib.itoa (clip (z (clip (Int.tmod a.f0 999999999 * Int.tmod a.f1 999999999)) (clip (Int.tmod b.f0 999999999 * Int.tmod b.f1 999999999)))) = (cv2 (tx' (Go.Lib.itoa (clip (z (clip (Int.tmod a.f0 999999999 * Int.tmod a.f1 999999999)) (clip (Int.tmod b.f0 999999999 * Int.tmod b.f1 999999999))))))).S) = true := by rw [decide_eq_true_eq]; rfl
  have e2 : decide ((cv2 (nm' (z (clip (Int.tmod a.f0 999999999 * Int.tmod a.f1 999999999)) (clip (Int.tmod b.f0 999999999 * Int.tmod b.f1 999999999))))).N ≤ 1099511627776) = true := by rw [decide_eq_true_eq]; exact hbd.2
  have e3 : decide ((cv2 (nm' (z (clip (Int.tmod a.f0 999999999 * Int.tmod a.f1 999999999)) (clip (Int.tmod b.f0 999999999 * Int.tmod b.f1 999999999))))).N ≥ -1099511627776) = true := by rw [decide_eq_true_eq]; exact hbd.1
  rw [if_pos (by simp), show ix [Go.Lib.itoa (clip (z (clip (Int.tmod a.f0 999999999 * Int.tmod a.f1 999999999)) (clip (Int.tmod b.f0 999999999 * Int.tmod b.f1 999999999))))] 0 = some _ from rfl, Option.bind_some, Option.bind_some, e1, e2, e3]
  rfl
