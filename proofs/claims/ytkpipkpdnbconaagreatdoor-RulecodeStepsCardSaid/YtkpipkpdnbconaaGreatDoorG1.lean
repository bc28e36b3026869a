/- Functions of the program: mirrors, and that a call returns what the mirror says. Printed by gen.py. -/
import Derived.Test.YtkpipkpdnbconaaGreatDoorShelf
import Derived.Test.YtkpipkpdnbconaaGreatDoorLO
import Derived.KernelRfl
import Derived.Test.YtkpipkpdnbconaaGreatDoorProg
set_option linter.unusedVariables false
set_option linter.unusedSimpArgs false
open Go Go.SL Go.Proofs
set_option maxRecDepth 1000000
def Js : List Str := [[109, 101, 116, 104, 111, 100], [104, 111, 115, 116], [112, 97, 116, 104], [113, 117, 101, 114, 121]]
def Jx : List Str := [[104, 101, 97, 100, 101, 114], [104, 97, 115], [97, 114, 103], [108, 101, 110], [108, 111, 119, 101, 114], [112, 97, 114, 116], [116, 101, 120, 116], [110, 117, 109, 98, 101, 114]]
def JD : List Str := [[43], [45], [42], [61, 61], [33, 61], [60], [60, 61], [115, 116, 97, 114, 116, 115], [101, 110, 100, 115], [99, 111, 110, 116, 97, 105, 110, 115]]
def gkw0 : List Str := [[105, 102], [101, 108, 115, 101], [108, 101, 116], [118, 97, 114, 121], [116, 97, 103], [116, 116, 108], [100, 101, 110, 121], [112, 97, 115, 115], [116, 111, 107, 101, 110], [111, 114], [97, 110, 100], [110, 111, 116], [115, 116, 97, 114, 116, 115], [101, 110, 100, 115], [99, 111, 110, 116, 97, 105, 110, 115], [116, 114, 117, 101], [102, 97, 108, 115, 101]]
structure Jk where
  Kind : Int
  Text : Str
  Kids : (List Jk)
  Line : Int
inductive Jk.R (K : Hp) : List Value → Jk → Prop
  | mk {cs : List Value} {x : Jk} (a_0 : Option Addr) (c_0 : Nat) (e : cs = [.int .i64 x.Kind, str x.Text, .slice a_0 x.Kids.length c_0, .int .i64 x.Line]) (css0 : List (List Value)) (p0 : RdS K a_0 4 css0) (q0 : css0.length = x.Kids.length) (r0 : x.Kids.length ≤ c_0) (z0 : ∀ (i : Nat) (c : List Value) (y : Jk), css0[i]? = some c → x.Kids[i]? = some y → Jk.R K c y) : Jk.R K cs x
theorem Jk.out {K : Hp} {cs : List Value} {x : Jk} (h : Jk.R K cs x) : ∃ a_0 : Option Addr, ∃ c_0 : Nat, cs = [.int .i64 x.Kind, str x.Text, .slice a_0 x.Kids.length c_0, .int .i64 x.Line] ∧ LiC Jk.R K a_0 c_0 4 x.Kids := by
  cases h with
  | mk a_0 c_0 e css0 p0 q0 r0 z0 => exact ⟨a_0, c_0, e, ⟨⟨css0, p0, q0, z0⟩, r0⟩⟩
theorem Jk.of {K : Hp} {cs : List Value} {x : Jk} (h : ∃ a_0 : Option Addr, ∃ c_0 : Nat, cs = [.int .i64 x.Kind, str x.Text, .slice a_0 x.Kids.length c_0, .int .i64 x.Line] ∧ LiC Jk.R K a_0 c_0 4 x.Kids) : Jk.R K cs x := by
  obtain ⟨a_0, c_0, e, ⟨⟨css0, p0, q0, z0⟩, r0⟩⟩ := h
  exact .mk a_0 c_0 e css0 p0 q0 r0 z0
theorem Jk.R_mono {K K' : Hp} (hk : K.Le K') {cs : List Value} {x : Jk} (h : Jk.R K cs x) : Jk.R K' cs x := by
  induction h with
  | mk a_0 c_0 e css0 p0 q0 r0 z0 ih0 => exact .mk a_0 c_0 e css0 (p0.mono hk) q0 r0 (ih0)
theorem Jk.R_ok : RpOK 4 Jk.R := by
  refine ⟨fun hk h => Jk.R_mono hk h, fun h => ?_, fun h v hv => ?_⟩
  · obtain ⟨a_0, c_0, e, h0'⟩ := Jk.out h; simp [e]
  · obtain ⟨a_0, c_0, e, h0'⟩ := Jk.out h; rw [e] at hv; simp at hv; rcases hv with rfl | rfl | rfl | rfl <;> rfl
structure Ja where
  Kind : Int
  Text : Str
  Kids : (List Ja)
  Line : Int
inductive Ja.R (K : Hp) : List Value → Ja → Prop
  | mk {cs : List Value} {x : Ja} (a_0 : Option Addr) (c_0 : Nat) (e : cs = [.int .i64 x.Kind, str x.Text, .slice a_0 x.Kids.length c_0, .int .i64 x.Line]) (css0 : List (List Value)) (p0 : RdS K a_0 4 css0) (q0 : css0.length = x.Kids.length) (r0 : x.Kids.length ≤ c_0) (z0 : ∀ (i : Nat) (c : List Value) (y : Ja), css0[i]? = some c → x.Kids[i]? = some y → Ja.R K c y) : Ja.R K cs x
theorem Ja.out {K : Hp} {cs : List Value} {x : Ja} (h : Ja.R K cs x) : ∃ a_0 : Option Addr, ∃ c_0 : Nat, cs = [.int .i64 x.Kind, str x.Text, .slice a_0 x.Kids.length c_0, .int .i64 x.Line] ∧ LiC Ja.R K a_0 c_0 4 x.Kids := by
  cases h with
  | mk a_0 c_0 e css0 p0 q0 r0 z0 => exact ⟨a_0, c_0, e, ⟨⟨css0, p0, q0, z0⟩, r0⟩⟩
theorem Ja.of {K : Hp} {cs : List Value} {x : Ja} (h : ∃ a_0 : Option Addr, ∃ c_0 : Nat, cs = [.int .i64 x.Kind, str x.Text, .slice a_0 x.Kids.length c_0, .int .i64 x.Line] ∧ LiC Ja.R K a_0 c_0 4 x.Kids) : Ja.R K cs x := by
  obtain ⟨a_0, c_0, e, ⟨⟨css0, p0, q0, z0⟩, r0⟩⟩ := h
  exact .mk a_0 c_0 e css0 p0 q0 r0 z0
theorem Ja.R_mono {K K' : Hp} (hk : K.Le K') {cs : List Value} {x : Ja} (h : Ja.R K cs x) : Ja.R K' cs x := by
  induction h with
  | mk a_0 c_0 e css0 p0 q0 r0 z0 ih0 => exact .mk a_0 c_0 e css0 (p0.mono hk) q0 r0 (ih0)
theorem Ja.R_ok : RpOK 4 Ja.R := by
  refine ⟨fun hk h => Ja.R_mono hk h, fun h => ?_, fun h v hv => ?_⟩
  · obtain ⟨a_0, c_0, e, h0'⟩ := Ja.out h; simp [e]
  · obtain ⟨a_0, c_0, e, h0'⟩ := Ja.out h; rw [e] at hv; simp at hv; rcases hv with rfl | rfl | rfl | rfl <;> rfl
structure Jj where
  Op : Int
  N : Int
  S : Str
abbrev Jj.enc (x : Jj) : List Go.Value := [.int .i64 x.Op, .int .i64 x.N, str x.S]
structure Jt where
  Kind : Int
  Text : Str
  Line : Int
  Column : Int
abbrev Jt.enc (x : Jt) : List Go.Value := [.int .i64 x.Kind, str x.Text, .int .i64 x.Line, .int .i64 x.Column]
structure Ji where
  line : Int
  err : Err
abbrev Ji.enc (x : Ji) : List Go.Value := [.int .i64 x.line, errV 44 x.err]
structure Jh where
  Name : Str
  TypeZ : Int
abbrev Jh.enc (x : Jh) : List Go.Value := [str x.Name, .int .i64 x.TypeZ]
structure Jf where
  name : Str
  slot : Int
abbrev Jf.enc (x : Jf) : List Go.Value := [str x.name, .int .i64 x.slot]
structure Jc where
  code : (List Jj)
  names : (List Jf)
  slots : Int
def Jc.R : Rp Jc := fun K cs x => ∃ a_0 : Option Addr, ∃ c_0 : Nat, ∃ a_1 : Option Addr, ∃ c_1 : Nat, cs = [.slice a_0 x.code.length c_0, .slice a_1 x.names.length c_1, .int .i64 x.slots] ∧ RdC Jj.enc K a_0 c_0 3 x.code ∧ RdC Jf.enc K a_1 c_1 2 x.names
theorem Jc.R_ok : RpOK 3 Jc.R :=
  ⟨fun hk ⟨a_0, c_0, a_1, c_1, e, h_0, h_1⟩ => ⟨a_0, c_0, a_1, c_1, e, (h_0.mono hk), (h_1.mono hk)⟩, fun ⟨a_0, c_0, a_1, c_1, e, h_0, h_1⟩ => by simp [e], fun ⟨a_0, c_0, a_1, c_1, e, h_0, h_1⟩ v hv => by rw [e] at hv; simp at hv; rcases hv with rfl | rfl | rfl <;> rfl⟩
structure JU where
  f0 : Int
  f1 : Int
  f2 : Int
  f3 : Int
  f4 : Int
  f5 : Int
  f6 : Int
  f7 : Int
abbrev JU.enc (x : JU) : List Go.Value := [.int .u64 x.f0, .int .u64 x.f1, .int .u64 x.f2, .int .u64 x.f3, .int .u64 x.f4, .int .u64 x.f5, .int .u64 x.f6, .int .u64 x.f7]
structure Je where
  reached : Bool
  depth : Int
  stored : JU
abbrev Je.enc (x : Je) : List Go.Value := [.bool x.reached, .int .i64 x.depth, .int .u64 x.stored.f0, .int .u64 x.stored.f1, .int .u64 x.stored.f2, .int .u64 x.stored.f3, .int .u64 x.stored.f4, .int .u64 x.stored.f5, .int .u64 x.stored.f6, .int .u64 x.stored.f7]
structure Ju where
  Op : Int
  N : Int
  S : Str
abbrev Ju.enc (x : Ju) : List Go.Value := [.int .i64 x.Op, .int .i64 x.N, str x.S]
structure Jl where
  reached : Bool
  depth : Int
  stored : (List Int)
def Jl.R : Rp Jl := fun K cs x => ∃ a_0 : Option Addr, ∃ c_0 : Nat, cs = [.bool x.reached, .int .i64 x.depth, .slice a_0 x.stored.length c_0] ∧ RdC eN K a_0 c_0 1 x.stored
theorem Jl.R_ok : RpOK 3 Jl.R :=
  ⟨fun hk ⟨a_0, c_0, e, h_0⟩ => ⟨a_0, c_0, e, (h_0.mono hk)⟩, fun ⟨a_0, c_0, e, h_0⟩ => by simp [e], fun ⟨a_0, c_0, e, h_0⟩ v hv => by rw [e] at hv; simp at hv; rcases hv with rfl | rfl | rfl <;> rfl⟩
theorem elT22 : ElT Tryz.prog 22 24 4 := ElT.mk' rfl rfl rfl rfl rfl
theorem elT32 : ElT Tryz.prog 32 34 4 := ElT.mk' rfl rfl rfl rfl rfl
theorem elT93 : ElT Tryz.prog 93 5 1 := ElT.mk' rfl rfl rfl rfl rfl
theorem elT70 : ElT Tryz.prog 70 9 1 := ElT.mk' rfl rfl rfl rfl rfl
theorem elT161 : ElT Tryz.prog 161 165 4 := ElT.mk' rfl rfl rfl rfl rfl
theorem elT81 : ElT Tryz.prog 81 3 1 := ElT.mk' rfl rfl rfl rfl rfl
theorem elT110 : ElT Tryz.prog 110 149 2 := ElT.mk' rfl rfl rfl rfl rfl
theorem elT27 : ElT Tryz.prog 27 50 3 := ElT.mk' rfl rfl rfl rfl rfl
theorem elT62 : ElT Tryz.prog 62 133 2 := ElT.mk' rfl rfl rfl rfl rfl
theorem elT121 : ElT Tryz.prog 121 125 10 := ElT.mk' rfl rfl rfl rfl rfl
theorem elT36 : ElT Tryz.prog 36 73 3 := ElT.mk' rfl rfl rfl rfl rfl
theorem elT80 : ElT Tryz.prog 80 83 3 := ElT.mk' rfl rfl rfl rfl rfl
noncomputable def Jap (depth : Int) (rec_ : (Jk → Int → Option (Int))) : List Jk → Nat → Int → Option (Fl (Int) (Int))
  | [], _, y0_0 => some (Fl.go y0_0)
  | e0 :: xs0, i0, y0_0 =>
    (chk (InI (depth - 1))).bind fun _ =>
    (rec_ e0 (depth - 1)).bind fun x27 =>
    (chk (InI (y0_0 + x27))).bind fun _ =>
    if decide ((y0_0 + x27) > 700) then
    some (Fl.ret (y0_0 + x27))
    else
    Jap depth rec_ xs0 (i0 + 1) (y0_0 + x27)
noncomputable def Jae : Nat → Jk → Int → Option (Int)
  | 0, _, _ => none
  | n + 1, n', depth =>
    if (decide (depth = 0) || decide ((n'.Text.length : Int) > 3000)) then
    some 1000
    else
    (chk (n'.Kids.length ≤ szMax)).bind fun _ =>
    (Jap depth (Jae n) n'.Kids 0 1).bind fun s0 => s0.el some fun t0 =>
    some t0
set_option maxHeartbeats 8000000 in
theorem Jcs : ∀ {n : Nat} {n' : Jk} {depth : Int} {ap0_0 : Option Addr} {cp0_0 : Nat} {K : Hp} {r : Int}
    (hm : Jae n n' depth = some r) (hp0_0 : LiC Jk.R K ap0_0 cp0_0 4 n'.Kids),
    Fn Tryz.prog 28 [.agg #[.int .i64 n'.Kind, str n'.Text, .slice ap0_0 n'.Kids.length cp0_0, .int .i64 n'.Line], .int .i64 depth] K [] (fun v K' H' => v = .int .i64 r ∧ H' = []) := by
 intro n
 induction n with
 | zero =>
   intro n' depth ap0_0 cp0_0 K r hm hp0_0
   rw [Jae.eq_1] at hm; cases hm
 | succ n ih =>
   intro n' depth ap0_0 cp0_0 K r hm hp0_0
   refine Fn.enter Tryz.func28 Tryz.call28 rfl fun F => ?_
   rw [Jae.eq_2] at hm
   refine box_rule ?_
   intro b2
   refine eq_int ?_
   refine cond_s (fun g10_1 => ?_) (fun g10_1 => ?_)
   refine cond_t g10_1 (cond_t g10_1 (cond_t g10_1 (cond_t g10_1 (cond_go rfl (cond_T ?_)))))
   replace hm := ift (or_t g10_1) hm
   obtain rfl := si hm
   refine EndStep.mk _ (Hp.Le.refl _) ⟨rfl, rfl⟩ (ConvH.of (.cons r1 .nil))
   refine Jb rfl (cond_f g10_1 (RStep.of (load1_s r0 rfl rfl (cond_f g10_1 (RStep.of (len_str rfl (cond_f g10_1 ?_)))))))
   refine cond_f g10_1 (cond_go rfl ?_)
   refine cond_s (fun w15 => ?_) (fun w15 => ?_)
   replace hm := ift (or_u g10_1 w15) hm
   obtain rfl := si hm
   refine EndStep.mk _ (Hp.Le.refl _) ⟨rfl, rfl⟩ (ConvH.of (.cons r1 .nil))
   replace hm := iff_ (or_f g10_1 w15) hm
   refine Jb rfl (RStep.of (load1_s r0 rfl rfl (RStep.of (len_slice rfl ?_))))
   obtain ⟨hk0, hm⟩ := chkb hm
   obtain ⟨s0, hl0, hm⟩ := bnd hm
   refine code_cut (σ := (Int)) [4, 5, 7, 19, 20, 21, 22, 23, 24, 25, 26, 27, 28, 29, 30, 31, 32] (fun t0 => [(5, .int .i64 t0)]) (fun t0 => [Cells b2 24 [.int .i64 n'.Kind, str n'.Text, .slice ap0_0 n'.Kids.length cp0_0, .int .i64 n'.Line], F]) (fun zz K1 => match zz with | t0 => s0 = Fl.go t0) ?_ ?_
   refine block_go rfl ?_
   refine loop_rule (σ := Nat × Int) [4, 5, 7, 19, 20, 21, 22, 23, 24, 25, 26, 27, 28, 29, 30, 31, 32] (fun (i0, y0_0) => [(19, .int .i64 (i0 : Int)), (5, .int .i64 y0_0)]) (fun (i0, y0_0) => [Cells b2 24 [.int .i64 n'.Kind, str n'.Text, .slice ap0_0 n'.Kids.length cp0_0, .int .i64 n'.Line], F]) (fun zz K1 => match zz with | (i0, y0_0) => Jap depth (Jae n) (n'.Kids.drop i0) i0 y0_0 = some s0) (fun zz => n'.Kids.length - zz.1) (0, 1) rfl ⟨rfl, rfl, trivial⟩ (ConvH.of (.cons r0 (.cons r0 .nil))) hl0 ?_
   clear hl0
   rintro ⟨i0, y0_0⟩ Kb0 lk0 hl0 j0
   conv at hl0 => whnf
   refine cond_go rfl ?_
   refine cond_s (fun w0 => ?_) (fun w0 => ?_)
   obtain ⟨e0, hx0, hd0⟩ := ltx w0
   rw [hd0, Jap.eq_2] at hl0
   refine block_go rfl ?_
   refine RStep.ofN (index_addr rfl rfl (hasR (LiC.mono Jk.R_ok lk0 hp0_0).rd hx0) (nn _) (lt_ofN hx0) ?_)
   obtain ⟨ss22, cc22, hr22, hc22, hR22⟩ := LiR.get (LiC.mono Jk.R_ok lk0 hp0_0).rd hx0
   obtain ⟨a22_0, c22_0, rfl, h22_0⟩ := Jk.out hR22
   refine RStep.of (load_rd_agg i0 _ hr22 rfl hc22 rfl ?_)
   refine alloc_rule rfl ?_
   intro b7
   refine store_rule r0 rfl ?_
   refine ⟨rfl, rfl, (Nat.le_of_ble_eq_true rfl), ?_⟩
   refine RStep.of (loadn_s r0 rfl (Nat.le_of_ble_eq_true rfl) ?_)
   obtain ⟨h26, hl0⟩ := chkb hl0
   refine int_in h26 ?_
   obtain ⟨x27, q27, hl0⟩ := bnd hl0
   refine call_fn (ih (n' := e0) (depth := (depth - 1)) q27 h22_0) .nil ?_
   rintro _ K27 _ l27 ⟨rfl, rfl⟩
   obtain ⟨h28, hl0⟩ := chkb hl0
   refine int_in h28 (cond_go rfl ?_)
   refine cond_s (fun w30 => ?_) (fun w30 => ?_)
   replace hl0 := ift w30 hl0
   obtain rfl := si hl0
   replace hm := elr hm
   obtain rfl := si hm
   refine EndStep.mk _ (lk0.trans l27) ⟨rfl, rfl⟩ (ConvH.of (.cons r2 .nil))
   replace hl0 := iff_ w30 hl0
   refine int_in (cntz hx0 hk0) ?_
   refine RoundStep.mk (i0 + 1, (y0_0 + x27)) ⟨rfl, rfl, trivial⟩ (by repeat (first | exact trivial | refine And.intro rfl ?_)) (ConvH.of (.cons r1 (.cons r1 .nil))) (lk0.trans l27) (ltm hx0) hl0
   rw [lty w0, Jap.eq_1] at hl0
   refine cond_T ?_
   refine MeetStep.mk (y0_0) ⟨rfl, trivial⟩ (by repeat (first | exact trivial | refine And.intro rfl ?_)) (ConvH.of (.cons r0 (.cons r0 .nil))) lk0 (si hl0).symm
   rintro t0 Kt0 lt0 rfl j0
   replace hm := elg hm
   obtain rfl := si hm
   refine EndStep.mk _ lt0 ⟨rfl, rfl⟩ (ConvH.of (.cons r1 .nil))

noncomputable def JaS (n : Nat) (n' : Jk) : Option (Bool) :=
  (Jae n n' 40).bind fun x4 =>
  some (decide (x4 > 700))
set_option maxHeartbeats 8000000 in
theorem JbJ {n : Nat} {n' : Jk} {ap0_0 : Option Addr} {cp0_0 : Nat} {K : Hp} {r : Bool}
    (hm : JaS n n' = some r) (hp0_0 : LiC Jk.R K ap0_0 cp0_0 4 n'.Kids) :
    Fn Tryz.prog 8 [.agg #[.int .i64 n'.Kind, str n'.Text, .slice ap0_0 n'.Kids.length cp0_0, .int .i64 n'.Line]] K [] (fun v K' H' => v = .bool r ∧ H' = []) := by
 refine Fn.enter Tryz.func8 Tryz.call8 rfl fun F => ?_
 unfold JaS at hm
 refine box_rule ?_
 intro b1
 refine RStep.of (loadn_s r0 rfl (Nat.le_of_ble_eq_true rfl) ?_)
 obtain ⟨x4, q4, hm⟩ := bnd hm
 refine call_fn (Jcs (n' := n') (depth := 40) q4 hp0_0) .nil ?_
 rintro _ K4 _ l4 ⟨rfl, rfl⟩
 obtain rfl := si hm
 refine EndStep.mk _ l4 ⟨rfl, rfl⟩ (ConvH.of (.cons r1 .nil))

noncomputable def JbU (list : (List Jk)) : Option (Jk) :=
  some (⟨1, ([] : Str), list, 1⟩ : Jk)
set_option maxHeartbeats 8000000 in
theorem Jcn {list : (List Jk)} {ap0_0 : Option Addr} {cp0_0 : Nat} {n0 : Nat} {K : Hp} {r : Jk}
    (hm : JbU list = some r) (hp0_0 : LiC Jk.R K ap0_0 cp0_0 4 list) (en0 : n0 = list.length) :
    Fn Tryz.prog 29 [.slice ap0_0 n0 cp0_0] K [] (fun v K' H' => ∃ ar_0 : Option Addr, ∃ cr_0 : Nat, v = .agg #[.int .i64 r.Kind, str r.Text, .slice ar_0 r.Kids.length cr_0, .int .i64 r.Line] ∧ LiC Jk.R K' ar_0 cr_0 4 r.Kids ∧ H' = []) := by
 subst en0
 refine Fn.enter Tryz.func29 Tryz.call29 rfl fun F => ?_
 unfold JbU at hm
 refine alloc_rule rfl ?_
 intro b2
 refine build_struct rfl rfl (cond_T (cond_T (cond_T ?_)))
 refine store_rule r0 rfl ?_
 refine ⟨rfl, rfl, (Nat.le_of_ble_eq_true rfl), ?_⟩
 obtain rfl := si hm
 refine RStep.of (loadn_s r0 rfl (Nat.le_of_ble_eq_true rfl) ?_)
 refine EndStep.mk _ (Hp.Le.refl _) ⟨ap0_0, cp0_0, rfl, hp0_0, rfl⟩ (ConvH.of (.cons r1 .nil))

noncomputable def Ja0 (rec_ : (Jk → Option (Ja))) : List Jk → Nat → (List Ja) → Option ((List Ja))
  | [], _, y0_0 => some y0_0
  | e0 :: xs0, i0, y0_0 =>
    (rec_ e0).bind fun x23 =>
    (chk (y0_0.length + [x23].length ≤ lim)).bind fun _ =>
    Ja0 rec_ xs0 (i0 + 1) (y0_0 ++ [x23])
noncomputable def Jbg : Nat → Jk → Option (Ja)
  | 0, _ => none
  | n + 1, n' =>
    (chk (n'.Kids.length ≤ szMax)).bind fun _ =>
    (Ja0 (Jbg n) n'.Kids 0 []).bind fun t0 =>
    some (⟨n'.Kind, n'.Text, t0, n'.Line⟩ : Ja)
set_option maxHeartbeats 8000000 in
theorem Jca : ∀ {n : Nat} {n' : Jk} {ap0_0 : Option Addr} {cp0_0 : Nat} {K : Hp} {r : Ja}
    (hm : Jbg n n' = some r) (hp0_0 : LiC Jk.R K ap0_0 cp0_0 4 n'.Kids),
    Fn Tryz.prog 11 [.agg #[.int .i64 n'.Kind, str n'.Text, .slice ap0_0 n'.Kids.length cp0_0, .int .i64 n'.Line]] K [] (fun v K' H' => ∃ ar_0 : Option Addr, ∃ cr_0 : Nat, ∃ sr_0 : List (List Value), v = .agg #[.int .i64 r.Kind, str r.Text, .slice ar_0 r.Kids.length cr_0, .int .i64 r.Line] ∧ (0 < r.Kids.length → Has ar_0) ∧ LR Ja.R K' sr_0 r.Kids ∧ H' = [OwnA ar_0 34 4 cr_0 sr_0]) := by
 intro n
 induction n with
 | zero =>
   intro n' ap0_0 cp0_0 K r hm hp0_0
   rw [Jbg.eq_1] at hm; cases hm
 | succ n ih =>
   intro n' ap0_0 cp0_0 K r hm hp0_0
   refine Fn.enter Tryz.func11 Tryz.call11 rfl fun F => ?_
   rw [Jbg.eq_2] at hm
   refine box_rule ?_
   intro b1
   refine alloc_rule rfl ?_
   intro b2
   refine Jb rfl (RStep.of (load1_s r1 rfl rfl (Jb rfl (RStep.of (load1_s r1 rfl rfl (Jb rfl (RStep.of (load1_s r1 rfl rfl ?_))))))))
   refine build_struct rfl rfl (cond_T (cond_T (cond_T ?_)))
   refine alloc_rule rfl ?_
   intro b3
   refine store_rule r0 rfl ?_
   refine ⟨rfl, rfl, (Nat.le_of_ble_eq_true rfl), ?_⟩
   refine Jb rfl (RStep.of (load1_s r2 rfl rfl (RStep.of (len_slice rfl ?_))))
   obtain ⟨hk0, hm⟩ := chkb hm
   obtain ⟨s0, hl0, hm⟩ := bnd hm
   refine nilC (fun _ : Ja => []) 34 4 ?_
   refine code_cut (σ := ((List Ja)) × Option Addr × Nat × List (List Value)) [5, 16, 17, 18, 19, 20, 21, 22, 23, 24, 25, 26, 27] (fun (t0, t0_a0, t0_c0, t0_s0) => []) (fun (t0, t0_a0, t0_c0, t0_s0) => [OwnA t0_a0 34 4 t0_c0 t0_s0, Cells b3 34 [.int .i64 n'.Kind, str n'.Text, .slice t0_a0 t0.length t0_c0, .int .i64 n'.Line], Cells b2 34 [.int .i64 0, str ([] : Str), .slice none 0 0, .int .i64 0], Cells b1 24 [.int .i64 n'.Kind, str n'.Text, .slice ap0_0 n'.Kids.length cp0_0, .int .i64 n'.Line], F]) (fun zz K1 => match zz with | (t0, t0_a0, t0_c0, t0_s0) => LR Ja.R K1 t0_s0 t0 ∧ (0 < t0.length → Has t0_a0) ∧ t0 = s0) ?_ ?_
   refine block_go rfl ?_
   refine loop_rule (σ := Nat × (List Ja) × Option Addr × Nat × List (List Value)) [5, 16, 17, 18, 19, 20, 21, 22, 23, 24, 25, 26, 27] (fun (i0, y0_0, y0_a0, y0_c0, y0_s0) => [(16, .int .i64 (i0 : Int))]) (fun (i0, y0_0, y0_a0, y0_c0, y0_s0) => [OwnA y0_a0 34 4 y0_c0 y0_s0, Cells b3 34 [.int .i64 n'.Kind, str n'.Text, .slice y0_a0 y0_0.length y0_c0, .int .i64 n'.Line], Cells b2 34 [.int .i64 0, str ([] : Str), .slice none 0 0, .int .i64 0], Cells b1 24 [.int .i64 n'.Kind, str n'.Text, .slice ap0_0 n'.Kids.length cp0_0, .int .i64 n'.Line], F]) (fun zz K1 => match zz with | (i0, y0_0, y0_a0, y0_c0, y0_s0) => LR Ja.R K1 y0_s0 y0_0 ∧ (0 < y0_0.length → Has y0_a0) ∧ Ja0 (Jbg n) (n'.Kids.drop i0) i0 y0_0 = some s0) (fun zz => n'.Kids.length - zz.1) (0, [], none, 0, []) rfl ⟨rfl, trivial⟩ (ConvH.of (.cons r0 (.cons r0 (.cons r0 (.cons r0 (.cons r0 .nil)))))) ⟨LR.nil, (fun h => by simp at h), hl0⟩ ?_
   clear hl0
   rintro ⟨i0, y0_0, y0_a0, y0_c0, y0_s0⟩ Kb0 lk0 ⟨y0_r0, y0_h0, hl0⟩ j0
   refine cond_go rfl ?_
   refine cond_s (fun w0 => ?_) (fun w0 => ?_)
   obtain ⟨e0, hx0, hd0⟩ := ltx w0
   rw [hd0, Ja0.eq_2] at hl0
   refine block_go rfl ?_
   refine RStep.ofN (index_addr rfl rfl (hasR (LiC.mono Jk.R_ok lk0 hp0_0).rd hx0) (nn _) (lt_ofN hx0) ?_)
   obtain ⟨ss19, cc19, hr19, hc19, hR19⟩ := LiR.get (LiC.mono Jk.R_ok lk0 hp0_0).rd hx0
   obtain ⟨a19_0, c19_0, rfl, h19_0⟩ := Jk.out hR19
   refine RStep.of (load_rd_agg i0 _ hr19 rfl hc19 rfl ?_)
   refine alloc_rule rfl ?_
   intro b5
   refine store_rule r0 rfl ?_
   refine ⟨rfl, rfl, (Nat.le_of_ble_eq_true rfl), ?_⟩
   refine draw_go_tail ⟨⟨[], false⟩, _, [(_, _), (_, _)]⟩ 5 rfl (by kernel_rfl) ⟨Hp.Le.refl _, (ConvH.of (.cons r2 (.cons r0 .nil)))⟩ ?_
   refine Jb rfl (load1_l m0 rfl rfl (loadn_l m1 rfl (Nat.le_of_ble_eq_true rfl) ?_))
   obtain ⟨x23, q23, hl0⟩ := bnd hl0
   refine call_fn (ih (n' := e0) q23 h19_0) .nil ?_
   rintro _ K23 _ l23 ⟨a23_0, c23_0, s23_0, rfl, h23_0, r23_0, rfl⟩
   refine ⟨⟨l23, (ConvH.of (.cons r3 (.cons r1 .nil)))⟩, ?_⟩
   refine fzWR Ja.R_ok r0 r23_0 fun Kf24_0_0 lf24_0_0 ff24_0_0 => ?_
   refine bsOR (R := Ja.R) (len := 1) (l := [x23]) (css := [[.int .i64 x23.Kind, str x23.Text, .slice a23_0 x23.Kids.length c23_0, .int .i64 x23.Line]]) (cl := [.int .i64 x23.Kind, str x23.Text, .slice a23_0 x23.Kids.length c23_0, .int .i64 x23.Line]) Ja.R_ok elT32 rfl rfl (LR.snoc LR.nil (Ja.of (x := x23) ⟨a23_0, c23_0, rfl, ff24_0_0⟩)) rfl rfl rfl ?_ fun b24 => ?_
   · conv => whnf
     refine cond_T ?_
     first | done | rfl
   refine ⟨⟨(l23.trans lf24_0_0), (ConvH.of (.cons r3 (.cons r1 .nil)))⟩, ?_⟩
   obtain ⟨h25, hl0⟩ := chkb hl0
   refine apRl r2 (LR.mono Ja.R_ok (l23.trans lf24_0_0) y0_r0) rfl elT32 (src_ownR rfl r0 rfl Ja.R_ok (show LR Ja.R _ [[.int .i64 x23.Kind, str x23.Text, .slice a23_0 x23.Kids.length c23_0, .int .i64 x23.Line]] [x23] from (LR.snoc LR.nil (Ja.of (x := x23) ⟨a23_0, c23_0, rfl, ff24_0_0⟩)))) (show LR Ja.R _ [[.int .i64 x23.Kind, str x23.Text, .slice a23_0 x23.Kids.length c23_0, .int .i64 x23.Line]] [x23] from (LR.snoc LR.nil (Ja.of (x := x23) ⟨a23_0, c23_0, rfl, ff24_0_0⟩))) h25 ?_
   intro a25 c25 s25 r_25 o25
   refine ⟨⟨Hp.emp_le _, (ConvH.of .nil)⟩, ?_⟩
   refine Jb rfl ?_
   refine store_rule r3 rfl ?_
   refine ⟨rfl, rfl, (Nat.le_of_ble_eq_true rfl), ?_⟩
   refine ⟨⟨Hp.emp_le _, (ConvH.of .nil)⟩, ?_⟩
   refine int_in (cntz hx0 hk0) ?_
   refine RoundStep.mk (i0 + 1, (y0_0 ++ [x23]), a25, c25, s25) ⟨rfl, trivial⟩ (by repeat (first | exact trivial | refine And.intro rfl ?_)) (ConvH.of (.cons r1 (.cons r0 (.cons r2 (.cons r2 (.cons r2 .nil)))))) ((lk0.trans l23).trans lf24_0_0) (ltm hx0) ⟨r_25, o25, hl0⟩
   rw [lty w0, Ja0.eq_1] at hl0
   refine cond_T ?_
   refine MeetStep.mk (y0_0, y0_a0, y0_c0, y0_s0) trivial (by repeat (first | exact trivial | refine And.intro rfl ?_)) (ConvH.of (.cons r0 (.cons r0 (.cons r0 (.cons r0 (.cons r0 .nil)))))) lk0 ⟨y0_r0, y0_h0, (si hl0)⟩
   rintro ⟨t0, t0_a0, t0_c0, t0_s0⟩ Kt0 lt0 ⟨t0_r0, t0_h0, rfl⟩ j0
   refine RStep.of (loadn_s r1 rfl (Nat.le_of_ble_eq_true rfl) ?_)
   refine store_rule r2 rfl ?_
   refine ⟨rfl, rfl, (Nat.le_of_ble_eq_true rfl), ?_⟩
   obtain rfl := si hm
   refine RStep.of (loadn_s r0 rfl (Nat.le_of_ble_eq_true rfl) ?_)
   refine EndStep.mk _ lt0 ⟨t0_a0, t0_c0, t0_s0, rfl, t0_h0, t0_r0, rfl⟩ (ConvH.of (.cons r1 (.cons r3 .nil)))

noncomputable def Jam (depth : Int) (rec_ : (Ja → Int → Int → Option (Bool × Int))) : List Ja → Nat → Int → Option (Fl (Bool × Int) (Int))
  | [], _, y0_0 => some (Fl.go y0_0)
  | e0 :: xs0, i0, y0_0 =>
    (chk (InI (depth - 1))).bind fun _ =>
    (rec_ e0 y0_0 (depth - 1)).bind fun x33 =>
    if (!x33.1) then
    some (Fl.ret (false, x33.2))
    else
    Jam depth rec_ xs0 (i0 + 1) x33.2
noncomputable def Jaq : Nat → Ja → Int → Int → Option (Bool × Int)
  | 0, _, _, _ => none
  | n + 1, n', nodes, depth =>
    (chk (InI (nodes - 1))).bind fun _ =>
    if (decide ((nodes - 1) < 0) || decide (depth < 1)) then
    some (false, (nodes - 1))
    else
    (chk (n'.Kids.length ≤ szMax)).bind fun _ =>
    (Jam depth (Jaq n) n'.Kids 0 (nodes - 1)).bind fun s0 => s0.el some fun t0 =>
    some (true, t0)
set_option maxHeartbeats 8000000 in
theorem Jce : ∀ {n : Nat} {n' : Ja} {nodes : Int} {depth : Int} {ap0_0 : Option Addr} {cp0_0 : Nat} {b1 : Nat} {K : Hp} {r : Bool × Int}
    (hm : Jaq n n' nodes depth = some r) (hp0_0 : LiC Ja.R K ap0_0 cp0_0 4 n'.Kids),
    Fn Tryz.prog 54 [.agg #[.int .i64 n'.Kind, str n'.Text, .slice ap0_0 n'.Kids.length cp0_0, .int .i64 n'.Line], .pointer (some ⟨b1, 0, none⟩), .int .i64 depth] K [Cells b1 3 [.int .i64 nodes]] (fun v K' H' => v = .bool r.1 ∧ H' = [Cells b1 3 [.int .i64 r.2]]) := by
 intro n
 induction n with
 | zero =>
   intro n' nodes depth ap0_0 cp0_0 b1 K r hm hp0_0
   rw [Jaq.eq_1] at hm; cases hm
 | succ n ih =>
   intro n' nodes depth ap0_0 cp0_0 b1 K r hm hp0_0
   refine Fn.enter Tryz.func54 Tryz.call54 rfl fun F => ?_
   rw [Jaq.eq_2] at hm
   refine box_rule ?_
   intro b3
   refine nil_check (RStep.of (load1_s r1 rfl rfl ?_))
   obtain ⟨h12, hm⟩ := chkb hm
   refine int_in h12 (nil_check ?_)
   refine store_rule r1 rfl ?_
   refine ⟨rfl, rfl, (Nat.le_of_ble_eq_true rfl), ?_⟩
   refine nil_check (RStep.of (load1_s r0 rfl rfl ?_))
   refine cond_s (fun g18_2 => ?_) (fun g18_2 => ?_)
   refine cond_t g18_2 (cond_t g18_2 (cond_go rfl (cond_T ?_)))
   replace hm := ift (or_t g18_2) hm
   obtain rfl := si hm
   refine EndStep.mk _ (Hp.Le.refl _) ⟨rfl, rfl⟩ (ConvH.of (.cons r0 (.cons r1 .nil)))
   refine cond_f g18_2 (cond_f g18_2 (cond_go rfl ?_))
   refine cond_s (fun w21 => ?_) (fun w21 => ?_)
   replace hm := ift (or_u g18_2 w21) hm
   obtain rfl := si hm
   refine EndStep.mk _ (Hp.Le.refl _) ⟨rfl, rfl⟩ (ConvH.of (.cons r0 (.cons r1 .nil)))
   replace hm := iff_ (or_f g18_2 w21) hm
   refine Jb rfl (RStep.of (load1_s r1 rfl rfl (RStep.of (len_slice rfl ?_))))
   obtain ⟨hk0, hm⟩ := chkb hm
   obtain ⟨s0, hl0, hm⟩ := bnd hm
   refine code_cut (σ := (Int)) [6, 8, 25, 26, 27, 28, 29, 30, 31, 32, 33, 34, 35] (fun t0 => []) (fun t0 => [Cells b1 3 [.int .i64 t0], Cells b3 34 [.int .i64 n'.Kind, str n'.Text, .slice ap0_0 n'.Kids.length cp0_0, .int .i64 n'.Line], F]) (fun zz K1 => match zz with | t0 => s0 = Fl.go t0) ?_ ?_
   refine block_go rfl ?_
   refine loop_rule (σ := Nat × Int) [6, 8, 25, 26, 27, 28, 29, 30, 31, 32, 33, 34, 35] (fun (i0, y0_0) => [(25, .int .i64 (i0 : Int))]) (fun (i0, y0_0) => [Cells b1 3 [.int .i64 y0_0], Cells b3 34 [.int .i64 n'.Kind, str n'.Text, .slice ap0_0 n'.Kids.length cp0_0, .int .i64 n'.Line], F]) (fun zz K1 => match zz with | (i0, y0_0) => Jam depth (Jaq n) (n'.Kids.drop i0) i0 y0_0 = some s0) (fun zz => n'.Kids.length - zz.1) (0, (nodes - 1)) rfl ⟨rfl, trivial⟩ (ConvH.of (.cons r0 (.cons r0 (.cons r0 .nil)))) hl0 ?_
   clear hl0
   rintro ⟨i0, y0_0⟩ Kb0 lk0 hl0 j0
   conv at hl0 => whnf
   refine cond_go rfl ?_
   refine cond_s (fun w0 => ?_) (fun w0 => ?_)
   obtain ⟨e0, hx0, hd0⟩ := ltx w0
   rw [hd0, Jam.eq_2] at hl0
   refine block_go rfl ?_
   refine RStep.ofN (index_addr rfl rfl (hasR (LiC.mono Ja.R_ok lk0 hp0_0).rd hx0) (nn _) (lt_ofN hx0) ?_)
   obtain ⟨ss28, cc28, hr28, hc28, hR28⟩ := LiR.get (LiC.mono Ja.R_ok lk0 hp0_0).rd hx0
   obtain ⟨a28_0, c28_0, rfl, h28_0⟩ := Ja.out hR28
   refine RStep.of (load_rd_agg i0 _ hr28 rfl hc28 rfl ?_)
   refine alloc_rule rfl ?_
   intro b8
   refine store_rule r0 rfl ?_
   refine ⟨rfl, rfl, (Nat.le_of_ble_eq_true rfl), ?_⟩
   refine RStep.of (loadn_s r0 rfl (Nat.le_of_ble_eq_true rfl) ?_)
   obtain ⟨h32, hl0⟩ := chkb hl0
   refine int_in h32 ?_
   obtain ⟨x33, q33, hl0⟩ := bnd hl0
   refine call_fn (ih (n' := e0) (nodes := y0_0) (depth := (depth - 1)) q33 h28_0) (.cons r1 .nil) ?_
   rintro _ K33 _ l33 ⟨rfl, rfl⟩
   refine un_not (cond_go rfl ?_)
   refine cond_s (fun w34 => ?_) (fun w34 => ?_)
   replace hl0 := ift (not_t (ni_t w34)) hl0
   obtain rfl := si hl0
   replace hm := elr hm
   obtain rfl := si hm
   refine EndStep.mk _ (lk0.trans l33) ⟨rfl, rfl⟩ (ConvH.of (.cons r0 (.cons r2 .nil)))
   replace hl0 := iff_ (not_f (ni_f w34)) hl0
   refine int_in (cntz hx0 hk0) ?_
   refine RoundStep.mk (i0 + 1, x33.2) ⟨rfl, trivial⟩ (by repeat (first | exact trivial | refine And.intro rfl ?_)) (ConvH.of (.cons r0 (.cons r1 (.cons r1 .nil)))) (lk0.trans l33) (ltm hx0) hl0
   rw [lty w0, Jam.eq_1] at hl0
   refine cond_T ?_
   refine MeetStep.mk (y0_0) trivial (by repeat (first | exact trivial | refine And.intro rfl ?_)) (ConvH.of (.cons r0 (.cons r0 (.cons r0 .nil)))) lk0 (si hl0).symm
   rintro t0 Kt0 lt0 rfl j0
   replace hm := elg hm
   obtain rfl := si hm
   refine EndStep.mk _ lt0 ⟨rfl, rfl⟩ (ConvH.of (.cons r0 (.cons r1 .nil)))

noncomputable def Jan (kind : Int) (text : Str) : Option (Bool) :=
  if decide (text = ([61, 61] : Str)) then
  some (decide (kind = 4))
  else
  if decide (text = ([33, 61] : Str)) then
  some (decide (kind = 4))
  else
  if decide (text = ([60] : Str)) then
  some (decide (kind = 4))
  else
  if decide (text = ([60, 61] : Str)) then
  some (decide (kind = 4))
  else
  if decide (text = ([115, 116, 97, 114, 116, 115] : Str)) then
  some (decide (kind = 1))
  else
  if decide (text = ([101, 110, 100, 115] : Str)) then
  some (decide (kind = 1))
  else
  if decide (text = ([99, 111, 110, 116, 97, 105, 110, 115] : Str)) then
  some (decide (kind = 1))
  else
  some false
set_option maxHeartbeats 8000000 in
theorem Jbv {kind : Int} {text : Str} {K : Hp} {r : Bool}
    (hm : Jan kind text = some r)  :
    Fn Tryz.prog 123 [.int .i64 kind, str text] K [] (fun v K' H' => v = .bool r ∧ H' = []) := by
 refine Fn.enter Tryz.func123 Tryz.call123 rfl fun F => ?_
 unfold Jan at hm
 refine block_go rfl ?_
 refine eq_str (cond_go rfl ?_)
 refine cond_s (fun w6 => ?_) (fun w6 => ?_)
 replace hm := ift w6 hm
 refine cond_go rfl (cond_t w6 (eq_int ?_))
 obtain rfl := si hm
 refine EndStep.mk _ (Hp.Le.refl _) ⟨rfl, rfl⟩ (ConvH.of (.cons r0 .nil))
 replace hm := iff_ w6 hm
 refine eq_str (cond_go rfl ?_)
 refine cond_s (fun w6 => ?_) (fun w6 => ?_)
 replace hm := ift w6 hm
 refine cond_go rfl (cond_t w6 (eq_int ?_))
 obtain rfl := si hm
 refine EndStep.mk _ (Hp.Le.refl _) ⟨rfl, rfl⟩ (ConvH.of (.cons r0 .nil))
 replace hm := iff_ w6 hm
 refine eq_str (cond_go rfl ?_)
 refine cond_s (fun w6 => ?_) (fun w6 => ?_)
 replace hm := ift w6 hm
 refine cond_go rfl (cond_t w6 (eq_int ?_))
 obtain rfl := si hm
 refine EndStep.mk _ (Hp.Le.refl _) ⟨rfl, rfl⟩ (ConvH.of (.cons r0 .nil))
 replace hm := iff_ w6 hm
 refine eq_str (cond_go rfl ?_)
 refine cond_s (fun w6 => ?_) (fun w6 => ?_)
 replace hm := ift w6 hm
 refine eq_int ?_
 obtain rfl := si hm
 refine EndStep.mk _ (Hp.Le.refl _) ⟨rfl, rfl⟩ (ConvH.of (.cons r0 .nil))
 replace hm := iff_ w6 hm
 refine eq_str (cond_go rfl ?_)
 refine cond_s (fun w13 => ?_) (fun w13 => ?_)
 replace hm := ift w13 hm
 refine cond_go rfl (cond_t w13 (eq_int ?_))
 obtain rfl := si hm
 refine EndStep.mk _ (Hp.Le.refl _) ⟨rfl, rfl⟩ (ConvH.of (.cons r0 .nil))
 replace hm := iff_ w13 hm
 refine eq_str (cond_go rfl ?_)
 refine cond_s (fun w13 => ?_) (fun w13 => ?_)
 replace hm := ift w13 hm
 refine cond_go rfl (cond_t w13 (eq_int ?_))
 obtain rfl := si hm
 refine EndStep.mk _ (Hp.Le.refl _) ⟨rfl, rfl⟩ (ConvH.of (.cons r0 .nil))
 replace hm := iff_ w13 hm
 refine eq_str (cond_go rfl ?_)
 refine cond_s (fun w13 => ?_) (fun w13 => ?_)
 replace hm := ift w13 hm
 refine eq_int ?_
 obtain rfl := si hm
 refine EndStep.mk _ (Hp.Le.refl _) ⟨rfl, rfl⟩ (ConvH.of (.cons r0 .nil))
 replace hm := iff_ w13 hm
 obtain rfl := si hm
 refine EndStep.mk _ (Hp.Le.refl _) ⟨rfl, rfl⟩ (ConvH.of (.cons r0 .nil))

noncomputable def Jaf : List UInt8 → Nat → Option (Fl (Bool) (Unit))
  | [], _ => some (Fl.go ())
  | e0 :: xs0, i0 =>
    (if decide ((e0.toNat : Int) < 48) then some true else some (decide ((e0.toNat : Int) > 57))).bind fun x18 =>
    if x18 then
    some (Fl.ret false)
    else
    Jaf xs0 (i0 + 1)
noncomputable def Ja1 (s : Str) : Option (Bool) :=
  (chk (s.length ≤ szMax)).bind fun _ =>
  (Jaf s 0).bind fun s0 => s0.el some fun t0 =>
  some (decide ((s.length : Int) ≥ 1) && decide ((s.length : Int) ≤ 9))
set_option maxHeartbeats 8000000 in
theorem Jcb {s : Str} {K : Hp} {r : Bool}
    (hm : Ja1 s = some r)  :
    Fn Tryz.prog 124 [str s] K [] (fun v K' H' => v = .bool r ∧ H' = []) := by
 refine Fn.enter Tryz.func124 Tryz.call124 rfl fun F => ?_
 unfold Ja1 at hm
 refine RStep.of (len_str rfl ?_)
 obtain ⟨hk0, hm⟩ := chkb hm
 obtain ⟨s0, hl0, hm⟩ := bnd hm
 refine code_cut (σ := (Unit)) [2, 3, 6, 7, 8, 9, 10, 11, 12, 13, 14, 15, 16, 17, 18, 19] (fun t0 => []) (fun t0 => [F]) (fun zz K1 => match zz with | t0 => s0 = Fl.go t0) ?_ ?_
 refine block_go rfl ?_
 refine loop_rule (σ := Nat) [2, 3, 6, 7, 8, 9, 10, 11, 12, 13, 14, 15, 16, 17, 18, 19] (fun i0 => [(6, .int .i64 (i0 : Int))]) (fun i0 => [F]) (fun zz K1 => match zz with | i0 => Jaf (s.drop i0) i0 = some s0) (fun zz => s.length - zz) (0) rfl ⟨rfl, trivial⟩ (ConvH.of (.cons r0 .nil)) hl0 ?_
 clear hl0
 rintro i0 Kb0 lk0 hl0 j0
 conv at hl0 => whnf
 refine cond_go rfl ?_
 refine cond_s (fun w0 => ?_) (fun w0 => ?_)
 obtain ⟨e0, hx0, hd0⟩ := ltx w0
 rw [hd0, Jaf.eq_2] at hl0
 refine block_go rfl ?_
 refine idx_str rfl (nn _) hx0 ?_
 obtain ⟨x18, e18, hl0⟩ := bnd hl0
 refine cond_s (fun g13_4 => ?_) (fun g13_4 => ?_)
 replace e18 := ift g13_4 e18
 refine cond_t g13_4 (cond_t g13_4 (cond_t g13_4 (cond_t g13_4 (cond_go rfl (cond_T ?_)))))
 replace hl0 := ift (si e18).symm hl0
 obtain rfl := si hl0
 replace hm := elr hm
 obtain rfl := si hm
 refine EndStep.mk _ lk0 ⟨rfl, rfl⟩ (ConvH.of (.cons r0 .nil))
 replace e18 := iff_ g13_4 e18
 refine cond_f g13_4 (cond_f g13_4 (idx_str rfl (nn _) hx0 (cond_f g13_4 (cond_f g13_4 (cond_go rfl ?_)))))
 refine cond_s (fun w18 => ?_) (fun w18 => ?_)
 replace hl0 := ift ((si e18).symm.trans w18) hl0
 obtain rfl := si hl0
 replace hm := elr hm
 obtain rfl := si hm
 refine EndStep.mk _ lk0 ⟨rfl, rfl⟩ (ConvH.of (.cons r0 .nil))
 replace hl0 := iff_ ((si e18).symm.trans w18) hl0
 refine int_in (cntz hx0 hk0) ?_
 refine RoundStep.mk (i0 + 1) ⟨rfl, trivial⟩ (by repeat (first | exact trivial | refine And.intro rfl ?_)) (ConvH.of (.cons r0 .nil)) lk0 (ltm hx0) hl0
 rw [lty w0, Jaf.eq_1] at hl0
 refine cond_T ?_
 refine MeetStep.mk (()) trivial (by repeat (first | exact trivial | refine And.intro rfl ?_)) (ConvH.of (.cons r0 .nil)) lk0 (si hl0).symm
 rintro t0 Kt0 lt0 rfl j0
 replace hm := elg hm
 refine RStep.of (len_str rfl ?_)
 refine cond_s (fun g23_7 => ?_) (fun g23_7 => ?_)
 refine cond_t g23_7 (RStep.of (len_str rfl (cond_t g23_7 (cond_t g23_7 ?_))))
 obtain rfl := si hm
 refine EndStep.mk _ lt0 ⟨(by rw [← (and_e (b := decide ((s.length : Int) ≤ 9)) g23_7)] <;> rfl), rfl⟩ (ConvH.of (.cons r0 .nil))
 refine cond_f g23_7 (cond_f g23_7 (cond_f g23_7 ?_))
 obtain rfl := si hm
 refine EndStep.mk _ lt0 ⟨(by rw [← ((and_f g23_7)).symm] <;> rfl), rfl⟩ (ConvH.of (.cons r0 .nil))

noncomputable def Jai : List UInt8 → Nat → Str → Option (Fl (Str × Err) (Str))
  | [], _, y0_0 => some (Fl.go y0_0)
  | e0 :: xs0, i0, y0_0 =>
    (if decide ((e0.toNat : Int) < 32) then some true else some (decide ((e0.toNat : Int) > 126))).bind fun x21 =>
    if x21 then
    some (Fl.ret (([] : Str), (some 2)))
    else
    (if decide ((e0.toNat : Int) = 34) then some true else some (decide ((e0.toNat : Int) = 92))).bind fun x32 =>
    if x32 then
    (chk (y0_0.length + ([(92 : UInt8)] : Str).length ≤ lim)).bind fun _ =>
    (chk ((y0_0 ++ ([(92 : UInt8)] : Str)).length + ([e0] : Str).length ≤ lim)).bind fun _ =>
    Jai xs0 (i0 + 1) ((y0_0 ++ ([(92 : UInt8)] : Str)) ++ ([e0] : Str))
    else
    (chk (y0_0.length + ([e0] : Str).length ≤ lim)).bind fun _ =>
    Jai xs0 (i0 + 1) (y0_0 ++ ([e0] : Str))
noncomputable def Jbh (s : Str) : Option (Str × Err) :=
  (chk (s.length ≤ szMax)).bind fun _ =>
  (Jai s 0 ([(34 : UInt8)] : Str)).bind fun s0 => s0.el some fun t0 =>
  (chk (t0.length + ([(34 : UInt8)] : Str).length ≤ lim)).bind fun _ =>
  some ((t0 ++ ([(34 : UInt8)] : Str)), none)
set_option maxHeartbeats 8000000 in
theorem Jb1 {s : Str} {K : Hp} {r : Str × Err}
    (hm : Jbh s = some r)  :
    Fn Tryz.prog 44 [str s] K [] (fun v K' H' => v = .tuple #[str r.1, errV 44 r.2] ∧ H' = []) := by
 refine Fn.enter Tryz.func44 Tryz.call44 rfl fun F => ?_
 unfold Jbh at hm
 refine bsO (len := 1) (enc := eU) (l := ([(34 : UInt8)] : Str)) (cl := [.int .u8 34]) elT93 rfl rfl (fun _ _ => rfl) rfl rfl rfl ?_ fun b6 => ?_
 · conv => whnf
   refine cond_T ?_
   first | done | rfl
 refine RStep.of (len_str rfl ?_)
 obtain ⟨hk0, hm⟩ := chkb hm
 obtain ⟨s0, hl0, hm⟩ := bnd hm
 refine code_cut (σ := (Str) × Option Addr × Nat) [2, 3, 4, 5, 9, 10, 11, 12, 13, 14, 15, 16, 17, 18, 19, 20, 21, 22, 23, 24, 25, 26, 27, 28, 29, 30, 31, 32, 33, 34, 35, 36, 37, 38, 39, 40, 41, 42] (fun (t0, t0_a0, t0_c0) => [(4, .slice t0_a0 t0.length t0_c0)]) (fun (t0, t0_a0, t0_c0) => [OwnL eU t0_a0 5 1 t0_c0 t0, F]) (fun zz K1 => match zz with | (t0, t0_a0, t0_c0) => (0 < t0.length → Has t0_a0) ∧ s0 = Fl.go t0) ?_ ?_
 refine block_go rfl ?_
 refine loop_rule (σ := Nat × Str × Option Addr × Nat) [2, 3, 4, 5, 9, 10, 11, 12, 13, 14, 15, 16, 17, 18, 19, 20, 21, 22, 23, 24, 25, 26, 27, 28, 29, 30, 31, 32, 33, 34, 35, 36, 37, 38, 39, 40, 41, 42] (fun (i0, y0_0, y0_a0, y0_c0) => [(9, .int .i64 (i0 : Int)), (4, .slice y0_a0 y0_0.length y0_c0)]) (fun (i0, y0_0, y0_a0, y0_c0) => [OwnL eU y0_a0 5 1 y0_c0 y0_0, F]) (fun zz K1 => match zz with | (i0, y0_0, y0_a0, y0_c0) => (0 < y0_0.length → Has y0_a0) ∧ Jai (s.drop i0) i0 y0_0 = some s0) (fun zz => s.length - zz.1) (0, ([(34 : UInt8)] : Str), (some ⟨b6, 0, none⟩), 1) rfl ⟨rfl, rfl, trivial⟩ (ConvH.of (.cons r0 (.cons r0 .nil))) ⟨(fun _ => ⟨_, _, rfl⟩), hl0⟩ ?_
 clear hl0
 rintro ⟨i0, y0_0, y0_a0, y0_c0⟩ Kb0 lk0 ⟨y0_h0, hl0⟩ j0
 refine cond_go rfl ?_
 refine cond_s (fun w0 => ?_) (fun w0 => ?_)
 obtain ⟨e0, hx0, hd0⟩ := ltx w0
 rw [hd0, Jai.eq_2] at hl0
 refine block_go rfl ?_
 refine idx_str rfl (nn _) hx0 ?_
 obtain ⟨x21, e21, hl0⟩ := bnd hl0
 refine cond_s (fun g16_5 => ?_) (fun g16_5 => ?_)
 replace e21 := ift g16_5 e21
 refine cond_t g16_5 (cond_t g16_5 (cond_t g16_5 (cond_t g16_5 (cond_go rfl (cond_T ?_)))))
 replace hl0 := ift (si e21).symm hl0
 refine mk_iface rfl ?_
 obtain rfl := si hl0
 replace hm := elr hm
 obtain rfl := si hm
 refine EndStep.mk _ lk0 ⟨rfl, rfl⟩ (ConvH.of (.cons r1 .nil))
 replace e21 := iff_ g16_5 e21
 refine cond_f g16_5 (cond_f g16_5 (idx_str rfl (nn _) hx0 (cond_f g16_5 (cond_f g16_5 (cond_go rfl ?_)))))
 refine cond_s (fun w21 => ?_) (fun w21 => ?_)
 replace hl0 := ift ((si e21).symm.trans w21) hl0
 refine mk_iface rfl ?_
 obtain rfl := si hl0
 replace hm := elr hm
 obtain rfl := si hm
 refine EndStep.mk _ lk0 ⟨rfl, rfl⟩ (ConvH.of (.cons r1 .nil))
 replace hl0 := iff_ ((si e21).symm.trans w21) hl0
 refine idx_str rfl (nn _) hx0 (eq_int ?_)
 obtain ⟨x32, e32, hl0⟩ := bnd hl0
 refine cond_s (fun g27_7 => ?_) (fun g27_7 => ?_)
 replace e32 := ift g27_7 e32
 refine cond_t g27_7 (cond_t g27_7 (cond_t g27_7 (cond_t g27_7 (cond_go rfl (cond_T ?_)))))
 replace hl0 := ift (si e32).symm hl0
 refine bsO (len := 1) (enc := eU) (l := ([(92 : UInt8)] : Str)) (cl := [.int .u8 92]) elT93 rfl rfl (fun _ _ => rfl) rfl rfl rfl ?_ fun b34 => ?_
 · conv => whnf
   refine cond_T ?_
   first | done | rfl
 obtain ⟨h35, hl0⟩ := chkb hl0
 refine apE rfl r1 elT93 (src_own' rfl r0 rfl (fun _ => rfl) (fun _ => rfl)) h35 ?_
 intro a35 c35 o35
 refine idx_str rfl (nn _) hx0 ?_
 refine bsO (len := 1) (enc := eU) (l := ([e0] : Str)) (cl := [.int .u8 (e0.toNat : Int)]) elT93 rfl rfl (fun _ _ => rfl) rfl rfl rfl ?_ fun b40 => ?_
 · conv => whnf
   refine cond_T ?_
   first | done | rfl
 obtain ⟨h41, hl0⟩ := chkb hl0
 refine apE rfl r1 elT93 (src_own' rfl r0 rfl (fun _ => rfl) (fun _ => rfl)) h41 ?_
 intro a41 c41 o41
 refine int_in (cntz hx0 hk0) ?_
 refine RoundStep.mk (i0 + 1, ((y0_0 ++ ([(92 : UInt8)] : Str)) ++ ([e0] : Str)), a41, c41) ⟨rfl, rfl, trivial⟩ (by repeat (first | exact trivial | refine And.intro rfl ?_)) (ConvH.of (.cons r0 (.cons r2 .nil))) lk0 (ltm hx0) ⟨o41, hl0⟩
 replace e32 := iff_ g27_7 e32
 refine cond_f g27_7 (cond_f g27_7 (idx_str rfl (nn _) hx0 (cond_f g27_7 (eq_int (cond_f g27_7 ?_)))))
 refine cond_go rfl ?_
 refine cond_s (fun w32 => ?_) (fun w32 => ?_)
 replace hl0 := ift ((si e32).symm.trans w32) hl0
 refine bsO (len := 1) (enc := eU) (l := ([(92 : UInt8)] : Str)) (cl := [.int .u8 92]) elT93 rfl rfl (fun _ _ => rfl) rfl rfl rfl ?_ fun b34 => ?_
 · conv => whnf
   refine cond_T ?_
   first | done | rfl
 obtain ⟨h35, hl0⟩ := chkb hl0
 refine apE rfl r1 elT93 (src_own' rfl r0 rfl (fun _ => rfl) (fun _ => rfl)) h35 ?_
 intro a35 c35 o35
 refine idx_str rfl (nn _) hx0 ?_
 refine bsO (len := 1) (enc := eU) (l := ([e0] : Str)) (cl := [.int .u8 (e0.toNat : Int)]) elT93 rfl rfl (fun _ _ => rfl) rfl rfl rfl ?_ fun b40 => ?_
 · conv => whnf
   refine cond_T ?_
   first | done | rfl
 obtain ⟨h41, hl0⟩ := chkb hl0
 refine apE rfl r1 elT93 (src_own' rfl r0 rfl (fun _ => rfl) (fun _ => rfl)) h41 ?_
 intro a41 c41 o41
 refine int_in (cntz hx0 hk0) ?_
 refine RoundStep.mk (i0 + 1, ((y0_0 ++ ([(92 : UInt8)] : Str)) ++ ([e0] : Str)), a41, c41) ⟨rfl, rfl, trivial⟩ (by repeat (first | exact trivial | refine And.intro rfl ?_)) (ConvH.of (.cons r0 (.cons r2 .nil))) lk0 (ltm hx0) ⟨o41, hl0⟩
 replace hl0 := iff_ ((si e32).symm.trans w32) hl0
 refine idx_str rfl (nn _) hx0 ?_
 refine bsO (len := 1) (enc := eU) (l := ([e0] : Str)) (cl := [.int .u8 (e0.toNat : Int)]) elT93 rfl rfl (fun _ _ => rfl) rfl rfl rfl ?_ fun b40 => ?_
 · conv => whnf
   refine cond_T ?_
   first | done | rfl
 obtain ⟨h41, hl0⟩ := chkb hl0
 refine apE rfl r1 elT93 (src_own' rfl r0 rfl (fun _ => rfl) (fun _ => rfl)) h41 ?_
 intro a41 c41 o41
 refine int_in (cntz hx0 hk0) ?_
 refine RoundStep.mk (i0 + 1, (y0_0 ++ ([e0] : Str)), a41, c41) ⟨rfl, rfl, trivial⟩ (by repeat (first | exact trivial | refine And.intro rfl ?_)) (ConvH.of (.cons r0 (.cons r1 .nil))) lk0 (ltm hx0) ⟨o41, hl0⟩
 rw [lty w0, Jai.eq_1] at hl0
 refine cond_T ?_
 refine MeetStep.mk (y0_0, y0_a0, y0_c0) ⟨rfl, trivial⟩ (by repeat (first | exact trivial | refine And.intro rfl ?_)) (ConvH.of (.cons r0 (.cons r0 .nil))) lk0 ⟨y0_h0, (si hl0).symm⟩
 rintro ⟨t0, t0_a0, t0_c0⟩ Kt0 lt0 ⟨t0_h0, rfl⟩ j0
 replace hm := elg hm
 refine bsO (len := 1) (enc := eU) (l := ([(34 : UInt8)] : Str)) (cl := [.int .u8 34]) elT93 rfl rfl (fun _ _ => rfl) rfl rfl rfl ?_ fun b44 => ?_
 · conv => whnf
   refine cond_T ?_
   first | done | rfl
 obtain ⟨h45, hm⟩ := chkb hm
 refine apE rfl r1 elT93 (src_own' rfl r0 rfl (fun _ => rfl) (fun _ => rfl)) h45 ?_
 intro a45 c45 o45
 refine RStep.of (cv_ownE rfl r0 rfl rfl rfl ?_)
 obtain rfl := si hm
 refine EndStep.mk _ lt0 ⟨rfl, rfl⟩ (ConvH.of (.cons r2 .nil))

noncomputable def Jag (s : Str) : Option (Bool) :=
  (Jbh s).bind fun x7 =>
  some x7.2.isNone
set_option maxHeartbeats 8000000 in
theorem Ja2 {s : Str} {K : Hp} {r : Bool}
    (hm : Jag s = some r)  :
    Fn Tryz.prog 87 [str s] K [] (fun v K' H' => v = .bool r ∧ H' = []) := by
 refine Fn.enter Tryz.func87 Tryz.call87 rfl fun F => ?_
 unfold Jag at hm
 obtain ⟨x7, q7, hm⟩ := bnd hm
 refine call_fn (Jb1 (s := s) q7) .nil ?_
 rintro _ K7 _ l7 ⟨rfl, rfl⟩
 refine eq_err rfl ?_
 obtain rfl := si hm
 refine EndStep.mk _ l7 ⟨rfl, rfl⟩ (ConvH.of (.cons r0 .nil))

noncomputable def Jbq (c : UInt8) : Option (Bool) :=
  some ((decide ((c.toNat : Int) ≥ 97) && decide ((c.toNat : Int) ≤ 122)) || decide ((c.toNat : Int) = 95))
set_option maxHeartbeats 8000000 in
theorem JbQ {c : UInt8} {K : Hp} {r : Bool}
    (hm : Jbq c = some r)  :
    Fn Tryz.prog 140 [.int .u8 (c.toNat : Int)] K [] (fun v K' H' => v = .bool r ∧ H' = []) := by
 refine Fn.enter Tryz.func140 Tryz.call140 rfl fun F => ?_
 unfold Jbq at hm
 refine cond_s (fun g5_1 => ?_) (fun g5_1 => ?_)
 refine cond_t g5_1 (cond_t g5_1 ?_)
 refine cond_s (fun g9_1 => ?_) (fun g9_1 => ?_)
 refine cond_t g9_1 (cond_t g9_1 ?_)
 obtain rfl := si hm
 refine EndStep.mk _ (Hp.Le.refl _) ⟨(by rw [← ((or_t (and_t g5_1 g9_1))).symm] <;> rfl), rfl⟩ (ConvH.of (.cons r0 .nil))
 refine cond_f g9_1 (eq_int (cond_f g9_1 ?_))
 obtain rfl := si hm
 refine EndStep.mk _ (Hp.Le.refl _) ⟨(by rw [← (or_e (b := decide ((c.toNat : Int) = 95)) (and_g g5_1 g9_1))] <;> rfl), rfl⟩ (ConvH.of (.cons r0 .nil))
 refine cond_f g5_1 (cond_f g5_1 (cond_F (cond_F (eq_int (cond_F ?_)))))
 obtain rfl := si hm
 refine EndStep.mk _ (Hp.Le.refl _) ⟨(by rw [← (or_e (b := decide ((c.toNat : Int) = 95)) (and_f g5_1))] <;> rfl), rfl⟩ (ConvH.of (.cons r0 .nil))

noncomputable def Jbi (c : UInt8) : Option (Bool) :=
  some (decide ((c.toNat : Int) ≥ 48) && decide ((c.toNat : Int) ≤ 57))
set_option maxHeartbeats 8000000 in
theorem Jbu {c : UInt8} {K : Hp} {r : Bool}
    (hm : Jbi c = some r)  :
    Fn Tryz.prog 141 [.int .u8 (c.toNat : Int)] K [] (fun v K' H' => v = .bool r ∧ H' = []) := by
 refine Fn.enter Tryz.func141 Tryz.call141 rfl fun F => ?_
 unfold Jbi at hm
 refine cond_s (fun g5_1 => ?_) (fun g5_1 => ?_)
 refine cond_t g5_1 (cond_t g5_1 ?_)
 obtain rfl := si hm
 refine EndStep.mk _ (Hp.Le.refl _) ⟨(by rw [← (and_e (b := decide ((c.toNat : Int) ≤ 57)) g5_1)] <;> rfl), rfl⟩ (ConvH.of (.cons r0 .nil))
 refine cond_f g5_1 (cond_f g5_1 ?_)
 obtain rfl := si hm
 refine EndStep.mk _ (Hp.Le.refl _) ⟨(by rw [← ((and_f g5_1)).symm] <;> rfl), rfl⟩ (ConvH.of (.cons r0 .nil))

noncomputable def JaB (s : Str) : Nat → Str → Int → Option (Fl (Int × Str) (Str × Int))
  | 0, _, _ => none
  | xs0 + 1, y0_0, y0_1 =>
    if decide (y0_1 < (s.length : Int)) then
    (ix s y0_1).bind fun x15 =>
    if decide ((x15.toNat : Int) = 34) then
    (chk (InI (y0_1 + 1))).bind fun _ =>
    some (Fl.ret ((y0_1 + 1), y0_0))
    else
    if decide ((x15.toNat : Int) = 92) then
    (chk (InI (y0_1 + 1))).bind fun _ =>
    if decide ((y0_1 + 1) = (s.length : Int)) then
    some (Fl.ret (0, ([] : Str)))
    else
    (ix s (y0_1 + 1)).bind fun x35 =>
    (if decide ((x35.toNat : Int) ≠ 34) then (ix s (y0_1 + 1)).bind fun x40 =>
    some (decide ((x40.toNat : Int) ≠ 92)) else some false).bind fun x42 =>
    if x42 then
    some (Fl.ret (0, ([] : Str)))
    else
    (ix s (y0_1 + 1)).bind fun x46 =>
    (chk (y0_0.length + ([x46] : Str).length ≤ lim)).bind fun _ =>
    (chk (InI ((y0_1 + 1) + 1))).bind fun _ =>
    JaB s xs0 (y0_0 ++ ([x46] : Str)) ((y0_1 + 1) + 1)
    else
    if (decide ((x15.toNat : Int) < 32) || decide ((x15.toNat : Int) > 126)) then
    some (Fl.ret (0, ([] : Str)))
    else
    (chk (y0_0.length + ([x15] : Str).length ≤ lim)).bind fun _ =>
    (chk (InI (y0_1 + 1))).bind fun _ =>
    JaB s xs0 (y0_0 ++ ([x15] : Str)) (y0_1 + 1)
    else
    some (Fl.go (y0_0, y0_1))
noncomputable def JbK (n : Nat) (s : Str) : Option (Int × Str) :=
  (JaB s n [] 1).bind fun s0 => s0.el some fun t0 =>
  some (0, ([] : Str))
set_option maxHeartbeats 8000000 in
theorem Jcf {n : Nat} {s : Str} {K : Hp} {r : Int × Str}
    (hm : JbK n s = some r)  :
    Fn Tryz.prog 142 [str s] K [] (fun v K' H' => v = .tuple #[.int .i64 r.1, str r.2] ∧ H' = []) := by
 refine Fn.enter Tryz.func142 Tryz.call142 rfl fun F => ?_
 unfold JbK at hm
 obtain ⟨s0, hl0, hm⟩ := bnd hm
 refine nilC eU 5 1 ?_
 refine code_cut (σ := (Str × Int) × Option Addr × Nat) [2, 3, 4, 5, 6, 7, 8, 9, 10, 11, 12, 13, 14, 15, 16, 17, 18, 19, 20, 21, 22, 23, 24, 25, 26, 27, 28, 29, 30, 31, 32, 33, 34, 35, 36, 37, 38, 39, 40, 41, 42, 43, 44, 45, 46, 47, 48, 49, 50, 51, 52, 53, 54, 55, 56, 57] (fun (t0, t0_a0, t0_c0) => [(4, .slice t0_a0 t0.1.length t0_c0), (5, .int .i64 t0.2)]) (fun (t0, t0_a0, t0_c0) => [OwnL eU t0_a0 5 1 t0_c0 t0.1, F]) (fun zz K1 => match zz with | (t0, t0_a0, t0_c0) => (0 < t0.1.length → Has t0_a0) ∧ s0 = Fl.go t0) ?_ ?_
 refine block_go rfl ?_
 refine loop_rule (σ := Nat × Str × Int × Option Addr × Nat) [2, 3, 4, 5, 6, 7, 8, 9, 10, 11, 12, 13, 14, 15, 16, 17, 18, 19, 20, 21, 22, 23, 24, 25, 26, 27, 28, 29, 30, 31, 32, 33, 34, 35, 36, 37, 38, 39, 40, 41, 42, 43, 44, 45, 46, 47, 48, 49, 50, 51, 52, 53, 54, 55, 56, 57] (fun (i0, y0_0, y0_1, y0_a0, y0_c0) => [(4, .slice y0_a0 y0_0.length y0_c0), (5, .int .i64 y0_1)]) (fun (i0, y0_0, y0_1, y0_a0, y0_c0) => [OwnL eU y0_a0 5 1 y0_c0 y0_0, F]) (fun zz K1 => match zz with | (i0, y0_0, y0_1, y0_a0, y0_c0) => (0 < y0_0.length → Has y0_a0) ∧ JaB s i0 y0_0 y0_1 = some s0) (fun zz => zz.1) (n, [], 1, none, 0) rfl ⟨rfl, rfl, trivial⟩ (ConvH.of (.cons r0 (.cons r0 .nil))) ⟨(fun h => by simp at h), hl0⟩ ?_
 clear hl0
 rintro ⟨i0, y0_0, y0_1, y0_a0, y0_c0⟩ Kb0 lk0 ⟨y0_h0, hl0⟩ j0
 cases i0 with
 | zero => rw [JaB.eq_1] at hl0; cases hl0
 | succ i0 =>
  rw [JaB.eq_2] at hl0
  refine RStep.of (len_str rfl (cond_go rfl ?_))
  refine cond_s (fun w10 => ?_) (fun w10 => ?_)
  replace hl0 := ift w10 hl0
  refine block_go rfl ?_
  obtain ⟨x15, l15, k15, hl0⟩ := ixb hl0
  refine idx_str rfl l15 k15 ?_
  refine block_go rfl ?_
  refine eq_int (cond_go rfl ?_)
  refine cond_s (fun w16 => ?_) (fun w16 => ?_)
  replace hl0 := ift w16 hl0
  refine draw_go ⟨⟨[], false⟩, _, []⟩ (by kernel_rfl) ⟨Hp.Le.refl _, (ConvH.of .nil)⟩ ?_
  obtain ⟨h20, hl0⟩ := chkb hl0
  refine int_in h20 ?_
  refine cv_ownE rfl r0 rfl rfl rfl ?_
  obtain rfl := si hl0
  replace hm := elr hm
  obtain rfl := si hm
  refine EndStep.mk _ lk0 ⟨rfl, rfl⟩ (ConvH.of (.cons r1 .nil))
  replace hl0 := iff_ w16 hl0
  refine eq_int (cond_go rfl ?_)
  refine cond_s (fun w23 => ?_) (fun w23 => ?_)
  replace hl0 := ift w23 hl0
  obtain ⟨h27, hl0⟩ := chkb hl0
  refine int_in h27 (RStep.of (len_str rfl (eq_int ?_)))
  refine cond_s (fun g32_10 => ?_) (fun g32_10 => ?_)
  replace hl0 := ift g32_10 hl0
  refine cond_t g32_10 (cond_t g32_10 (cond_t g32_10 (cond_t g32_10 (cond_t g32_10 (cond_t g32_10 ?_)))))
  refine cond_go rfl (cond_T ?_)
  obtain rfl := si hl0
  replace hm := elr hm
  obtain rfl := si hm
  refine EndStep.mk _ lk0 ⟨rfl, rfl⟩ (ConvH.of (.cons r1 .nil))
  replace hl0 := iff_ g32_10 hl0
  refine cond_f g32_10 (cond_f g32_10 ?_)
  obtain ⟨x35, l35, k35, hl0⟩ := ixb hl0
  refine idx_str rfl l35 k35 (cond_f g32_10 (neq_int (cond_f g32_10 ?_)))
  obtain ⟨x42, e42, hl0⟩ := bnd hl0
  refine cond_s (fun g37_10 => ?_) (fun g37_10 => ?_)
  replace e42 := ift g37_10 e42
  refine cond_t g37_10 (cond_t g37_10 ?_)
  obtain ⟨x40, l40, k40, e42⟩ := ixb e42
  refine idx_str rfl l40 k40 (cond_t g37_10 (neq_int (cond_f g32_10 (cond_t g37_10 (cond_f g32_10 ?_)))))
  refine cond_go rfl ?_
  refine cond_s (fun w43 => ?_) (fun w43 => ?_)
  replace hl0 := ift ((si e42).symm.trans w43) hl0
  obtain rfl := si hl0
  replace hm := elr hm
  obtain rfl := si hm
  refine EndStep.mk _ lk0 ⟨rfl, rfl⟩ (ConvH.of (.cons r1 .nil))
  replace hl0 := iff_ ((si e42).symm.trans w43) hl0
  obtain ⟨x46, l46, k46, hl0⟩ := ixb hl0
  refine idx_str rfl l46 k46 ?_
  refine bsO (len := 1) (enc := eU) (l := ([x46] : Str)) (cl := [.int .u8 (x46.toNat : Int)]) elT93 rfl rfl (fun _ _ => rfl) rfl rfl rfl ?_ fun b56 => ?_
  · conv => whnf
    refine cond_T ?_
    first | done | rfl
  obtain ⟨h57, hl0⟩ := chkb hl0
  refine apE rfl r1 elT93 (src_own' rfl r0 rfl (fun _ => rfl) (fun _ => rfl)) h57 ?_
  intro a57 c57 o57
  obtain ⟨h12, hl0⟩ := chkb hl0
  refine int_in h12 ?_
  refine RoundStep.mk (i0, (y0_0 ++ ([x46] : Str)), ((y0_1 + 1) + 1), a57, c57) ⟨rfl, rfl, trivial⟩ (by repeat (first | exact trivial | refine And.intro rfl ?_)) (ConvH.of (.cons r0 (.cons r1 .nil))) lk0 (Nat.lt_succ_self _) ⟨o57, hl0⟩
  replace e42 := iff_ g37_10 e42
  refine cond_f g37_10 (cond_f g37_10 (cond_f g37_10 (cond_f g32_10 (cond_f g37_10 (cond_f g32_10 ?_)))))
  refine cond_go rfl (cond_F ?_)
  replace hl0 := iff_ (si e42).symm hl0
  obtain ⟨x46, l46, k46, hl0⟩ := ixb hl0
  refine idx_str rfl l46 k46 ?_
  refine bsO (len := 1) (enc := eU) (l := ([x46] : Str)) (cl := [.int .u8 (x46.toNat : Int)]) elT93 rfl rfl (fun _ _ => rfl) rfl rfl rfl ?_ fun b56 => ?_
  · conv => whnf
    refine cond_T ?_
    first | done | rfl
  obtain ⟨h57, hl0⟩ := chkb hl0
  refine apE rfl r1 elT93 (src_own' rfl r0 rfl (fun _ => rfl) (fun _ => rfl)) h57 ?_
  intro a57 c57 o57
  obtain ⟨h12, hl0⟩ := chkb hl0
  refine int_in h12 ?_
  refine RoundStep.mk (i0, (y0_0 ++ ([x46] : Str)), ((y0_1 + 1) + 1), a57, c57) ⟨rfl, rfl, trivial⟩ (by repeat (first | exact trivial | refine And.intro rfl ?_)) (ConvH.of (.cons r0 (.cons r1 .nil))) lk0 (Nat.lt_succ_self _) ⟨o57, hl0⟩
  replace hl0 := iff_ w23 hl0
  refine cond_s (fun g50_13 => ?_) (fun g50_13 => ?_)
  refine cond_t g50_13 (cond_t g50_13 (cond_go rfl (cond_T ?_)))
  replace hl0 := ift (or_t g50_13) hl0
  obtain rfl := si hl0
  replace hm := elr hm
  obtain rfl := si hm
  refine EndStep.mk _ lk0 ⟨rfl, rfl⟩ (ConvH.of (.cons r1 .nil))
  refine cond_f g50_13 (cond_f g50_13 (cond_go rfl ?_))
  refine cond_s (fun w47 => ?_) (fun w47 => ?_)
  replace hl0 := ift (or_u g50_13 w47) hl0
  obtain rfl := si hl0
  replace hm := elr hm
  obtain rfl := si hm
  refine EndStep.mk _ lk0 ⟨rfl, rfl⟩ (ConvH.of (.cons r1 .nil))
  replace hl0 := iff_ (or_f g50_13 w47) hl0
  refine bsO (len := 1) (enc := eU) (l := ([x15] : Str)) (cl := [.int .u8 (x15.toNat : Int)]) elT93 rfl rfl (fun _ _ => rfl) rfl rfl rfl ?_ fun b56 => ?_
  · conv => whnf
    refine cond_T ?_
    first | done | rfl
  obtain ⟨h57, hl0⟩ := chkb hl0
  refine apE rfl r1 elT93 (src_own' rfl r0 rfl (fun _ => rfl) (fun _ => rfl)) h57 ?_
  intro a57 c57 o57
  obtain ⟨h12, hl0⟩ := chkb hl0
  refine int_in h12 ?_
  refine RoundStep.mk (i0, (y0_0 ++ ([x15] : Str)), (y0_1 + 1), a57, c57) ⟨rfl, rfl, trivial⟩ (by repeat (first | exact trivial | refine And.intro rfl ?_)) (ConvH.of (.cons r0 (.cons r1 .nil))) lk0 (Nat.lt_succ_self _) ⟨o57, hl0⟩
  replace hl0 := iff_ w10 hl0
  refine cond_T ?_
  refine MeetStep.mk ((y0_0, y0_1), y0_a0, y0_c0) ⟨rfl, rfl, trivial⟩ (by repeat (first | exact trivial | refine And.intro rfl ?_)) (ConvH.of (.cons r0 (.cons r0 .nil))) lk0 ⟨y0_h0, (si hl0).symm⟩
 rintro ⟨t0, t0_a0, t0_c0⟩ Kt0 lt0 ⟨t0_h0, rfl⟩ j0
 replace hm := elg hm
 obtain rfl := si hm
 refine EndStep.mk _ lt0 ⟨rfl, rfl⟩ (ConvH.of (.cons r1 .nil))

noncomputable def J6 (s : Str) (prefixZ : Str) : Option (Bool) :=
  (if decide ((s.length : Int) ≥ (prefixZ.length : Int)) then (chk (0 ≤ (0 : Int) ∧ (0 : Int) ≤ (prefixZ.length : Int) ∧ (prefixZ.length : Int) ≤ (s.length : Int))).bind fun _ =>
  some (decide ((subL s (0 : Int) (prefixZ.length : Int)) = prefixZ)) else some false).bind fun x17 =>
  some x17
set_option maxHeartbeats 8000000 in
theorem JaH {s : Str} {prefixZ : Str} {K : Hp} {r : Bool}
    (hm : J6 s prefixZ = some r)  :
    Fn Tryz.prog 144 [str s, str prefixZ] K [] (fun v K' H' => v = .bool r ∧ H' = []) := by
 refine Fn.enter Tryz.func144 Tryz.call144 rfl fun F => ?_
 unfold J6 at hm
 refine RStep.of (len_str rfl (RStep.of (len_str rfl ?_)))
 obtain ⟨x17, e17, hm⟩ := bnd hm
 refine cond_s (fun g10_1 => ?_) (fun g10_1 => ?_)
 replace e17 := ift g10_1 e17
 refine cond_t g10_1 (cond_t g10_1 (RStep.of (len_str rfl (cond_t g10_1 ?_))))
 obtain ⟨h14, e17⟩ := chkb e17
 refine RStep.ofN (sl_str (lo := none) (hi := (some (prefixZ.length : Int))) rfl h14 (cond_t g10_1 (cond_t g10_1 (eq_str (cond_t g10_1 ?_)))))
 obtain rfl := si hm
 refine EndStep.mk _ (Hp.Le.refl _) ⟨(by rw [← (si e17)] <;> rfl), rfl⟩ (ConvH.of (.cons r0 .nil))
 replace e17 := iff_ g10_1 e17
 refine cond_f g10_1 (cond_f g10_1 (cond_f g10_1 (cond_f g10_1 (cond_f g10_1 (cond_f g10_1 ?_)))))
 obtain rfl := si hm
 refine EndStep.mk _ (Hp.Le.refl _) ⟨(by rw [← ((si e17).symm).symm] <;> rfl), rfl⟩ (ConvH.of (.cons r0 .nil))

noncomputable def Jbm (s : Str) (prefixZ : Str) : Option (Bool) :=
  (J6 s prefixZ).bind fun x7 =>
  some x7
set_option maxHeartbeats 8000000 in
theorem Jb7 {s : Str} {prefixZ : Str} {K : Hp} {r : Bool}
    (hm : Jbm s prefixZ = some r)  :
    Fn Tryz.prog 143 [str s, str prefixZ] K [] (fun v K' H' => v = .bool r ∧ H' = []) := by
 refine Fn.enter Tryz.func143 Tryz.call143 rfl fun F => ?_
 unfold Jbm at hm
 obtain ⟨x7, q7, hm⟩ := bnd hm
 refine call_fn (JaH (s := s) (prefixZ := prefixZ) q7) .nil ?_
 rintro _ K7 _ l7 ⟨rfl, rfl⟩
 obtain rfl := si hm
 refine EndStep.mk _ l7 ⟨rfl, rfl⟩ (ConvH.of (.cons r0 .nil))

noncomputable def JaU (s : Str) : Nat → Int → Option (Int)
  | 0, _ => none
  | xs1 + 1, y1_0 =>
    if decide (y1_0 < (s.length : Int)) then
    (ix s y1_0).bind fun x23 =>
    (Jbq x23).bind fun x24 =>
    (if x24 then some true else (ix s y1_0).bind fun x28 =>
    (Jbi x28).bind fun x29 =>
    some x29).bind fun x30 =>
    if x30 then
    (chk (InI (y1_0 + 1))).bind fun _ =>
    JaU s xs1 (y1_0 + 1)
    else
    some y1_0
    else
    some y1_0
noncomputable def JaV (s : Str) : Nat → Int → Option (Int)
  | 0, _ => none
  | xs3 + 1, y3_0 =>
    (if decide (y3_0 < (s.length : Int)) then (ix s y3_0).bind fun x48 =>
    (Jbi x48).bind fun x49 =>
    some x49 else some false).bind fun x50 =>
    if x50 then
    (chk (InI (y3_0 + 1))).bind fun _ =>
    JaV s xs3 (y3_0 + 1)
    else
    some y3_0
noncomputable def JaW (s : Str) : Nat → Nat → Option (Fl (Int × Int × Str) (Unit))
  | 0, _ => some (Fl.go ())
  | xs5 + 1, i5 =>
    (ix ([([61, 61] : Str), ([33, 61] : Str), ([60, 61] : Str), ([60] : Str), ([43] : Str), ([45] : Str), ([42] : Str), ([40] : Str), ([41] : Str), ([123] : Str), ([125] : Str), ([44] : Str), ([59] : Str), ([61] : Str)]) (i5 : Int)).bind fun x73 =>
    (Jbm s x73).bind fun x77 =>
    if x77 then
    some (Fl.ret (4, (x73.length : Int), x73))
    else
    JaW s xs5 (i5 + 1)
noncomputable def JbV (n : Nat) (s : Str) : Option (Int × Int × Str) :=
  (ix s 0).bind fun x12 =>
  (Jbq x12).bind fun x15 =>
  if x15 then
  (JaU s n 1).bind fun t1 =>
  (chk (0 ≤ (0 : Int) ∧ (0 : Int) ≤ t1 ∧ t1 ≤ (s.length : Int))).bind fun _ =>
  some (1, t1, (subL s (0 : Int) t1))
  else
  (Jbi x12).bind fun x40 =>
  if x40 then
  (JaV s n 1).bind fun t3 =>
  if decide (t3 > 9) then
  some (0, 0, ([] : Str))
  else
  (chk (0 ≤ (0 : Int) ∧ (0 : Int) ≤ t3 ∧ t3 ≤ (s.length : Int))).bind fun _ =>
  some (2, t3, (subL s (0 : Int) t3))
  else
  if decide ((x12.toNat : Int) = 34) then
  (JbK n s).bind fun x64 =>
  some (3, x64.1, x64.2)
  else
  (chk (InI (14 : Int))).bind fun _ =>
  (JaW s (14 : Int).toNat 0).bind fun s5 => s5.el some fun t5 =>
  some (0, 0, ([] : Str))
set_option maxHeartbeats 8000000 in
theorem Jco {n : Nat} {s : Str} {K : Hp} {r : Int × Int × Str}
    (hm : JbV n s = some r)  :
    Fn Tryz.prog 125 [str s] K [] (fun v K' H' => v = .tuple #[.int .i64 r.1, .int .i64 r.2.1, str r.2.2] ∧ H' = []) := by
 refine Fn.enter Tryz.func125 Tryz.call125 rfl fun F => ?_
 unfold JbV at hm
 obtain ⟨x12, l12, k12, hm⟩ := ixb hm
 refine idx_str rfl l12 k12 ?_
 refine block_go rfl ?_
 obtain ⟨x15, q15, hm⟩ := bnd hm
 refine call_fn (JbQ (c := x12) q15) .nil ?_
 rintro _ K15 _ l15 ⟨rfl, rfl⟩
 refine cond_go rfl ?_
 refine cond_s (fun w13 => ?_) (fun w13 => ?_)
 replace hm := ift w13 hm
 obtain ⟨s1, hl1, hm⟩ := bnd hm
 refine code_cut (σ := (Int)) [5, 16, 17, 18, 19, 20, 21, 22, 23, 24, 25, 26, 27, 28, 29, 30, 31, 32, 33] (fun t1 => [(5, .int .i64 t1)]) (fun t1 => [F]) (fun zz K1 => match zz with | t1 => t1 = s1) ?_ ?_
 refine block_go rfl ?_
 refine loop_rule (σ := Nat × Int) [5, 16, 17, 18, 19, 20, 21, 22, 23, 24, 25, 26, 27, 28, 29, 30, 31, 32, 33] (fun (i1, y1_0) => [(5, .int .i64 y1_0)]) (fun (i1, y1_0) => [F]) (fun zz K1 => match zz with | (i1, y1_0) => JaU s i1 y1_0 = some s1) (fun zz => zz.1) (n, 1) rfl ⟨rfl, trivial⟩ (ConvH.of (.cons r0 .nil)) hl1 ?_
 clear hl1
 rintro ⟨i1, y1_0⟩ Kb1 lk1 hl1 j1
 conv at hl1 => whnf
 cases i1 with
 | zero => rw [JaU.eq_1] at hl1; cases hl1
 | succ i1 =>
  rw [JaU.eq_2] at hl1
  refine RStep.of (len_str rfl ?_)
  refine cond_s (fun g20_4 => ?_) (fun g20_4 => ?_)
  replace hl1 := ift g20_4 hl1
  refine cond_t g20_4 (cond_t g20_4 ?_)
  obtain ⟨x23, l23, k23, hl1⟩ := ixb hl1
  refine idx_str rfl l23 k23 (cond_t g20_4 ?_)
  obtain ⟨x24, q24, hl1⟩ := bnd hl1
  refine call_fn (JbQ (c := x23) q24) .nil ?_
  rintro _ K24 _ l24 ⟨rfl, rfl⟩
  refine cond_t g20_4 ?_
  obtain ⟨x30, e30, hl1⟩ := bnd hl1
  refine cond_s (fun g25_4 => ?_) (fun g25_4 => ?_)
  replace e30 := ift g25_4 e30
  refine cond_t g25_4 (cond_t g25_4 (cond_t g25_4 (cond_t g20_4 (cond_t g25_4 (cond_t g20_4 ?_)))))
  refine cond_go rfl (cond_T ?_)
  replace hl1 := ift (si e30).symm hl1
  refine block_go rfl ?_
  obtain ⟨h33, hl1⟩ := chkb hl1
  refine int_in h33 ?_
  refine RoundStep.mk (i1, (y1_0 + 1)) ⟨rfl, trivial⟩ (by repeat (first | exact trivial | refine And.intro rfl ?_)) (ConvH.of (.cons r0 .nil)) (lk1.trans l24) (Nat.lt_succ_self _) hl1
  replace e30 := iff_ g25_4 e30
  refine cond_f g25_4 (cond_f g25_4 ?_)
  obtain ⟨x28, l28, k28, e30⟩ := ixb e30
  refine idx_str rfl l28 k28 (cond_f g25_4 ?_)
  obtain ⟨x29, q29, e30⟩ := bnd e30
  refine call_fn (Jbu (c := x28) q29) .nil ?_
  rintro _ K29 _ l29 ⟨rfl, rfl⟩
  refine cond_t g20_4 (cond_f g25_4 (cond_t g20_4 (cond_go rfl ?_)))
  refine cond_s (fun w31 => ?_) (fun w31 => ?_)
  replace hl1 := ift ((si e30).symm.trans w31) hl1
  refine block_go rfl ?_
  obtain ⟨h33, hl1⟩ := chkb hl1
  refine int_in h33 ?_
  refine RoundStep.mk (i1, (y1_0 + 1)) ⟨rfl, trivial⟩ (by repeat (first | exact trivial | refine And.intro rfl ?_)) (ConvH.of (.cons r0 .nil)) ((lk1.trans l24).trans l29) (Nat.lt_succ_self _) hl1
  replace hl1 := iff_ ((si e30).symm.trans w31) hl1
  refine cond_T ?_
  refine MeetStep.mk (y1_0) ⟨rfl, trivial⟩ (by repeat (first | exact trivial | refine And.intro rfl ?_)) (ConvH.of (.cons r0 .nil)) ((lk1.trans l24).trans l29) (si hl1)
  replace hl1 := iff_ g20_4 hl1
  refine cond_f g20_4 (cond_f g20_4 (cond_f g20_4 (cond_f g20_4 (cond_f g20_4 (cond_f g20_4 ?_)))))
  refine cond_go rfl (cond_F (cond_T ?_))
  refine MeetStep.mk (y1_0) ⟨rfl, trivial⟩ (by repeat (first | exact trivial | refine And.intro rfl ?_)) (ConvH.of (.cons r0 .nil)) lk1 (si hl1)
 rintro t1 Kt1 lt1 rfl j1
 refine draw_go ⟨⟨[], false⟩, _, []⟩ (by kernel_rfl) ⟨Hp.Le.refl _, (ConvH.of .nil)⟩ ?_
 obtain ⟨h37, hm⟩ := chkb hm
 refine sl_str (lo := none) (hi := (some t1)) rfl h37 ?_
 obtain rfl := si hm
 refine EndStep.mk _ (l15.trans lt1) ⟨rfl, rfl⟩ (ConvH.of (.cons r0 .nil))
 replace hm := iff_ w13 hm
 obtain ⟨x40, q40, hm⟩ := bnd hm
 refine call_fn (Jbu (c := x12) q40) .nil ?_
 rintro _ K40 _ l40 ⟨rfl, rfl⟩
 refine cond_go rfl ?_
 refine cond_s (fun w38 => ?_) (fun w38 => ?_)
 replace hm := ift w38 hm
 obtain ⟨s3, hl3, hm⟩ := bnd hm
 refine code_cut (σ := (Int)) [5, 41, 42, 43, 44, 45, 46, 47, 48, 49, 50, 51, 52] (fun t3 => [(5, .int .i64 t3)]) (fun t3 => [F]) (fun zz K1 => match zz with | t3 => t3 = s3) ?_ ?_
 refine block_go rfl ?_
 refine loop_rule (σ := Nat × Int) [5, 41, 42, 43, 44, 45, 46, 47, 48, 49, 50, 51, 52] (fun (i3, y3_0) => [(5, .int .i64 y3_0)]) (fun (i3, y3_0) => [F]) (fun zz K1 => match zz with | (i3, y3_0) => JaV s i3 y3_0 = some s3) (fun zz => zz.1) (n, 1) rfl ⟨rfl, trivial⟩ (ConvH.of (.cons r0 .nil)) hl3 ?_
 clear hl3
 rintro ⟨i3, y3_0⟩ Kb3 lk3 hl3 j3
 conv at hl3 => whnf
 cases i3 with
 | zero => rw [JaV.eq_1] at hl3; cases hl3
 | succ i3 =>
  rw [JaV.eq_2] at hl3
  refine RStep.of (len_str rfl ?_)
  obtain ⟨x50, e50, hl3⟩ := bnd hl3
  refine cond_s (fun g45_8 => ?_) (fun g45_8 => ?_)
  replace e50 := ift g45_8 e50
  refine cond_t g45_8 (cond_t g45_8 ?_)
  obtain ⟨x48, l48, k48, e50⟩ := ixb e50
  refine idx_str rfl l48 k48 (cond_t g45_8 ?_)
  obtain ⟨x49, q49, e50⟩ := bnd e50
  refine call_fn (Jbu (c := x48) q49) .nil ?_
  rintro _ K49 _ l49 ⟨rfl, rfl⟩
  refine cond_t g45_8 (cond_go rfl ?_)
  refine cond_s (fun w50 => ?_) (fun w50 => ?_)
  replace hl3 := ift ((si e50).symm.trans w50) hl3
  refine block_go rfl ?_
  obtain ⟨h52, hl3⟩ := chkb hl3
  refine int_in h52 ?_
  refine RoundStep.mk (i3, (y3_0 + 1)) ⟨rfl, trivial⟩ (by repeat (first | exact trivial | refine And.intro rfl ?_)) (ConvH.of (.cons r0 .nil)) (lk3.trans l49) (Nat.lt_succ_self _) hl3
  replace hl3 := iff_ ((si e50).symm.trans w50) hl3
  refine cond_T ?_
  refine MeetStep.mk (y3_0) ⟨rfl, trivial⟩ (by repeat (first | exact trivial | refine And.intro rfl ?_)) (ConvH.of (.cons r0 .nil)) (lk3.trans l49) (si hl3)
  replace e50 := iff_ g45_8 e50
  refine cond_f g45_8 (cond_f g45_8 (cond_f g45_8 (cond_f g45_8 (cond_go rfl (cond_F ?_)))))
  replace hl3 := iff_ (si e50).symm hl3
  refine cond_T ?_
  refine MeetStep.mk (y3_0) ⟨rfl, trivial⟩ (by repeat (first | exact trivial | refine And.intro rfl ?_)) (ConvH.of (.cons r0 .nil)) lk3 (si hl3)
 rintro t3 Kt3 lt3 rfl j3
 refine cond_go rfl ?_
 refine cond_s (fun w54 => ?_) (fun w54 => ?_)
 replace hm := ift w54 hm
 obtain rfl := si hm
 refine EndStep.mk _ ((l15.trans l40).trans lt3) ⟨rfl, rfl⟩ (ConvH.of (.cons r0 .nil))
 replace hm := iff_ w54 hm
 refine draw_go ⟨⟨[], false⟩, _, []⟩ (by kernel_rfl) ⟨Hp.Le.refl _, (ConvH.of .nil)⟩ ?_
 obtain ⟨h58, hm⟩ := chkb hm
 refine sl_str (lo := none) (hi := (some t3)) rfl h58 ?_
 obtain rfl := si hm
 refine EndStep.mk _ ((l15.trans l40).trans lt3) ⟨rfl, rfl⟩ (ConvH.of (.cons r0 .nil))
 replace hm := iff_ w38 hm
 refine eq_int (cond_go rfl ?_)
 refine cond_s (fun w59 => ?_) (fun w59 => ?_)
 replace hm := ift w59 hm
 obtain ⟨x64, q64, hm⟩ := bnd hm
 refine call_fn (Jcf (s := s) q64) .nil ?_
 rintro _ K64 _ l64 ⟨rfl, rfl⟩
 obtain rfl := si hm
 refine EndStep.mk _ ((l15.trans l40).trans l64) ⟨rfl, rfl⟩ (ConvH.of (.cons r0 .nil))
 replace hm := iff_ w59 hm
 refine bsO (len := 14) (enc := eS) (l := [([61, 61] : Str), ([33, 61] : Str), ([60, 61] : Str), ([60] : Str), ([43] : Str), ([45] : Str), ([42] : Str), ([40] : Str), ([41] : Str), ([123] : Str), ([125] : Str), ([44] : Str), ([59] : Str), ([61] : Str)]) (cl := [str ([61, 61] : Str), str ([33, 61] : Str), str ([60, 61] : Str), str ([60] : Str), str ([43] : Str), str ([45] : Str), str ([42] : Str), str ([40] : Str), str ([41] : Str), str ([123] : Str), str ([125] : Str), str ([44] : Str), str ([59] : Str), str ([61] : Str)]) elT70 rfl rfl (fun _ _ => rfl) rfl rfl rfl ?_ fun b69 => ?_
 · conv => whnf
   refine cond_T (cond_T (cond_T (cond_T (cond_T (cond_T ?_)))))
   refine cond_T (cond_T (cond_T (cond_T (cond_T (cond_T ?_)))))
   refine cond_T (cond_T ?_)
   first | done | rfl
 refine RStep.of (len_slice rfl ?_)
 obtain ⟨hk5, hm⟩ := chkb hm
 obtain ⟨s5, hl5, hm⟩ := bnd hm
 refine code_cut (σ := (Unit)) [2, 3, 4, 10, 71, 72, 73, 74, 75, 76, 77, 78, 79, 80, 81] (fun t5 => []) (fun t5 => [OwnL eS (some ⟨b69, 0, none⟩) 9 1 14 ([([61, 61] : Str), ([33, 61] : Str), ([60, 61] : Str), ([60] : Str), ([43] : Str), ([45] : Str), ([42] : Str), ([40] : Str), ([41] : Str), ([123] : Str), ([125] : Str), ([44] : Str), ([59] : Str), ([61] : Str)]), F]) (fun zz K1 => match zz with | t5 => s5 = Fl.go t5) ?_ ?_
 refine block_go rfl ?_
 refine loop_rule (σ := Nat) [2, 3, 4, 10, 71, 72, 73, 74, 75, 76, 77, 78, 79, 80, 81] (fun i5 => [(71, .int .i64 (i5 : Int))]) (fun i5 => [OwnL eS (some ⟨b69, 0, none⟩) 9 1 14 ([([61, 61] : Str), ([33, 61] : Str), ([60, 61] : Str), ([60] : Str), ([43] : Str), ([45] : Str), ([42] : Str), ([40] : Str), ([41] : Str), ([123] : Str), ([125] : Str), ([44] : Str), ([59] : Str), ([61] : Str)]), F]) (fun zz K1 => match zz with | i5 => JaW s ((14 : Int).toNat - i5) i5 = some s5) (fun zz => (14 : Int).toNat - zz) (0) rfl ⟨rfl, trivial⟩ (ConvH.of (.cons r0 (.cons r0 .nil))) hl5 ?_
 clear hl5
 rintro i5 Kb5 lk5 hl5 j5
 conv at hl5 => whnf
 refine cond_go rfl ?_
 refine cond_s (fun w5 => ?_) (fun w5 => ?_)
 rw [ltn (n := (14 : Int)) w5, JaW.eq_2] at hl5
 refine block_go rfl ?_
 obtain ⟨x73, l73, k73, hl5⟩ := ixb hl5
 refine RStep.ofN (index_addr rfl rfl (hasO (fun _ => ⟨_, _, rfl⟩) k73) l73 (lt_ofE rfl l73 k73) (RStep.of (ld_own (i := ((i5 : Int)).toNat) (o := 0) r0 rfl k73 rfl rfl ?_)))
 obtain ⟨x77, q77, hl5⟩ := bnd hl5
 refine call_fn (Jb7 (s := s) (prefixZ := x73) q77) .nil ?_
 rintro _ K77 _ l77 ⟨rfl, rfl⟩
 refine cond_go rfl ?_
 refine cond_s (fun w77 => ?_) (fun w77 => ?_)
 replace hl5 := ift w77 hl5
 refine RStep.of (len_str rfl ?_)
 obtain rfl := si hl5
 replace hm := elr hm
 obtain rfl := si hm
 refine EndStep.mk _ (((l15.trans l40).trans lk5).trans l77) ⟨rfl, rfl⟩ (ConvH.of (.cons r1 .nil))
 replace hl5 := iff_ w77 hl5
 refine int_in (cntn w5 hk5) ?_
 refine RoundStep.mk (i5 + 1) ⟨rfl, trivial⟩ (by repeat (first | exact trivial | refine And.intro rfl ?_)) (ConvH.of (.cons r0 (.cons r0 .nil))) (lk5.trans l77) (ltnm w5) hl5
 rw [lto (n := (14 : Int)) w5, JaW.eq_1] at hl5
 refine cond_T ?_
 refine MeetStep.mk (()) trivial (by repeat (first | exact trivial | refine And.intro rfl ?_)) (ConvH.of (.cons r0 (.cons r0 .nil))) lk5 (si hl5).symm
 rintro t5 Kt5 lt5 rfl j5
 replace hm := elg hm
 obtain rfl := si hm
 refine EndStep.mk _ ((l15.trans l40).trans lt5) ⟨rfl, rfl⟩ (ConvH.of (.cons r1 .nil))

noncomputable def JaX (text : Str) : Nat → Int → Option (Int)
  | 0, _ => none
  | xs3 + 1, y3_0 =>
    (if decide (y3_0 < (text.length : Int)) then (ix text y3_0).bind fun x44 =>
    some (decide ((x44.toNat : Int) ≠ 10)) else some false).bind fun x46 =>
    if x46 then
    (chk (InI (y3_0 + 1))).bind fun _ =>
    JaX text xs3 (y3_0 + 1)
    else
    some y3_0
noncomputable def J3 (text : Str) (n : Nat) : Nat → (List Jt) → Int → Int → Int → Option (Fl ((List Jt) × Err) ((List Jt) × Int × Int × Int))
  | 0, _, _, _, _ => none
  | xs0 + 1, y0_0, y0_1, y0_2, y0_3 =>
    if decide (y0_3 < (text.length : Int)) then
    (ix text y0_3).bind fun x21 =>
    if decide ((x21.toNat : Int) = 10) then
    (chk (InI (y0_3 + 1))).bind fun _ =>
    (chk (InI (y0_1 + 1))).bind fun _ =>
    J3 text n xs0 y0_0 (y0_1 + 1) (y0_3 + 1) (y0_3 + 1)
    else
    if decide ((x21.toNat : Int) = 32) then
    (chk (InI (y0_3 + 1))).bind fun _ =>
    J3 text n xs0 y0_0 y0_1 y0_2 (y0_3 + 1)
    else
    if decide ((x21.toNat : Int) = 9) then
    (chk (InI (y0_3 + 1))).bind fun _ =>
    J3 text n xs0 y0_0 y0_1 y0_2 (y0_3 + 1)
    else
    if decide ((x21.toNat : Int) = 13) then
    (chk (InI (y0_3 + 1))).bind fun _ =>
    J3 text n xs0 y0_0 y0_1 y0_2 (y0_3 + 1)
    else
    if decide ((x21.toNat : Int) = 35) then
    (JaX text n y0_3).bind fun t3 =>
    J3 text n xs0 y0_0 y0_1 y0_2 t3
    else
    (chk (0 ≤ y0_3 ∧ y0_3 ≤ (text.length : Int) ∧ (text.length : Int) ≤ (text.length : Int))).bind fun _ =>
    (JbV n (subL text y0_3 (text.length : Int))).bind fun x53 =>
    if decide (x53.2.1 = 0) then
    some (Fl.ret ([], (some 2)))
    else
    (chk (InI (y0_3 - y0_2))).bind fun _ =>
    (chk (InI ((y0_3 - y0_2) + 1))).bind fun _ =>
    (chk (y0_0.length + [(⟨x53.1, x53.2.2, y0_1, ((y0_3 - y0_2) + 1)⟩ : Jt)].length ≤ lim)).bind fun _ =>
    (chk (InI (y0_3 + x53.2.1))).bind fun _ =>
    J3 text n xs0 (y0_0 ++ [(⟨x53.1, x53.2.2, y0_1, ((y0_3 - y0_2) + 1)⟩ : Jt)]) y0_1 y0_2 (y0_3 + x53.2.1)
    else
    some (Fl.go (y0_0, y0_1, y0_2, y0_3))
noncomputable def JbW (n : Nat) (text : Str) : Option ((List Jt) × Err) :=
  if decide ((text.length : Int) > 4096) then
  some ([], (some 5))
  else
  (J3 text n n [] 1 0 0).bind fun s0 => s0.el some fun t0 =>
  (chk (InI ((text.length : Int) - t0.2.2.1))).bind fun _ =>
  (chk (InI (((text.length : Int) - t0.2.2.1) + 1))).bind fun _ =>
  (chk (t0.1.length + ([(⟨5, ([] : Str), t0.2.1, (((text.length : Int) - t0.2.2.1) + 1)⟩ : Jt)]).length ≤ lim)).bind fun _ =>
  some ((t0.1 ++ [(⟨5, ([] : Str), t0.2.1, (((text.length : Int) - t0.2.2.1) + 1)⟩ : Jt)]), none)
set_option maxHeartbeats 8000000 in
theorem Jcp {n : Nat} {text : Str} {K : Hp} {r : (List Jt) × Err}
    (hm : JbW n text = some r)  :
    Fn Tryz.prog 105 [str text] K [] (fun v K' H' => ∃ ar_0 : Option Addr, ∃ cr_0 : Nat, v = .tuple #[.slice ar_0 r.1.length cr_0, errV 44 r.2] ∧ (0 < r.1.length → Has ar_0) ∧ H' = [OwnL Jt.enc ar_0 165 4 cr_0 r.1]) := by
 refine Fn.enter Tryz.func105 Tryz.call105 rfl fun F => ?_
 unfold JbW at hm
 refine RStep.of (len_str rfl (cond_go rfl ?_))
 refine cond_s (fun w13 => ?_) (fun w13 => ?_)
 replace hm := ift w13 hm
 refine mk_iface rfl ?_
 obtain rfl := si hm
 refine nilE Jt.enc 165 4 ?_
 refine EndStep.mk _ (Hp.Le.refl _) ⟨none, 0, rfl, (fun h => by simp at h), rfl⟩ (ConvH.of (.cons r0 (.cons r0 .nil)))
 replace hm := iff_ w13 hm
 obtain ⟨s0, hl0, hm⟩ := bnd hm
 refine nilC Jt.enc 165 4 ?_
 refine code_cut (σ := ((List Jt) × Int × Int × Int) × Option Addr × Nat) [2, 3, 4, 5, 6, 7, 8, 9, 10, 15, 16, 17, 18, 19, 20, 21, 22, 23, 24, 25, 26, 27, 28, 29, 30, 31, 32, 33, 34, 35, 36, 37, 38, 39, 40, 41, 42, 43, 44, 45, 46, 47, 48, 49, 50, 51, 52, 53, 54, 55, 56, 57, 58, 59, 60, 61, 62, 63, 64, 65, 66, 67, 68, 69, 70, 71, 72, 73] (fun (t0, t0_a0, t0_c0) => [(4, .slice t0_a0 t0.1.length t0_c0), (5, .int .i64 t0.2.1), (6, .int .i64 t0.2.2.1), (7, .int .i64 t0.2.2.2)]) (fun (t0, t0_a0, t0_c0) => [OwnL Jt.enc t0_a0 165 4 t0_c0 t0.1, F]) (fun zz K1 => match zz with | (t0, t0_a0, t0_c0) => (0 < t0.1.length → Has t0_a0) ∧ s0 = Fl.go t0) ?_ ?_
 refine block_go rfl ?_
 refine loop_rule (σ := Nat × (List Jt) × Int × Int × Int × Option Addr × Nat) [2, 3, 4, 5, 6, 7, 8, 9, 10, 15, 16, 17, 18, 19, 20, 21, 22, 23, 24, 25, 26, 27, 28, 29, 30, 31, 32, 33, 34, 35, 36, 37, 38, 39, 40, 41, 42, 43, 44, 45, 46, 47, 48, 49, 50, 51, 52, 53, 54, 55, 56, 57, 58, 59, 60, 61, 62, 63, 64, 65, 66, 67, 68, 69, 70, 71, 72, 73] (fun (i0, y0_0, y0_1, y0_2, y0_3, y0_a0, y0_c0) => [(4, .slice y0_a0 y0_0.length y0_c0), (5, .int .i64 y0_1), (6, .int .i64 y0_2), (7, .int .i64 y0_3)]) (fun (i0, y0_0, y0_1, y0_2, y0_3, y0_a0, y0_c0) => [OwnL Jt.enc y0_a0 165 4 y0_c0 y0_0, F]) (fun zz K1 => match zz with | (i0, y0_0, y0_1, y0_2, y0_3, y0_a0, y0_c0) => (0 < y0_0.length → Has y0_a0) ∧ J3 text n i0 y0_0 y0_1 y0_2 y0_3 = some s0) (fun zz => zz.1) (n, [], 1, 0, 0, none, 0) rfl ⟨rfl, rfl, rfl, rfl, trivial⟩ (ConvH.of (.cons r0 (.cons r0 .nil))) ⟨(fun h => by simp at h), hl0⟩ ?_
 clear hl0
 rintro ⟨i0, y0_0, y0_1, y0_2, y0_3, y0_a0, y0_c0⟩ Kb0 lk0 ⟨y0_h0, hl0⟩ j0
 cases i0 with
 | zero => rw [J3.eq_1] at hl0; cases hl0
 | succ i0 =>
  rw [J3.eq_2] at hl0
  refine RStep.of (len_str rfl (cond_go rfl ?_))
  refine cond_s (fun w18 => ?_) (fun w18 => ?_)
  replace hl0 := ift w18 hl0
  refine block_go rfl ?_
  obtain ⟨x21, l21, k21, hl0⟩ := ixb hl0
  refine idx_str rfl l21 k21 ?_
  refine block_go rfl ?_
  refine eq_int (cond_go rfl ?_)
  refine cond_s (fun w22 => ?_) (fun w22 => ?_)
  replace hl0 := ift w22 hl0
  obtain ⟨h25, hl0⟩ := chkb hl0
  refine int_in h25 ?_
  obtain ⟨h27, hl0⟩ := chkb hl0
  refine int_in h27 (cond_F (cond_T ?_))
  refine RoundStep.mk (i0, y0_0, (y0_1 + 1), (y0_3 + 1), (y0_3 + 1), y0_a0, y0_c0) ⟨rfl, rfl, rfl, rfl, trivial⟩ (by repeat (first | exact trivial | refine And.intro rfl ?_)) (ConvH.of (.cons r0 (.cons r0 .nil))) lk0 (Nat.lt_succ_self _) ⟨y0_h0, hl0⟩
  replace hl0 := iff_ w22 hl0
  refine eq_int (cond_go rfl ?_)
  refine cond_s (fun w29 => ?_) (fun w29 => ?_)
  replace hl0 := ift w29 hl0
  refine cond_go rfl (cond_t w29 ?_)
  obtain ⟨h34, hl0⟩ := chkb hl0
  refine int_in h34 (cond_F (cond_T ?_))
  refine RoundStep.mk (i0, y0_0, y0_1, y0_2, (y0_3 + 1), y0_a0, y0_c0) ⟨rfl, rfl, rfl, rfl, trivial⟩ (by repeat (first | exact trivial | refine And.intro rfl ?_)) (ConvH.of (.cons r0 (.cons r0 .nil))) lk0 (Nat.lt_succ_self _) ⟨y0_h0, hl0⟩
  replace hl0 := iff_ w29 hl0
  refine eq_int (cond_go rfl ?_)
  refine cond_s (fun w29 => ?_) (fun w29 => ?_)
  replace hl0 := ift w29 hl0
  refine cond_go rfl (cond_t w29 ?_)
  obtain ⟨h34, hl0⟩ := chkb hl0
  refine int_in h34 (cond_F (cond_T ?_))
  refine RoundStep.mk (i0, y0_0, y0_1, y0_2, (y0_3 + 1), y0_a0, y0_c0) ⟨rfl, rfl, rfl, rfl, trivial⟩ (by repeat (first | exact trivial | refine And.intro rfl ?_)) (ConvH.of (.cons r0 (.cons r0 .nil))) lk0 (Nat.lt_succ_self _) ⟨y0_h0, hl0⟩
  replace hl0 := iff_ w29 hl0
  refine eq_int (cond_go rfl ?_)
  refine cond_s (fun w29 => ?_) (fun w29 => ?_)
  replace hl0 := ift w29 hl0
  obtain ⟨h34, hl0⟩ := chkb hl0
  refine int_in h34 (cond_F (cond_T ?_))
  refine RoundStep.mk (i0, y0_0, y0_1, y0_2, (y0_3 + 1), y0_a0, y0_c0) ⟨rfl, rfl, rfl, rfl, trivial⟩ (by repeat (first | exact trivial | refine And.intro rfl ?_)) (ConvH.of (.cons r0 (.cons r0 .nil))) lk0 (Nat.lt_succ_self _) ⟨y0_h0, hl0⟩
  replace hl0 := iff_ w29 hl0
  refine eq_int (cond_go rfl ?_)
  refine cond_s (fun w35 => ?_) (fun w35 => ?_)
  replace hl0 := ift w35 hl0
  obtain ⟨s3, hl3, hl0⟩ := bnd hl0
  refine code_cut (σ := (Int)) [7, 37, 38, 39, 40, 41, 42, 43, 44, 45, 46, 47, 48] (fun t3 => [(7, .int .i64 t3)]) (fun t3 => [OwnL Jt.enc y0_a0 165 4 y0_c0 y0_0, F]) (fun zz K1 => match zz with | t3 => t3 = s3) ?_ ?_
  refine block_go rfl ?_
  refine loop_rule (σ := Nat × Int) [7, 37, 38, 39, 40, 41, 42, 43, 44, 45, 46, 47, 48] (fun (i3, y3_0) => [(7, .int .i64 y3_0)]) (fun (i3, y3_0) => [OwnL Jt.enc y0_a0 165 4 y0_c0 y0_0, F]) (fun zz K1 => match zz with | (i3, y3_0) => JaX text i3 y3_0 = some s3) (fun zz => zz.1) (n, y0_3) rfl ⟨rfl, trivial⟩ (ConvH.of (.cons r0 (.cons r0 .nil))) hl3 ?_
  clear hl3
  rintro ⟨i3, y3_0⟩ Kb3 lk3 hl3 j3
  conv at hl3 => whnf
  cases i3 with
  | zero => rw [JaX.eq_1] at hl3; cases hl3
  | succ i3 =>
   rw [JaX.eq_2] at hl3
   refine RStep.of (len_str rfl ?_)
   obtain ⟨x46, e46, hl3⟩ := bnd hl3
   refine cond_s (fun g41_16 => ?_) (fun g41_16 => ?_)
   replace e46 := ift g41_16 e46
   refine cond_t g41_16 (cond_t g41_16 ?_)
   obtain ⟨x44, l44, k44, e46⟩ := ixb e46
   refine idx_str rfl l44 k44 (cond_t g41_16 (neq_int (cond_t g41_16 (cond_go rfl ?_))))
   refine cond_s (fun w46 => ?_) (fun w46 => ?_)
   replace hl3 := ift ((si e46).symm.trans w46) hl3
   refine block_go rfl ?_
   obtain ⟨h48, hl3⟩ := chkb hl3
   refine int_in h48 ?_
   refine RoundStep.mk (i3, (y3_0 + 1)) ⟨rfl, trivial⟩ (by repeat (first | exact trivial | refine And.intro rfl ?_)) (ConvH.of (.cons r0 (.cons r0 .nil))) lk3 (Nat.lt_succ_self _) hl3
   replace hl3 := iff_ ((si e46).symm.trans w46) hl3
   refine cond_T ?_
   refine MeetStep.mk (y3_0) ⟨rfl, trivial⟩ (by repeat (first | exact trivial | refine And.intro rfl ?_)) (ConvH.of (.cons r0 (.cons r0 .nil))) lk3 (si hl3)
   replace e46 := iff_ g41_16 e46
   refine cond_f g41_16 (cond_f g41_16 (cond_f g41_16 (cond_f g41_16 (cond_go rfl (cond_F ?_)))))
   replace hl3 := iff_ (si e46).symm hl3
   refine cond_T ?_
   refine MeetStep.mk (y3_0) ⟨rfl, trivial⟩ (by repeat (first | exact trivial | refine And.intro rfl ?_)) (ConvH.of (.cons r0 (.cons r0 .nil))) lk3 (si hl3)
  rintro t3 Kt3 lt3 rfl j3
  refine cond_F (cond_T ?_)
  refine RoundStep.mk (i0, y0_0, y0_1, y0_2, t3, y0_a0, y0_c0) ⟨rfl, rfl, rfl, rfl, trivial⟩ (by repeat (first | exact trivial | refine And.intro rfl ?_)) (ConvH.of (.cons r0 (.cons r0 .nil))) (lk0.trans lt3) (Nat.lt_succ_self _) ⟨y0_h0, hl0⟩
  replace hl0 := iff_ w35 hl0
  obtain ⟨h52, hl0⟩ := chkb hl0
  refine RStep.ofN (sl_str (lo := (some y0_3)) (hi := none) rfl h52 ?_)
  obtain ⟨x53, q53, hl0⟩ := bnd hl0
  refine call_fn (Jco (s := (subL text y0_3 (text.length : Int))) q53) .nil ?_
  rintro _ K53 _ l53 ⟨rfl, rfl⟩
  refine eq_int (cond_go rfl ?_)
  refine cond_s (fun w58 => ?_) (fun w58 => ?_)
  replace hl0 := ift w58 hl0
  refine mk_iface rfl ?_
  obtain rfl := si hl0
  replace hm := elr hm
  obtain rfl := si hm
  refine nilE Jt.enc 165 4 ?_
  refine EndStep.mk _ (lk0.trans l53) ⟨none, 0, rfl, (fun h => by simp at h), rfl⟩ (ConvH.of (.cons r0 (.cons r1 .nil)))
  replace hl0 := iff_ w58 hl0
  obtain ⟨h66, hl0⟩ := chkb hl0
  refine int_in h66 ?_
  obtain ⟨h67, hl0⟩ := chkb hl0
  refine int_in h67 (build_struct rfl rfl (cond_T (cond_T (cond_T (cond_T ?_)))))
  refine bsO (len := 1) (enc := Jt.enc) (l := [(⟨x53.1, x53.2.2, y0_1, ((y0_3 - y0_2) + 1)⟩ : Jt)]) (cl := [.int .i64 x53.1, str x53.2.2, .int .i64 y0_1, .int .i64 ((y0_3 - y0_2) + 1)]) elT161 rfl rfl (fun _ _ => rfl) rfl rfl rfl ?_ fun b69 => ?_
  · conv => whnf
    refine cond_T ?_
    first | done | rfl
  obtain ⟨h70, hl0⟩ := chkb hl0
  refine apE rfl r1 elT161 (src_own' rfl r0 rfl (fun _ => rfl) (fun _ => rfl)) h70 ?_
  intro a70 c70 o70
  obtain ⟨h73, hl0⟩ := chkb hl0
  refine int_in h73 ?_
  refine RoundStep.mk (i0, (y0_0 ++ [(⟨x53.1, x53.2.2, y0_1, ((y0_3 - y0_2) + 1)⟩ : Jt)]), y0_1, y0_2, (y0_3 + x53.2.1), a70, c70) ⟨rfl, rfl, rfl, rfl, trivial⟩ (by repeat (first | exact trivial | refine And.intro rfl ?_)) (ConvH.of (.cons r0 (.cons r1 .nil))) (lk0.trans l53) (Nat.lt_succ_self _) ⟨o70, hl0⟩
  replace hl0 := iff_ w18 hl0
  refine cond_T ?_
  refine MeetStep.mk ((y0_0, y0_1, y0_2, y0_3), y0_a0, y0_c0) ⟨rfl, rfl, rfl, rfl, trivial⟩ (by repeat (first | exact trivial | refine And.intro rfl ?_)) (ConvH.of (.cons r0 (.cons r0 .nil))) lk0 ⟨y0_h0, (si hl0).symm⟩
 rintro ⟨t0, t0_a0, t0_c0⟩ Kt0 lt0 ⟨t0_h0, rfl⟩ j0
 replace hm := elg hm
 refine RStep.of (len_str rfl ?_)
 obtain ⟨h79, hm⟩ := chkb hm
 refine int_in h79 ?_
 obtain ⟨h80, hm⟩ := chkb hm
 refine int_in h80 (build_struct rfl rfl (cond_T (cond_T (cond_T (cond_T ?_)))))
 refine bsO (len := 1) (enc := Jt.enc) (l := [(⟨5, ([] : Str), t0.2.1, (((text.length : Int) - t0.2.2.1) + 1)⟩ : Jt)]) (cl := [.int .i64 5, str ([] : Str), .int .i64 t0.2.1, .int .i64 (((text.length : Int) - t0.2.2.1) + 1)]) elT161 rfl rfl (fun _ _ => rfl) rfl rfl rfl ?_ fun b82 => ?_
 · conv => whnf
   refine cond_T ?_
   first | done | rfl
 obtain ⟨h83, hm⟩ := chkb hm
 refine apE rfl r1 elT161 (src_own' rfl r0 rfl (fun _ => rfl) (fun _ => rfl)) h83 ?_
 intro a83 c83 o83
 obtain rfl := si hm
 refine EndStep.mk _ lt0 ⟨a83, c83, rfl, o83, rfl⟩ (ConvH.of (.cons r0 (.cons r1 .nil)))

noncomputable def Jaj (v' : Str) : List Str → Nat → Option (Fl (Int) (Unit))
  | [], _ => some (Fl.go ())
  | e0 :: xs0, i0 =>
    if decide (v' = e0) then
    some (Fl.ret (i0 : Int))
    else
    Jaj v' xs0 (i0 + 1)
noncomputable def Jbc (s : (List Str)) (v' : Str) : Option (Int) :=
  (chk (s.length ≤ szMax)).bind fun _ =>
  (Jaj v' s 0).bind fun s0 => s0.el some fun t0 =>
  some (-1)
set_option maxHeartbeats 8000000 in
theorem Jb4 {s : (List Str)} {v' : Str} {ap0_0 : Option Addr} {cp0_0 : Nat} {n0 : Nat} {K : Hp} {r : Int}
    (hm : Jbc s v' = some r) (hp0_0 : RdC eS K ap0_0 cp0_0 1 s) (en0 : n0 = s.length) :
    Fn Tryz.prog 110 [.slice ap0_0 n0 cp0_0, str v'] K [] (fun v K' H' => v = .int .i64 r ∧ H' = []) := by
 subst en0
 refine Fn.enter Tryz.func110 Tryz.call110 rfl fun F => ?_
 unfold Jbc at hm
 refine RStep.of (len_slice rfl ?_)
 obtain ⟨hk0, hm⟩ := chkb hm
 obtain ⟨s0, hl0, hm⟩ := bnd hm
 refine code_cut (σ := (Unit)) [4, 5, 8, 9, 10, 11, 12, 13, 14, 15, 16, 17, 18] (fun t0 => []) (fun t0 => [F]) (fun zz K1 => match zz with | t0 => s0 = Fl.go t0) ?_ ?_
 refine block_go rfl ?_
 refine loop_rule (σ := Nat) [4, 5, 8, 9, 10, 11, 12, 13, 14, 15, 16, 17, 18] (fun i0 => [(8, .int .i64 (i0 : Int))]) (fun i0 => [F]) (fun zz K1 => match zz with | i0 => Jaj v' (s.drop i0) i0 = some s0) (fun zz => s.length - zz) (0) rfl ⟨rfl, trivial⟩ (ConvH.of (.cons r0 .nil)) hl0 ?_
 clear hl0
 rintro i0 Kb0 lk0 hl0 j0
 conv at hl0 => whnf
 refine cond_go rfl ?_
 refine cond_s (fun w0 => ?_) (fun w0 => ?_)
 obtain ⟨e0, hx0, hd0⟩ := ltx w0
 rw [hd0, Jaj.eq_2] at hl0
 refine block_go rfl ?_
 refine RStep.ofN (index_addr rfl rfl (hasK (hp0_0.mono lk0).rd hx0) (nn _) (lt_ofN hx0) (RStep.of (load_rd i0 0 _ _ (hp0_0.mono lk0).rd rfl (mp hx0) rfl rfl (eq_str (cond_go rfl ?_)))))
 refine cond_s (fun w16 => ?_) (fun w16 => ?_)
 replace hl0 := ift w16 hl0
 obtain rfl := si hl0
 replace hm := elr hm
 obtain rfl := si hm
 refine EndStep.mk _ lk0 ⟨rfl, rfl⟩ (ConvH.of (.cons r0 .nil))
 replace hl0 := iff_ w16 hl0
 refine int_in (cntz hx0 hk0) ?_
 refine RoundStep.mk (i0 + 1) ⟨rfl, trivial⟩ (by repeat (first | exact trivial | refine And.intro rfl ?_)) (ConvH.of (.cons r0 .nil)) lk0 (ltm hx0) hl0
 rw [lty w0, Jaj.eq_1] at hl0
 refine cond_T ?_
 refine MeetStep.mk (()) trivial (by repeat (first | exact trivial | refine And.intro rfl ?_)) (ConvH.of (.cons r0 .nil)) lk0 (si hl0).symm
 rintro t0 Kt0 lt0 rfl j0
 replace hm := elg hm
 obtain rfl := si hm
 refine EndStep.mk _ lt0 ⟨rfl, rfl⟩ (ConvH.of (.cons r0 .nil))

noncomputable def J8 (s : (List Str)) (v' : Str) : Option (Bool) :=
  (Jbc s v').bind fun x7 =>
  some (decide (x7 ≥ 0))
set_option maxHeartbeats 8000000 in
theorem JE {s : (List Str)} {v' : Str} {ap0_0 : Option Addr} {cp0_0 : Nat} {n0 : Nat} {K : Hp} {r : Bool}
    (hm : J8 s v' = some r) (hp0_0 : RdC eS K ap0_0 cp0_0 1 s) (en0 : n0 = s.length) :
    Fn Tryz.prog 93 [.slice ap0_0 n0 cp0_0, str v'] K [] (fun v K' H' => v = .bool r ∧ H' = []) := by
 subst en0
 refine Fn.enter Tryz.func93 Tryz.call93 rfl fun F => ?_
 unfold J8 at hm
 obtain ⟨x7, q7, hm⟩ := bnd hm
 refine call_fn (Jb4 (v' := v') q7 hp0_0 rfl) .nil ?_
 rintro _ K7 _ l7 ⟨rfl, rfl⟩
 obtain rfl := si hm
 refine EndStep.mk _ l7 ⟨rfl, rfl⟩ (ConvH.of (.cons r0 .nil))

noncomputable def JbA (s : Str) : Option (Bool) :=
  (J8 gkw0 s).bind fun x5 =>
  some x5
set_option maxHeartbeats 8000000 in
theorem Jcc {s : Str} {K : Hp} {r : Bool}
    (hm : JbA s = some r) (hG1 : GlL eS 1 1 Js K) (hG2 : GlL eS 1 2 Jx K) (hG3 : GlL eS 1 3 JD K) (hG4 : GlL eS 1 4 gkw0 K) :
    Fn Tryz.prog 106 [str s] K [] (fun v K' H' => v = .bool r ∧ H' = []) := by
 obtain ⟨ga1, gn1, gc1, gn_, gs1, gd1⟩ := id hG1
 subst gn_
 obtain ⟨ga2, gn2, gc2, gn_, gs2, gd2⟩ := id hG2
 subst gn_
 obtain ⟨ga3, gn3, gc3, gn_, gs3, gd3⟩ := id hG3
 subst gn_
 obtain ⟨ga4, gn4, gc4, gn_, gs4, gd4⟩ := id hG4
 subst gn_
 refine Fn.enter Tryz.func106 Tryz.call106 rfl fun F => ?_
 unfold JbA at hm
 refine RStep.of (g_load gs4 rfl ?_)
 obtain ⟨x5, q5, hm⟩ := bnd hm
 refine call_fn (JE (v' := s) q5 gd4 rfl) .nil ?_
 rintro _ K5 _ l5 ⟨rfl, rfl⟩
 obtain rfl := si hm
 refine EndStep.mk _ l5 ⟨rfl, rfl⟩ (ConvH.of (.cons r0 .nil))

noncomputable def Ja8 (n : Nat) (s : Str) : Option (Bool) :=
  (JbW n s).bind fun x7 =>
  (if (x7.2.isNone && decide ((x7.1.length : Int) = 2)) then (ix x7.1 0).bind fun x19 =>
  some (decide (x19.Kind = 1)) else some false).bind fun x23 =>
  (if x23 then (ix x7.1 0).bind fun x26 =>
  some (decide (x26.Text = s)) else some false).bind fun x31 =>
  (if x31 then (JbA s).bind fun x34 =>
  some (!x34) else some false).bind fun x36 =>
  some x36
set_option maxHeartbeats 8000000 in
theorem Jbn {n : Nat} {s : Str} {K : Hp} {r : Bool}
    (hm : Ja8 n s = some r) (hG1 : GlL eS 1 1 Js K) (hG2 : GlL eS 1 2 Jx K) (hG3 : GlL eS 1 3 JD K) (hG4 : GlL eS 1 4 gkw0 K) :
    Fn Tryz.prog 88 [str s] K [] (fun v K' H' => v = .bool r ∧ H' = []) := by
 obtain ⟨ga1, gn1, gc1, gn_, gs1, gd1⟩ := id hG1
 subst gn_
 obtain ⟨ga2, gn2, gc2, gn_, gs2, gd2⟩ := id hG2
 subst gn_
 obtain ⟨ga3, gn3, gc3, gn_, gs3, gd3⟩ := id hG3
 subst gn_
 obtain ⟨ga4, gn4, gc4, gn_, gs4, gd4⟩ := id hG4
 subst gn_
 refine Fn.enter Tryz.func88 Tryz.call88 rfl fun F => ?_
 unfold Ja8 at hm
 obtain ⟨x7, q7, hm⟩ := bnd hm
 refine call_fn (Jcp (text := s) q7) .nil ?_
 rintro _ K7 _ l7 ⟨a7_0, c7_0, rfl, h7_0, rfl⟩
 refine eq_err rfl ?_
 refine cond_s (fun g12_2 => ?_) (fun g12_2 => ?_)
 refine cond_t g12_2 (RStep.of (len_slice rfl (cond_t g12_2 (eq_int (cond_t g12_2 ?_)))))
 obtain ⟨x23, e23, hm⟩ := bnd hm
 refine cond_s (fun g17_2 => ?_) (fun g17_2 => ?_)
 replace e23 := ift (and_t g12_2 g17_2) e23
 refine cond_t g17_2 ?_
 obtain ⟨x19, l19, k19, e23⟩ := ixb e23
 refine RStep.ofN (index_addr rfl rfl (hasO h7_0 k19) l19 (lt_ofE rfl l19 k19) (cond_t g17_2 (eptr_field rfl (hasO h7_0 k19) (cond_t g17_2 (RStep.of (ld_own (i := (0 : Int).toNat) (o := 0) r0 rfl k19 rfl rfl (cond_t g17_2 ?_)))))))
 refine eq_int (cond_t g17_2 ?_)
 obtain ⟨x31, e31, hm⟩ := bnd hm
 refine cond_s (fun g24_2 => ?_) (fun g24_2 => ?_)
 replace e31 := ift ((si e23).symm.trans g24_2) e31
 refine cond_t g24_2 ?_
 obtain ⟨x26, l26, k26, e31⟩ := ixb e31
 refine RStep.ofN (index_addr rfl rfl (hasO h7_0 k26) l26 (lt_ofE rfl l26 k26) (cond_t g24_2 (eptr_field rfl (hasO h7_0 k26) (cond_t g24_2 (RStep.of (ld_own (i := (0 : Int).toNat) (o := 1) r0 rfl k26 rfl rfl (cond_t g24_2 ?_)))))))
 refine cond_t g24_2 (eq_str (cond_t g24_2 ?_))
 obtain ⟨x36, e36, hm⟩ := bnd hm
 refine cond_s (fun g32_2 => ?_) (fun g32_2 => ?_)
 replace e36 := ift ((si e31).symm.trans g32_2) e36
 refine cond_t g32_2 ?_
 obtain ⟨x34, q34, e36⟩ := bnd e36
 refine call_fn (Jcc (s := s) q34 (hG1.mono l7) (hG2.mono l7) (hG3.mono l7) (hG4.mono l7)) .nil ?_
 rintro _ K34 _ l34 ⟨rfl, rfl⟩
 refine cond_t g32_2 (un_not (cond_t g32_2 ?_))
 obtain rfl := si hm
 refine EndStep.mk _ (l7.trans l34) ⟨(by rw [← (si e36)] <;> rfl), rfl⟩ (ConvH.of (.cons r1 .nil))
 replace e36 := iff_ ((si e31).symm.trans g32_2) e36
 refine cond_f g32_2 (cond_f g32_2 (cond_f g32_2 ?_))
 obtain rfl := si hm
 refine EndStep.mk _ l7 ⟨(by rw [← ((si e36).symm).symm] <;> rfl), rfl⟩ (ConvH.of (.cons r1 .nil))
 replace e31 := iff_ ((si e23).symm.trans g24_2) e31
 refine cond_f g24_2 (cond_f g24_2 (cond_f g24_2 (cond_f g24_2 (cond_f g24_2 (cond_f g24_2 ?_)))))
 obtain ⟨x36, e36, hm⟩ := bnd hm
 replace e36 := iff_ (si e31).symm e36
 refine cond_F (cond_F (cond_F (cond_F ?_)))
 obtain rfl := si hm
 refine EndStep.mk _ l7 ⟨(by rw [← ((si e36).symm).symm] <;> rfl), rfl⟩ (ConvH.of (.cons r1 .nil))
 replace e23 := iff_ (and_g g12_2 g17_2) e23
 refine cond_f g17_2 (cond_f g17_2 (cond_f g17_2 (cond_f g17_2 (cond_f g17_2 ?_))))
 obtain ⟨x31, e31, hm⟩ := bnd hm
 replace e31 := iff_ (si e23).symm e31
 refine cond_F (cond_F (cond_F (cond_F (cond_F (cond_F ?_)))))
 refine cond_F ?_
 obtain ⟨x36, e36, hm⟩ := bnd hm
 replace e36 := iff_ (si e31).symm e36
 refine cond_F (cond_F (cond_F (cond_F ?_)))
 obtain rfl := si hm
 refine EndStep.mk _ l7 ⟨(by rw [← ((si e36).symm).symm] <;> rfl), rfl⟩ (ConvH.of (.cons r1 .nil))
 refine cond_f g12_2 (cond_f g12_2 (cond_f g12_2 ?_))
 obtain ⟨x23, e23, hm⟩ := bnd hm
 replace e23 := iff_ (and_f g12_2) e23
 refine cond_F (cond_F (cond_F (cond_F (cond_F (cond_F ?_)))))
 obtain ⟨x31, e31, hm⟩ := bnd hm
 replace e31 := iff_ (si e23).symm e31
 refine cond_F (cond_F (cond_F (cond_F (cond_F (cond_F ?_)))))
 refine cond_F ?_
 obtain ⟨x36, e36, hm⟩ := bnd hm
 replace e36 := iff_ (si e31).symm e36
 refine cond_F (cond_F (cond_F (cond_F ?_)))
 obtain rfl := si hm
 refine EndStep.mk _ l7 ⟨(by rw [← ((si e36).symm).symm] <;> rfl), rfl⟩ (ConvH.of (.cons r1 .nil))

noncomputable def JT (n : Nat) (n' : Ja) : Option (Int) :=
  if decide (n'.Kind = 13) then
  if (!decide (n'.Text = ([] : Str))) then
  some (-2)
  else
  some 2
  else
  if decide (n'.Kind = 14) then
  if (!decide (n'.Text = ([] : Str))) then
  some (-2)
  else
  some 2
  else
  if decide (n'.Kind = 17) then
  if (!decide (n'.Text = ([] : Str))) then
  some (-2)
  else
  some 2
  else
  if decide (n'.Kind = 18) then
  if (!decide (n'.Text = ([] : Str))) then
  some (-2)
  else
  some 2
  else
  if decide (n'.Kind = 19) then
  if (!decide (n'.Text = ([] : Str))) then
  some (-2)
  else
  some 2
  else
  if decide (n'.Kind = 15) then
  if (!decide (n'.Text = ([] : Str))) then
  some (-2)
  else
  some 1
  else
  if decide (n'.Kind = 16) then
  (Jan 4 n'.Text).bind fun x22 =>
  (if x22 then some true else (Jan 1 n'.Text).bind fun x26 =>
  some x26).bind fun x27 =>
  if (!x27) then
  some (-2)
  else
  some 2
  else
  if decide (n'.Kind = 20) then
  (Ja1 n'.Text).bind fun x32 =>
  if (!x32) then
  some (-2)
  else
  some 0
  else
  if decide (n'.Kind = 21) then
  (Jag n'.Text).bind fun x37 =>
  if (!x37) then
  some (-2)
  else
  some 0
  else
  if decide (n'.Kind = 22) then
  if (!(decide (n'.Text = ([116, 114, 117, 101] : Str)) || decide (n'.Text = ([102, 97, 108, 115, 101] : Str)))) then
  some (-2)
  else
  some 0
  else
  if decide (n'.Kind = 23) then
  (Ja8 n n'.Text).bind fun x52 =>
  if (!x52) then
  some (-2)
  else
  some 0
  else
  if decide (n'.Kind = 24) then
  (Ja8 n n'.Text).bind fun x57 =>
  if (!x57) then
  some (-2)
  else
  some (-1)
  else
  some (-2)
set_option maxHeartbeats 8000000 in
theorem Jb8 {n : Nat} {n' : Ja} {ap0_0 : Option Addr} {cp0_0 : Nat} {K : Hp} {r : Int}
    (hm : JT n n' = some r) (hp0_0 : LiC Ja.R K ap0_0 cp0_0 4 n'.Kids) (hG1 : GlL eS 1 1 Js K) (hG2 : GlL eS 1 2 Jx K) (hG3 : GlL eS 1 3 JD K) (hG4 : GlL eS 1 4 gkw0 K) :
    Fn Tryz.prog 104 [.agg #[.int .i64 n'.Kind, str n'.Text, .slice ap0_0 n'.Kids.length cp0_0, .int .i64 n'.Line]] K [] (fun v K' H' => v = .int .i64 r ∧ H' = []) := by
 obtain ⟨ga1, gn1, gc1, gn_, gs1, gd1⟩ := id hG1
 subst gn_
 obtain ⟨ga2, gn2, gc2, gn_, gs2, gd2⟩ := id hG2
 subst gn_
 obtain ⟨ga3, gn3, gc3, gn_, gs3, gd3⟩ := id hG3
 subst gn_
 obtain ⟨ga4, gn4, gc4, gn_, gs4, gd4⟩ := id hG4
 subst gn_
 refine Fn.enter Tryz.func104 Tryz.call104 rfl fun F => ?_
 unfold JT at hm
 refine box_rule ?_
 intro b1
 refine Jb rfl (RStep.of (load1_s r0 rfl rfl (eq_str (Jb rfl (RStep.of (load1_s r0 rfl rfl ?_))))))
 refine block_go rfl ?_
 refine eq_int (cond_go rfl ?_)
 refine cond_s (fun w10 => ?_) (fun w10 => ?_)
 replace hm := ift w10 hm
 refine cond_go rfl (cond_t w10 (un_not (cond_go rfl ?_)))
 refine cond_s (fun w59 => ?_) (fun w59 => ?_)
 replace hm := ift (not_t (ni_t w59)) hm
 obtain rfl := si hm
 refine EndStep.mk _ (Hp.Le.refl _) ⟨rfl, rfl⟩ (ConvH.of (.cons r1 .nil))
 replace hm := iff_ (not_f (ni_f w59)) hm
 obtain rfl := si hm
 refine EndStep.mk _ (Hp.Le.refl _) ⟨rfl, rfl⟩ (ConvH.of (.cons r1 .nil))
 replace hm := iff_ w10 hm
 refine eq_int (cond_go rfl ?_)
 refine cond_s (fun w10 => ?_) (fun w10 => ?_)
 replace hm := ift w10 hm
 refine cond_go rfl (cond_t w10 (un_not (cond_go rfl ?_)))
 refine cond_s (fun w59 => ?_) (fun w59 => ?_)
 replace hm := ift (not_t (ni_t w59)) hm
 obtain rfl := si hm
 refine EndStep.mk _ (Hp.Le.refl _) ⟨rfl, rfl⟩ (ConvH.of (.cons r1 .nil))
 replace hm := iff_ (not_f (ni_f w59)) hm
 obtain rfl := si hm
 refine EndStep.mk _ (Hp.Le.refl _) ⟨rfl, rfl⟩ (ConvH.of (.cons r1 .nil))
 replace hm := iff_ w10 hm
 refine eq_int (cond_go rfl ?_)
 refine cond_s (fun w10 => ?_) (fun w10 => ?_)
 replace hm := ift w10 hm
 refine cond_go rfl (cond_t w10 (un_not (cond_go rfl ?_)))
 refine cond_s (fun w59 => ?_) (fun w59 => ?_)
 replace hm := ift (not_t (ni_t w59)) hm
 obtain rfl := si hm
 refine EndStep.mk _ (Hp.Le.refl _) ⟨rfl, rfl⟩ (ConvH.of (.cons r1 .nil))
 replace hm := iff_ (not_f (ni_f w59)) hm
 obtain rfl := si hm
 refine EndStep.mk _ (Hp.Le.refl _) ⟨rfl, rfl⟩ (ConvH.of (.cons r1 .nil))
 replace hm := iff_ w10 hm
 refine eq_int (cond_go rfl ?_)
 refine cond_s (fun w10 => ?_) (fun w10 => ?_)
 replace hm := ift w10 hm
 refine cond_go rfl (cond_t w10 (un_not (cond_go rfl ?_)))
 refine cond_s (fun w59 => ?_) (fun w59 => ?_)
 replace hm := ift (not_t (ni_t w59)) hm
 obtain rfl := si hm
 refine EndStep.mk _ (Hp.Le.refl _) ⟨rfl, rfl⟩ (ConvH.of (.cons r1 .nil))
 replace hm := iff_ (not_f (ni_f w59)) hm
 obtain rfl := si hm
 refine EndStep.mk _ (Hp.Le.refl _) ⟨rfl, rfl⟩ (ConvH.of (.cons r1 .nil))
 replace hm := iff_ w10 hm
 refine eq_int (cond_go rfl ?_)
 refine cond_s (fun w10 => ?_) (fun w10 => ?_)
 replace hm := ift w10 hm
 refine un_not (cond_go rfl ?_)
 refine cond_s (fun w59 => ?_) (fun w59 => ?_)
 replace hm := ift (not_t (ni_t w59)) hm
 obtain rfl := si hm
 refine EndStep.mk _ (Hp.Le.refl _) ⟨rfl, rfl⟩ (ConvH.of (.cons r1 .nil))
 replace hm := iff_ (not_f (ni_f w59)) hm
 obtain rfl := si hm
 refine EndStep.mk _ (Hp.Le.refl _) ⟨rfl, rfl⟩ (ConvH.of (.cons r1 .nil))
 replace hm := iff_ w10 hm
 refine eq_int (cond_go rfl ?_)
 refine cond_s (fun w16 => ?_) (fun w16 => ?_)
 replace hm := ift w16 hm
 refine un_not (cond_go rfl ?_)
 refine cond_s (fun w59 => ?_) (fun w59 => ?_)
 replace hm := ift (not_t (ni_t w59)) hm
 obtain rfl := si hm
 refine EndStep.mk _ (Hp.Le.refl _) ⟨rfl, rfl⟩ (ConvH.of (.cons r1 .nil))
 replace hm := iff_ (not_f (ni_f w59)) hm
 obtain rfl := si hm
 refine EndStep.mk _ (Hp.Le.refl _) ⟨rfl, rfl⟩ (ConvH.of (.cons r1 .nil))
 replace hm := iff_ w16 hm
 refine eq_int (cond_go rfl ?_)
 refine cond_s (fun w18 => ?_) (fun w18 => ?_)
 replace hm := ift w18 hm
 refine Jb rfl (RStep.of (load1_s r0 rfl rfl ?_))
 obtain ⟨x22, q22, hm⟩ := bnd hm
 refine call_fn (Jbv (kind := 4) (text := n'.Text) q22) .nil ?_
 rintro _ K22 _ l22 ⟨rfl, rfl⟩
 obtain ⟨x27, e27, hm⟩ := bnd hm
 refine cond_s (fun g23_13 => ?_) (fun g23_13 => ?_)
 replace e27 := ift g23_13 e27
 refine cond_t g23_13 (cond_t g23_13 (cond_t g23_13 (un_not (cond_go rfl (cond_F ?_)))))
 replace hm := iff_ (not_f (si e27).symm) hm
 obtain rfl := si hm
 refine EndStep.mk _ l22 ⟨rfl, rfl⟩ (ConvH.of (.cons r1 .nil))
 replace e27 := iff_ g23_13 e27
 refine Jb rfl (cond_f g23_13 (RStep.of (load1_s r0 rfl rfl (cond_f g23_13 ?_))))
 obtain ⟨x26, q26, e27⟩ := bnd e27
 refine call_fn (Jbv (kind := 1) (text := n'.Text) q26) .nil ?_
 rintro _ K26 _ l26 ⟨rfl, rfl⟩
 refine cond_f g23_13 (un_not (cond_go rfl ?_))
 refine cond_s (fun w59 => ?_) (fun w59 => ?_)
 replace hm := ift (not_t ((si e27).symm.trans (ni_t w59))) hm
 obtain rfl := si hm
 refine EndStep.mk _ (l22.trans l26) ⟨rfl, rfl⟩ (ConvH.of (.cons r1 .nil))
 replace hm := iff_ (not_f ((si e27).symm.trans (ni_f w59))) hm
 obtain rfl := si hm
 refine EndStep.mk _ (l22.trans l26) ⟨rfl, rfl⟩ (ConvH.of (.cons r1 .nil))
 replace hm := iff_ w18 hm
 refine eq_int (cond_go rfl ?_)
 refine cond_s (fun w28 => ?_) (fun w28 => ?_)
 replace hm := ift w28 hm
 refine Jb rfl (RStep.of (load1_s r0 rfl rfl ?_))
 obtain ⟨x32, q32, hm⟩ := bnd hm
 refine call_fn (Jcb (s := n'.Text) q32) .nil ?_
 rintro _ K32 _ l32 ⟨rfl, rfl⟩
 refine un_not (cond_go rfl ?_)
 refine cond_s (fun w59 => ?_) (fun w59 => ?_)
 replace hm := ift (not_t (ni_t w59)) hm
 obtain rfl := si hm
 refine EndStep.mk _ l32 ⟨rfl, rfl⟩ (ConvH.of (.cons r1 .nil))
 replace hm := iff_ (not_f (ni_f w59)) hm
 obtain rfl := si hm
 refine EndStep.mk _ l32 ⟨rfl, rfl⟩ (ConvH.of (.cons r1 .nil))
 replace hm := iff_ w28 hm
 refine eq_int (cond_go rfl ?_)
 refine cond_s (fun w33 => ?_) (fun w33 => ?_)
 replace hm := ift w33 hm
 refine Jb rfl (RStep.of (load1_s r0 rfl rfl ?_))
 obtain ⟨x37, q37, hm⟩ := bnd hm
 refine call_fn (Ja2 (s := n'.Text) q37) .nil ?_
 rintro _ K37 _ l37 ⟨rfl, rfl⟩
 refine un_not (cond_go rfl ?_)
 refine cond_s (fun w59 => ?_) (fun w59 => ?_)
 replace hm := ift (not_t (ni_t w59)) hm
 obtain rfl := si hm
 refine EndStep.mk _ l37 ⟨rfl, rfl⟩ (ConvH.of (.cons r1 .nil))
 replace hm := iff_ (not_f (ni_f w59)) hm
 obtain rfl := si hm
 refine EndStep.mk _ l37 ⟨rfl, rfl⟩ (ConvH.of (.cons r1 .nil))
 replace hm := iff_ w33 hm
 refine eq_int (cond_go rfl ?_)
 refine cond_s (fun w38 => ?_) (fun w38 => ?_)
 replace hm := ift w38 hm
 refine Jb rfl (RStep.of (load1_s r0 rfl rfl (eq_str ?_)))
 refine cond_s (fun g43_19 => ?_) (fun g43_19 => ?_)
 refine cond_t g43_19 (cond_t g43_19 (cond_t g43_19 (un_not (cond_go rfl (cond_F ?_)))))
 replace hm := iff_ (not_f (or_t g43_19)) hm
 obtain rfl := si hm
 refine EndStep.mk _ (Hp.Le.refl _) ⟨rfl, rfl⟩ (ConvH.of (.cons r1 .nil))
 refine Jb rfl (cond_f g43_19 (RStep.of (load1_s r0 rfl rfl (cond_f g43_19 (eq_str (cond_f g43_19 ?_))))))
 refine un_not (cond_go rfl ?_)
 refine cond_s (fun w59 => ?_) (fun w59 => ?_)
 replace hm := ift (not_t (or_f g43_19 (ni_t w59))) hm
 obtain rfl := si hm
 refine EndStep.mk _ (Hp.Le.refl _) ⟨rfl, rfl⟩ (ConvH.of (.cons r1 .nil))
 replace hm := iff_ (not_f (or_u g43_19 (ni_f w59))) hm
 obtain rfl := si hm
 refine EndStep.mk _ (Hp.Le.refl _) ⟨rfl, rfl⟩ (ConvH.of (.cons r1 .nil))
 replace hm := iff_ w38 hm
 refine eq_int (cond_go rfl ?_)
 refine cond_s (fun w48 => ?_) (fun w48 => ?_)
 replace hm := ift w48 hm
 refine Jb rfl (RStep.of (load1_s r0 rfl rfl ?_))
 obtain ⟨x52, q52, hm⟩ := bnd hm
 refine call_fn (Jbn (s := n'.Text) q52 hG1 hG2 hG3 hG4) .nil ?_
 rintro _ K52 _ l52 ⟨rfl, rfl⟩
 refine un_not (cond_go rfl ?_)
 refine cond_s (fun w59 => ?_) (fun w59 => ?_)
 replace hm := ift (not_t (ni_t w59)) hm
 obtain rfl := si hm
 refine EndStep.mk _ l52 ⟨rfl, rfl⟩ (ConvH.of (.cons r1 .nil))
 replace hm := iff_ (not_f (ni_f w59)) hm
 obtain rfl := si hm
 refine EndStep.mk _ l52 ⟨rfl, rfl⟩ (ConvH.of (.cons r1 .nil))
 replace hm := iff_ w48 hm
 refine eq_int (cond_go rfl ?_)
 refine cond_s (fun w53 => ?_) (fun w53 => ?_)
 replace hm := ift w53 hm
 refine Jb rfl (RStep.of (load1_s r0 rfl rfl ?_))
 obtain ⟨x57, q57, hm⟩ := bnd hm
 refine call_fn (Jbn (s := n'.Text) q57 hG1 hG2 hG3 hG4) .nil ?_
 rintro _ K57 _ l57 ⟨rfl, rfl⟩
 refine un_not (cond_go rfl ?_)
 refine cond_s (fun w59 => ?_) (fun w59 => ?_)
 replace hm := ift (not_t (ni_t w59)) hm
 obtain rfl := si hm
 refine EndStep.mk _ l57 ⟨rfl, rfl⟩ (ConvH.of (.cons r1 .nil))
 replace hm := iff_ (not_f (ni_f w59)) hm
 obtain rfl := si hm
 refine EndStep.mk _ l57 ⟨rfl, rfl⟩ (ConvH.of (.cons r1 .nil))
 replace hm := iff_ w53 hm
 obtain rfl := si hm
 refine EndStep.mk _ (Hp.Le.refl _) ⟨rfl, rfl⟩ (ConvH.of (.cons r1 .nil))

noncomputable def JJ (rec_ : (Ja → Option (Bool))) : List Ja → Nat → Option (Fl (Bool) (Unit))
  | [], _ => some (Fl.go ())
  | e0 :: xs0, i0 =>
    (rec_ e0).bind fun x29 =>
    if (!x29) then
    some (Fl.ret false)
    else
    JJ rec_ xs0 (i0 + 1)
noncomputable def Jo : Nat → Ja → Option (Bool)
  | 0, _ => none
  | n + 1, n' =>
    (JT n n').bind fun x7 =>
    if decide (x7 = (-2)) then
    some false
    else
    if (decide (x7 ≥ 0) && decide ((n'.Kids.length : Int) ≠ x7)) then
    some false
    else
    (chk (n'.Kids.length ≤ szMax)).bind fun _ =>
    (JJ (Jo n) n'.Kids 0).bind fun s0 => s0.el some fun t0 =>
    some true
set_option maxHeartbeats 8000000 in
theorem JV : ∀ {n : Nat} {n' : Ja} {ap0_0 : Option Addr} {cp0_0 : Nat} {K : Hp} {r : Bool}
    (hm : Jo n n' = some r) (hp0_0 : LiC Ja.R K ap0_0 cp0_0 4 n'.Kids) (hG1 : GlL eS 1 1 Js K) (hG2 : GlL eS 1 2 Jx K) (hG3 : GlL eS 1 3 JD K) (hG4 : GlL eS 1 4 gkw0 K),
    Fn Tryz.prog 85 [.agg #[.int .i64 n'.Kind, str n'.Text, .slice ap0_0 n'.Kids.length cp0_0, .int .i64 n'.Line]] K [] (fun v K' H' => v = .bool r ∧ H' = []) := by
 intro n
 induction n with
 | zero =>
   intro n' ap0_0 cp0_0 K r hm hp0_0 hG1 hG2 hG3 hG4
   rw [Jo.eq_1] at hm; cases hm
 | succ n ih =>
   intro n' ap0_0 cp0_0 K r hm hp0_0 hG1 hG2 hG3 hG4
   obtain ⟨ga1, gn1, gc1, gn_, gs1, gd1⟩ := id hG1
   subst gn_
   obtain ⟨ga2, gn2, gc2, gn_, gs2, gd2⟩ := id hG2
   subst gn_
   obtain ⟨ga3, gn3, gc3, gn_, gs3, gd3⟩ := id hG3
   subst gn_
   obtain ⟨ga4, gn4, gc4, gn_, gs4, gd4⟩ := id hG4
   subst gn_
   refine Fn.enter Tryz.func85 Tryz.call85 rfl fun F => ?_
   rw [Jo.eq_2] at hm
   refine box_rule ?_
   intro b1
   refine RStep.of (loadn_s r0 rfl (Nat.le_of_ble_eq_true rfl) ?_)
   obtain ⟨x7, q7, hm⟩ := bnd hm
   refine call_fn (Jb8 (n' := n') q7 hp0_0 hG1 hG2 hG3 hG4) .nil ?_
   rintro _ K7 _ l7 ⟨rfl, rfl⟩
   refine eq_int ?_
   refine cond_s (fun g10_2 => ?_) (fun g10_2 => ?_)
   replace hm := ift g10_2 hm
   refine cond_t g10_2 (cond_t g10_2 (cond_t g10_2 (cond_t g10_2 (cond_go rfl (cond_T ?_)))))
   obtain rfl := si hm
   refine EndStep.mk _ l7 ⟨rfl, rfl⟩ (ConvH.of (.cons r1 .nil))
   replace hm := iff_ g10_2 hm
   refine cond_f g10_2 (cond_f g10_2 ?_)
   refine cond_s (fun g13_2 => ?_) (fun g13_2 => ?_)
   refine Jb rfl (cond_t g13_2 (RStep.of (load1_s r0 rfl rfl (cond_t g13_2 (RStep.of (len_slice rfl (cond_t g13_2 ?_)))))))
   refine cond_t g13_2 (neq_int (cond_f g10_2 (cond_t g13_2 (cond_f g10_2 (cond_go rfl ?_)))))
   refine cond_s (fun w20 => ?_) (fun w20 => ?_)
   replace hm := ift (and_t g13_2 w20) hm
   obtain rfl := si hm
   refine EndStep.mk _ l7 ⟨rfl, rfl⟩ (ConvH.of (.cons r1 .nil))
   replace hm := iff_ (and_g g13_2 w20) hm
   refine Jb rfl (RStep.of (load1_s r0 rfl rfl (RStep.of (len_slice rfl ?_))))
   obtain ⟨hk0, hm⟩ := chkb hm
   obtain ⟨s0, hl0, hm⟩ := bnd hm
   refine code_cut (σ := (Unit)) [2, 5, 24, 25, 26, 27, 28, 29, 30, 31] (fun t0 => []) (fun t0 => [Cells b1 34 [.int .i64 n'.Kind, str n'.Text, .slice ap0_0 n'.Kids.length cp0_0, .int .i64 n'.Line], F]) (fun zz K1 => match zz with | t0 => s0 = Fl.go t0) ?_ ?_
   refine block_go rfl ?_
   refine loop_rule (σ := Nat) [2, 5, 24, 25, 26, 27, 28, 29, 30, 31] (fun i0 => [(24, .int .i64 (i0 : Int))]) (fun i0 => [Cells b1 34 [.int .i64 n'.Kind, str n'.Text, .slice ap0_0 n'.Kids.length cp0_0, .int .i64 n'.Line], F]) (fun zz K1 => match zz with | i0 => JJ (Jo n) (n'.Kids.drop i0) i0 = some s0) (fun zz => n'.Kids.length - zz) (0) rfl ⟨rfl, trivial⟩ (ConvH.of (.cons r0 (.cons r0 .nil))) hl0 ?_
   clear hl0
   rintro i0 Kb0 lk0 hl0 j0
   conv at hl0 => whnf
   refine cond_go rfl ?_
   refine cond_s (fun w0 => ?_) (fun w0 => ?_)
   obtain ⟨e0, hx0, hd0⟩ := ltx w0
   rw [hd0, JJ.eq_2] at hl0
   refine block_go rfl ?_
   refine RStep.ofN (index_addr rfl rfl (hasR (LiC.mono Ja.R_ok (l7.trans lk0) hp0_0).rd hx0) (nn _) (lt_ofN hx0) ?_)
   obtain ⟨ss27, cc27, hr27, hc27, hR27⟩ := LiR.get (LiC.mono Ja.R_ok (l7.trans lk0) hp0_0).rd hx0
   obtain ⟨a27_0, c27_0, rfl, h27_0⟩ := Ja.out hR27
   refine RStep.of (load_rd_agg i0 _ hr27 rfl hc27 rfl ?_)
   refine alloc_rule rfl ?_
   intro b5
   refine store_rule r0 rfl ?_
   refine ⟨rfl, rfl, (Nat.le_of_ble_eq_true rfl), ?_⟩
   refine RStep.of (loadn_s r0 rfl (Nat.le_of_ble_eq_true rfl) ?_)
   obtain ⟨x29, q29, hl0⟩ := bnd hl0
   refine call_fn (ih (n' := e0) q29 h27_0 (hG1.mono (l7.trans lk0)) (hG2.mono (l7.trans lk0)) (hG3.mono (l7.trans lk0)) (hG4.mono (l7.trans lk0))) .nil ?_
   rintro _ K29 _ l29 ⟨rfl, rfl⟩
   refine un_not (cond_go rfl ?_)
   refine cond_s (fun w30 => ?_) (fun w30 => ?_)
   replace hl0 := ift (not_t (ni_t w30)) hl0
   obtain rfl := si hl0
   replace hm := elr hm
   obtain rfl := si hm
   refine EndStep.mk _ ((l7.trans lk0).trans l29) ⟨rfl, rfl⟩ (ConvH.of (.cons r2 .nil))
   replace hl0 := iff_ (not_f (ni_f w30)) hl0
   refine int_in (cntz hx0 hk0) ?_
   refine RoundStep.mk (i0 + 1) ⟨rfl, trivial⟩ (by repeat (first | exact trivial | refine And.intro rfl ?_)) (ConvH.of (.cons r1 (.cons r1 .nil))) (lk0.trans l29) (ltm hx0) hl0
   rw [lty w0, JJ.eq_1] at hl0
   refine cond_T ?_
   refine MeetStep.mk (()) trivial (by repeat (first | exact trivial | refine And.intro rfl ?_)) (ConvH.of (.cons r0 (.cons r0 .nil))) lk0 (si hl0).symm
   rintro t0 Kt0 lt0 rfl j0
   replace hm := elg hm
   obtain rfl := si hm
   refine EndStep.mk _ (l7.trans lt0) ⟨rfl, rfl⟩ (ConvH.of (.cons r1 .nil))
   refine cond_f g13_2 (cond_f g13_2 (cond_f g13_2 (cond_f g13_2 (cond_f g10_2 (cond_f g13_2 ?_)))))
   refine cond_f g10_2 (cond_go rfl (cond_F ?_))
   replace hm := iff_ (and_f g13_2) hm
   refine Jb rfl (RStep.of (load1_s r0 rfl rfl (RStep.of (len_slice rfl ?_))))
   obtain ⟨hk0, hm⟩ := chkb hm
   obtain ⟨s0, hl0, hm⟩ := bnd hm
   refine code_cut (σ := (Unit)) [2, 5, 24, 25, 26, 27, 28, 29, 30, 31] (fun t0 => []) (fun t0 => [Cells b1 34 [.int .i64 n'.Kind, str n'.Text, .slice ap0_0 n'.Kids.length cp0_0, .int .i64 n'.Line], F]) (fun zz K1 => match zz with | t0 => s0 = Fl.go t0) ?_ ?_
   refine block_go rfl ?_
   refine loop_rule (σ := Nat) [2, 5, 24, 25, 26, 27, 28, 29, 30, 31] (fun i0 => [(24, .int .i64 (i0 : Int))]) (fun i0 => [Cells b1 34 [.int .i64 n'.Kind, str n'.Text, .slice ap0_0 n'.Kids.length cp0_0, .int .i64 n'.Line], F]) (fun zz K1 => match zz with | i0 => JJ (Jo n) (n'.Kids.drop i0) i0 = some s0) (fun zz => n'.Kids.length - zz) (0) rfl ⟨rfl, trivial⟩ (ConvH.of (.cons r0 (.cons r0 .nil))) hl0 ?_
   clear hl0
   rintro i0 Kb0 lk0 hl0 j0
   conv at hl0 => whnf
   refine cond_go rfl ?_
   refine cond_s (fun w0 => ?_) (fun w0 => ?_)
   obtain ⟨e0, hx0, hd0⟩ := ltx w0
   rw [hd0, JJ.eq_2] at hl0
   refine block_go rfl ?_
   refine RStep.ofN (index_addr rfl rfl (hasR (LiC.mono Ja.R_ok (l7.trans lk0) hp0_0).rd hx0) (nn _) (lt_ofN hx0) ?_)
   obtain ⟨ss27, cc27, hr27, hc27, hR27⟩ := LiR.get (LiC.mono Ja.R_ok (l7.trans lk0) hp0_0).rd hx0
   obtain ⟨a27_0, c27_0, rfl, h27_0⟩ := Ja.out hR27
   refine RStep.of (load_rd_agg i0 _ hr27 rfl hc27 rfl ?_)
   refine alloc_rule rfl ?_
   intro b5
   refine store_rule r0 rfl ?_
   refine ⟨rfl, rfl, (Nat.le_of_ble_eq_true rfl), ?_⟩
   refine RStep.of (loadn_s r0 rfl (Nat.le_of_ble_eq_true rfl) ?_)
   obtain ⟨x29, q29, hl0⟩ := bnd hl0
   refine call_fn (ih (n' := e0) q29 h27_0 (hG1.mono (l7.trans lk0)) (hG2.mono (l7.trans lk0)) (hG3.mono (l7.trans lk0)) (hG4.mono (l7.trans lk0))) .nil ?_
   rintro _ K29 _ l29 ⟨rfl, rfl⟩
   refine un_not (cond_go rfl ?_)
   refine cond_s (fun w30 => ?_) (fun w30 => ?_)
   replace hl0 := ift (not_t (ni_t w30)) hl0
   obtain rfl := si hl0
   replace hm := elr hm
   obtain rfl := si hm
   refine EndStep.mk _ ((l7.trans lk0).trans l29) ⟨rfl, rfl⟩ (ConvH.of (.cons r2 .nil))
   replace hl0 := iff_ (not_f (ni_f w30)) hl0
   refine int_in (cntz hx0 hk0) ?_
   refine RoundStep.mk (i0 + 1) ⟨rfl, trivial⟩ (by repeat (first | exact trivial | refine And.intro rfl ?_)) (ConvH.of (.cons r1 (.cons r1 .nil))) (lk0.trans l29) (ltm hx0) hl0
   rw [lty w0, JJ.eq_1] at hl0
   refine cond_T ?_
   refine MeetStep.mk (()) trivial (by repeat (first | exact trivial | refine And.intro rfl ?_)) (ConvH.of (.cons r0 (.cons r0 .nil))) lk0 (si hl0).symm
   rintro t0 Kt0 lt0 rfl j0
   replace hm := elg hm
   obtain rfl := si hm
   refine EndStep.mk _ (l7.trans lt0) ⟨rfl, rfl⟩ (ConvH.of (.cons r1 .nil))

noncomputable def Jab (rec0_0 : (Ja → Option (Bool))) : List Ja → Nat → Option (Fl (Bool) (Unit))
  | [], _ => some (Fl.go ())
  | e0 :: xs0, i0 =>
    (rec0_0 e0).bind fun x21 =>
    if (!x21) then
    some (Fl.ret false)
    else
    Jab rec0_0 xs0 (i0 + 1)
noncomputable def JaE (rec0_0 : (Ja → Option (Bool))) (n : Nat) (n' : Ja) : Option (Bool) :=
  if (decide (n'.Kind ≠ 12) || decide (n'.Text ≠ ([] : Str))) then
  some false
  else
  (chk (n'.Kids.length ≤ szMax)).bind fun _ =>
  (Jab rec0_0 n'.Kids 0).bind fun s0 => s0.el some fun t0 =>
  some true
set_option maxHeartbeats 8000000 in
theorem JbB {rec0_0 : (Ja → Option (Bool))} (ihrec0_0 : ∀ {n' : Ja} {ap0_0 : Option Addr} {cp0_0 : Nat} {K : Hp} {r : Bool} (hm : rec0_0 n' = some r) (hp0_0 : LiC Ja.R K ap0_0 cp0_0 4 n'.Kids) (hG1 : GlL eS 1 1 Js K) (hG2 : GlL eS 1 2 Jx K) (hG3 : GlL eS 1 3 JD K) (hG4 : GlL eS 1 4 gkw0 K), Fn Tryz.prog 55 [.agg #[.int .i64 n'.Kind, str n'.Text, .slice ap0_0 n'.Kids.length cp0_0, .int .i64 n'.Line]] K [] (fun v K' H' => v = .bool r ∧ H' = [])) {n : Nat} {n' : Ja} {ap0_0 : Option Addr} {cp0_0 : Nat} {K : Hp} {r : Bool}
    (hm : JaE rec0_0 n n' = some r) (hp0_0 : LiC Ja.R K ap0_0 cp0_0 4 n'.Kids) (hG1 : GlL eS 1 1 Js K) (hG2 : GlL eS 1 2 Jx K) (hG3 : GlL eS 1 3 JD K) (hG4 : GlL eS 1 4 gkw0 K) :
    Fn Tryz.prog 86 [.agg #[.int .i64 n'.Kind, str n'.Text, .slice ap0_0 n'.Kids.length cp0_0, .int .i64 n'.Line]] K [] (fun v K' H' => v = .bool r ∧ H' = []) := by
 obtain ⟨ga1, gn1, gc1, gn_, gs1, gd1⟩ := id hG1
 subst gn_
 obtain ⟨ga2, gn2, gc2, gn_, gs2, gd2⟩ := id hG2
 subst gn_
 obtain ⟨ga3, gn3, gc3, gn_, gs3, gd3⟩ := id hG3
 subst gn_
 obtain ⟨ga4, gn4, gc4, gn_, gs4, gd4⟩ := id hG4
 subst gn_
 refine Fn.enter Tryz.func86 Tryz.call86 rfl fun F => ?_
 unfold JaE at hm
 refine box_rule ?_
 intro b1
 refine Jb rfl (RStep.of (load1_s r0 rfl rfl (neq_int ?_)))
 refine cond_s (fun g8_1 => ?_) (fun g8_1 => ?_)
 refine cond_t g8_1 (cond_t g8_1 (cond_t g8_1 (cond_go rfl (cond_T ?_))))
 replace hm := ift (or_t g8_1) hm
 obtain rfl := si hm
 refine EndStep.mk _ (Hp.Le.refl _) ⟨rfl, rfl⟩ (ConvH.of (.cons r1 .nil))
 refine Jb rfl (cond_f g8_1 (RStep.of (load1_s r0 rfl rfl (cond_f g8_1 (neq_str (cond_f g8_1 ?_))))))
 refine cond_go rfl ?_
 refine cond_s (fun w12 => ?_) (fun w12 => ?_)
 replace hm := ift (or_u g8_1 w12) hm
 obtain rfl := si hm
 refine EndStep.mk _ (Hp.Le.refl _) ⟨rfl, rfl⟩ (ConvH.of (.cons r1 .nil))
 replace hm := iff_ (or_f g8_1 w12) hm
 refine Jb rfl (RStep.of (load1_s r0 rfl rfl (RStep.of (len_slice rfl ?_))))
 obtain ⟨hk0, hm⟩ := chkb hm
 obtain ⟨s0, hl0, hm⟩ := bnd hm
 refine code_cut (σ := (Unit)) [2, 4, 16, 17, 18, 19, 20, 21, 22, 23] (fun t0 => []) (fun t0 => [Cells b1 34 [.int .i64 n'.Kind, str n'.Text, .slice ap0_0 n'.Kids.length cp0_0, .int .i64 n'.Line], F]) (fun zz K1 => match zz with | t0 => s0 = Fl.go t0) ?_ ?_
 refine block_go rfl ?_
 refine loop_rule (σ := Nat) [2, 4, 16, 17, 18, 19, 20, 21, 22, 23] (fun i0 => [(16, .int .i64 (i0 : Int))]) (fun i0 => [Cells b1 34 [.int .i64 n'.Kind, str n'.Text, .slice ap0_0 n'.Kids.length cp0_0, .int .i64 n'.Line], F]) (fun zz K1 => match zz with | i0 => Jab rec0_0 (n'.Kids.drop i0) i0 = some s0) (fun zz => n'.Kids.length - zz) (0) rfl ⟨rfl, trivial⟩ (ConvH.of (.cons r0 (.cons r0 .nil))) hl0 ?_
 clear hl0
 rintro i0 Kb0 lk0 hl0 j0
 conv at hl0 => whnf
 refine cond_go rfl ?_
 refine cond_s (fun w0 => ?_) (fun w0 => ?_)
 obtain ⟨e0, hx0, hd0⟩ := ltx w0
 rw [hd0, Jab.eq_2] at hl0
 refine block_go rfl ?_
 refine RStep.ofN (index_addr rfl rfl (hasR (LiC.mono Ja.R_ok lk0 hp0_0).rd hx0) (nn _) (lt_ofN hx0) ?_)
 obtain ⟨ss19, cc19, hr19, hc19, hR19⟩ := LiR.get (LiC.mono Ja.R_ok lk0 hp0_0).rd hx0
 obtain ⟨a19_0, c19_0, rfl, h19_0⟩ := Ja.out hR19
 refine RStep.of (load_rd_agg i0 _ hr19 rfl hc19 rfl ?_)
 refine alloc_rule rfl ?_
 intro b4
 refine store_rule r0 rfl ?_
 refine ⟨rfl, rfl, (Nat.le_of_ble_eq_true rfl), ?_⟩
 refine RStep.of (loadn_s r0 rfl (Nat.le_of_ble_eq_true rfl) ?_)
 obtain ⟨x21, q21, hl0⟩ := bnd hl0
 refine call_fn (ihrec0_0 (n' := e0) q21 h19_0 (hG1.mono lk0) (hG2.mono lk0) (hG3.mono lk0) (hG4.mono lk0)) .nil ?_
 rintro _ K21 _ l21 ⟨rfl, rfl⟩
 refine un_not (cond_go rfl ?_)
 refine cond_s (fun w22 => ?_) (fun w22 => ?_)
 replace hl0 := ift (not_t (ni_t w22)) hl0
 obtain rfl := si hl0
 replace hm := elr hm
 obtain rfl := si hm
 refine EndStep.mk _ (lk0.trans l21) ⟨rfl, rfl⟩ (ConvH.of (.cons r2 .nil))
 replace hl0 := iff_ (not_f (ni_f w22)) hl0
 refine int_in (cntz hx0 hk0) ?_
 refine RoundStep.mk (i0 + 1) ⟨rfl, trivial⟩ (by repeat (first | exact trivial | refine And.intro rfl ?_)) (ConvH.of (.cons r1 (.cons r1 .nil))) (lk0.trans l21) (ltm hx0) hl0
 rw [lty w0, Jab.eq_1] at hl0
 refine cond_T ?_
 refine MeetStep.mk (()) trivial (by repeat (first | exact trivial | refine And.intro rfl ?_)) (ConvH.of (.cons r0 (.cons r0 .nil))) lk0 (si hl0).symm
 rintro t0 Kt0 lt0 rfl j0
 replace hm := elg hm
 obtain rfl := si hm
 refine EndStep.mk _ lt0 ⟨rfl, rfl⟩ (ConvH.of (.cons r1 .nil))
