/- Functions of the program: mirrors, and that a call returns what the mirror says. Printed by gen.py. -/
import Derived.Test.YtdnelkmckpapgaaDoorG5
set_option linter.unusedVariables false
set_option linter.unusedSimpArgs false
open Go Go.SL Go.Proofs
set_option maxRecDepth 1000000
noncomputable def ref44_Of_L0 : List S_ref44_Binding → Nat → (List S_ref44_Binding) → Option ((List S_ref44_Binding))
 | [], _, y0_0 => some y0_0
 | e0 :: xs0, i0, y0_0 =>
  if (decide (e0.TypeZ ≥ 1) && decide (e0.TypeZ ≤ 3)) then
  (chk (y0_0.length + [e0].length ≤ lim)).bind fun _ =>
  ref44_Of_L0 xs0 (i0 + 1) (y0_0 ++ [e0])
  else
  ref44_Of_L0 xs0 (i0 + 1) y0_0
noncomputable def ref44_Of (n : Nat) (n' : S_ref43_Node) (env : (List S_ref44_Binding)) : Option (Int × Int) :=
 (ref43_Valid n (⟨1, ([] : Str), [(⟨7, ([] : Str), [n'], 0⟩ : S_ref43_Node)], 0⟩ : S_ref43_Node)).bind fun x16 =>
 if (!x16) then
 some (0, 2)
 else
 (chk (env.length ≤ szMax)).bind fun _ =>
 (ref44_Of_L0 env 0 []).bind fun t0 =>
 (ref44_expr n n' t0).bind fun x40 =>
 some (x40.1, x40.2.Code)
set_option maxHeartbeats 8000000 in
theorem ref44_Of_ok {n : Nat} {n' : S_ref43_Node} {env : (List S_ref44_Binding)} {ap0_0 : Option Addr} {cp0_0 : Nat} {ap1_0 : Option Addr} {cp1_0 : Nat} {n1 : Nat} {K : Hp} {r : Int × Int}
  (hm : ref44_Of n n' env = some r) (hp0_0 : LiC S_ref43_Node.R K ap0_0 cp0_0 4 n'.Kids) (hp1_0 : RdC S_ref44_Binding.enc K ap1_0 cp1_0 2 env) (en1 : n1 = env.length) :
  Fn Tryd.prog 28 [.agg #[.int .i64 n'.Kind, str n'.Text, .slice ap0_0 n'.Kids.length cp0_0, .int .i64 n'.Line], .slice ap1_0 n1 cp1_0] K [] (fun v K' H' => v = .tuple #[.int .i64 r.1, .int .i64 r.2] ∧ H' = []) := by
 subst en1
 refine Fn.enter Tryd.func28 Tryd.call28 rfl fun F => ?_
 unfold ref44_Of at hm
 conv => whnf
 refine box_rule ?_
 intro b2
 conv => whnf
 refine RStep.of (loadn_s r0 rfl (Nat.le_of_ble_eq_true rfl) ?_)
 conv => whnf
 refine bsOR (len := 1) (l := [n']) (css := [[.int .i64 n'.Kind, str n'.Text, .slice ap0_0 n'.Kids.length cp0_0, .int .i64 n'.Line]]) (cl := [.int .i64 n'.Kind, str n'.Text, .slice ap0_0 n'.Kids.length cp0_0, .int .i64 n'.Line]) S_ref43_Node.R_ok elT22 rfl rfl (LR.snoc LR.nil (S_ref43_Node.of ⟨ap0_0, cp0_0, rfl, hp0_0⟩)) rfl rfl rfl ?_ fun b12 => ?_
 ·conv => whnf
  refine cond_T ?_
  conv => whnf
  first | done | rfl
 conv => whnf
 refine build_struct rfl rfl ?_
 conv => whnf
 refine cond_T ?_
 conv => whnf
 refine cond_T ?_
 conv => whnf
 refine fzWR S_ref43_Node.R_ok r0 (show LR S_ref43_Node.R _ [[.int .i64 n'.Kind, str n'.Text, .slice ap0_0 n'.Kids.length cp0_0, .int .i64 n'.Line]] [n'] from (LR.snoc LR.nil (S_ref43_Node.of ⟨ap0_0, cp0_0, rfl, hp0_0⟩))) fun Kf14_0_0 lf14_0_0 ff14_0_0 => ?_
 refine bsOR (len := 1) (l := [(⟨7, ([] : Str), [n'], 0⟩ : S_ref43_Node)]) (css := [[.int .i64 7, str ([] : Str), .slice (some ⟨b12, 0, none⟩) 1 1, .int .i64 0]]) (cl := [.int .i64 7, str ([] : Str), .slice (some ⟨b12, 0, none⟩) 1 1, .int .i64 0]) S_ref43_Node.R_ok elT22 rfl rfl (LR.snoc LR.nil (S_ref43_Node.of ⟨(some ⟨b12, 0, none⟩), 1, rfl, ff14_0_0⟩)) rfl rfl rfl ?_ fun b14 => ?_
 ·conv => whnf
  refine cond_T ?_
  conv => whnf
  first | done | rfl
 conv => whnf
 refine build_struct rfl rfl ?_
 conv => whnf
 refine cond_T ?_
 conv => whnf
 refine cond_T ?_
 obtain ⟨x16, q16, hm⟩ := bnd hm
 conv => whnf
 refine fzFR Tryd.call17 S_ref43_Node.R_ok r0 (show LR S_ref43_Node.R _ [[.int .i64 7, str ([] : Str), .slice (some ⟨b12, 0, none⟩) 1 1, .int .i64 0]] [(⟨7, ([] : Str), [n'], 0⟩ : S_ref43_Node)] from (LR.snoc LR.nil (S_ref43_Node.of ⟨(some ⟨b12, 0, none⟩), 1, rfl, ff14_0_0⟩))) fun Kf16_0_0 lf16_0_0 ff16_0_0 => ?_
 refine call_fn (ref43_Valid_ok (n' := (⟨1, ([] : Str), [(⟨7, ([] : Str), [n'], 0⟩ : S_ref43_Node)], 0⟩ : S_ref43_Node)) q16 ff16_0_0) .nil ?_
 rintro _ K16 _ l16 ⟨rfl, rfl⟩
 conv => whnf
 refine un_not ?_
 conv => whnf
 refine cond_go rfl ?_
 conv => whnf
 refine cond_s (fun w17 => ?_) (fun w17 => ?_)
 ·replace hm := ift (not_t (ni_t w17)) hm
  obtain rfl := si hm
  conv => whnf
  refine EndStep.mk _ ((lf14_0_0.trans lf16_0_0).trans l16) ⟨rfl, rfl⟩ (ConvH.of (.cons r1 .nil))
 ·replace hm := iff_ (not_f (ni_f w17)) hm
  conv => whnf
  refine RStep.of (len_slice rfl ?_)
  obtain ⟨hk0, hm⟩ := chkb hm
  obtain ⟨s0, hl0, hm⟩ := bnd hm
  conv => whnf
  refine nilC S_ref44_Binding.enc 57 2 ?_
  refine code_cut (σ := ((List S_ref44_Binding)) × Option Addr × Nat) [6, 8, 20, 21, 22, 23, 24, 25, 26, 27, 28, 29, 30, 31, 32, 33, 34, 35, 36] (fun (t0, t0_a0, t0_c0) => [(6, .slice t0_a0 t0.length t0_c0)]) (fun (t0, t0_a0, t0_c0) => [OwnL S_ref44_Binding.enc t0_a0 57 2 t0_c0 t0, Cells b2 24 [.int .i64 n'.Kind, str n'.Text, .slice ap0_0 n'.Kids.length cp0_0, .int .i64 n'.Line], F]) (fun zz K1 => match zz with | (t0, t0_a0, t0_c0) => (0 < t0.length → Has t0_a0) ∧ t0 = s0) ?_ ?_
  ·refine block_go rfl ?_
   conv => whnf
   refine loop_rule (σ := Nat × (List S_ref44_Binding) × Option Addr × Nat) [6, 8, 20, 21, 22, 23, 24, 25, 26, 27, 28, 29, 30, 31, 32, 33, 34, 35, 36] (fun (i0, y0_0, y0_a0, y0_c0) => [(20, .int .i64 (i0 : Int)), (6, .slice y0_a0 y0_0.length y0_c0)]) (fun (i0, y0_0, y0_a0, y0_c0) => [OwnL S_ref44_Binding.enc y0_a0 57 2 y0_c0 y0_0, Cells b2 24 [.int .i64 n'.Kind, str n'.Text, .slice ap0_0 n'.Kids.length cp0_0, .int .i64 n'.Line], F]) (fun zz K1 => match zz with | (i0, y0_0, y0_a0, y0_c0) => (0 < y0_0.length → Has y0_a0) ∧ ref44_Of_L0 (env.drop i0) i0 y0_0 = some s0) (fun zz => env.length - zz.1) (0, [], none, 0) rfl ⟨rfl, rfl, trivial⟩ (ConvH.of (.cons r0 (.cons r0 (.cons r0 .nil)))) ⟨(fun h => by simp at h), hl0⟩ ?_
   clear hl0
   rintro ⟨i0, y0_0, y0_a0, y0_c0⟩ Kb0 lk0 ⟨y0_h0, hl0⟩ j0
   conv => whnf
   refine cond_go rfl ?_
   conv => whnf
   refine cond_s (fun w0 => ?_) (fun w0 => ?_)
   ·obtain ⟨e0, hx0, hd0⟩ := ltx w0
    rw [hd0, ref44_Of_L0.eq_2] at hl0
    conv => whnf
    refine block_go rfl ?_
    conv => whnf
    refine RStep.ofN (index_addr rfl rfl (hasK (hp1_0.mono (((lf14_0_0.trans lf16_0_0).trans l16).trans lk0)).rd hx0) (nn _) (lt_ofN hx0) ?_)
    conv => whnf
    refine RStep.of (load_rd_agg i0 _ (hp1_0.mono (((lf14_0_0.trans lf16_0_0).trans l16).trans lk0)).rd rfl (mp hx0) rfl ?_)
    conv => whnf
    refine alloc_rule rfl ?_
    intro b8
    conv => whnf
    refine store_rule r0 rfl ?_
    conv => whnf
    refine ⟨rfl, rfl, (Nat.le_of_ble_eq_true rfl), ?_⟩
    conv => whnf
    refine field_addr rfl ?_
    conv => whnf
    refine RStep.of (load1_s r0 rfl rfl ?_)
    conv => whnf
    refine cond_s (fun g27_7 => ?_) (fun g27_7 => ?_)
    ·conv => whnf
     refine field_addr rfl ?_
     conv => whnf
     refine cond_t g27_7 ?_
     conv => whnf
     refine RStep.of (load1_s r0 rfl rfl ?_)
     conv => whnf
     refine cond_t g27_7 ?_
     conv => whnf
     refine cond_t g27_7 ?_
     conv => whnf
     refine cond_go rfl ?_
     conv => whnf
     refine cond_s (fun w31 => ?_) (fun w31 => ?_)
     ·replace hl0 := ift (and_t g27_7 w31) hl0
      conv => whnf
      refine RStep.of (loadn_s r0 rfl (Nat.le_of_ble_eq_true rfl) ?_)
      conv => whnf
      refine bsO (len := 1) (enc := S_ref44_Binding.enc) (l := [e0]) (cl := [str e0.Name, .int .i64 e0.TypeZ]) elT54 rfl rfl (fun _ _ => rfl) rfl rfl rfl ?_ fun b34 => ?_
      ·conv => whnf
       refine cond_T ?_
       conv => whnf
       first | done | rfl
      obtain ⟨h35, hl0⟩ := chkb hl0
      conv => whnf
      refine apE rfl r2 elT54 (src_own' rfl r0 rfl (fun _ => rfl) (fun _ => rfl)) h35 ?_
      intro a35 c35 o35
      conv => whnf
      refine int_in (cntz hx0 hk0) ?_
      conv => whnf
      refine RoundStep.mk (i0 + 1, (y0_0 ++ [e0]), a35, c35) ⟨rfl, rfl, trivial⟩ (by repeat (first | exact trivial | refine And.intro rfl ?_)) (ConvH.of (.cons r0 (.cons r2 (.cons r2 .nil)))) lk0 (ltm hx0) ⟨o35, hl0⟩
     ·replace hl0 := iff_ (and_g g27_7 w31) hl0
      conv => whnf
      refine int_in (cntz hx0 hk0) ?_
      conv => whnf
      refine RoundStep.mk (i0 + 1, y0_0, y0_a0, y0_c0) ⟨rfl, rfl, trivial⟩ (by repeat (first | exact trivial | refine And.intro rfl ?_)) (ConvH.of (.cons r1 (.cons r1 (.cons r1 .nil)))) lk0 (ltm hx0) ⟨y0_h0, hl0⟩
    ·conv => whnf
     refine cond_f g27_7 ?_
     conv => whnf
     refine cond_f g27_7 ?_
     conv => whnf
     refine cond_f g27_7 ?_
     conv => whnf
     refine cond_go rfl ?_
     conv => whnf
     refine cond_F ?_
     replace hl0 := iff_ (and_f g27_7) hl0
     conv => whnf
     refine int_in (cntz hx0 hk0) ?_
     conv => whnf
     refine RoundStep.mk (i0 + 1, y0_0, y0_a0, y0_c0) ⟨rfl, rfl, trivial⟩ (by repeat (first | exact trivial | refine And.intro rfl ?_)) (ConvH.of (.cons r1 (.cons r1 (.cons r1 .nil)))) lk0 (ltm hx0) ⟨y0_h0, hl0⟩
   ·rw [lty w0, ref44_Of_L0.eq_1] at hl0
    conv => whnf
    refine cond_T ?_
    conv => whnf
    refine MeetStep.mk (y0_0, y0_a0, y0_c0) ⟨rfl, trivial⟩ (by repeat (first | exact trivial | refine And.intro rfl ?_)) (ConvH.of (.cons r0 (.cons r0 (.cons r0 .nil)))) lk0 ⟨y0_h0, (si hl0)⟩
  ·rintro ⟨t0, t0_a0, t0_c0⟩ Kt0 lt0 ⟨t0_h0, rfl⟩ j0
   conv => whnf
   refine RStep.of (loadn_s r1 rfl (Nat.le_of_ble_eq_true rfl) ?_)
   obtain ⟨x40, q40, hm⟩ := bnd hm
   conv => whnf
   refine call_fn (Fn.lend Tryd.call37 (fun K40_1 l40_1 f40_1 => (ref44_expr_ok (n' := n') q40 (LiC.mono S_ref43_Node.R_ok ((((lf14_0_0.trans lf16_0_0).trans l16).trans lt0).trans l40_1) hp0_0) f40_1 rfl)) (by exact fun _ _ _ _ h => h)) (.cons r0 .nil) ?_
   rintro _ K40 _ l40 ⟨_, rfl, rfl, rfl⟩
   conv => whnf
   refine alloc_rule rfl ?_
   intro b10
   conv => whnf
   refine store_rule r0 rfl ?_
   conv => whnf
   refine ⟨rfl, rfl, (Nat.le_of_ble_eq_true rfl), ?_⟩
   conv => whnf
   refine draw_go ⟨⟨[], false⟩, _, [(_, _)]⟩ (by kernel_rfl) ⟨Hp.Le.refl _, (ConvH.of (.cons r0 .nil))⟩ ?_
   conv => whnf
   refine field_addr rfl ?_
   conv => whnf
   refine load1_l m0 rfl rfl ?_
   obtain rfl := si hm
   conv => whnf
   refine EndStep.mk _ ((((lf14_0_0.trans lf16_0_0).trans l16).trans lt0).trans l40) ⟨rfl, rfl⟩ (ConvH.of (.cons r3 .nil))

noncomputable def law44_RuletypeOf_L0 : List S_ref44_Binding → Nat → (List S_ruletype_Binding) → Option ((List S_ruletype_Binding))
 | [], _, y0_0 => some y0_0
 | e0 :: xs0, i0, y0_0 =>
  (chk (y0_0.length + [(⟨e0.Name, e0.TypeZ⟩ : S_ruletype_Binding)].length ≤ lim)).bind fun _ =>
  law44_RuletypeOf_L0 xs0 (i0 + 1) (y0_0 ++ [(⟨e0.Name, e0.TypeZ⟩ : S_ruletype_Binding)])
noncomputable def law44_RuletypeOf (n : Nat) (n' : S_ref43_Node) (env : (List S_ref44_Binding)) : Option (Bool) :=
 (law44_Large n n').bind fun x13 =>
 (if (x13 || decide ((env.length : Int) > 50)) then some true else (law44_awake n).bind fun x20 =>
 some (!x20)).bind fun x22 =>
 if x22 then
 (law44_Large n n').bind fun x24 =>
 some (x24 || decide ((env.length : Int) > 50))
 else
 (chk (env.length ≤ szMax)).bind fun _ =>
 (law44_RuletypeOf_L0 env 0 []).bind fun t0 =>
 (law43_Of n n').bind fun x47 =>
 (ruletype_Of n x47 t0).bind fun x49 =>
 (ref44_Of n n' env).bind fun x55 =>
 (if decide (x49.1 = x55.1) then (base_Num x49.2).bind fun x63 =>
 some (decide (x63 = x55.2)) else some false).bind fun x66 =>
 some x66
set_option maxHeartbeats 8000000 in
theorem law44_RuletypeOf_ok {n : Nat} {n' : S_ref43_Node} {env : (List S_ref44_Binding)} {ap0_0 : Option Addr} {cp0_0 : Nat} {ap1_0 : Option Addr} {cp1_0 : Nat} {n1 : Nat} {K : Hp} {r : Bool}
  (hm : law44_RuletypeOf n n' env = some r) (hp0_0 : LiC S_ref43_Node.R K ap0_0 cp0_0 4 n'.Kids) (hp1_0 : RdC S_ref44_Binding.enc K ap1_0 cp1_0 2 env) (en1 : n1 = env.length) (hG0 : GlL eS 1 0 gkw0 K) :
  Fn Tryd.prog 7 [.agg #[.int .i64 n'.Kind, str n'.Text, .slice ap0_0 n'.Kids.length cp0_0, .int .i64 n'.Line], .slice ap1_0 n1 cp1_0] K [] (fun v K' H' => v = .bool r ∧ H' = []) := by
 subst en1
 obtain ⟨ga0, gn0, gc0, gn_, gs0, gd0⟩ := id hG0
 subst gn_
 refine Fn.enter Tryd.func7 Tryd.call7 rfl fun F => ?_
 unfold law44_RuletypeOf at hm
 conv => whnf
 refine box_rule ?_
 intro b2
 conv => whnf
 refine RStep.of (loadn_s r0 rfl (Nat.le_of_ble_eq_true rfl) ?_)
 obtain ⟨x13, q13, hm⟩ := bnd hm
 conv => whnf
 refine call_fn (law44_Large_ok (n' := n') q13 hp0_0) .nil ?_
 rintro _ K13 _ l13 ⟨rfl, rfl⟩
 conv => whnf
 refine cond_s (fun g14_1 => ?_) (fun g14_1 => ?_)
 ·conv => whnf
  refine cond_t g14_1 ?_
  conv => whnf
  refine cond_t g14_1 ?_
  conv => whnf
  refine cond_t g14_1 ?_
  obtain ⟨x22, e22, hm⟩ := bnd hm
  replace e22 := ift (or_t g14_1) e22
  conv => whnf
  refine cond_T ?_
  conv => whnf
  refine cond_T ?_
  conv => whnf
  refine cond_T ?_
  conv => whnf
  refine cond_go rfl ?_
  conv => whnf
  refine cond_T ?_
  replace hm := ift (si e22).symm hm
  conv => whnf
  refine RStep.of (loadn_s r0 rfl (Nat.le_of_ble_eq_true rfl) ?_)
  obtain ⟨x24, q24, hm⟩ := bnd hm
  conv => whnf
  refine call_fn (law44_Large_ok (n' := n') q24 (LiC.mono S_ref43_Node.R_ok l13 hp0_0)) .nil ?_
  rintro _ K24 _ l24 ⟨rfl, rfl⟩
  conv => whnf
  refine cond_s (fun g25_2 => ?_) (fun g25_2 => ?_)
  ·conv => whnf
   refine cond_t g25_2 ?_
   conv => whnf
   refine cond_t g25_2 ?_
   conv => whnf
   refine cond_t g25_2 ?_
   obtain rfl := si hm
   conv => whnf
   refine EndStep.mk _ (l13.trans l24) ⟨(by rw [← ((or_t g25_2)).symm] <;> rfl), rfl⟩ (ConvH.of (.cons r1 .nil))
  ·conv => whnf
   refine cond_f g25_2 ?_
   conv => whnf
   refine RStep.of (len_slice rfl ?_)
   conv => whnf
   refine cond_f g25_2 ?_
   conv => whnf
   refine cond_f g25_2 ?_
   obtain rfl := si hm
   conv => whnf
   refine EndStep.mk _ (l13.trans l24) ⟨(by rw [← (or_e (b := decide ((env.length : Int) > 50)) g25_2)] <;> rfl), rfl⟩ (ConvH.of (.cons r1 .nil))
 ·conv => whnf
  refine cond_f g14_1 ?_
  conv => whnf
  refine RStep.of (len_slice rfl ?_)
  conv => whnf
  refine cond_f g14_1 ?_
  conv => whnf
  refine cond_f g14_1 ?_
  obtain ⟨x22, e22, hm⟩ := bnd hm
  conv => whnf
  refine cond_s (fun g19_1 => ?_) (fun g19_1 => ?_)
  ·replace e22 := ift (or_u g14_1 g19_1) e22
   conv => whnf
   refine cond_t g19_1 ?_
   conv => whnf
   refine cond_t g19_1 ?_
   conv => whnf
   refine cond_go rfl ?_
   conv => whnf
   refine cond_T ?_
   replace hm := ift (si e22).symm hm
   conv => whnf
   refine RStep.of (loadn_s r0 rfl (Nat.le_of_ble_eq_true rfl) ?_)
   obtain ⟨x24, q24, hm⟩ := bnd hm
   conv => whnf
   refine call_fn (law44_Large_ok (n' := n') q24 (LiC.mono S_ref43_Node.R_ok l13 hp0_0)) .nil ?_
   rintro _ K24 _ l24 ⟨rfl, rfl⟩
   conv => whnf
   refine cond_s (fun g25_2 => ?_) (fun g25_2 => ?_)
   ·conv => whnf
    refine cond_t g25_2 ?_
    conv => whnf
    refine cond_t g25_2 ?_
    conv => whnf
    refine cond_t g25_2 ?_
    obtain rfl := si hm
    conv => whnf
    refine EndStep.mk _ (l13.trans l24) ⟨(by rw [← ((or_t g25_2)).symm] <;> rfl), rfl⟩ (ConvH.of (.cons r1 .nil))
   ·conv => whnf
    refine cond_f g25_2 ?_
    conv => whnf
    refine RStep.of (len_slice rfl ?_)
    conv => whnf
    refine cond_f g25_2 ?_
    conv => whnf
    refine cond_f g25_2 ?_
    obtain rfl := si hm
    conv => whnf
    refine EndStep.mk _ (l13.trans l24) ⟨(by rw [← (or_e (b := decide ((env.length : Int) > 50)) g25_2)] <;> rfl), rfl⟩ (ConvH.of (.cons r1 .nil))
  ·replace e22 := iff_ (or_f g14_1 g19_1) e22
   obtain ⟨x20, q20, e22⟩ := bnd e22
   conv => whnf
   refine call_fn (law44_awake_ok q20 (hG0.mono l13)) .nil ?_
   rintro _ K20 _ l20 ⟨rfl, rfl⟩
   conv => whnf
   refine cond_f g19_1 ?_
   conv => whnf
   refine un_not ?_
   conv => whnf
   refine cond_f g19_1 ?_
   conv => whnf
   refine cond_go rfl ?_
   conv => whnf
   refine cond_s (fun w22 => ?_) (fun w22 => ?_)
   ·replace hm := ift ((si e22).symm.trans (not_t (ni_t w22))) hm
    conv => whnf
    refine RStep.of (loadn_s r0 rfl (Nat.le_of_ble_eq_true rfl) ?_)
    obtain ⟨x24, q24, hm⟩ := bnd hm
    conv => whnf
    refine call_fn (law44_Large_ok (n' := n') q24 (LiC.mono S_ref43_Node.R_ok (l13.trans l20) hp0_0)) .nil ?_
    rintro _ K24 _ l24 ⟨rfl, rfl⟩
    conv => whnf
    refine cond_s (fun g25_2 => ?_) (fun g25_2 => ?_)
    ·conv => whnf
     refine cond_t g25_2 ?_
     conv => whnf
     refine cond_t g25_2 ?_
     conv => whnf
     refine cond_t g25_2 ?_
     obtain rfl := si hm
     conv => whnf
     refine EndStep.mk _ ((l13.trans l20).trans l24) ⟨(by rw [← ((or_t g25_2)).symm] <;> rfl), rfl⟩ (ConvH.of (.cons r1 .nil))
    ·conv => whnf
     refine cond_f g25_2 ?_
     conv => whnf
     refine RStep.of (len_slice rfl ?_)
     conv => whnf
     refine cond_f g25_2 ?_
     conv => whnf
     refine cond_f g25_2 ?_
     obtain rfl := si hm
     conv => whnf
     refine EndStep.mk _ ((l13.trans l20).trans l24) ⟨(by rw [← (or_e (b := decide ((env.length : Int) > 50)) g25_2)] <;> rfl), rfl⟩ (ConvH.of (.cons r1 .nil))
   ·replace hm := iff_ ((si e22).symm.trans (not_f (ni_f w22))) hm
    conv => whnf
    refine RStep.of (len_slice rfl ?_)
    obtain ⟨hk0, hm⟩ := chkb hm
    obtain ⟨s0, hl0, hm⟩ := bnd hm
    conv => whnf
    refine nilC S_ruletype_Binding.enc 58 2 ?_
    refine code_cut (σ := ((List S_ruletype_Binding)) × Option Addr × Nat) [5, 7, 32, 33, 34, 35, 36, 37, 38, 39, 40, 41, 42, 43, 44] (fun (t0, t0_a0, t0_c0) => [(5, .slice t0_a0 t0.length t0_c0)]) (fun (t0, t0_a0, t0_c0) => [OwnL S_ruletype_Binding.enc t0_a0 58 2 t0_c0 t0, Cells b2 24 [.int .i64 n'.Kind, str n'.Text, .slice ap0_0 n'.Kids.length cp0_0, .int .i64 n'.Line], F]) (fun zz K1 => match zz with | (t0, t0_a0, t0_c0) => (0 < t0.length → Has t0_a0) ∧ t0 = s0) ?_ ?_
    ·refine block_go rfl ?_
     conv => whnf
     refine loop_rule (σ := Nat × (List S_ruletype_Binding) × Option Addr × Nat) [5, 7, 32, 33, 34, 35, 36, 37, 38, 39, 40, 41, 42, 43, 44] (fun (i0, y0_0, y0_a0, y0_c0) => [(32, .int .i64 (i0 : Int)), (5, .slice y0_a0 y0_0.length y0_c0)]) (fun (i0, y0_0, y0_a0, y0_c0) => [OwnL S_ruletype_Binding.enc y0_a0 58 2 y0_c0 y0_0, Cells b2 24 [.int .i64 n'.Kind, str n'.Text, .slice ap0_0 n'.Kids.length cp0_0, .int .i64 n'.Line], F]) (fun zz K1 => match zz with | (i0, y0_0, y0_a0, y0_c0) => (0 < y0_0.length → Has y0_a0) ∧ law44_RuletypeOf_L0 (env.drop i0) i0 y0_0 = some s0) (fun zz => env.length - zz.1) (0, [], none, 0) rfl ⟨rfl, rfl, trivial⟩ (ConvH.of (.cons r0 (.cons r0 (.cons r0 .nil)))) ⟨(fun h => by simp at h), hl0⟩ ?_
     clear hl0
     rintro ⟨i0, y0_0, y0_a0, y0_c0⟩ Kb0 lk0 ⟨y0_h0, hl0⟩ j0
     conv => whnf
     refine cond_go rfl ?_
     conv => whnf
     refine cond_s (fun w0 => ?_) (fun w0 => ?_)
     ·obtain ⟨e0, hx0, hd0⟩ := ltx w0
      rw [hd0, law44_RuletypeOf_L0.eq_2] at hl0
      conv => whnf
      refine block_go rfl ?_
      conv => whnf
      refine RStep.ofN (index_addr rfl rfl (hasK (hp1_0.mono ((l13.trans l20).trans lk0)).rd hx0) (nn _) (lt_ofN hx0) ?_)
      conv => whnf
      refine RStep.of (load_rd_agg i0 _ (hp1_0.mono ((l13.trans l20).trans lk0)).rd rfl (mp hx0) rfl ?_)
      conv => whnf
      refine alloc_rule rfl ?_
      intro b7
      conv => whnf
      refine store_rule r0 rfl ?_
      conv => whnf
      refine ⟨rfl, rfl, (Nat.le_of_ble_eq_true rfl), ?_⟩
      conv => whnf
      refine field_addr rfl ?_
      conv => whnf
      refine RStep.of (load1_s r0 rfl rfl ?_)
      conv => whnf
      refine field_addr rfl ?_
      conv => whnf
      refine RStep.of (load1_s r0 rfl rfl ?_)
      conv => whnf
      refine build_struct rfl rfl ?_
      conv => whnf
      refine cond_T ?_
      conv => whnf
      refine cond_T ?_
      conv => whnf
      refine bsO (len := 1) (enc := S_ruletype_Binding.enc) (l := [(⟨e0.Name, e0.TypeZ⟩ : S_ruletype_Binding)]) (cl := [str e0.Name, .int .i64 e0.TypeZ]) elT55 rfl rfl (fun _ _ => rfl) rfl rfl rfl ?_ fun b42 => ?_
      ·conv => whnf
       refine cond_T ?_
       conv => whnf
       first | done | rfl
      obtain ⟨h43, hl0⟩ := chkb hl0
      conv => whnf
      refine apE rfl r2 elT55 (src_own' rfl r0 rfl (fun _ => rfl) (fun _ => rfl)) h43 ?_
      intro a43 c43 o43
      conv => whnf
      refine int_in (cntz hx0 hk0) ?_
      conv => whnf
      refine RoundStep.mk (i0 + 1, (y0_0 ++ [(⟨e0.Name, e0.TypeZ⟩ : S_ruletype_Binding)]), a43, c43) ⟨rfl, rfl, trivial⟩ (by repeat (first | exact trivial | refine And.intro rfl ?_)) (ConvH.of (.cons r0 (.cons r2 (.cons r2 .nil)))) lk0 (ltm hx0) ⟨o43, hl0⟩
     ·rw [lty w0, law44_RuletypeOf_L0.eq_1] at hl0
      conv => whnf
      refine cond_T ?_
      conv => whnf
      refine MeetStep.mk (y0_0, y0_a0, y0_c0) ⟨rfl, trivial⟩ (by repeat (first | exact trivial | refine And.intro rfl ?_)) (ConvH.of (.cons r0 (.cons r0 (.cons r0 .nil)))) lk0 ⟨y0_h0, (si hl0)⟩
    ·rintro ⟨t0, t0_a0, t0_c0⟩ Kt0 lt0 ⟨t0_h0, rfl⟩ j0
     conv => whnf
     refine RStep.of (loadn_s r1 rfl (Nat.le_of_ble_eq_true rfl) ?_)
     obtain ⟨x47, q47, hm⟩ := bnd hm
     conv => whnf
     refine call_fn (law43_Of_ok (n' := n') q47 (LiC.mono S_ref43_Node.R_ok ((l13.trans l20).trans lt0) hp0_0)) .nil ?_
     rintro _ K47 _ l47 ⟨a47_0, c47_0, s47_0, rfl, h47_0, r47_0, rfl⟩
     obtain ⟨x49, q49, hm⟩ := bnd hm
     conv => whnf
     refine fzFR Tryd.call27 S_ruletree_Node.R_ok r0 r47_0 fun Kf49_0_0 lf49_0_0 ff49_0_0 => ?_
     refine call_fn (Fn.lend Tryd.call27 (fun K49_1 l49_1 f49_1 => (ruletype_Of_ok (n' := x47) q49 (LiC.mono S_ruletree_Node.R_ok l49_1 ff49_0_0) f49_1 rfl (hG0.mono (((((l13.trans l20).trans lt0).trans l47).trans lf49_0_0).trans l49_1)))) (by exact fun _ _ _ _ h => h)) (.cons r0 .nil) ?_
     rintro _ K49 _ l49 ⟨_, rfl, rfl, rfl⟩
     conv => whnf
     refine RStep.of (loadn_s r1 rfl (Nat.le_of_ble_eq_true rfl) ?_)
     obtain ⟨x55, q55, hm⟩ := bnd hm
     conv => whnf
     refine call_fn (ref44_Of_ok (n' := n') q55 (LiC.mono S_ref43_Node.R_ok (((((l13.trans l20).trans lt0).trans l47).trans lf49_0_0).trans l49) hp0_0) (hp1_0.mono (((((l13.trans l20).trans lt0).trans l47).trans lf49_0_0).trans l49)) rfl) .nil ?_
     rintro _ K55 _ l55 ⟨rfl, rfl⟩
     conv => whnf
     refine eq_int ?_
     obtain ⟨x66, e66, hm⟩ := bnd hm
     conv => whnf
     refine cond_s (fun g61_11 => ?_) (fun g61_11 => ?_)
     ·replace e66 := ift g61_11 e66
      conv => whnf
      refine cond_t g61_11 ?_
      obtain ⟨x63, q63, e66⟩ := bnd e66
      conv => whnf
      refine call_fn (base_Num_ok (e := x49.2) q63) .nil ?_
      rintro _ K63 _ l63 ⟨rfl, rfl⟩
      conv => whnf
      refine cond_t g61_11 ?_
      conv => whnf
      refine cond_t g61_11 ?_
      conv => whnf
      refine eq_int ?_
      conv => whnf
      refine cond_t g61_11 ?_
      obtain rfl := si hm
      conv => whnf
      refine EndStep.mk _ (((((((l13.trans l20).trans lt0).trans l47).trans lf49_0_0).trans l49).trans l55).trans l63) ⟨(by rw [← (si e66)] <;> rfl), rfl⟩ (ConvH.of (.cons r2 .nil))
     ·replace e66 := iff_ g61_11 e66
      conv => whnf
      refine cond_f g61_11 ?_
      conv => whnf
      refine cond_f g61_11 ?_
      conv => whnf
      refine cond_f g61_11 ?_
      conv => whnf
      refine cond_f g61_11 ?_
      obtain rfl := si hm
      conv => whnf
      refine EndStep.mk _ ((((((l13.trans l20).trans lt0).trans l47).trans lf49_0_0).trans l49).trans l55) ⟨(by rw [← ((si e66).symm).symm] <;> rfl), rfl⟩ (ConvH.of (.cons r2 .nil))
