/- Functions of the program: mirrors, and that a call returns what the mirror says. Printed by gen.py. -/
import Derived.Test.YtdnelkmckpapgaaDoorG4
set_option linter.unusedVariables false
set_option linter.unusedSimpArgs false
open Go Go.SL Go.Proofs
set_option maxRecDepth 1000000
noncomputable def law44_RuletypeScopes_L0 (x64 : S_ref43_Node) (x65 : S_ref43_Node) (x68 : S_ref43_Node) (x70 : S_ref43_Node) (x75 : S_ref43_Node) (x77 : S_ref43_Node) (x57 : S_ref43_Node) (x58 : S_ref43_Node) (x84 : S_ref43_Node) (x85 : S_ref43_Node) (x89 : S_ref43_Node) (x94 : S_ref43_Node) (x100 : S_ref43_Node) (x105 : S_ref43_Node) (x106 : S_ref43_Node) (n : Nat) (e : S_ref43_Node) : Nat → Nat → Option (Fl (Bool) (Unit))
 | 0, _ => some (Fl.go ())
 | xs0 + 1, i0 =>
  (ix ([(⟨[x64, x65], 0, 0⟩ : S_struct___list___ref43_Node__line_int__want_int__), (⟨[x68, x70], 9, 8⟩ : S_struct___list___ref43_Node__line_int__want_int__), (⟨[x75, x77], 7, 4⟩ : S_struct___list___ref43_Node__line_int__want_int__), (⟨[(⟨2, ([] : Str), [(⟨22, ([116, 114, 117, 101] : Str), [], 8⟩ : S_ref43_Node), (⟨12, ([] : Str), [x57, x58], 0⟩ : S_ref43_Node)], 8⟩ : S_ref43_Node), (⟨2, ([] : Str), [(⟨22, ([116, 114, 117, 101] : Str), [], 8⟩ : S_ref43_Node), (⟨12, ([] : Str), [x57, x58], 0⟩ : S_ref43_Node)], 8⟩ : S_ref43_Node), x84, x85], 0, 0⟩ : S_struct___list___ref43_Node__line_int__want_int__), (⟨[(⟨2, ([] : Str), [(⟨22, ([116, 114, 117, 101] : Str), [], 8⟩ : S_ref43_Node), (⟨12, ([] : Str), [x57, x58], 0⟩ : S_ref43_Node)], 8⟩ : S_ref43_Node), x89], 9, 8⟩ : S_struct___list___ref43_Node__line_int__want_int__), (⟨[x94, (⟨2, ([] : Str), [(⟨22, ([116, 114, 117, 101] : Str), [], 8⟩ : S_ref43_Node), (⟨12, ([] : Str), [x57, x58], 0⟩ : S_ref43_Node)], 8⟩ : S_ref43_Node)], 7, 4⟩ : S_struct___list___ref43_Node__line_int__want_int__), (⟨[x100], 7, 4⟩ : S_struct___list___ref43_Node__line_int__want_int__), (⟨[x105, x106], 0, 0⟩ : S_struct___list___ref43_Node__line_int__want_int__)]) (i0 : Int)).bind fun x113 =>
  (law44_uses n e ([104, 101, 97, 100, 101, 114] : Str)).bind fun x116 =>
  (if (x116 && decide ((x113.list.length : Int) = 2)) then (ix x113.list 0).bind fun x126 =>
  some (decide (x126.Text = ([104, 101, 97, 100, 101, 114] : Str))) else some false).bind fun x130 =>
  if x130 then
  law44_RuletypeScopes_L0 x64 x65 x68 x70 x75 x77 x57 x58 x84 x85 x89 x94 x100 x105 x106 n e xs0 (i0 + 1)
  else
  (law44_check n x113.list).bind fun x134 =>
  if (decide (x134.1 ≠ x113.line) || decide (x134.2 ≠ x113.want)) then
  some (Fl.ret false)
  else
  law44_RuletypeScopes_L0 x64 x65 x68 x70 x75 x77 x57 x58 x84 x85 x89 x94 x100 x105 x106 n e xs0 (i0 + 1)
noncomputable def law44_RuletypeScopes (n : Nat) (e : S_ref43_Node) : Option (Bool) :=
 (law44_Large n e).bind fun x15 =>
 (if x15 then some true else (law44_awake n).bind fun x17 =>
 some (!x17)).bind fun x19 =>
 if x19 then
 (law44_Large n e).bind fun x21 =>
 some x21
 else
 (law44_let ([102, 114, 101, 115, 104, 95, 110, 97, 109, 101] : Str) e).bind fun x23 =>
 (law44_use ([102, 114, 101, 115, 104, 95, 110, 97, 109, 101] : Str)).bind fun x24 =>
 (law44_use ([102, 114, 101, 115, 104, 95, 110, 97, 109, 101] : Str)).bind fun x25 =>
 (law44_Program [x23, x24, x25]).bind fun x27 =>
 (law44_uses n e ([102, 114, 101, 115, 104, 95, 110, 97, 109, 101] : Str)).bind fun x29 =>
 (if x29 then some true else (ref43_Valid n x27).bind fun x32 =>
 some (!x32)).bind fun x34 =>
 (if x34 then some true else (ref43_Size n x27).bind fun x37 =>
 some (decide (x37 > 200))).bind fun x39 =>
 (if x39 then some true else (ref43_Depth n x27).bind fun x42 =>
 some (decide (x42 > 20))).bind fun x44 =>
 if x44 then
 some true
 else
 (law44_let ([102, 114, 101, 115, 104, 95, 110, 97, 109, 101] : Str) e).bind fun x47 =>
 (law44_check n [x47]).bind fun x49 =>
 if decide (x49.2 ≠ 0) then
 some true
 else
 (law44_let ([102, 114, 101, 115, 104, 95, 110, 97, 109, 101] : Str) (⟨22, ([116, 114, 117, 101] : Str), [], 8⟩ : S_ref43_Node)).bind fun x57 =>
 (law44_use ([102, 114, 101, 115, 104, 95, 110, 97, 109, 101] : Str)).bind fun x58 =>
 (law44_let ([102, 114, 101, 115, 104, 95, 110, 97, 109, 101] : Str) e).bind fun x64 =>
 (law44_use ([102, 114, 101, 115, 104, 95, 110, 97, 109, 101] : Str)).bind fun x65 =>
 (law44_use ([102, 114, 101, 115, 104, 95, 110, 97, 109, 101] : Str)).bind fun x68 =>
 (law44_let ([102, 114, 101, 115, 104, 95, 110, 97, 109, 101] : Str) e).bind fun x70 =>
 (law44_let ([102, 114, 101, 115, 104, 95, 110, 97, 109, 101] : Str) e).bind fun x75 =>
 (law44_let ([102, 114, 101, 115, 104, 95, 110, 97, 109, 101] : Str) e).bind fun x77 =>
 (law44_let ([102, 114, 101, 115, 104, 95, 110, 97, 109, 101] : Str) e).bind fun x84 =>
 (law44_use ([102, 114, 101, 115, 104, 95, 110, 97, 109, 101] : Str)).bind fun x85 =>
 (law44_use ([102, 114, 101, 115, 104, 95, 110, 97, 109, 101] : Str)).bind fun x89 =>
 (law44_let ([102, 114, 101, 115, 104, 95, 110, 97, 109, 101] : Str) e).bind fun x94 =>
 (law44_let ([112, 97, 116, 104] : Str) e).bind fun x100 =>
 (law44_let ([104, 101, 97, 100, 101, 114] : Str) e).bind fun x105 =>
 (law44_use ([104, 101, 97, 100, 101, 114] : Str)).bind fun x106 =>
 (chk (InI (8 : Int))).bind fun _ =>
 (law44_RuletypeScopes_L0 x64 x65 x68 x70 x75 x77 x57 x58 x84 x85 x89 x94 x100 x105 x106 n e (8 : Int).toNat 0).bind fun s0 => s0.el some fun t0 =>
 some true
set_option maxHeartbeats 8000000 in
theorem law44_RuletypeScopes_ok {n : Nat} {e : S_ref43_Node} {ap0_0 : Option Addr} {cp0_0 : Nat} {K : Hp} {r : Bool}
  (hm : law44_RuletypeScopes n e = some r) (hp0_0 : LiC S_ref43_Node.R K ap0_0 cp0_0 4 e.Kids) (hG0 : GlL eS 1 0 gkw0 K) :
  Fn Tryd.prog 6 [.agg #[.int .i64 e.Kind, str e.Text, .slice ap0_0 e.Kids.length cp0_0, .int .i64 e.Line]] K [] (fun v K' H' => v = .bool r ∧ H' = []) := by
 obtain ⟨ga0, gn0, gc0, gn_, gs0, gd0⟩ := id hG0
 subst gn_
 refine Fn.enter Tryd.func6 Tryd.call6 rfl fun F => ?_
 unfold law44_RuletypeScopes at hm
 conv => whnf
 refine box_rule ?_
 intro b1
 conv => whnf
 refine RStep.of (loadn_s r0 rfl (Nat.le_of_ble_eq_true rfl) ?_)
 obtain ⟨x15, q15, hm⟩ := bnd hm
 conv => whnf
 refine call_fn (law44_Large_ok (n' := e) q15 hp0_0) .nil ?_
 rintro _ K15 _ l15 ⟨rfl, rfl⟩
 obtain ⟨x19, e19, hm⟩ := bnd hm
 conv => whnf
 refine cond_s (fun g16_1 => ?_) (fun g16_1 => ?_)
 ·replace e19 := ift g16_1 e19
  conv => whnf
  refine cond_t g16_1 ?_
  conv => whnf
  refine cond_t g16_1 ?_
  conv => whnf
  refine cond_go rfl ?_
  conv => whnf
  refine cond_T ?_
  replace hm := ift (si e19).symm hm
  conv => whnf
  refine RStep.of (loadn_s r0 rfl (Nat.le_of_ble_eq_true rfl) ?_)
  obtain ⟨x21, q21, hm⟩ := bnd hm
  conv => whnf
  refine call_fn (law44_Large_ok (n' := e) q21 (LiC.mono S_ref43_Node.R_ok l15 hp0_0)) .nil ?_
  rintro _ K21 _ l21 ⟨rfl, rfl⟩
  obtain rfl := si hm
  conv => whnf
  refine EndStep.mk _ (l15.trans l21) ⟨rfl, rfl⟩ (ConvH.of (.cons r1 .nil))
 ·replace e19 := iff_ g16_1 e19
  obtain ⟨x17, q17, e19⟩ := bnd e19
  conv => whnf
  refine call_fn (law44_awake_ok q17 (hG0.mono l15)) .nil ?_
  rintro _ K17 _ l17 ⟨rfl, rfl⟩
  conv => whnf
  refine cond_f g16_1 ?_
  conv => whnf
  refine un_not ?_
  conv => whnf
  refine cond_f g16_1 ?_
  conv => whnf
  refine cond_go rfl ?_
  conv => whnf
  refine cond_s (fun w19 => ?_) (fun w19 => ?_)
  ·replace hm := ift ((si e19).symm.trans (not_t (ni_t w19))) hm
   conv => whnf
   refine RStep.of (loadn_s r0 rfl (Nat.le_of_ble_eq_true rfl) ?_)
   obtain ⟨x21, q21, hm⟩ := bnd hm
   conv => whnf
   refine call_fn (law44_Large_ok (n' := e) q21 (LiC.mono S_ref43_Node.R_ok (l15.trans l17) hp0_0)) .nil ?_
   rintro _ K21 _ l21 ⟨rfl, rfl⟩
   obtain rfl := si hm
   conv => whnf
   refine EndStep.mk _ ((l15.trans l17).trans l21) ⟨rfl, rfl⟩ (ConvH.of (.cons r1 .nil))
  ·replace hm := iff_ ((si e19).symm.trans (not_f (ni_f w19))) hm
   conv => whnf
   refine RStep.of (loadn_s r0 rfl (Nat.le_of_ble_eq_true rfl) ?_)
   obtain ⟨x23, q23, hm⟩ := bnd hm
   conv => whnf
   refine call_fn (law44_let_ok (name := ([102, 114, 101, 115, 104, 95, 110, 97, 109, 101] : Str)) (e := e) q23 (LiC.mono S_ref43_Node.R_ok (l15.trans l17) hp0_0)) .nil ?_
   rintro _ K23 _ l23 ⟨a23_0, c23_0, s23_0, rfl, h23_0, r23_0, rfl⟩
   obtain ⟨x24, q24, hm⟩ := bnd hm
   conv => whnf
   refine call_fn (law44_use_ok (name := ([102, 114, 101, 115, 104, 95, 110, 97, 109, 101] : Str)) q24) .nil ?_
   rintro _ K24 _ l24 ⟨a24_0, c24_0, s24_0, rfl, h24_0, r24_0, rfl⟩
   obtain ⟨x25, q25, hm⟩ := bnd hm
   conv => whnf
   refine call_fn (law44_use_ok (name := ([102, 114, 101, 115, 104, 95, 110, 97, 109, 101] : Str)) q25) .nil ?_
   rintro _ K25 _ l25 ⟨a25_0, c25_0, s25_0, rfl, h25_0, r25_0, rfl⟩
   conv => whnf
   refine fzWR S_ref43_Node.R_ok r2 (LR.mono S_ref43_Node.R_ok (l24.trans l25) r23_0) fun Kf26_0_0 lf26_0_0 ff26_0_0 => ?_
   refine fzWR S_ref43_Node.R_ok r1 (LR.mono S_ref43_Node.R_ok (l25.trans lf26_0_0) r24_0) fun Kf26_1_0 lf26_1_0 ff26_1_0 => ?_
   refine fzWR S_ref43_Node.R_ok r0 (LR.mono S_ref43_Node.R_ok (lf26_0_0.trans lf26_1_0) r25_0) fun Kf26_2_0 lf26_2_0 ff26_2_0 => ?_
   refine bsOR (len := 3) (l := [x23, x24, x25]) (css := [[.int .i64 x23.Kind, str x23.Text, .slice a23_0 x23.Kids.length c23_0, .int .i64 x23.Line], [.int .i64 x24.Kind, str x24.Text, .slice a24_0 x24.Kids.length c24_0, .int .i64 x24.Line], [.int .i64 x25.Kind, str x25.Text, .slice a25_0 x25.Kids.length c25_0, .int .i64 x25.Line]]) (cl := [.int .i64 x23.Kind, str x23.Text, .slice a23_0 x23.Kids.length c23_0, .int .i64 x23.Line, .int .i64 x24.Kind, str x24.Text, .slice a24_0 x24.Kids.length c24_0, .int .i64 x24.Line, .int .i64 x25.Kind, str x25.Text, .slice a25_0 x25.Kids.length c25_0, .int .i64 x25.Line]) S_ref43_Node.R_ok elT22 rfl rfl (LR.snoc (LR.snoc (LR.snoc LR.nil (S_ref43_Node.of (x := x23) ⟨a23_0, c23_0, rfl, (LiC.mono S_ref43_Node.R_ok (lf26_1_0.trans lf26_2_0) ff26_0_0)⟩)) (S_ref43_Node.of (x := x24) ⟨a24_0, c24_0, rfl, (LiC.mono S_ref43_Node.R_ok lf26_2_0 ff26_1_0)⟩)) (S_ref43_Node.of (x := x25) ⟨a25_0, c25_0, rfl, ff26_2_0⟩)) rfl rfl rfl ?_ fun b26 => ?_
   ·conv => whnf
    refine cond_T ?_
    conv => whnf
    refine cond_T ?_
    conv => whnf
    refine cond_T ?_
    conv => whnf
    first | done | rfl
   obtain ⟨x27, q27, hm⟩ := bnd hm
   conv => whnf
   refine fzFR Tryd.call18 S_ref43_Node.R_ok r0 (show LR S_ref43_Node.R _ [[.int .i64 x23.Kind, str x23.Text, .slice a23_0 x23.Kids.length c23_0, .int .i64 x23.Line], [.int .i64 x24.Kind, str x24.Text, .slice a24_0 x24.Kids.length c24_0, .int .i64 x24.Line], [.int .i64 x25.Kind, str x25.Text, .slice a25_0 x25.Kids.length c25_0, .int .i64 x25.Line]] [x23, x24, x25] from (LR.snoc (LR.snoc (LR.snoc LR.nil (S_ref43_Node.of (x := x23) ⟨a23_0, c23_0, rfl, (LiC.mono S_ref43_Node.R_ok (lf26_1_0.trans lf26_2_0) ff26_0_0)⟩)) (S_ref43_Node.of (x := x24) ⟨a24_0, c24_0, rfl, (LiC.mono S_ref43_Node.R_ok lf26_2_0 ff26_1_0)⟩)) (S_ref43_Node.of (x := x25) ⟨a25_0, c25_0, rfl, ff26_2_0⟩))) fun K27_0 l27_0 f27_0 => ?_
   refine call_fn (law44_Program_ok q27 f27_0 rfl) .nil ?_
   rintro _ K27 _ l27 ⟨a27_0, c27_0, rfl, h27_0, rfl⟩
   conv => whnf
   refine alloc_rule rfl ?_
   intro b3
   conv => whnf
   refine store_rule r0 rfl ?_
   conv => whnf
   refine ⟨rfl, rfl, (Nat.le_of_ble_eq_true rfl), ?_⟩
   conv => whnf
   refine RStep.of (loadn_s r1 rfl (Nat.le_of_ble_eq_true rfl) ?_)
   obtain ⟨x29, q29, hm⟩ := bnd hm
   conv => whnf
   refine call_fn (law44_uses_ok (n' := e) (name := ([102, 114, 101, 115, 104, 95, 110, 97, 109, 101] : Str)) q29 (LiC.mono S_ref43_Node.R_ok (((((((((l15.trans l17).trans l23).trans l24).trans l25).trans lf26_0_0).trans lf26_1_0).trans lf26_2_0).trans l27_0).trans l27) hp0_0)) .nil ?_
   rintro _ K29 _ l29 ⟨rfl, rfl⟩
   obtain ⟨x34, e34, hm⟩ := bnd hm
   conv => whnf
   refine cond_s (fun g30_4 => ?_) (fun g30_4 => ?_)
   ·replace e34 := ift g30_4 e34
    conv => whnf
    refine cond_t g30_4 ?_
    conv => whnf
    refine cond_t g30_4 ?_
    conv => whnf
    refine cond_t g30_4 ?_
    obtain ⟨x39, e39, hm⟩ := bnd hm
    replace e39 := ift (si e34).symm e39
    conv => whnf
    refine cond_T ?_
    conv => whnf
    refine cond_T ?_
    conv => whnf
    refine cond_T ?_
    conv => whnf
    refine cond_T ?_
    obtain ⟨x44, e44, hm⟩ := bnd hm
    replace e44 := ift (si e39).symm e44
    conv => whnf
    refine cond_T ?_
    conv => whnf
    refine cond_T ?_
    conv => whnf
    refine cond_T ?_
    conv => whnf
    refine cond_T ?_
    conv => whnf
    refine cond_go rfl ?_
    conv => whnf
    refine cond_T ?_
    replace hm := ift (si e44).symm hm
    obtain rfl := si hm
    conv => whnf
    refine EndStep.mk _ ((((((((((l15.trans l17).trans l23).trans l24).trans l25).trans lf26_0_0).trans lf26_1_0).trans lf26_2_0).trans l27_0).trans l27).trans l29) ⟨rfl, rfl⟩ (ConvH.of (.cons r2 .nil))
   ·replace e34 := iff_ g30_4 e34
    conv => whnf
    refine RStep.of (loadn_s r0 rfl (Nat.le_of_ble_eq_true rfl) ?_)
    conv => whnf
    refine cond_f g30_4 ?_
    obtain ⟨x32, q32, e34⟩ := bnd e34
    conv => whnf
    refine call_fn (ref43_Valid_ok (n' := x27) q32 (LiC.mono S_ref43_Node.R_ok l29 h27_0)) .nil ?_
    rintro _ K32 _ l32 ⟨rfl, rfl⟩
    conv => whnf
    refine cond_f g30_4 ?_
    conv => whnf
    refine un_not ?_
    conv => whnf
    refine cond_f g30_4 ?_
    obtain ⟨x39, e39, hm⟩ := bnd hm
    conv => whnf
    refine cond_s (fun g35_4 => ?_) (fun g35_4 => ?_)
    ·replace e39 := ift ((si e34).symm.trans (not_t (ni_t g35_4))) e39
     conv => whnf
     refine cond_t g35_4 ?_
     conv => whnf
     refine cond_t g35_4 ?_
     conv => whnf
     refine cond_t g35_4 ?_
     obtain ⟨x44, e44, hm⟩ := bnd hm
     replace e44 := ift (si e39).symm e44
     conv => whnf
     refine cond_T ?_
     conv => whnf
     refine cond_T ?_
     conv => whnf
     refine cond_T ?_
     conv => whnf
     refine cond_T ?_
     conv => whnf
     refine cond_go rfl ?_
     conv => whnf
     refine cond_T ?_
     replace hm := ift (si e44).symm hm
     obtain rfl := si hm
     conv => whnf
     refine EndStep.mk _ (((((((((((l15.trans l17).trans l23).trans l24).trans l25).trans lf26_0_0).trans lf26_1_0).trans lf26_2_0).trans l27_0).trans l27).trans l29).trans l32) ⟨rfl, rfl⟩ (ConvH.of (.cons r2 .nil))
    ·replace e39 := iff_ ((si e34).symm.trans (not_f (ni_f g35_4))) e39
     conv => whnf
     refine RStep.of (loadn_s r0 rfl (Nat.le_of_ble_eq_true rfl) ?_)
     conv => whnf
     refine cond_f g35_4 ?_
     obtain ⟨x37, q37, e39⟩ := bnd e39
     conv => whnf
     refine call_fn (ref43_Size_ok (n' := x27) q37 (LiC.mono S_ref43_Node.R_ok (l29.trans l32) h27_0)) .nil ?_
     rintro _ K37 _ l37 ⟨rfl, rfl⟩
     conv => whnf
     refine cond_f g35_4 ?_
     conv => whnf
     refine cond_f g35_4 ?_
     obtain ⟨x44, e44, hm⟩ := bnd hm
     conv => whnf
     refine cond_s (fun g40_4 => ?_) (fun g40_4 => ?_)
     ·replace e44 := ift ((si e39).symm.trans g40_4) e44
      conv => whnf
      refine cond_t g40_4 ?_
      conv => whnf
      refine cond_t g40_4 ?_
      conv => whnf
      refine cond_t g40_4 ?_
      conv => whnf
      refine cond_go rfl ?_
      conv => whnf
      refine cond_T ?_
      replace hm := ift (si e44).symm hm
      obtain rfl := si hm
      conv => whnf
      refine EndStep.mk _ ((((((((((((l15.trans l17).trans l23).trans l24).trans l25).trans lf26_0_0).trans lf26_1_0).trans lf26_2_0).trans l27_0).trans l27).trans l29).trans l32).trans l37) ⟨rfl, rfl⟩ (ConvH.of (.cons r2 .nil))
     ·replace e44 := iff_ ((si e39).symm.trans g40_4) e44
      conv => whnf
      refine RStep.of (loadn_s r0 rfl (Nat.le_of_ble_eq_true rfl) ?_)
      conv => whnf
      refine cond_f g40_4 ?_
      obtain ⟨x42, q42, e44⟩ := bnd e44
      conv => whnf
      refine call_fn (ref43_Depth_ok (n' := x27) q42 (LiC.mono S_ref43_Node.R_ok ((l29.trans l32).trans l37) h27_0)) .nil ?_
      rintro _ K42 _ l42 ⟨rfl, rfl⟩
      conv => whnf
      refine cond_f g40_4 ?_
      conv => whnf
      refine cond_f g40_4 ?_
      conv => whnf
      refine cond_go rfl ?_
      conv => whnf
      refine cond_s (fun w44 => ?_) (fun w44 => ?_)
      ·replace hm := ift ((si e44).symm.trans w44) hm
       obtain rfl := si hm
       conv => whnf
       refine EndStep.mk _ (((((((((((((l15.trans l17).trans l23).trans l24).trans l25).trans lf26_0_0).trans lf26_1_0).trans lf26_2_0).trans l27_0).trans l27).trans l29).trans l32).trans l37).trans l42) ⟨rfl, rfl⟩ (ConvH.of (.cons r2 .nil))
      ·replace hm := iff_ ((si e44).symm.trans w44) hm
       conv => whnf
       refine RStep.of (loadn_s r1 rfl (Nat.le_of_ble_eq_true rfl) ?_)
       obtain ⟨x47, q47, hm⟩ := bnd hm
       conv => whnf
       refine call_fn (law44_let_ok (name := ([102, 114, 101, 115, 104, 95, 110, 97, 109, 101] : Str)) (e := e) q47 (LiC.mono S_ref43_Node.R_ok (((((((((((((l15.trans l17).trans l23).trans l24).trans l25).trans lf26_0_0).trans lf26_1_0).trans lf26_2_0).trans l27_0).trans l27).trans l29).trans l32).trans l37).trans l42) hp0_0)) .nil ?_
       rintro _ K47 _ l47 ⟨a47_0, c47_0, s47_0, rfl, h47_0, r47_0, rfl⟩
       conv => whnf
       refine fzWR S_ref43_Node.R_ok r0 r47_0 fun Kf48_0_0 lf48_0_0 ff48_0_0 => ?_
       refine bsOR (len := 1) (l := [x47]) (css := [[.int .i64 x47.Kind, str x47.Text, .slice a47_0 x47.Kids.length c47_0, .int .i64 x47.Line]]) (cl := [.int .i64 x47.Kind, str x47.Text, .slice a47_0 x47.Kids.length c47_0, .int .i64 x47.Line]) S_ref43_Node.R_ok elT22 rfl rfl (LR.snoc LR.nil (S_ref43_Node.of (x := x47) ⟨a47_0, c47_0, rfl, ff48_0_0⟩)) rfl rfl rfl ?_ fun b48 => ?_
       ·conv => whnf
        refine cond_T ?_
        conv => whnf
        first | done | rfl
       obtain ⟨x49, q49, hm⟩ := bnd hm
       conv => whnf
       refine call_fn (Fn.lendR S_ref43_Node.R_ok (show LR S_ref43_Node.R _ [[.int .i64 x47.Kind, str x47.Text, .slice a47_0 x47.Kids.length c47_0, .int .i64 x47.Line]] [x47] from (LR.snoc LR.nil (S_ref43_Node.of (x := x47) ⟨a47_0, c47_0, rfl, ff48_0_0⟩))) Tryd.call19 (fun K49_0 l49_0 f49_0 => (law44_check_ok q49 f49_0 rfl (hG0.mono ((((((((((((((((l15.trans l17).trans l23).trans l24).trans l25).trans lf26_0_0).trans lf26_1_0).trans lf26_2_0).trans l27_0).trans l27).trans l29).trans l32).trans l37).trans l42).trans l47).trans lf48_0_0).trans l49_0)))) (by exact fun _ _ _ _ h => h)) (.cons r0 .nil) ?_
       rintro _ K49 _ l49 ⟨_, rfl, rfl, rfl⟩
       conv => whnf
       refine neq_int ?_
       conv => whnf
       refine cond_go rfl ?_
       conv => whnf
       refine cond_s (fun w53 => ?_) (fun w53 => ?_)
       ·replace hm := ift w53 hm
        obtain rfl := si hm
        conv => whnf
        refine EndStep.mk _ ((((((((((((((((l15.trans l17).trans l23).trans l24).trans l25).trans lf26_0_0).trans lf26_1_0).trans lf26_2_0).trans l27_0).trans l27).trans l29).trans l32).trans l37).trans l42).trans l47).trans lf48_0_0).trans l49) ⟨rfl, rfl⟩ (ConvH.of (.cons r3 .nil))
       ·replace hm := iff_ w53 hm
        conv => whnf
        refine build_struct rfl rfl ?_
        conv => whnf
        refine cond_T ?_
        conv => whnf
        refine cond_T ?_
        conv => whnf
        refine cond_T ?_
        conv => whnf
        refine alloc_rule rfl ?_
        intro b6
        conv => whnf
        refine store_rule r0 rfl ?_
        conv => whnf
        refine ⟨rfl, rfl, (Nat.le_of_ble_eq_true rfl), ?_⟩
        conv => whnf
        refine draw_go_F ⟨⟨[], false⟩, _, [(_, _)]⟩ 10 rfl (by kernel_rfl) ⟨Hp.Le.refl _, (ConvH.of (.cons r0 .nil))⟩ ?_
        conv => whnf
        refine loadn_l m0 rfl (Nat.le_of_ble_eq_true rfl) ?_
        conv => whnf
        refine loadn_l m0 rfl (Nat.le_of_ble_eq_true rfl) ?_
        conv => whnf
        intro GG2
        obtain ⟨x57, q57, hm⟩ := bnd hm
        conv => whnf
        refine call_fn (law44_let_ok (name := ([102, 114, 101, 115, 104, 95, 110, 97, 109, 101] : Str)) (e := (⟨22, ([116, 114, 117, 101] : Str), [], 8⟩ : S_ref43_Node)) q57 LiC.nil) .nil ?_
        rintro _ K57 _ l57 ⟨a57_0, c57_0, s57_0, rfl, h57_0, r57_0, rfl⟩
        conv => whnf
        refine ⟨⟨l57, (ConvH.of (.cons r1 .nil))⟩, ?_⟩
        refine ⟨_, .cons r6 .nil, ⟨l57, (ConvH.of (.cons r1 .nil))⟩, ?_⟩
        conv => whnf
        intro GG3
        obtain ⟨x58, q58, hm⟩ := bnd hm
        conv => whnf
        refine call_fn (law44_use_ok (name := ([102, 114, 101, 115, 104, 95, 110, 97, 109, 101] : Str)) q58) .nil ?_
        rintro _ K58 _ l58 ⟨a58_0, c58_0, s58_0, rfl, h58_0, r58_0, rfl⟩
        conv => whnf
        refine ⟨⟨(l57.trans l58), (ConvH.of (.cons r2 .nil))⟩, ?_⟩
        refine ⟨_, .cons r7 .nil, ⟨(l57.trans l58), (ConvH.of (.cons r2 .nil))⟩, ?_⟩
        conv => whnf
        refine bsA (cl := [.int .i64 x57.Kind, str x57.Text, .slice a57_0 x57.Kids.length c57_0, .int .i64 x57.Line, .int .i64 x58.Kind, str x58.Text, .slice a58_0 x58.Kids.length c58_0, .int .i64 x58.Line]) elT22 rfl rfl ?_ fun b59 => ?_
        ·conv => whnf
         refine cond_T ?_
         conv => whnf
         refine cond_T ?_
         conv => whnf
         first | done | rfl
        conv => whnf
        refine build_struct rfl rfl ?_
        conv => whnf
        refine cond_T ?_
        conv => whnf
        refine cond_T ?_
        conv => whnf
        refine bsA (cl := [.int .i64 22, str ([116, 114, 117, 101] : Str), .slice none 0 0, .int .i64 8, .int .i64 12, str ([] : Str), .slice (some ⟨b59, 0, none⟩) 2 2, .int .i64 0]) elT22 rfl rfl ?_ fun b61 => ?_
        ·conv => whnf
         refine cond_T ?_
         conv => whnf
         refine cond_T ?_
         conv => whnf
         first | done | rfl
        conv => whnf
        refine build_struct rfl rfl ?_
        conv => whnf
        refine cond_T ?_
        conv => whnf
        refine cond_T ?_
        conv => whnf
        refine cond_T ?_
        conv => whnf
        refine allocA rfl ?_
        intro b7
        conv => whnf
        intro GG9
        conv => whnf
        refine store_rule r0 rfl ?_
        conv => whnf
        refine ⟨rfl, rfl, (Nat.le_of_ble_eq_true rfl), ?_⟩
        conv => whnf
        refine ⟨⟨(l57.trans l58), (ConvH.of (.cons r5 .nil))⟩, ?_⟩
        refine ⟨_, .cons r10 .nil, ⟨(l57.trans l58), (ConvH.of (.cons r5 .nil))⟩, ?_⟩
        conv => whnf
        refine fzDR S_ref43_Node.R_ok r4 (LR.mono S_ref43_Node.R_ok l58 r57_0) fun Kfd12_4_0_0_0 lfd12_4_0_0_0 ffd12_4_0_0_0 => ?_
        refine fzDR S_ref43_Node.R_ok r3 (LR.mono S_ref43_Node.R_ok lfd12_4_0_0_0 r58_0) fun Kfd12_4_0_1_0 lfd12_4_0_1_0 ffd12_4_0_1_0 => ?_
        refine litAD (len := 2) (l := [x57, x58]) (css := [[.int .i64 x57.Kind, str x57.Text, .slice a57_0 x57.Kids.length c57_0, .int .i64 x57.Line], [.int .i64 x58.Kind, str x58.Text, .slice a58_0 x58.Kids.length c58_0, .int .i64 x58.Line]]) S_ref43_Node.R_ok r2 rfl (LR.snoc (LR.snoc LR.nil (S_ref43_Node.of (x := x57) ⟨a57_0, c57_0, rfl, (LiC.mono S_ref43_Node.R_ok lfd12_4_0_1_0 ffd12_4_0_0_0)⟩)) (S_ref43_Node.of (x := x58) ⟨a58_0, c58_0, rfl, ffd12_4_0_1_0⟩)) rfl rfl (by decide) ?_
        refine fzDR S_ref43_Node.R_ok r0 (show LR S_ref43_Node.R _ [[.int .i64 x57.Kind, str x57.Text, .slice a57_0 x57.Kids.length c57_0, .int .i64 x57.Line], [.int .i64 x58.Kind, str x58.Text, .slice a58_0 x58.Kids.length c58_0, .int .i64 x58.Line]] [x57, x58] from (LR.snoc (LR.snoc LR.nil (S_ref43_Node.of (x := x57) ⟨a57_0, c57_0, rfl, (LiC.mono S_ref43_Node.R_ok lfd12_4_0_1_0 ffd12_4_0_0_0)⟩)) (S_ref43_Node.of (x := x58) ⟨a58_0, c58_0, rfl, ffd12_4_0_1_0⟩))) fun Kfd12_4_0 lfd12_4_0 ffd12_4_0 => ?_
        refine litAD (len := 2) (l := [(⟨22, ([116, 114, 117, 101] : Str), [], 8⟩ : S_ref43_Node), (⟨12, ([] : Str), [x57, x58], 0⟩ : S_ref43_Node)]) (css := [[.int .i64 22, str ([116, 114, 117, 101] : Str), .slice none 0 0, .int .i64 8], [.int .i64 12, str ([] : Str), .slice (some ⟨b59, 0, none⟩) 2 2, .int .i64 0]]) S_ref43_Node.R_ok r1 rfl (LR.snoc (LR.snoc LR.nil (S_ref43_Node.of (x := (⟨22, ([116, 114, 117, 101] : Str), [], 8⟩ : S_ref43_Node)) ⟨none, 0, rfl, LiC.nil⟩)) (S_ref43_Node.of (x := (⟨12, ([] : Str), [x57, x58], 0⟩ : S_ref43_Node)) ⟨(some ⟨b59, 0, none⟩), 2, rfl, ffd12_4_0⟩)) rfl rfl (by decide) ?_
        refine fzDR S_ref43_Node.R_ok r0 (show LR S_ref43_Node.R _ [[.int .i64 22, str ([116, 114, 117, 101] : Str), .slice none 0 0, .int .i64 8], [.int .i64 12, str ([] : Str), .slice (some ⟨b59, 0, none⟩) 2 2, .int .i64 0]] [(⟨22, ([116, 114, 117, 101] : Str), [], 8⟩ : S_ref43_Node), (⟨12, ([] : Str), [x57, x58], 0⟩ : S_ref43_Node)] from (LR.snoc (LR.snoc LR.nil (S_ref43_Node.of (x := (⟨22, ([116, 114, 117, 101] : Str), [], 8⟩ : S_ref43_Node)) ⟨none, 0, rfl, LiC.nil⟩)) (S_ref43_Node.of (x := (⟨12, ([] : Str), [x57, x58], 0⟩ : S_ref43_Node)) ⟨(some ⟨b59, 0, none⟩), 2, rfl, ffd12_4_0⟩))) fun Kfd12_5_0 lfd12_5_0 ffd12_5_0 => ?_
        conv => whnf
        refine draw_go_P ⟨⟨[], false⟩, _, [(_, _), (_, _)]⟩ 49 [0, 1, 2, 5, 6, 7, 9, 11, 12, 13, 14, 16, 18, 19, 20, 21, 22, 25, 26, 28, 30, 31, 32, 34, 36, 37, 39, 41, 42, 43, 3, 4, 8, 10, 15, 17, 23, 24, 27, 29, 33, 35, 38, 40, 44, 45, 46, 47, 48] rfl (by kernel_rfl) ⟨Hp.Le.refl _, (ConvH.of (.cons r4 (.cons r0 .nil)))⟩ ?_
        conv => whnf
        refine loadn_l m0 rfl (Nat.le_of_ble_eq_true rfl) ?_
        conv => whnf
        intro GG1
        obtain ⟨x64, q64, hm⟩ := bnd hm
        conv => whnf
        refine call_fn (law44_let_ok (name := ([102, 114, 101, 115, 104, 95, 110, 97, 109, 101] : Str)) (e := e) q64 (LiC.mono S_ref43_Node.R_ok ((((((((((((((((((((((l15.trans l17).trans l23).trans l24).trans l25).trans lf26_0_0).trans lf26_1_0).trans lf26_2_0).trans l27_0).trans l27).trans l29).trans l32).trans l37).trans l42).trans l47).trans lf48_0_0).trans l49).trans l57).trans l58).trans lfd12_4_0_0_0).trans lfd12_4_0_1_0).trans lfd12_4_0).trans lfd12_5_0) hp0_0)) .nil ?_
        rintro _ K64 _ l64 ⟨a64_0, c64_0, s64_0, rfl, h64_0, r64_0, rfl⟩
        conv => whnf
        refine ⟨⟨l64, (ConvH.of (.cons r5 (.cons r1 .nil)))⟩, ?_⟩
        refine ⟨_, .cons r7 .nil, ⟨l64, (ConvH.of (.cons r5 (.cons r1 .nil)))⟩, ?_⟩
        conv => whnf
        intro GG2
        obtain ⟨x65, q65, hm⟩ := bnd hm
        conv => whnf
        refine call_fn (law44_use_ok (name := ([102, 114, 101, 115, 104, 95, 110, 97, 109, 101] : Str)) q65) .nil ?_
        rintro _ K65 _ l65 ⟨a65_0, c65_0, s65_0, rfl, h65_0, r65_0, rfl⟩
        conv => whnf
        refine ⟨⟨(l64.trans l65), (ConvH.of (.cons r6 (.cons r2 .nil)))⟩, ?_⟩
        refine ⟨_, .cons r8 .nil, ⟨(l64.trans l65), (ConvH.of (.cons r6 (.cons r2 .nil)))⟩, ?_⟩
        conv => whnf
        intro GG3
        obtain ⟨x68, q68, hm⟩ := bnd hm
        conv => whnf
        refine call_fn (law44_use_ok (name := ([102, 114, 101, 115, 104, 95, 110, 97, 109, 101] : Str)) q68) .nil ?_
        rintro _ K68 _ l68 ⟨a68_0, c68_0, s68_0, rfl, h68_0, r68_0, rfl⟩
        conv => whnf
        refine ⟨⟨((l64.trans l65).trans l68), (ConvH.of (.cons r7 (.cons r3 .nil)))⟩, ?_⟩
        refine ⟨_, .cons r9 .nil, ⟨((l64.trans l65).trans l68), (ConvH.of (.cons r7 (.cons r3 .nil)))⟩, ?_⟩
        conv => whnf
        refine loadn_l m0 rfl (Nat.le_of_ble_eq_true rfl) ?_
        conv => whnf
        intro GG5
        obtain ⟨x70, q70, hm⟩ := bnd hm
        conv => whnf
        refine call_fn (law44_let_ok (name := ([102, 114, 101, 115, 104, 95, 110, 97, 109, 101] : Str)) (e := e) q70 (LiC.mono S_ref43_Node.R_ok (((((((((((((((((((((((((l15.trans l17).trans l23).trans l24).trans l25).trans lf26_0_0).trans lf26_1_0).trans lf26_2_0).trans l27_0).trans l27).trans l29).trans l32).trans l37).trans l42).trans l47).trans lf48_0_0).trans l49).trans l57).trans l58).trans lfd12_4_0_0_0).trans lfd12_4_0_1_0).trans lfd12_4_0).trans lfd12_5_0).trans l64).trans l65).trans l68) hp0_0)) .nil ?_
        rintro _ K70 _ l70 ⟨a70_0, c70_0, s70_0, rfl, h70_0, r70_0, rfl⟩
        conv => whnf
        refine ⟨⟨(((l64.trans l65).trans l68).trans l70), (ConvH.of (.cons r8 (.cons r4 .nil)))⟩, ?_⟩
        refine ⟨_, .cons r10 .nil, ⟨(((l64.trans l65).trans l68).trans l70), (ConvH.of (.cons r8 (.cons r4 .nil)))⟩, ?_⟩
        conv => whnf
        refine loadn_l m0 rfl (Nat.le_of_ble_eq_true rfl) ?_
        conv => whnf
        intro GG8
        obtain ⟨x75, q75, hm⟩ := bnd hm
        conv => whnf
        refine call_fn (law44_let_ok (name := ([102, 114, 101, 115, 104, 95, 110, 97, 109, 101] : Str)) (e := e) q75 (LiC.mono S_ref43_Node.R_ok ((((((((((((((((((((((((((l15.trans l17).trans l23).trans l24).trans l25).trans lf26_0_0).trans lf26_1_0).trans lf26_2_0).trans l27_0).trans l27).trans l29).trans l32).trans l37).trans l42).trans l47).trans lf48_0_0).trans l49).trans l57).trans l58).trans lfd12_4_0_0_0).trans lfd12_4_0_1_0).trans lfd12_4_0).trans lfd12_5_0).trans l64).trans l65).trans l68).trans l70) hp0_0)) .nil ?_
        rintro _ K75 _ l75 ⟨a75_0, c75_0, s75_0, rfl, h75_0, r75_0, rfl⟩
        conv => whnf
        refine ⟨⟨((((l64.trans l65).trans l68).trans l70).trans l75), (ConvH.of (.cons r9 (.cons r5 .nil)))⟩, ?_⟩
        refine ⟨_, .cons r11 .nil, ⟨((((l64.trans l65).trans l68).trans l70).trans l75), (ConvH.of (.cons r9 (.cons r5 .nil)))⟩, ?_⟩
        conv => whnf
        refine loadn_l m0 rfl (Nat.le_of_ble_eq_true rfl) ?_
        conv => whnf
        intro GG10
        obtain ⟨x77, q77, hm⟩ := bnd hm
        conv => whnf
        refine call_fn (law44_let_ok (name := ([102, 114, 101, 115, 104, 95, 110, 97, 109, 101] : Str)) (e := e) q77 (LiC.mono S_ref43_Node.R_ok (((((((((((((((((((((((((((l15.trans l17).trans l23).trans l24).trans l25).trans lf26_0_0).trans lf26_1_0).trans lf26_2_0).trans l27_0).trans l27).trans l29).trans l32).trans l37).trans l42).trans l47).trans lf48_0_0).trans l49).trans l57).trans l58).trans lfd12_4_0_0_0).trans lfd12_4_0_1_0).trans lfd12_4_0).trans lfd12_5_0).trans l64).trans l65).trans l68).trans l70).trans l75) hp0_0)) .nil ?_
        rintro _ K77 _ l77 ⟨a77_0, c77_0, s77_0, rfl, h77_0, r77_0, rfl⟩
        conv => whnf
        refine ⟨⟨(((((l64.trans l65).trans l68).trans l70).trans l75).trans l77), (ConvH.of (.cons r10 (.cons r6 .nil)))⟩, ?_⟩
        refine ⟨_, .cons r12 .nil, ⟨(((((l64.trans l65).trans l68).trans l70).trans l75).trans l77), (ConvH.of (.cons r10 (.cons r6 .nil)))⟩, ?_⟩
        conv => whnf
        refine loadn_l m1 rfl (Nat.le_of_ble_eq_true rfl) ?_
        conv => whnf
        refine loadn_l m1 rfl (Nat.le_of_ble_eq_true rfl) ?_
        conv => whnf
        refine loadn_l m0 rfl (Nat.le_of_ble_eq_true rfl) ?_
        conv => whnf
        intro GG15
        obtain ⟨x84, q84, hm⟩ := bnd hm
        conv => whnf
        refine call_fn (law44_let_ok (name := ([102, 114, 101, 115, 104, 95, 110, 97, 109, 101] : Str)) (e := e) q84 (LiC.mono S_ref43_Node.R_ok ((((((((((((((((((((((((((((l15.trans l17).trans l23).trans l24).trans l25).trans lf26_0_0).trans lf26_1_0).trans lf26_2_0).trans l27_0).trans l27).trans l29).trans l32).trans l37).trans l42).trans l47).trans lf48_0_0).trans l49).trans l57).trans l58).trans lfd12_4_0_0_0).trans lfd12_4_0_1_0).trans lfd12_4_0).trans lfd12_5_0).trans l64).trans l65).trans l68).trans l70).trans l75).trans l77) hp0_0)) .nil ?_
        rintro _ K84 _ l84 ⟨a84_0, c84_0, s84_0, rfl, h84_0, r84_0, rfl⟩
        conv => whnf
        refine ⟨⟨((((((l64.trans l65).trans l68).trans l70).trans l75).trans l77).trans l84), (ConvH.of (.cons r11 (.cons r7 .nil)))⟩, ?_⟩
        refine ⟨_, .cons r13 .nil, ⟨((((((l64.trans l65).trans l68).trans l70).trans l75).trans l77).trans l84), (ConvH.of (.cons r11 (.cons r7 .nil)))⟩, ?_⟩
        conv => whnf
        intro GG16
        obtain ⟨x85, q85, hm⟩ := bnd hm
        conv => whnf
        refine call_fn (law44_use_ok (name := ([102, 114, 101, 115, 104, 95, 110, 97, 109, 101] : Str)) q85) .nil ?_
        rintro _ K85 _ l85 ⟨a85_0, c85_0, s85_0, rfl, h85_0, r85_0, rfl⟩
        conv => whnf
        refine ⟨⟨(((((((l64.trans l65).trans l68).trans l70).trans l75).trans l77).trans l84).trans l85), (ConvH.of (.cons r12 (.cons r8 .nil)))⟩, ?_⟩
        refine ⟨_, .cons r14 .nil, ⟨(((((((l64.trans l65).trans l68).trans l70).trans l75).trans l77).trans l84).trans l85), (ConvH.of (.cons r12 (.cons r8 .nil)))⟩, ?_⟩
        conv => whnf
        refine loadn_l m1 rfl (Nat.le_of_ble_eq_true rfl) ?_
        conv => whnf
        intro GG18
        obtain ⟨x89, q89, hm⟩ := bnd hm
        conv => whnf
        refine call_fn (law44_use_ok (name := ([102, 114, 101, 115, 104, 95, 110, 97, 109, 101] : Str)) q89) .nil ?_
        rintro _ K89 _ l89 ⟨a89_0, c89_0, s89_0, rfl, h89_0, r89_0, rfl⟩
        conv => whnf
        refine ⟨⟨((((((((l64.trans l65).trans l68).trans l70).trans l75).trans l77).trans l84).trans l85).trans l89), (ConvH.of (.cons r13 (.cons r9 .nil)))⟩, ?_⟩
        refine ⟨_, .cons r15 .nil, ⟨((((((((l64.trans l65).trans l68).trans l70).trans l75).trans l77).trans l84).trans l85).trans l89), (ConvH.of (.cons r13 (.cons r9 .nil)))⟩, ?_⟩
        conv => whnf
        refine loadn_l m0 rfl (Nat.le_of_ble_eq_true rfl) ?_
        conv => whnf
        intro GG21
        obtain ⟨x94, q94, hm⟩ := bnd hm
        conv => whnf
        refine call_fn (law44_let_ok (name := ([102, 114, 101, 115, 104, 95, 110, 97, 109, 101] : Str)) (e := e) q94 (LiC.mono S_ref43_Node.R_ok (((((((((((((((((((((((((((((((l15.trans l17).trans l23).trans l24).trans l25).trans lf26_0_0).trans lf26_1_0).trans lf26_2_0).trans l27_0).trans l27).trans l29).trans l32).trans l37).trans l42).trans l47).trans lf48_0_0).trans l49).trans l57).trans l58).trans lfd12_4_0_0_0).trans lfd12_4_0_1_0).trans lfd12_4_0).trans lfd12_5_0).trans l64).trans l65).trans l68).trans l70).trans l75).trans l77).trans l84).trans l85).trans l89) hp0_0)) .nil ?_
        rintro _ K94 _ l94 ⟨a94_0, c94_0, s94_0, rfl, h94_0, r94_0, rfl⟩
        conv => whnf
        refine ⟨⟨(((((((((l64.trans l65).trans l68).trans l70).trans l75).trans l77).trans l84).trans l85).trans l89).trans l94), (ConvH.of (.cons r14 (.cons r10 .nil)))⟩, ?_⟩
        refine ⟨_, .cons r16 .nil, ⟨(((((((((l64.trans l65).trans l68).trans l70).trans l75).trans l77).trans l84).trans l85).trans l89).trans l94), (ConvH.of (.cons r14 (.cons r10 .nil)))⟩, ?_⟩
        conv => whnf
        refine loadn_l m1 rfl (Nat.le_of_ble_eq_true rfl) ?_
        conv => whnf
        refine loadn_l m0 rfl (Nat.le_of_ble_eq_true rfl) ?_
        conv => whnf
        intro GG25
        obtain ⟨x100, q100, hm⟩ := bnd hm
        conv => whnf
        refine call_fn (law44_let_ok (name := ([112, 97, 116, 104] : Str)) (e := e) q100 (LiC.mono S_ref43_Node.R_ok ((((((((((((((((((((((((((((((((l15.trans l17).trans l23).trans l24).trans l25).trans lf26_0_0).trans lf26_1_0).trans lf26_2_0).trans l27_0).trans l27).trans l29).trans l32).trans l37).trans l42).trans l47).trans lf48_0_0).trans l49).trans l57).trans l58).trans lfd12_4_0_0_0).trans lfd12_4_0_1_0).trans lfd12_4_0).trans lfd12_5_0).trans l64).trans l65).trans l68).trans l70).trans l75).trans l77).trans l84).trans l85).trans l89).trans l94) hp0_0)) .nil ?_
        rintro _ K100 _ l100 ⟨a100_0, c100_0, s100_0, rfl, h100_0, r100_0, rfl⟩
        conv => whnf
        refine ⟨⟨((((((((((l64.trans l65).trans l68).trans l70).trans l75).trans l77).trans l84).trans l85).trans l89).trans l94).trans l100), (ConvH.of (.cons r15 (.cons r11 .nil)))⟩, ?_⟩
        refine ⟨_, .cons r17 .nil, ⟨((((((((((l64.trans l65).trans l68).trans l70).trans l75).trans l77).trans l84).trans l85).trans l89).trans l94).trans l100), (ConvH.of (.cons r15 (.cons r11 .nil)))⟩, ?_⟩
        conv => whnf
        refine loadn_l m0 rfl (Nat.le_of_ble_eq_true rfl) ?_
        conv => whnf
        intro GG28
        obtain ⟨x105, q105, hm⟩ := bnd hm
        conv => whnf
        refine call_fn (law44_let_ok (name := ([104, 101, 97, 100, 101, 114] : Str)) (e := e) q105 (LiC.mono S_ref43_Node.R_ok (((((((((((((((((((((((((((((((((l15.trans l17).trans l23).trans l24).trans l25).trans lf26_0_0).trans lf26_1_0).trans lf26_2_0).trans l27_0).trans l27).trans l29).trans l32).trans l37).trans l42).trans l47).trans lf48_0_0).trans l49).trans l57).trans l58).trans lfd12_4_0_0_0).trans lfd12_4_0_1_0).trans lfd12_4_0).trans lfd12_5_0).trans l64).trans l65).trans l68).trans l70).trans l75).trans l77).trans l84).trans l85).trans l89).trans l94).trans l100) hp0_0)) .nil ?_
        rintro _ K105 _ l105 ⟨a105_0, c105_0, s105_0, rfl, h105_0, r105_0, rfl⟩
        conv => whnf
        refine ⟨⟨(((((((((((l64.trans l65).trans l68).trans l70).trans l75).trans l77).trans l84).trans l85).trans l89).trans l94).trans l100).trans l105), (ConvH.of (.cons r16 (.cons r12 .nil)))⟩, ?_⟩
        refine ⟨_, .cons r18 .nil, ⟨(((((((((((l64.trans l65).trans l68).trans l70).trans l75).trans l77).trans l84).trans l85).trans l89).trans l94).trans l100).trans l105), (ConvH.of (.cons r16 (.cons r12 .nil)))⟩, ?_⟩
        conv => whnf
        intro GG29
        obtain ⟨x106, q106, hm⟩ := bnd hm
        conv => whnf
        refine call_fn (law44_use_ok (name := ([104, 101, 97, 100, 101, 114] : Str)) q106) .nil ?_
        rintro _ K106 _ l106 ⟨a106_0, c106_0, s106_0, rfl, h106_0, r106_0, rfl⟩
        conv => whnf
        refine ⟨⟨((((((((((((l64.trans l65).trans l68).trans l70).trans l75).trans l77).trans l84).trans l85).trans l89).trans l94).trans l100).trans l105).trans l106), (ConvH.of (.cons r17 (.cons r13 .nil)))⟩, ?_⟩
        refine ⟨_, .cons r19 .nil, ⟨((((((((((((l64.trans l65).trans l68).trans l70).trans l75).trans l77).trans l84).trans l85).trans l89).trans l94).trans l100).trans l105).trans l106), (ConvH.of (.cons r17 (.cons r13 .nil)))⟩, ?_⟩
        conv => whnf
        refine bsA (cl := [.int .i64 x64.Kind, str x64.Text, .slice a64_0 x64.Kids.length c64_0, .int .i64 x64.Line, .int .i64 x65.Kind, str x65.Text, .slice a65_0 x65.Kids.length c65_0, .int .i64 x65.Line]) elT22 rfl rfl ?_ fun b66 => ?_
        ·conv => whnf
         refine cond_T ?_
         conv => whnf
         refine cond_T ?_
         conv => whnf
         first | done | rfl
        conv => whnf
        refine build_struct rfl rfl ?_
        conv => whnf
        refine cond_T ?_
        conv => whnf
        refine cond_T ?_
        conv => whnf
        refine cond_T ?_
        conv => whnf
        refine bsA (cl := [.int .i64 x68.Kind, str x68.Text, .slice a68_0 x68.Kids.length c68_0, .int .i64 x68.Line, .int .i64 x70.Kind, str x70.Text, .slice a70_0 x70.Kids.length c70_0, .int .i64 x70.Line]) elT22 rfl rfl ?_ fun b71 => ?_
        ·conv => whnf
         refine cond_T ?_
         conv => whnf
         refine cond_T ?_
         conv => whnf
         first | done | rfl
        conv => whnf
        refine build_struct rfl rfl ?_
        conv => whnf
        refine cond_T ?_
        conv => whnf
        refine cond_T ?_
        conv => whnf
        refine cond_T ?_
        conv => whnf
        refine bsA (cl := [.int .i64 x75.Kind, str x75.Text, .slice a75_0 x75.Kids.length c75_0, .int .i64 x75.Line, .int .i64 x77.Kind, str x77.Text, .slice a77_0 x77.Kids.length c77_0, .int .i64 x77.Line]) elT22 rfl rfl ?_ fun b78 => ?_
        ·conv => whnf
         refine cond_T ?_
         conv => whnf
         refine cond_T ?_
         conv => whnf
         first | done | rfl
        conv => whnf
        refine build_struct rfl rfl ?_
        conv => whnf
        refine cond_T ?_
        conv => whnf
        refine cond_T ?_
        conv => whnf
        refine cond_T ?_
        conv => whnf
        refine bsA (cl := [.int .i64 2, str ([] : Str), .slice (some ⟨b61, 0, none⟩) 2 2, .int .i64 8, .int .i64 2, str ([] : Str), .slice (some ⟨b61, 0, none⟩) 2 2, .int .i64 8, .int .i64 x84.Kind, str x84.Text, .slice a84_0 x84.Kids.length c84_0, .int .i64 x84.Line, .int .i64 x85.Kind, str x85.Text, .slice a85_0 x85.Kids.length c85_0, .int .i64 x85.Line]) elT22 rfl rfl ?_ fun b86 => ?_
        ·conv => whnf
         refine cond_T ?_
         conv => whnf
         refine cond_T ?_
         conv => whnf
         refine cond_T ?_
         conv => whnf
         refine cond_T ?_
         conv => whnf
         first | done | rfl
        conv => whnf
        refine build_struct rfl rfl ?_
        conv => whnf
        refine cond_T ?_
        conv => whnf
        refine cond_T ?_
        conv => whnf
        refine cond_T ?_
        conv => whnf
        refine bsA (cl := [.int .i64 2, str ([] : Str), .slice (some ⟨b61, 0, none⟩) 2 2, .int .i64 8, .int .i64 x89.Kind, str x89.Text, .slice a89_0 x89.Kids.length c89_0, .int .i64 x89.Line]) elT22 rfl rfl ?_ fun b90 => ?_
        ·conv => whnf
         refine cond_T ?_
         conv => whnf
         refine cond_T ?_
         conv => whnf
         first | done | rfl
        conv => whnf
        refine build_struct rfl rfl ?_
        conv => whnf
        refine cond_T ?_
        conv => whnf
        refine cond_T ?_
        conv => whnf
        refine cond_T ?_
        conv => whnf
        refine bsA (cl := [.int .i64 x94.Kind, str x94.Text, .slice a94_0 x94.Kids.length c94_0, .int .i64 x94.Line, .int .i64 2, str ([] : Str), .slice (some ⟨b61, 0, none⟩) 2 2, .int .i64 8]) elT22 rfl rfl ?_ fun b96 => ?_
        ·conv => whnf
         refine cond_T ?_
         conv => whnf
         refine cond_T ?_
         conv => whnf
         first | done | rfl
        conv => whnf
        refine build_struct rfl rfl ?_
        conv => whnf
        refine cond_T ?_
        conv => whnf
        refine cond_T ?_
        conv => whnf
        refine cond_T ?_
        conv => whnf
        refine bsA (cl := [.int .i64 x100.Kind, str x100.Text, .slice a100_0 x100.Kids.length c100_0, .int .i64 x100.Line]) elT22 rfl rfl ?_ fun b101 => ?_
        ·conv => whnf
         refine cond_T ?_
         conv => whnf
         first | done | rfl
        conv => whnf
        refine build_struct rfl rfl ?_
        conv => whnf
        refine cond_T ?_
        conv => whnf
        refine cond_T ?_
        conv => whnf
        refine cond_T ?_
        conv => whnf
        refine bsA (cl := [.int .i64 x105.Kind, str x105.Text, .slice a105_0 x105.Kids.length c105_0, .int .i64 x105.Line, .int .i64 x106.Kind, str x106.Text, .slice a106_0 x106.Kids.length c106_0, .int .i64 x106.Line]) elT22 rfl rfl ?_ fun b107 => ?_
        ·conv => whnf
         refine cond_T ?_
         conv => whnf
         refine cond_T ?_
         conv => whnf
         first | done | rfl
        conv => whnf
        refine build_struct rfl rfl ?_
        conv => whnf
        refine cond_T ?_
        conv => whnf
        refine cond_T ?_
        conv => whnf
        refine cond_T ?_
        conv => whnf
        refine bsA (cl := [.slice (some ⟨b66, 0, none⟩) 2 2, .int .i64 0, .int .i64 0, .slice (some ⟨b71, 0, none⟩) 2 2, .int .i64 9, .int .i64 8, .slice (some ⟨b78, 0, none⟩) 2 2, .int .i64 7, .int .i64 4, .slice (some ⟨b86, 0, none⟩) 4 4, .int .i64 0, .int .i64 0, .slice (some ⟨b90, 0, none⟩) 2 2, .int .i64 9, .int .i64 8, .slice (some ⟨b96, 0, none⟩) 2 2, .int .i64 7, .int .i64 4, .slice (some ⟨b101, 0, none⟩) 1 1, .int .i64 7, .int .i64 4, .slice (some ⟨b107, 0, none⟩) 2 2, .int .i64 0, .int .i64 0]) elT53 rfl rfl ?_ fun b109 => ?_
        ·conv => whnf
         refine cond_T ?_
         conv => whnf
         refine cond_T ?_
         conv => whnf
         refine cond_T ?_
         conv => whnf
         refine cond_T ?_
         conv => whnf
         refine cond_T ?_
         conv => whnf
         refine cond_T ?_
         conv => whnf
         refine cond_T ?_
         conv => whnf
         refine cond_T ?_
         conv => whnf
         first | done | rfl
        conv => whnf
        refine len_sliceN rfl ?_
        conv => whnf
        refine fzCR S_ref43_Node.R_ok r11 (LR.mono S_ref43_Node.R_ok (l105.trans l106) r100_0) fun Kfb0_6_0_0_0 lfb0_6_0_0_0 ffb0_6_0_0_0 => ?_
        refine litAC (len := 1) (l := [x100]) (css := [[.int .i64 x100.Kind, str x100.Text, .slice a100_0 x100.Kids.length c100_0, .int .i64 x100.Line]]) S_ref43_Node.R_ok r2 rfl (LR.snoc LR.nil (S_ref43_Node.of (x := x100) ⟨a100_0, c100_0, rfl, ffb0_6_0_0_0⟩)) rfl rfl (by decide) ?_
        refine fzCR S_ref43_Node.R_ok r0 (show LR S_ref43_Node.R _ [[.int .i64 x100.Kind, str x100.Text, .slice a100_0 x100.Kids.length c100_0, .int .i64 x100.Line]] [x100] from (LR.snoc LR.nil (S_ref43_Node.of (x := x100) ⟨a100_0, c100_0, rfl, ffb0_6_0_0_0⟩))) fun Kfb0_6_0 lfb0_6_0 ffb0_6_0 => ?_
        refine fzCR S_ref43_Node.R_ok r9 (LR.mono S_ref43_Node.R_ok ((l106.trans lfb0_6_0_0_0).trans lfb0_6_0) r105_0) fun Kfb0_7_0_0_0 lfb0_7_0_0_0 ffb0_7_0_0_0 => ?_
        refine fzCR S_ref43_Node.R_ok r8 (LR.mono S_ref43_Node.R_ok ((lfb0_6_0_0_0.trans lfb0_6_0).trans lfb0_7_0_0_0) r106_0) fun Kfb0_7_0_1_0 lfb0_7_0_1_0 ffb0_7_0_1_0 => ?_
        refine litAC (len := 2) (l := [x105, x106]) (css := [[.int .i64 x105.Kind, str x105.Text, .slice a105_0 x105.Kids.length c105_0, .int .i64 x105.Line], [.int .i64 x106.Kind, str x106.Text, .slice a106_0 x106.Kids.length c106_0, .int .i64 x106.Line]]) S_ref43_Node.R_ok r1 rfl (LR.snoc (LR.snoc LR.nil (S_ref43_Node.of (x := x105) ⟨a105_0, c105_0, rfl, (LiC.mono S_ref43_Node.R_ok lfb0_7_0_1_0 ffb0_7_0_0_0)⟩)) (S_ref43_Node.of (x := x106) ⟨a106_0, c106_0, rfl, ffb0_7_0_1_0⟩)) rfl rfl (by decide) ?_
        refine fzCR S_ref43_Node.R_ok r0 (show LR S_ref43_Node.R _ [[.int .i64 x105.Kind, str x105.Text, .slice a105_0 x105.Kids.length c105_0, .int .i64 x105.Line], [.int .i64 x106.Kind, str x106.Text, .slice a106_0 x106.Kids.length c106_0, .int .i64 x106.Line]] [x105, x106] from (LR.snoc (LR.snoc LR.nil (S_ref43_Node.of (x := x105) ⟨a105_0, c105_0, rfl, (LiC.mono S_ref43_Node.R_ok lfb0_7_0_1_0 ffb0_7_0_0_0)⟩)) (S_ref43_Node.of (x := x106) ⟨a106_0, c106_0, rfl, ffb0_7_0_1_0⟩))) fun Kfb0_7_0 lfb0_7_0 ffb0_7_0 => ?_
        refine fzCR S_ref43_Node.R_ok r16 (LR.mono S_ref43_Node.R_ok ((((((((((((((((l65.trans l68).trans l70).trans l75).trans l77).trans l84).trans l85).trans l89).trans l94).trans l100).trans l105).trans l106).trans lfb0_6_0_0_0).trans lfb0_6_0).trans lfb0_7_0_0_0).trans lfb0_7_0_1_0).trans lfb0_7_0) r64_0) fun Kfb0_8_0_0_0_0_0 lfb0_8_0_0_0_0_0 ffb0_8_0_0_0_0_0 => ?_
        refine fzCR S_ref43_Node.R_ok r15 (LR.mono S_ref43_Node.R_ok ((((((((((((((((l68.trans l70).trans l75).trans l77).trans l84).trans l85).trans l89).trans l94).trans l100).trans l105).trans l106).trans lfb0_6_0_0_0).trans lfb0_6_0).trans lfb0_7_0_0_0).trans lfb0_7_0_1_0).trans lfb0_7_0).trans lfb0_8_0_0_0_0_0) r65_0) fun Kfb0_8_0_0_0_1_0 lfb0_8_0_0_0_1_0 ffb0_8_0_0_0_1_0 => ?_
        refine litAC (len := 2) (l := [x64, x65]) (css := [[.int .i64 x64.Kind, str x64.Text, .slice a64_0 x64.Kids.length c64_0, .int .i64 x64.Line], [.int .i64 x65.Kind, str x65.Text, .slice a65_0 x65.Kids.length c65_0, .int .i64 x65.Line]]) S_ref43_Node.R_ok r6 rfl (LR.snoc (LR.snoc LR.nil (S_ref43_Node.of (x := x64) ⟨a64_0, c64_0, rfl, (LiC.mono S_ref43_Node.R_ok lfb0_8_0_0_0_1_0 ffb0_8_0_0_0_0_0)⟩)) (S_ref43_Node.of (x := x65) ⟨a65_0, c65_0, rfl, ffb0_8_0_0_0_1_0⟩)) rfl rfl (by decide) ?_
        refine fzCR S_ref43_Node.R_ok r0 (show LR S_ref43_Node.R _ [[.int .i64 x64.Kind, str x64.Text, .slice a64_0 x64.Kids.length c64_0, .int .i64 x64.Line], [.int .i64 x65.Kind, str x65.Text, .slice a65_0 x65.Kids.length c65_0, .int .i64 x65.Line]] [x64, x65] from (LR.snoc (LR.snoc LR.nil (S_ref43_Node.of (x := x64) ⟨a64_0, c64_0, rfl, (LiC.mono S_ref43_Node.R_ok lfb0_8_0_0_0_1_0 ffb0_8_0_0_0_0_0)⟩)) (S_ref43_Node.of (x := x65) ⟨a65_0, c65_0, rfl, ffb0_8_0_0_0_1_0⟩))) fun Kfb0_8_0_0_0 lfb0_8_0_0_0 ffb0_8_0_0_0 => ?_
        refine fzCR S_ref43_Node.R_ok r13 (LR.mono S_ref43_Node.R_ok (((((((((((((((((l70.trans l75).trans l77).trans l84).trans l85).trans l89).trans l94).trans l100).trans l105).trans l106).trans lfb0_6_0_0_0).trans lfb0_6_0).trans lfb0_7_0_0_0).trans lfb0_7_0_1_0).trans lfb0_7_0).trans lfb0_8_0_0_0_0_0).trans lfb0_8_0_0_0_1_0).trans lfb0_8_0_0_0) r68_0) fun Kfb0_8_0_1_0_0_0 lfb0_8_0_1_0_0_0 ffb0_8_0_1_0_0_0 => ?_
        refine fzCR S_ref43_Node.R_ok r12 (LR.mono S_ref43_Node.R_ok (((((((((((((((((l75.trans l77).trans l84).trans l85).trans l89).trans l94).trans l100).trans l105).trans l106).trans lfb0_6_0_0_0).trans lfb0_6_0).trans lfb0_7_0_0_0).trans lfb0_7_0_1_0).trans lfb0_7_0).trans lfb0_8_0_0_0_0_0).trans lfb0_8_0_0_0_1_0).trans lfb0_8_0_0_0).trans lfb0_8_0_1_0_0_0) r70_0) fun Kfb0_8_0_1_0_1_0 lfb0_8_0_1_0_1_0 ffb0_8_0_1_0_1_0 => ?_
        refine litAC (len := 2) (l := [x68, x70]) (css := [[.int .i64 x68.Kind, str x68.Text, .slice a68_0 x68.Kids.length c68_0, .int .i64 x68.Line], [.int .i64 x70.Kind, str x70.Text, .slice a70_0 x70.Kids.length c70_0, .int .i64 x70.Line]]) S_ref43_Node.R_ok r5 rfl (LR.snoc (LR.snoc LR.nil (S_ref43_Node.of (x := x68) ⟨a68_0, c68_0, rfl, (LiC.mono S_ref43_Node.R_ok lfb0_8_0_1_0_1_0 ffb0_8_0_1_0_0_0)⟩)) (S_ref43_Node.of (x := x70) ⟨a70_0, c70_0, rfl, ffb0_8_0_1_0_1_0⟩)) rfl rfl (by decide) ?_
        refine fzCR S_ref43_Node.R_ok r0 (show LR S_ref43_Node.R _ [[.int .i64 x68.Kind, str x68.Text, .slice a68_0 x68.Kids.length c68_0, .int .i64 x68.Line], [.int .i64 x70.Kind, str x70.Text, .slice a70_0 x70.Kids.length c70_0, .int .i64 x70.Line]] [x68, x70] from (LR.snoc (LR.snoc LR.nil (S_ref43_Node.of (x := x68) ⟨a68_0, c68_0, rfl, (LiC.mono S_ref43_Node.R_ok lfb0_8_0_1_0_1_0 ffb0_8_0_1_0_0_0)⟩)) (S_ref43_Node.of (x := x70) ⟨a70_0, c70_0, rfl, ffb0_8_0_1_0_1_0⟩))) fun Kfb0_8_0_1_0 lfb0_8_0_1_0 ffb0_8_0_1_0 => ?_
        refine fzCR S_ref43_Node.R_ok r10 (LR.mono S_ref43_Node.R_ok ((((((((((((((((((l77.trans l84).trans l85).trans l89).trans l94).trans l100).trans l105).trans l106).trans lfb0_6_0_0_0).trans lfb0_6_0).trans lfb0_7_0_0_0).trans lfb0_7_0_1_0).trans lfb0_7_0).trans lfb0_8_0_0_0_0_0).trans lfb0_8_0_0_0_1_0).trans lfb0_8_0_0_0).trans lfb0_8_0_1_0_0_0).trans lfb0_8_0_1_0_1_0).trans lfb0_8_0_1_0) r75_0) fun Kfb0_8_0_2_0_0_0 lfb0_8_0_2_0_0_0 ffb0_8_0_2_0_0_0 => ?_
        refine fzCR S_ref43_Node.R_ok r9 (LR.mono S_ref43_Node.R_ok ((((((((((((((((((l84.trans l85).trans l89).trans l94).trans l100).trans l105).trans l106).trans lfb0_6_0_0_0).trans lfb0_6_0).trans lfb0_7_0_0_0).trans lfb0_7_0_1_0).trans lfb0_7_0).trans lfb0_8_0_0_0_0_0).trans lfb0_8_0_0_0_1_0).trans lfb0_8_0_0_0).trans lfb0_8_0_1_0_0_0).trans lfb0_8_0_1_0_1_0).trans lfb0_8_0_1_0).trans lfb0_8_0_2_0_0_0) r77_0) fun Kfb0_8_0_2_0_1_0 lfb0_8_0_2_0_1_0 ffb0_8_0_2_0_1_0 => ?_
        refine litAC (len := 2) (l := [x75, x77]) (css := [[.int .i64 x75.Kind, str x75.Text, .slice a75_0 x75.Kids.length c75_0, .int .i64 x75.Line], [.int .i64 x77.Kind, str x77.Text, .slice a77_0 x77.Kids.length c77_0, .int .i64 x77.Line]]) S_ref43_Node.R_ok r4 rfl (LR.snoc (LR.snoc LR.nil (S_ref43_Node.of (x := x75) ⟨a75_0, c75_0, rfl, (LiC.mono S_ref43_Node.R_ok lfb0_8_0_2_0_1_0 ffb0_8_0_2_0_0_0)⟩)) (S_ref43_Node.of (x := x77) ⟨a77_0, c77_0, rfl, ffb0_8_0_2_0_1_0⟩)) rfl rfl (by decide) ?_
        refine fzCR S_ref43_Node.R_ok r0 (show LR S_ref43_Node.R _ [[.int .i64 x75.Kind, str x75.Text, .slice a75_0 x75.Kids.length c75_0, .int .i64 x75.Line], [.int .i64 x77.Kind, str x77.Text, .slice a77_0 x77.Kids.length c77_0, .int .i64 x77.Line]] [x75, x77] from (LR.snoc (LR.snoc LR.nil (S_ref43_Node.of (x := x75) ⟨a75_0, c75_0, rfl, (LiC.mono S_ref43_Node.R_ok lfb0_8_0_2_0_1_0 ffb0_8_0_2_0_0_0)⟩)) (S_ref43_Node.of (x := x77) ⟨a77_0, c77_0, rfl, ffb0_8_0_2_0_1_0⟩))) fun Kfb0_8_0_2_0 lfb0_8_0_2_0 ffb0_8_0_2_0 => ?_
        refine fzCR S_ref43_Node.R_ok r7 (LR.mono S_ref43_Node.R_ok (((((((((((((((((((l85.trans l89).trans l94).trans l100).trans l105).trans l106).trans lfb0_6_0_0_0).trans lfb0_6_0).trans lfb0_7_0_0_0).trans lfb0_7_0_1_0).trans lfb0_7_0).trans lfb0_8_0_0_0_0_0).trans lfb0_8_0_0_0_1_0).trans lfb0_8_0_0_0).trans lfb0_8_0_1_0_0_0).trans lfb0_8_0_1_0_1_0).trans lfb0_8_0_1_0).trans lfb0_8_0_2_0_0_0).trans lfb0_8_0_2_0_1_0).trans lfb0_8_0_2_0) r84_0) fun Kfb0_8_0_3_0_2_0 lfb0_8_0_3_0_2_0 ffb0_8_0_3_0_2_0 => ?_
        refine fzCR S_ref43_Node.R_ok r6 (LR.mono S_ref43_Node.R_ok (((((((((((((((((((l89.trans l94).trans l100).trans l105).trans l106).trans lfb0_6_0_0_0).trans lfb0_6_0).trans lfb0_7_0_0_0).trans lfb0_7_0_1_0).trans lfb0_7_0).trans lfb0_8_0_0_0_0_0).trans lfb0_8_0_0_0_1_0).trans lfb0_8_0_0_0).trans lfb0_8_0_1_0_0_0).trans lfb0_8_0_1_0_1_0).trans lfb0_8_0_1_0).trans lfb0_8_0_2_0_0_0).trans lfb0_8_0_2_0_1_0).trans lfb0_8_0_2_0).trans lfb0_8_0_3_0_2_0) r85_0) fun Kfb0_8_0_3_0_3_0 lfb0_8_0_3_0_3_0 ffb0_8_0_3_0_3_0 => ?_
        refine litAC (len := 4) (l := [(⟨2, ([] : Str), [(⟨22, ([116, 114, 117, 101] : Str), [], 8⟩ : S_ref43_Node), (⟨12, ([] : Str), [x57, x58], 0⟩ : S_ref43_Node)], 8⟩ : S_ref43_Node), (⟨2, ([] : Str), [(⟨22, ([116, 114, 117, 101] : Str), [], 8⟩ : S_ref43_Node), (⟨12, ([] : Str), [x57, x58], 0⟩ : S_ref43_Node)], 8⟩ : S_ref43_Node), x84, x85]) (css := [[.int .i64 2, str ([] : Str), .slice (some ⟨b61, 0, none⟩) 2 2, .int .i64 8], [.int .i64 2, str ([] : Str), .slice (some ⟨b61, 0, none⟩) 2 2, .int .i64 8], [.int .i64 x84.Kind, str x84.Text, .slice a84_0 x84.Kids.length c84_0, .int .i64 x84.Line], [.int .i64 x85.Kind, str x85.Text, .slice a85_0 x85.Kids.length c85_0, .int .i64 x85.Line]]) S_ref43_Node.R_ok r3 rfl (LR.snoc (LR.snoc (LR.snoc (LR.snoc LR.nil (S_ref43_Node.of (x := (⟨2, ([] : Str), [(⟨22, ([116, 114, 117, 101] : Str), [], 8⟩ : S_ref43_Node), (⟨12, ([] : Str), [x57, x58], 0⟩ : S_ref43_Node)], 8⟩ : S_ref43_Node)) ⟨(some ⟨b61, 0, none⟩), 2, rfl, (LiC.mono S_ref43_Node.R_ok ((((((((((((((((((((((((((((l64.trans l65).trans l68).trans l70).trans l75).trans l77).trans l84).trans l85).trans l89).trans l94).trans l100).trans l105).trans l106).trans lfb0_6_0_0_0).trans lfb0_6_0).trans lfb0_7_0_0_0).trans lfb0_7_0_1_0).trans lfb0_7_0).trans lfb0_8_0_0_0_0_0).trans lfb0_8_0_0_0_1_0).trans lfb0_8_0_0_0).trans lfb0_8_0_1_0_0_0).trans lfb0_8_0_1_0_1_0).trans lfb0_8_0_1_0).trans lfb0_8_0_2_0_0_0).trans lfb0_8_0_2_0_1_0).trans lfb0_8_0_2_0).trans lfb0_8_0_3_0_2_0).trans lfb0_8_0_3_0_3_0) ffd12_5_0)⟩)) (S_ref43_Node.of (x := (⟨2, ([] : Str), [(⟨22, ([116, 114, 117, 101] : Str), [], 8⟩ : S_ref43_Node), (⟨12, ([] : Str), [x57, x58], 0⟩ : S_ref43_Node)], 8⟩ : S_ref43_Node)) ⟨(some ⟨b61, 0, none⟩), 2, rfl, (LiC.mono S_ref43_Node.R_ok ((((((((((((((((((((((((((((l64.trans l65).trans l68).trans l70).trans l75).trans l77).trans l84).trans l85).trans l89).trans l94).trans l100).trans l105).trans l106).trans lfb0_6_0_0_0).trans lfb0_6_0).trans lfb0_7_0_0_0).trans lfb0_7_0_1_0).trans lfb0_7_0).trans lfb0_8_0_0_0_0_0).trans lfb0_8_0_0_0_1_0).trans lfb0_8_0_0_0).trans lfb0_8_0_1_0_0_0).trans lfb0_8_0_1_0_1_0).trans lfb0_8_0_1_0).trans lfb0_8_0_2_0_0_0).trans lfb0_8_0_2_0_1_0).trans lfb0_8_0_2_0).trans lfb0_8_0_3_0_2_0).trans lfb0_8_0_3_0_3_0) ffd12_5_0)⟩)) (S_ref43_Node.of (x := x84) ⟨a84_0, c84_0, rfl, (LiC.mono S_ref43_Node.R_ok lfb0_8_0_3_0_3_0 ffb0_8_0_3_0_2_0)⟩)) (S_ref43_Node.of (x := x85) ⟨a85_0, c85_0, rfl, ffb0_8_0_3_0_3_0⟩)) rfl rfl (by decide) ?_
        refine fzCR S_ref43_Node.R_ok r0 (show LR S_ref43_Node.R _ [[.int .i64 2, str ([] : Str), .slice (some ⟨b61, 0, none⟩) 2 2, .int .i64 8], [.int .i64 2, str ([] : Str), .slice (some ⟨b61, 0, none⟩) 2 2, .int .i64 8], [.int .i64 x84.Kind, str x84.Text, .slice a84_0 x84.Kids.length c84_0, .int .i64 x84.Line], [.int .i64 x85.Kind, str x85.Text, .slice a85_0 x85.Kids.length c85_0, .int .i64 x85.Line]] [(⟨2, ([] : Str), [(⟨22, ([116, 114, 117, 101] : Str), [], 8⟩ : S_ref43_Node), (⟨12, ([] : Str), [x57, x58], 0⟩ : S_ref43_Node)], 8⟩ : S_ref43_Node), (⟨2, ([] : Str), [(⟨22, ([116, 114, 117, 101] : Str), [], 8⟩ : S_ref43_Node), (⟨12, ([] : Str), [x57, x58], 0⟩ : S_ref43_Node)], 8⟩ : S_ref43_Node), x84, x85] from (LR.snoc (LR.snoc (LR.snoc (LR.snoc LR.nil (S_ref43_Node.of (x := (⟨2, ([] : Str), [(⟨22, ([116, 114, 117, 101] : Str), [], 8⟩ : S_ref43_Node), (⟨12, ([] : Str), [x57, x58], 0⟩ : S_ref43_Node)], 8⟩ : S_ref43_Node)) ⟨(some ⟨b61, 0, none⟩), 2, rfl, (LiC.mono S_ref43_Node.R_ok ((((((((((((((((((((((((((((l64.trans l65).trans l68).trans l70).trans l75).trans l77).trans l84).trans l85).trans l89).trans l94).trans l100).trans l105).trans l106).trans lfb0_6_0_0_0).trans lfb0_6_0).trans lfb0_7_0_0_0).trans lfb0_7_0_1_0).trans lfb0_7_0).trans lfb0_8_0_0_0_0_0).trans lfb0_8_0_0_0_1_0).trans lfb0_8_0_0_0).trans lfb0_8_0_1_0_0_0).trans lfb0_8_0_1_0_1_0).trans lfb0_8_0_1_0).trans lfb0_8_0_2_0_0_0).trans lfb0_8_0_2_0_1_0).trans lfb0_8_0_2_0).trans lfb0_8_0_3_0_2_0).trans lfb0_8_0_3_0_3_0) ffd12_5_0)⟩)) (S_ref43_Node.of (x := (⟨2, ([] : Str), [(⟨22, ([116, 114, 117, 101] : Str), [], 8⟩ : S_ref43_Node), (⟨12, ([] : Str), [x57, x58], 0⟩ : S_ref43_Node)], 8⟩ : S_ref43_Node)) ⟨(some ⟨b61, 0, none⟩), 2, rfl, (LiC.mono S_ref43_Node.R_ok ((((((((((((((((((((((((((((l64.trans l65).trans l68).trans l70).trans l75).trans l77).trans l84).trans l85).trans l89).trans l94).trans l100).trans l105).trans l106).trans lfb0_6_0_0_0).trans lfb0_6_0).trans lfb0_7_0_0_0).trans lfb0_7_0_1_0).trans lfb0_7_0).trans lfb0_8_0_0_0_0_0).trans lfb0_8_0_0_0_1_0).trans lfb0_8_0_0_0).trans lfb0_8_0_1_0_0_0).trans lfb0_8_0_1_0_1_0).trans lfb0_8_0_1_0).trans lfb0_8_0_2_0_0_0).trans lfb0_8_0_2_0_1_0).trans lfb0_8_0_2_0).trans lfb0_8_0_3_0_2_0).trans lfb0_8_0_3_0_3_0) ffd12_5_0)⟩)) (S_ref43_Node.of (x := x84) ⟨a84_0, c84_0, rfl, (LiC.mono S_ref43_Node.R_ok lfb0_8_0_3_0_3_0 ffb0_8_0_3_0_2_0)⟩)) (S_ref43_Node.of (x := x85) ⟨a85_0, c85_0, rfl, ffb0_8_0_3_0_3_0⟩))) fun Kfb0_8_0_3_0 lfb0_8_0_3_0 ffb0_8_0_3_0 => ?_
        refine fzCR S_ref43_Node.R_ok r4 (LR.mono S_ref43_Node.R_ok ((((((((((((((((((((l94.trans l100).trans l105).trans l106).trans lfb0_6_0_0_0).trans lfb0_6_0).trans lfb0_7_0_0_0).trans lfb0_7_0_1_0).trans lfb0_7_0).trans lfb0_8_0_0_0_0_0).trans lfb0_8_0_0_0_1_0).trans lfb0_8_0_0_0).trans lfb0_8_0_1_0_0_0).trans lfb0_8_0_1_0_1_0).trans lfb0_8_0_1_0).trans lfb0_8_0_2_0_0_0).trans lfb0_8_0_2_0_1_0).trans lfb0_8_0_2_0).trans lfb0_8_0_3_0_2_0).trans lfb0_8_0_3_0_3_0).trans lfb0_8_0_3_0) r89_0) fun Kfb0_8_0_4_0_1_0 lfb0_8_0_4_0_1_0 ffb0_8_0_4_0_1_0 => ?_
        refine litAC (len := 2) (l := [(⟨2, ([] : Str), [(⟨22, ([116, 114, 117, 101] : Str), [], 8⟩ : S_ref43_Node), (⟨12, ([] : Str), [x57, x58], 0⟩ : S_ref43_Node)], 8⟩ : S_ref43_Node), x89]) (css := [[.int .i64 2, str ([] : Str), .slice (some ⟨b61, 0, none⟩) 2 2, .int .i64 8], [.int .i64 x89.Kind, str x89.Text, .slice a89_0 x89.Kids.length c89_0, .int .i64 x89.Line]]) S_ref43_Node.R_ok r2 rfl (LR.snoc (LR.snoc LR.nil (S_ref43_Node.of (x := (⟨2, ([] : Str), [(⟨22, ([116, 114, 117, 101] : Str), [], 8⟩ : S_ref43_Node), (⟨12, ([] : Str), [x57, x58], 0⟩ : S_ref43_Node)], 8⟩ : S_ref43_Node)) ⟨(some ⟨b61, 0, none⟩), 2, rfl, (LiC.mono S_ref43_Node.R_ok ((((((((((((((((((((((((((((((l64.trans l65).trans l68).trans l70).trans l75).trans l77).trans l84).trans l85).trans l89).trans l94).trans l100).trans l105).trans l106).trans lfb0_6_0_0_0).trans lfb0_6_0).trans lfb0_7_0_0_0).trans lfb0_7_0_1_0).trans lfb0_7_0).trans lfb0_8_0_0_0_0_0).trans lfb0_8_0_0_0_1_0).trans lfb0_8_0_0_0).trans lfb0_8_0_1_0_0_0).trans lfb0_8_0_1_0_1_0).trans lfb0_8_0_1_0).trans lfb0_8_0_2_0_0_0).trans lfb0_8_0_2_0_1_0).trans lfb0_8_0_2_0).trans lfb0_8_0_3_0_2_0).trans lfb0_8_0_3_0_3_0).trans lfb0_8_0_3_0).trans lfb0_8_0_4_0_1_0) ffd12_5_0)⟩)) (S_ref43_Node.of (x := x89) ⟨a89_0, c89_0, rfl, ffb0_8_0_4_0_1_0⟩)) rfl rfl (by decide) ?_
        refine fzCR S_ref43_Node.R_ok r0 (show LR S_ref43_Node.R _ [[.int .i64 2, str ([] : Str), .slice (some ⟨b61, 0, none⟩) 2 2, .int .i64 8], [.int .i64 x89.Kind, str x89.Text, .slice a89_0 x89.Kids.length c89_0, .int .i64 x89.Line]] [(⟨2, ([] : Str), [(⟨22, ([116, 114, 117, 101] : Str), [], 8⟩ : S_ref43_Node), (⟨12, ([] : Str), [x57, x58], 0⟩ : S_ref43_Node)], 8⟩ : S_ref43_Node), x89] from (LR.snoc (LR.snoc LR.nil (S_ref43_Node.of (x := (⟨2, ([] : Str), [(⟨22, ([116, 114, 117, 101] : Str), [], 8⟩ : S_ref43_Node), (⟨12, ([] : Str), [x57, x58], 0⟩ : S_ref43_Node)], 8⟩ : S_ref43_Node)) ⟨(some ⟨b61, 0, none⟩), 2, rfl, (LiC.mono S_ref43_Node.R_ok ((((((((((((((((((((((((((((((l64.trans l65).trans l68).trans l70).trans l75).trans l77).trans l84).trans l85).trans l89).trans l94).trans l100).trans l105).trans l106).trans lfb0_6_0_0_0).trans lfb0_6_0).trans lfb0_7_0_0_0).trans lfb0_7_0_1_0).trans lfb0_7_0).trans lfb0_8_0_0_0_0_0).trans lfb0_8_0_0_0_1_0).trans lfb0_8_0_0_0).trans lfb0_8_0_1_0_0_0).trans lfb0_8_0_1_0_1_0).trans lfb0_8_0_1_0).trans lfb0_8_0_2_0_0_0).trans lfb0_8_0_2_0_1_0).trans lfb0_8_0_2_0).trans lfb0_8_0_3_0_2_0).trans lfb0_8_0_3_0_3_0).trans lfb0_8_0_3_0).trans lfb0_8_0_4_0_1_0) ffd12_5_0)⟩)) (S_ref43_Node.of (x := x89) ⟨a89_0, c89_0, rfl, ffb0_8_0_4_0_1_0⟩))) fun Kfb0_8_0_4_0 lfb0_8_0_4_0 ffb0_8_0_4_0 => ?_
        refine fzCR S_ref43_Node.R_ok r2 (LR.mono S_ref43_Node.R_ok (((((((((((((((((((((l100.trans l105).trans l106).trans lfb0_6_0_0_0).trans lfb0_6_0).trans lfb0_7_0_0_0).trans lfb0_7_0_1_0).trans lfb0_7_0).trans lfb0_8_0_0_0_0_0).trans lfb0_8_0_0_0_1_0).trans lfb0_8_0_0_0).trans lfb0_8_0_1_0_0_0).trans lfb0_8_0_1_0_1_0).trans lfb0_8_0_1_0).trans lfb0_8_0_2_0_0_0).trans lfb0_8_0_2_0_1_0).trans lfb0_8_0_2_0).trans lfb0_8_0_3_0_2_0).trans lfb0_8_0_3_0_3_0).trans lfb0_8_0_3_0).trans lfb0_8_0_4_0_1_0).trans lfb0_8_0_4_0) r94_0) fun Kfb0_8_0_5_0_0_0 lfb0_8_0_5_0_0_0 ffb0_8_0_5_0_0_0 => ?_
        refine litAC (len := 2) (l := [x94, (⟨2, ([] : Str), [(⟨22, ([116, 114, 117, 101] : Str), [], 8⟩ : S_ref43_Node), (⟨12, ([] : Str), [x57, x58], 0⟩ : S_ref43_Node)], 8⟩ : S_ref43_Node)]) (css := [[.int .i64 x94.Kind, str x94.Text, .slice a94_0 x94.Kids.length c94_0, .int .i64 x94.Line], [.int .i64 2, str ([] : Str), .slice (some ⟨b61, 0, none⟩) 2 2, .int .i64 8]]) S_ref43_Node.R_ok r1 rfl (LR.snoc (LR.snoc LR.nil (S_ref43_Node.of (x := x94) ⟨a94_0, c94_0, rfl, ffb0_8_0_5_0_0_0⟩)) (S_ref43_Node.of (x := (⟨2, ([] : Str), [(⟨22, ([116, 114, 117, 101] : Str), [], 8⟩ : S_ref43_Node), (⟨12, ([] : Str), [x57, x58], 0⟩ : S_ref43_Node)], 8⟩ : S_ref43_Node)) ⟨(some ⟨b61, 0, none⟩), 2, rfl, (LiC.mono S_ref43_Node.R_ok ((((((((((((((((((((((((((((((((l64.trans l65).trans l68).trans l70).trans l75).trans l77).trans l84).trans l85).trans l89).trans l94).trans l100).trans l105).trans l106).trans lfb0_6_0_0_0).trans lfb0_6_0).trans lfb0_7_0_0_0).trans lfb0_7_0_1_0).trans lfb0_7_0).trans lfb0_8_0_0_0_0_0).trans lfb0_8_0_0_0_1_0).trans lfb0_8_0_0_0).trans lfb0_8_0_1_0_0_0).trans lfb0_8_0_1_0_1_0).trans lfb0_8_0_1_0).trans lfb0_8_0_2_0_0_0).trans lfb0_8_0_2_0_1_0).trans lfb0_8_0_2_0).trans lfb0_8_0_3_0_2_0).trans lfb0_8_0_3_0_3_0).trans lfb0_8_0_3_0).trans lfb0_8_0_4_0_1_0).trans lfb0_8_0_4_0).trans lfb0_8_0_5_0_0_0) ffd12_5_0)⟩)) rfl rfl (by decide) ?_
        refine fzCR S_ref43_Node.R_ok r0 (show LR S_ref43_Node.R _ [[.int .i64 x94.Kind, str x94.Text, .slice a94_0 x94.Kids.length c94_0, .int .i64 x94.Line], [.int .i64 2, str ([] : Str), .slice (some ⟨b61, 0, none⟩) 2 2, .int .i64 8]] [x94, (⟨2, ([] : Str), [(⟨22, ([116, 114, 117, 101] : Str), [], 8⟩ : S_ref43_Node), (⟨12, ([] : Str), [x57, x58], 0⟩ : S_ref43_Node)], 8⟩ : S_ref43_Node)] from (LR.snoc (LR.snoc LR.nil (S_ref43_Node.of (x := x94) ⟨a94_0, c94_0, rfl, ffb0_8_0_5_0_0_0⟩)) (S_ref43_Node.of (x := (⟨2, ([] : Str), [(⟨22, ([116, 114, 117, 101] : Str), [], 8⟩ : S_ref43_Node), (⟨12, ([] : Str), [x57, x58], 0⟩ : S_ref43_Node)], 8⟩ : S_ref43_Node)) ⟨(some ⟨b61, 0, none⟩), 2, rfl, (LiC.mono S_ref43_Node.R_ok ((((((((((((((((((((((((((((((((l64.trans l65).trans l68).trans l70).trans l75).trans l77).trans l84).trans l85).trans l89).trans l94).trans l100).trans l105).trans l106).trans lfb0_6_0_0_0).trans lfb0_6_0).trans lfb0_7_0_0_0).trans lfb0_7_0_1_0).trans lfb0_7_0).trans lfb0_8_0_0_0_0_0).trans lfb0_8_0_0_0_1_0).trans lfb0_8_0_0_0).trans lfb0_8_0_1_0_0_0).trans lfb0_8_0_1_0_1_0).trans lfb0_8_0_1_0).trans lfb0_8_0_2_0_0_0).trans lfb0_8_0_2_0_1_0).trans lfb0_8_0_2_0).trans lfb0_8_0_3_0_2_0).trans lfb0_8_0_3_0_3_0).trans lfb0_8_0_3_0).trans lfb0_8_0_4_0_1_0).trans lfb0_8_0_4_0).trans lfb0_8_0_5_0_0_0) ffd12_5_0)⟩))) fun Kfb0_8_0_5_0 lfb0_8_0_5_0 ffb0_8_0_5_0 => ?_
        refine litAC (len := 8) (l := [(⟨[x64, x65], 0, 0⟩ : S_struct___list___ref43_Node__line_int__want_int__), (⟨[x68, x70], 9, 8⟩ : S_struct___list___ref43_Node__line_int__want_int__), (⟨[x75, x77], 7, 4⟩ : S_struct___list___ref43_Node__line_int__want_int__), (⟨[(⟨2, ([] : Str), [(⟨22, ([116, 114, 117, 101] : Str), [], 8⟩ : S_ref43_Node), (⟨12, ([] : Str), [x57, x58], 0⟩ : S_ref43_Node)], 8⟩ : S_ref43_Node), (⟨2, ([] : Str), [(⟨22, ([116, 114, 117, 101] : Str), [], 8⟩ : S_ref43_Node), (⟨12, ([] : Str), [x57, x58], 0⟩ : S_ref43_Node)], 8⟩ : S_ref43_Node), x84, x85], 0, 0⟩ : S_struct___list___ref43_Node__line_int__want_int__), (⟨[(⟨2, ([] : Str), [(⟨22, ([116, 114, 117, 101] : Str), [], 8⟩ : S_ref43_Node), (⟨12, ([] : Str), [x57, x58], 0⟩ : S_ref43_Node)], 8⟩ : S_ref43_Node), x89], 9, 8⟩ : S_struct___list___ref43_Node__line_int__want_int__), (⟨[x94, (⟨2, ([] : Str), [(⟨22, ([116, 114, 117, 101] : Str), [], 8⟩ : S_ref43_Node), (⟨12, ([] : Str), [x57, x58], 0⟩ : S_ref43_Node)], 8⟩ : S_ref43_Node)], 7, 4⟩ : S_struct___list___ref43_Node__line_int__want_int__), (⟨[x100], 7, 4⟩ : S_struct___list___ref43_Node__line_int__want_int__), (⟨[x105, x106], 0, 0⟩ : S_struct___list___ref43_Node__line_int__want_int__)]) (css := [[.slice (some ⟨b66, 0, none⟩) 2 2, .int .i64 0, .int .i64 0], [.slice (some ⟨b71, 0, none⟩) 2 2, .int .i64 9, .int .i64 8], [.slice (some ⟨b78, 0, none⟩) 2 2, .int .i64 7, .int .i64 4], [.slice (some ⟨b86, 0, none⟩) 4 4, .int .i64 0, .int .i64 0], [.slice (some ⟨b90, 0, none⟩) 2 2, .int .i64 9, .int .i64 8], [.slice (some ⟨b96, 0, none⟩) 2 2, .int .i64 7, .int .i64 4], [.slice (some ⟨b101, 0, none⟩) 1 1, .int .i64 7, .int .i64 4], [.slice (some ⟨b107, 0, none⟩) 2 2, .int .i64 0, .int .i64 0]]) S_struct___list___ref43_Node__line_int__want_int__.R_ok r0 rfl (LR.snoc (LR.snoc (LR.snoc (LR.snoc (LR.snoc (LR.snoc (LR.snoc (LR.snoc LR.nil ⟨(some ⟨b66, 0, none⟩), 2, rfl, (LiC.mono S_ref43_Node.R_ok ((((((((((((lfb0_8_0_1_0_0_0.trans lfb0_8_0_1_0_1_0).trans lfb0_8_0_1_0).trans lfb0_8_0_2_0_0_0).trans lfb0_8_0_2_0_1_0).trans lfb0_8_0_2_0).trans lfb0_8_0_3_0_2_0).trans lfb0_8_0_3_0_3_0).trans lfb0_8_0_3_0).trans lfb0_8_0_4_0_1_0).trans lfb0_8_0_4_0).trans lfb0_8_0_5_0_0_0).trans lfb0_8_0_5_0) ffb0_8_0_0_0)⟩) ⟨(some ⟨b71, 0, none⟩), 2, rfl, (LiC.mono S_ref43_Node.R_ok (((((((((lfb0_8_0_2_0_0_0.trans lfb0_8_0_2_0_1_0).trans lfb0_8_0_2_0).trans lfb0_8_0_3_0_2_0).trans lfb0_8_0_3_0_3_0).trans lfb0_8_0_3_0).trans lfb0_8_0_4_0_1_0).trans lfb0_8_0_4_0).trans lfb0_8_0_5_0_0_0).trans lfb0_8_0_5_0) ffb0_8_0_1_0)⟩) ⟨(some ⟨b78, 0, none⟩), 2, rfl, (LiC.mono S_ref43_Node.R_ok ((((((lfb0_8_0_3_0_2_0.trans lfb0_8_0_3_0_3_0).trans lfb0_8_0_3_0).trans lfb0_8_0_4_0_1_0).trans lfb0_8_0_4_0).trans lfb0_8_0_5_0_0_0).trans lfb0_8_0_5_0) ffb0_8_0_2_0)⟩) ⟨(some ⟨b86, 0, none⟩), 4, rfl, (LiC.mono S_ref43_Node.R_ok (((lfb0_8_0_4_0_1_0.trans lfb0_8_0_4_0).trans lfb0_8_0_5_0_0_0).trans lfb0_8_0_5_0) ffb0_8_0_3_0)⟩) ⟨(some ⟨b90, 0, none⟩), 2, rfl, (LiC.mono S_ref43_Node.R_ok (lfb0_8_0_5_0_0_0.trans lfb0_8_0_5_0) ffb0_8_0_4_0)⟩) ⟨(some ⟨b96, 0, none⟩), 2, rfl, ffb0_8_0_5_0⟩) ⟨(some ⟨b101, 0, none⟩), 1, rfl, (LiC.mono S_ref43_Node.R_ok ((((((((((((((((((lfb0_7_0_0_0.trans lfb0_7_0_1_0).trans lfb0_7_0).trans lfb0_8_0_0_0_0_0).trans lfb0_8_0_0_0_1_0).trans lfb0_8_0_0_0).trans lfb0_8_0_1_0_0_0).trans lfb0_8_0_1_0_1_0).trans lfb0_8_0_1_0).trans lfb0_8_0_2_0_0_0).trans lfb0_8_0_2_0_1_0).trans lfb0_8_0_2_0).trans lfb0_8_0_3_0_2_0).trans lfb0_8_0_3_0_3_0).trans lfb0_8_0_3_0).trans lfb0_8_0_4_0_1_0).trans lfb0_8_0_4_0).trans lfb0_8_0_5_0_0_0).trans lfb0_8_0_5_0) ffb0_6_0)⟩) ⟨(some ⟨b107, 0, none⟩), 2, rfl, (LiC.mono S_ref43_Node.R_ok (((((((((((((((lfb0_8_0_0_0_0_0.trans lfb0_8_0_0_0_1_0).trans lfb0_8_0_0_0).trans lfb0_8_0_1_0_0_0).trans lfb0_8_0_1_0_1_0).trans lfb0_8_0_1_0).trans lfb0_8_0_2_0_0_0).trans lfb0_8_0_2_0_1_0).trans lfb0_8_0_2_0).trans lfb0_8_0_3_0_2_0).trans lfb0_8_0_3_0_3_0).trans lfb0_8_0_3_0).trans lfb0_8_0_4_0_1_0).trans lfb0_8_0_4_0).trans lfb0_8_0_5_0_0_0).trans lfb0_8_0_5_0) ffb0_7_0)⟩) rfl rfl (by decide) ?_
        refine fzCR S_struct___list___ref43_Node__line_int__want_int__.R_ok r0 (show LR S_struct___list___ref43_Node__line_int__want_int__.R _ [[.slice (some ⟨b66, 0, none⟩) 2 2, .int .i64 0, .int .i64 0], [.slice (some ⟨b71, 0, none⟩) 2 2, .int .i64 9, .int .i64 8], [.slice (some ⟨b78, 0, none⟩) 2 2, .int .i64 7, .int .i64 4], [.slice (some ⟨b86, 0, none⟩) 4 4, .int .i64 0, .int .i64 0], [.slice (some ⟨b90, 0, none⟩) 2 2, .int .i64 9, .int .i64 8], [.slice (some ⟨b96, 0, none⟩) 2 2, .int .i64 7, .int .i64 4], [.slice (some ⟨b101, 0, none⟩) 1 1, .int .i64 7, .int .i64 4], [.slice (some ⟨b107, 0, none⟩) 2 2, .int .i64 0, .int .i64 0]] [(⟨[x64, x65], 0, 0⟩ : S_struct___list___ref43_Node__line_int__want_int__), (⟨[x68, x70], 9, 8⟩ : S_struct___list___ref43_Node__line_int__want_int__), (⟨[x75, x77], 7, 4⟩ : S_struct___list___ref43_Node__line_int__want_int__), (⟨[(⟨2, ([] : Str), [(⟨22, ([116, 114, 117, 101] : Str), [], 8⟩ : S_ref43_Node), (⟨12, ([] : Str), [x57, x58], 0⟩ : S_ref43_Node)], 8⟩ : S_ref43_Node), (⟨2, ([] : Str), [(⟨22, ([116, 114, 117, 101] : Str), [], 8⟩ : S_ref43_Node), (⟨12, ([] : Str), [x57, x58], 0⟩ : S_ref43_Node)], 8⟩ : S_ref43_Node), x84, x85], 0, 0⟩ : S_struct___list___ref43_Node__line_int__want_int__), (⟨[(⟨2, ([] : Str), [(⟨22, ([116, 114, 117, 101] : Str), [], 8⟩ : S_ref43_Node), (⟨12, ([] : Str), [x57, x58], 0⟩ : S_ref43_Node)], 8⟩ : S_ref43_Node), x89], 9, 8⟩ : S_struct___list___ref43_Node__line_int__want_int__), (⟨[x94, (⟨2, ([] : Str), [(⟨22, ([116, 114, 117, 101] : Str), [], 8⟩ : S_ref43_Node), (⟨12, ([] : Str), [x57, x58], 0⟩ : S_ref43_Node)], 8⟩ : S_ref43_Node)], 7, 4⟩ : S_struct___list___ref43_Node__line_int__want_int__), (⟨[x100], 7, 4⟩ : S_struct___list___ref43_Node__line_int__want_int__), (⟨[x105, x106], 0, 0⟩ : S_struct___list___ref43_Node__line_int__want_int__)] from (LR.snoc (LR.snoc (LR.snoc (LR.snoc (LR.snoc (LR.snoc (LR.snoc (LR.snoc LR.nil ⟨(some ⟨b66, 0, none⟩), 2, rfl, (LiC.mono S_ref43_Node.R_ok ((((((((((((lfb0_8_0_1_0_0_0.trans lfb0_8_0_1_0_1_0).trans lfb0_8_0_1_0).trans lfb0_8_0_2_0_0_0).trans lfb0_8_0_2_0_1_0).trans lfb0_8_0_2_0).trans lfb0_8_0_3_0_2_0).trans lfb0_8_0_3_0_3_0).trans lfb0_8_0_3_0).trans lfb0_8_0_4_0_1_0).trans lfb0_8_0_4_0).trans lfb0_8_0_5_0_0_0).trans lfb0_8_0_5_0) ffb0_8_0_0_0)⟩) ⟨(some ⟨b71, 0, none⟩), 2, rfl, (LiC.mono S_ref43_Node.R_ok (((((((((lfb0_8_0_2_0_0_0.trans lfb0_8_0_2_0_1_0).trans lfb0_8_0_2_0).trans lfb0_8_0_3_0_2_0).trans lfb0_8_0_3_0_3_0).trans lfb0_8_0_3_0).trans lfb0_8_0_4_0_1_0).trans lfb0_8_0_4_0).trans lfb0_8_0_5_0_0_0).trans lfb0_8_0_5_0) ffb0_8_0_1_0)⟩) ⟨(some ⟨b78, 0, none⟩), 2, rfl, (LiC.mono S_ref43_Node.R_ok ((((((lfb0_8_0_3_0_2_0.trans lfb0_8_0_3_0_3_0).trans lfb0_8_0_3_0).trans lfb0_8_0_4_0_1_0).trans lfb0_8_0_4_0).trans lfb0_8_0_5_0_0_0).trans lfb0_8_0_5_0) ffb0_8_0_2_0)⟩) ⟨(some ⟨b86, 0, none⟩), 4, rfl, (LiC.mono S_ref43_Node.R_ok (((lfb0_8_0_4_0_1_0.trans lfb0_8_0_4_0).trans lfb0_8_0_5_0_0_0).trans lfb0_8_0_5_0) ffb0_8_0_3_0)⟩) ⟨(some ⟨b90, 0, none⟩), 2, rfl, (LiC.mono S_ref43_Node.R_ok (lfb0_8_0_5_0_0_0.trans lfb0_8_0_5_0) ffb0_8_0_4_0)⟩) ⟨(some ⟨b96, 0, none⟩), 2, rfl, ffb0_8_0_5_0⟩) ⟨(some ⟨b101, 0, none⟩), 1, rfl, (LiC.mono S_ref43_Node.R_ok ((((((((((((((((((lfb0_7_0_0_0.trans lfb0_7_0_1_0).trans lfb0_7_0).trans lfb0_8_0_0_0_0_0).trans lfb0_8_0_0_0_1_0).trans lfb0_8_0_0_0).trans lfb0_8_0_1_0_0_0).trans lfb0_8_0_1_0_1_0).trans lfb0_8_0_1_0).trans lfb0_8_0_2_0_0_0).trans lfb0_8_0_2_0_1_0).trans lfb0_8_0_2_0).trans lfb0_8_0_3_0_2_0).trans lfb0_8_0_3_0_3_0).trans lfb0_8_0_3_0).trans lfb0_8_0_4_0_1_0).trans lfb0_8_0_4_0).trans lfb0_8_0_5_0_0_0).trans lfb0_8_0_5_0) ffb0_6_0)⟩) ⟨(some ⟨b107, 0, none⟩), 2, rfl, (LiC.mono S_ref43_Node.R_ok (((((((((((((((lfb0_8_0_0_0_0_0.trans lfb0_8_0_0_0_1_0).trans lfb0_8_0_0_0).trans lfb0_8_0_1_0_0_0).trans lfb0_8_0_1_0_1_0).trans lfb0_8_0_1_0).trans lfb0_8_0_2_0_0_0).trans lfb0_8_0_2_0_1_0).trans lfb0_8_0_2_0).trans lfb0_8_0_3_0_2_0).trans lfb0_8_0_3_0_3_0).trans lfb0_8_0_3_0).trans lfb0_8_0_4_0_1_0).trans lfb0_8_0_4_0).trans lfb0_8_0_5_0_0_0).trans lfb0_8_0_5_0) ffb0_7_0)⟩)) fun Kfb0_8_0 lfb0_8_0 ffb0_8_0 => ?_
        obtain ⟨hk0, hm⟩ := chkb hm
        obtain ⟨s0, hl0, hm⟩ := bnd hm
        conv => whnf
        refine code_cut (σ := (Unit)) [2, 11, 12, 13, 111, 112, 113, 114, 115, 116, 117, 118, 119, 120, 121, 122, 123, 124, 125, 126, 127, 128, 129, 130, 131, 132, 133, 134, 135, 136, 137, 138, 139, 140, 141, 142, 143, 144, 145, 146, 147] (fun t0 => []) (fun t0 => [Cells b7 24 [.int .i64 2, str ([] : Str), .slice (some ⟨b61, 0, none⟩) 2 2, .int .i64 8], Cells b6 24 [.int .i64 22, str ([116, 114, 117, 101] : Str), .slice none 0 0, .int .i64 8], OwnA (some ⟨b48, 0, none⟩) 24 4 1 ([[.int .i64 x47.Kind, str x47.Text, .slice a47_0 x47.Kids.length c47_0, .int .i64 x47.Line]]), Cells b3 24 [.int .i64 x27.Kind, str x27.Text, .slice a27_0 x27.Kids.length c27_0, .int .i64 x27.Line], Cells b1 24 [.int .i64 e.Kind, str e.Text, .slice ap0_0 e.Kids.length cp0_0, .int .i64 e.Line], F]) (fun zz K1 => match zz with | t0 => s0 = Fl.go t0) ?_ ?_
        ·refine block_go rfl ?_
         conv => whnf
         refine loop_rule (σ := Nat) [2, 11, 12, 13, 111, 112, 113, 114, 115, 116, 117, 118, 119, 120, 121, 122, 123, 124, 125, 126, 127, 128, 129, 130, 131, 132, 133, 134, 135, 136, 137, 138, 139, 140, 141, 142, 143, 144, 145, 146, 147] (fun i0 => [(111, .int .i64 (i0 : Int))]) (fun i0 => [Cells b7 24 [.int .i64 2, str ([] : Str), .slice (some ⟨b61, 0, none⟩) 2 2, .int .i64 8], Cells b6 24 [.int .i64 22, str ([116, 114, 117, 101] : Str), .slice none 0 0, .int .i64 8], OwnA (some ⟨b48, 0, none⟩) 24 4 1 ([[.int .i64 x47.Kind, str x47.Text, .slice a47_0 x47.Kids.length c47_0, .int .i64 x47.Line]]), Cells b3 24 [.int .i64 x27.Kind, str x27.Text, .slice a27_0 x27.Kids.length c27_0, .int .i64 x27.Line], Cells b1 24 [.int .i64 e.Kind, str e.Text, .slice ap0_0 e.Kids.length cp0_0, .int .i64 e.Line], F]) (fun zz K1 => match zz with | i0 => law44_RuletypeScopes_L0 x64 x65 x68 x70 x75 x77 x57 x58 x84 x85 x89 x94 x100 x105 x106 n e ((8 : Int).toNat - i0) i0 = some s0) (fun zz => (8 : Int).toNat - zz) (0) rfl ⟨rfl, trivial⟩ (ConvH.of (.cons r0 (.cons r0 (.cons r0 (.cons r0 (.cons r0 (.cons r0 .nil))))))) hl0 ?_
         clear hl0
         rintro i0 Kb0 lk0 hl0 j0
         conv at hl0 => whnf
         conv => whnf
         refine cond_go rfl ?_
         conv => whnf
         refine cond_s (fun w0 => ?_) (fun w0 => ?_)
         ·rw [ltn (n := (8 : Int)) w0, law44_RuletypeScopes_L0.eq_2] at hl0
          conv => whnf
          refine block_go rfl ?_
          obtain ⟨x113, l113, k113, hl0⟩ := ixb hl0
          conv => whnf
          refine RStep.ofN (index_addr rfl rfl (hasR (LiC.mono S_struct___list___ref43_Node__line_int__want_int__.R_ok lk0 ffb0_8_0).rd k113) l113 (lt_ofE rfl l113 k113) ?_)
          obtain ⟨ss114, cc114, hr114, hc114, hR114⟩ := LiR.get (LiC.mono S_struct___list___ref43_Node__line_int__want_int__.R_ok lk0 ffb0_8_0).rd k113
          obtain ⟨a114_0, c114_0, rfl, h114_0⟩ := hR114
          conv => whnf
          refine RStep.of (load_rd_agg (((i0 : Int)).toNat) _ hr114 rfl hc114 rfl ?_)
          conv => whnf
          refine alloc_rule rfl ?_
          intro b11
          conv => whnf
          refine store_rule r0 rfl ?_
          conv => whnf
          refine ⟨rfl, rfl, (Nat.le_of_ble_eq_true rfl), ?_⟩
          conv => whnf
          refine RStep.of (loadn_s r5 rfl (Nat.le_of_ble_eq_true rfl) ?_)
          obtain ⟨x116, q116, hl0⟩ := bnd hl0
          conv => whnf
          refine call_fn (law44_uses_ok (n' := e) (name := ([104, 101, 97, 100, 101, 114] : Str)) q116 (LiC.mono S_ref43_Node.R_ok ((((((((((((((((((((((((((((((((((((((((((((((((((((((((((l15.trans l17).trans l23).trans l24).trans l25).trans lf26_0_0).trans lf26_1_0).trans lf26_2_0).trans l27_0).trans l27).trans l29).trans l32).trans l37).trans l42).trans l47).trans lf48_0_0).trans l49).trans l57).trans l58).trans lfd12_4_0_0_0).trans lfd12_4_0_1_0).trans lfd12_4_0).trans lfd12_5_0).trans l64).trans l65).trans l68).trans l70).trans l75).trans l77).trans l84).trans l85).trans l89).trans l94).trans l100).trans l105).trans l106).trans lfb0_6_0_0_0).trans lfb0_6_0).trans lfb0_7_0_0_0).trans lfb0_7_0_1_0).trans lfb0_7_0).trans lfb0_8_0_0_0_0_0).trans lfb0_8_0_0_0_1_0).trans lfb0_8_0_0_0).trans lfb0_8_0_1_0_0_0).trans lfb0_8_0_1_0_1_0).trans lfb0_8_0_1_0).trans lfb0_8_0_2_0_0_0).trans lfb0_8_0_2_0_1_0).trans lfb0_8_0_2_0).trans lfb0_8_0_3_0_2_0).trans lfb0_8_0_3_0_3_0).trans lfb0_8_0_3_0).trans lfb0_8_0_4_0_1_0).trans lfb0_8_0_4_0).trans lfb0_8_0_5_0_0_0).trans lfb0_8_0_5_0).trans lfb0_8_0).trans lk0) hp0_0)) .nil ?_
          rintro _ K116 _ l116 ⟨rfl, rfl⟩
          conv => whnf
          refine cond_s (fun g117_15 => ?_) (fun g117_15 => ?_)
          ·conv => whnf
           refine field_addr rfl ?_
           conv => whnf
           refine cond_t g117_15 ?_
           conv => whnf
           refine RStep.of (load1_s r0 rfl rfl ?_)
           conv => whnf
           refine cond_t g117_15 ?_
           conv => whnf
           refine RStep.of (len_slice rfl ?_)
           conv => whnf
           refine cond_t g117_15 ?_
           conv => whnf
           refine eq_int ?_
           conv => whnf
           refine cond_t g117_15 ?_
           obtain ⟨x130, e130, hl0⟩ := bnd hl0
           conv => whnf
           refine cond_s (fun g123_15 => ?_) (fun g123_15 => ?_)
           ·replace e130 := ift (and_t g117_15 g123_15) e130
            conv => whnf
            refine field_addr rfl ?_
            conv => whnf
            refine cond_t g123_15 ?_
            conv => whnf
            refine RStep.of (load1_s r0 rfl rfl ?_)
            conv => whnf
            refine cond_t g123_15 ?_
            obtain ⟨x126, l126, k126, e130⟩ := ixb e130
            conv => whnf
            refine RStep.ofN (index_addr rfl rfl (hasR (LiC.mono S_ref43_Node.R_ok l116 h114_0).rd k126) l126 (lt_ofE rfl l126 k126) ?_)
            conv => whnf
            refine cond_t g123_15 ?_
            conv => whnf
            refine eptr_field rfl (hasR (LiC.mono S_ref43_Node.R_ok l116 h114_0).rd k126) ?_
            conv => whnf
            refine cond_t g123_15 ?_
            obtain ⟨ss128, cc128, hr128, hc128, hR128⟩ := LiR.get (LiC.mono S_ref43_Node.R_ok l116 h114_0).rd k126
            obtain ⟨a128_0, c128_0, rfl, h128_0⟩ := S_ref43_Node.out hR128
            conv => whnf
            refine RStep.of (load_rd ((0 : Int).toNat) 1 _ _ hr128 rfl hc128 rfl rfl ?_)
            conv => whnf
            refine cond_t g123_15 ?_
            conv => whnf
            refine eq_str ?_
            conv => whnf
            refine cond_t g123_15 ?_
            conv => whnf
            refine cond_go rfl ?_
            conv => whnf
            refine cond_s (fun w130 => ?_) (fun w130 => ?_)
            ·replace hl0 := ift ((si e130).symm.trans w130) hl0
             conv => whnf
             refine cond_T ?_
             conv => whnf
             refine int_in (cntn w0 hk0) ?_
             conv => whnf
             refine RoundStep.mk (i0 + 1) ⟨rfl, trivial⟩ (by repeat (first | exact trivial | refine And.intro rfl ?_)) (ConvH.of (.cons r1 (.cons r1 (.cons r1 (.cons r1 (.cons r1 (.cons r1 .nil))))))) (lk0.trans l116) (ltnm w0) hl0
            ·replace hl0 := iff_ ((si e130).symm.trans w130) hl0
             conv => whnf
             refine field_addr rfl ?_
             conv => whnf
             refine RStep.of (load1_s r0 rfl rfl ?_)
             obtain ⟨x134, q134, hl0⟩ := bnd hl0
             conv => whnf
             refine call_fn (law44_check_ok q134 (LiC.mono S_ref43_Node.R_ok l116 h114_0) rfl (hG0.mono (((((((((((((((((((((((((((((((((((((((((((((((((((((((((((l15.trans l17).trans l23).trans l24).trans l25).trans lf26_0_0).trans lf26_1_0).trans lf26_2_0).trans l27_0).trans l27).trans l29).trans l32).trans l37).trans l42).trans l47).trans lf48_0_0).trans l49).trans l57).trans l58).trans lfd12_4_0_0_0).trans lfd12_4_0_1_0).trans lfd12_4_0).trans lfd12_5_0).trans l64).trans l65).trans l68).trans l70).trans l75).trans l77).trans l84).trans l85).trans l89).trans l94).trans l100).trans l105).trans l106).trans lfb0_6_0_0_0).trans lfb0_6_0).trans lfb0_7_0_0_0).trans lfb0_7_0_1_0).trans lfb0_7_0).trans lfb0_8_0_0_0_0_0).trans lfb0_8_0_0_0_1_0).trans lfb0_8_0_0_0).trans lfb0_8_0_1_0_0_0).trans lfb0_8_0_1_0_1_0).trans lfb0_8_0_1_0).trans lfb0_8_0_2_0_0_0).trans lfb0_8_0_2_0_1_0).trans lfb0_8_0_2_0).trans lfb0_8_0_3_0_2_0).trans lfb0_8_0_3_0_3_0).trans lfb0_8_0_3_0).trans lfb0_8_0_4_0_1_0).trans lfb0_8_0_4_0).trans lfb0_8_0_5_0_0_0).trans lfb0_8_0_5_0).trans lfb0_8_0).trans lk0).trans l116))) .nil ?_
             rintro _ K134 _ l134 ⟨rfl, rfl⟩
             conv => whnf
             refine field_addr rfl ?_
             conv => whnf
             refine RStep.of (load1_s r0 rfl rfl ?_)
             conv => whnf
             refine neq_int ?_
             conv => whnf
             refine cond_s (fun g141_17 => ?_) (fun g141_17 => ?_)
             ·conv => whnf
              refine cond_t g141_17 ?_
              conv => whnf
              refine cond_t g141_17 ?_
              conv => whnf
              refine cond_t g141_17 ?_
              conv => whnf
              refine cond_t g141_17 ?_
              conv => whnf
              refine cond_go rfl ?_
              conv => whnf
              refine cond_T ?_
              replace hl0 := ift (or_t g141_17) hl0
              obtain rfl := si hl0
              replace hm := elr hm
              obtain rfl := si hm
              conv => whnf
              refine EndStep.mk _ ((((((((((((((((((((((((((((((((((((((((((((((((((((((((((((l15.trans l17).trans l23).trans l24).trans l25).trans lf26_0_0).trans lf26_1_0).trans lf26_2_0).trans l27_0).trans l27).trans l29).trans l32).trans l37).trans l42).trans l47).trans lf48_0_0).trans l49).trans l57).trans l58).trans lfd12_4_0_0_0).trans lfd12_4_0_1_0).trans lfd12_4_0).trans lfd12_5_0).trans l64).trans l65).trans l68).trans l70).trans l75).trans l77).trans l84).trans l85).trans l89).trans l94).trans l100).trans l105).trans l106).trans lfb0_6_0_0_0).trans lfb0_6_0).trans lfb0_7_0_0_0).trans lfb0_7_0_1_0).trans lfb0_7_0).trans lfb0_8_0_0_0_0_0).trans lfb0_8_0_0_0_1_0).trans lfb0_8_0_0_0).trans lfb0_8_0_1_0_0_0).trans lfb0_8_0_1_0_1_0).trans lfb0_8_0_1_0).trans lfb0_8_0_2_0_0_0).trans lfb0_8_0_2_0_1_0).trans lfb0_8_0_2_0).trans lfb0_8_0_3_0_2_0).trans lfb0_8_0_3_0_3_0).trans lfb0_8_0_3_0).trans lfb0_8_0_4_0_1_0).trans lfb0_8_0_4_0).trans lfb0_8_0_5_0_0_0).trans lfb0_8_0_5_0).trans lfb0_8_0).trans lk0).trans l116).trans l134) ⟨rfl, rfl⟩ (ConvH.of (.cons r6 .nil))
             ·conv => whnf
              refine cond_f g141_17 ?_
              conv => whnf
              refine field_addr rfl ?_
              conv => whnf
              refine cond_f g141_17 ?_
              conv => whnf
              refine RStep.of (load1_s r0 rfl rfl ?_)
              conv => whnf
              refine cond_f g141_17 ?_
              conv => whnf
              refine neq_int ?_
              conv => whnf
              refine cond_f g141_17 ?_
              conv => whnf
              refine cond_go rfl ?_
              conv => whnf
              refine cond_s (fun w146 => ?_) (fun w146 => ?_)
              ·replace hl0 := ift (or_u g141_17 w146) hl0
               obtain rfl := si hl0
               replace hm := elr hm
               obtain rfl := si hm
               conv => whnf
               refine EndStep.mk _ ((((((((((((((((((((((((((((((((((((((((((((((((((((((((((((l15.trans l17).trans l23).trans l24).trans l25).trans lf26_0_0).trans lf26_1_0).trans lf26_2_0).trans l27_0).trans l27).trans l29).trans l32).trans l37).trans l42).trans l47).trans lf48_0_0).trans l49).trans l57).trans l58).trans lfd12_4_0_0_0).trans lfd12_4_0_1_0).trans lfd12_4_0).trans lfd12_5_0).trans l64).trans l65).trans l68).trans l70).trans l75).trans l77).trans l84).trans l85).trans l89).trans l94).trans l100).trans l105).trans l106).trans lfb0_6_0_0_0).trans lfb0_6_0).trans lfb0_7_0_0_0).trans lfb0_7_0_1_0).trans lfb0_7_0).trans lfb0_8_0_0_0_0_0).trans lfb0_8_0_0_0_1_0).trans lfb0_8_0_0_0).trans lfb0_8_0_1_0_0_0).trans lfb0_8_0_1_0_1_0).trans lfb0_8_0_1_0).trans lfb0_8_0_2_0_0_0).trans lfb0_8_0_2_0_1_0).trans lfb0_8_0_2_0).trans lfb0_8_0_3_0_2_0).trans lfb0_8_0_3_0_3_0).trans lfb0_8_0_3_0).trans lfb0_8_0_4_0_1_0).trans lfb0_8_0_4_0).trans lfb0_8_0_5_0_0_0).trans lfb0_8_0_5_0).trans lfb0_8_0).trans lk0).trans l116).trans l134) ⟨rfl, rfl⟩ (ConvH.of (.cons r6 .nil))
              ·replace hl0 := iff_ (or_f g141_17 w146) hl0
               conv => whnf
               refine int_in (cntn w0 hk0) ?_
               conv => whnf
               refine RoundStep.mk (i0 + 1) ⟨rfl, trivial⟩ (by repeat (first | exact trivial | refine And.intro rfl ?_)) (ConvH.of (.cons r1 (.cons r1 (.cons r1 (.cons r1 (.cons r1 (.cons r1 .nil))))))) ((lk0.trans l116).trans l134) (ltnm w0) hl0
           ·replace e130 := iff_ (and_g g117_15 g123_15) e130
            conv => whnf
            refine cond_f g123_15 ?_
            conv => whnf
            refine cond_f g123_15 ?_
            conv => whnf
            refine cond_f g123_15 ?_
            conv => whnf
            refine cond_f g123_15 ?_
            conv => whnf
            refine cond_f g123_15 ?_
            conv => whnf
            refine cond_f g123_15 ?_
            conv => whnf
            refine cond_go rfl ?_
            conv => whnf
            refine cond_F ?_
            replace hl0 := iff_ (si e130).symm hl0
            conv => whnf
            refine field_addr rfl ?_
            conv => whnf
            refine RStep.of (load1_s r0 rfl rfl ?_)
            obtain ⟨x134, q134, hl0⟩ := bnd hl0
            conv => whnf
            refine call_fn (law44_check_ok q134 (LiC.mono S_ref43_Node.R_ok l116 h114_0) rfl (hG0.mono (((((((((((((((((((((((((((((((((((((((((((((((((((((((((((l15.trans l17).trans l23).trans l24).trans l25).trans lf26_0_0).trans lf26_1_0).trans lf26_2_0).trans l27_0).trans l27).trans l29).trans l32).trans l37).trans l42).trans l47).trans lf48_0_0).trans l49).trans l57).trans l58).trans lfd12_4_0_0_0).trans lfd12_4_0_1_0).trans lfd12_4_0).trans lfd12_5_0).trans l64).trans l65).trans l68).trans l70).trans l75).trans l77).trans l84).trans l85).trans l89).trans l94).trans l100).trans l105).trans l106).trans lfb0_6_0_0_0).trans lfb0_6_0).trans lfb0_7_0_0_0).trans lfb0_7_0_1_0).trans lfb0_7_0).trans lfb0_8_0_0_0_0_0).trans lfb0_8_0_0_0_1_0).trans lfb0_8_0_0_0).trans lfb0_8_0_1_0_0_0).trans lfb0_8_0_1_0_1_0).trans lfb0_8_0_1_0).trans lfb0_8_0_2_0_0_0).trans lfb0_8_0_2_0_1_0).trans lfb0_8_0_2_0).trans lfb0_8_0_3_0_2_0).trans lfb0_8_0_3_0_3_0).trans lfb0_8_0_3_0).trans lfb0_8_0_4_0_1_0).trans lfb0_8_0_4_0).trans lfb0_8_0_5_0_0_0).trans lfb0_8_0_5_0).trans lfb0_8_0).trans lk0).trans l116))) .nil ?_
            rintro _ K134 _ l134 ⟨rfl, rfl⟩
            conv => whnf
            refine field_addr rfl ?_
            conv => whnf
            refine RStep.of (load1_s r0 rfl rfl ?_)
            conv => whnf
            refine neq_int ?_
            conv => whnf
            refine cond_s (fun g141_17 => ?_) (fun g141_17 => ?_)
            ·conv => whnf
             refine cond_t g141_17 ?_
             conv => whnf
             refine cond_t g141_17 ?_
             conv => whnf
             refine cond_t g141_17 ?_
             conv => whnf
             refine cond_t g141_17 ?_
             conv => whnf
             refine cond_go rfl ?_
             conv => whnf
             refine cond_T ?_
             replace hl0 := ift (or_t g141_17) hl0
             obtain rfl := si hl0
             replace hm := elr hm
             obtain rfl := si hm
             conv => whnf
             refine EndStep.mk _ ((((((((((((((((((((((((((((((((((((((((((((((((((((((((((((l15.trans l17).trans l23).trans l24).trans l25).trans lf26_0_0).trans lf26_1_0).trans lf26_2_0).trans l27_0).trans l27).trans l29).trans l32).trans l37).trans l42).trans l47).trans lf48_0_0).trans l49).trans l57).trans l58).trans lfd12_4_0_0_0).trans lfd12_4_0_1_0).trans lfd12_4_0).trans lfd12_5_0).trans l64).trans l65).trans l68).trans l70).trans l75).trans l77).trans l84).trans l85).trans l89).trans l94).trans l100).trans l105).trans l106).trans lfb0_6_0_0_0).trans lfb0_6_0).trans lfb0_7_0_0_0).trans lfb0_7_0_1_0).trans lfb0_7_0).trans lfb0_8_0_0_0_0_0).trans lfb0_8_0_0_0_1_0).trans lfb0_8_0_0_0).trans lfb0_8_0_1_0_0_0).trans lfb0_8_0_1_0_1_0).trans lfb0_8_0_1_0).trans lfb0_8_0_2_0_0_0).trans lfb0_8_0_2_0_1_0).trans lfb0_8_0_2_0).trans lfb0_8_0_3_0_2_0).trans lfb0_8_0_3_0_3_0).trans lfb0_8_0_3_0).trans lfb0_8_0_4_0_1_0).trans lfb0_8_0_4_0).trans lfb0_8_0_5_0_0_0).trans lfb0_8_0_5_0).trans lfb0_8_0).trans lk0).trans l116).trans l134) ⟨rfl, rfl⟩ (ConvH.of (.cons r6 .nil))
            ·conv => whnf
             refine cond_f g141_17 ?_
             conv => whnf
             refine field_addr rfl ?_
             conv => whnf
             refine cond_f g141_17 ?_
             conv => whnf
             refine RStep.of (load1_s r0 rfl rfl ?_)
             conv => whnf
             refine cond_f g141_17 ?_
             conv => whnf
             refine neq_int ?_
             conv => whnf
             refine cond_f g141_17 ?_
             conv => whnf
             refine cond_go rfl ?_
             conv => whnf
             refine cond_s (fun w146 => ?_) (fun w146 => ?_)
             ·replace hl0 := ift (or_u g141_17 w146) hl0
              obtain rfl := si hl0
              replace hm := elr hm
              obtain rfl := si hm
              conv => whnf
              refine EndStep.mk _ ((((((((((((((((((((((((((((((((((((((((((((((((((((((((((((l15.trans l17).trans l23).trans l24).trans l25).trans lf26_0_0).trans lf26_1_0).trans lf26_2_0).trans l27_0).trans l27).trans l29).trans l32).trans l37).trans l42).trans l47).trans lf48_0_0).trans l49).trans l57).trans l58).trans lfd12_4_0_0_0).trans lfd12_4_0_1_0).trans lfd12_4_0).trans lfd12_5_0).trans l64).trans l65).trans l68).trans l70).trans l75).trans l77).trans l84).trans l85).trans l89).trans l94).trans l100).trans l105).trans l106).trans lfb0_6_0_0_0).trans lfb0_6_0).trans lfb0_7_0_0_0).trans lfb0_7_0_1_0).trans lfb0_7_0).trans lfb0_8_0_0_0_0_0).trans lfb0_8_0_0_0_1_0).trans lfb0_8_0_0_0).trans lfb0_8_0_1_0_0_0).trans lfb0_8_0_1_0_1_0).trans lfb0_8_0_1_0).trans lfb0_8_0_2_0_0_0).trans lfb0_8_0_2_0_1_0).trans lfb0_8_0_2_0).trans lfb0_8_0_3_0_2_0).trans lfb0_8_0_3_0_3_0).trans lfb0_8_0_3_0).trans lfb0_8_0_4_0_1_0).trans lfb0_8_0_4_0).trans lfb0_8_0_5_0_0_0).trans lfb0_8_0_5_0).trans lfb0_8_0).trans lk0).trans l116).trans l134) ⟨rfl, rfl⟩ (ConvH.of (.cons r6 .nil))
             ·replace hl0 := iff_ (or_f g141_17 w146) hl0
              conv => whnf
              refine int_in (cntn w0 hk0) ?_
              conv => whnf
              refine RoundStep.mk (i0 + 1) ⟨rfl, trivial⟩ (by repeat (first | exact trivial | refine And.intro rfl ?_)) (ConvH.of (.cons r1 (.cons r1 (.cons r1 (.cons r1 (.cons r1 (.cons r1 .nil))))))) ((lk0.trans l116).trans l134) (ltnm w0) hl0
          ·conv => whnf
           refine cond_f g117_15 ?_
           conv => whnf
           refine cond_f g117_15 ?_
           conv => whnf
           refine cond_f g117_15 ?_
           conv => whnf
           refine cond_f g117_15 ?_
           obtain ⟨x130, e130, hl0⟩ := bnd hl0
           replace e130 := iff_ (and_f g117_15) e130
           conv => whnf
           refine cond_F ?_
           conv => whnf
           refine cond_F ?_
           conv => whnf
           refine cond_F ?_
           conv => whnf
           refine cond_F ?_
           conv => whnf
           refine cond_F ?_
           conv => whnf
           refine cond_F ?_
           conv => whnf
           refine cond_F ?_
           conv => whnf
           refine cond_go rfl ?_
           conv => whnf
           refine cond_F ?_
           replace hl0 := iff_ (si e130).symm hl0
           conv => whnf
           refine field_addr rfl ?_
           conv => whnf
           refine RStep.of (load1_s r0 rfl rfl ?_)
           obtain ⟨x134, q134, hl0⟩ := bnd hl0
           conv => whnf
           refine call_fn (law44_check_ok q134 (LiC.mono S_ref43_Node.R_ok l116 h114_0) rfl (hG0.mono (((((((((((((((((((((((((((((((((((((((((((((((((((((((((((l15.trans l17).trans l23).trans l24).trans l25).trans lf26_0_0).trans lf26_1_0).trans lf26_2_0).trans l27_0).trans l27).trans l29).trans l32).trans l37).trans l42).trans l47).trans lf48_0_0).trans l49).trans l57).trans l58).trans lfd12_4_0_0_0).trans lfd12_4_0_1_0).trans lfd12_4_0).trans lfd12_5_0).trans l64).trans l65).trans l68).trans l70).trans l75).trans l77).trans l84).trans l85).trans l89).trans l94).trans l100).trans l105).trans l106).trans lfb0_6_0_0_0).trans lfb0_6_0).trans lfb0_7_0_0_0).trans lfb0_7_0_1_0).trans lfb0_7_0).trans lfb0_8_0_0_0_0_0).trans lfb0_8_0_0_0_1_0).trans lfb0_8_0_0_0).trans lfb0_8_0_1_0_0_0).trans lfb0_8_0_1_0_1_0).trans lfb0_8_0_1_0).trans lfb0_8_0_2_0_0_0).trans lfb0_8_0_2_0_1_0).trans lfb0_8_0_2_0).trans lfb0_8_0_3_0_2_0).trans lfb0_8_0_3_0_3_0).trans lfb0_8_0_3_0).trans lfb0_8_0_4_0_1_0).trans lfb0_8_0_4_0).trans lfb0_8_0_5_0_0_0).trans lfb0_8_0_5_0).trans lfb0_8_0).trans lk0).trans l116))) .nil ?_
           rintro _ K134 _ l134 ⟨rfl, rfl⟩
           conv => whnf
           refine field_addr rfl ?_
           conv => whnf
           refine RStep.of (load1_s r0 rfl rfl ?_)
           conv => whnf
           refine neq_int ?_
           conv => whnf
           refine cond_s (fun g141_17 => ?_) (fun g141_17 => ?_)
           ·conv => whnf
            refine cond_t g141_17 ?_
            conv => whnf
            refine cond_t g141_17 ?_
            conv => whnf
            refine cond_t g141_17 ?_
            conv => whnf
            refine cond_t g141_17 ?_
            conv => whnf
            refine cond_go rfl ?_
            conv => whnf
            refine cond_T ?_
            replace hl0 := ift (or_t g141_17) hl0
            obtain rfl := si hl0
            replace hm := elr hm
            obtain rfl := si hm
            conv => whnf
            refine EndStep.mk _ ((((((((((((((((((((((((((((((((((((((((((((((((((((((((((((l15.trans l17).trans l23).trans l24).trans l25).trans lf26_0_0).trans lf26_1_0).trans lf26_2_0).trans l27_0).trans l27).trans l29).trans l32).trans l37).trans l42).trans l47).trans lf48_0_0).trans l49).trans l57).trans l58).trans lfd12_4_0_0_0).trans lfd12_4_0_1_0).trans lfd12_4_0).trans lfd12_5_0).trans l64).trans l65).trans l68).trans l70).trans l75).trans l77).trans l84).trans l85).trans l89).trans l94).trans l100).trans l105).trans l106).trans lfb0_6_0_0_0).trans lfb0_6_0).trans lfb0_7_0_0_0).trans lfb0_7_0_1_0).trans lfb0_7_0).trans lfb0_8_0_0_0_0_0).trans lfb0_8_0_0_0_1_0).trans lfb0_8_0_0_0).trans lfb0_8_0_1_0_0_0).trans lfb0_8_0_1_0_1_0).trans lfb0_8_0_1_0).trans lfb0_8_0_2_0_0_0).trans lfb0_8_0_2_0_1_0).trans lfb0_8_0_2_0).trans lfb0_8_0_3_0_2_0).trans lfb0_8_0_3_0_3_0).trans lfb0_8_0_3_0).trans lfb0_8_0_4_0_1_0).trans lfb0_8_0_4_0).trans lfb0_8_0_5_0_0_0).trans lfb0_8_0_5_0).trans lfb0_8_0).trans lk0).trans l116).trans l134) ⟨rfl, rfl⟩ (ConvH.of (.cons r6 .nil))
           ·conv => whnf
            refine cond_f g141_17 ?_
            conv => whnf
            refine field_addr rfl ?_
            conv => whnf
            refine cond_f g141_17 ?_
            conv => whnf
            refine RStep.of (load1_s r0 rfl rfl ?_)
            conv => whnf
            refine cond_f g141_17 ?_
            conv => whnf
            refine neq_int ?_
            conv => whnf
            refine cond_f g141_17 ?_
            conv => whnf
            refine cond_go rfl ?_
            conv => whnf
            refine cond_s (fun w146 => ?_) (fun w146 => ?_)
            ·replace hl0 := ift (or_u g141_17 w146) hl0
             obtain rfl := si hl0
             replace hm := elr hm
             obtain rfl := si hm
             conv => whnf
             refine EndStep.mk _ ((((((((((((((((((((((((((((((((((((((((((((((((((((((((((((l15.trans l17).trans l23).trans l24).trans l25).trans lf26_0_0).trans lf26_1_0).trans lf26_2_0).trans l27_0).trans l27).trans l29).trans l32).trans l37).trans l42).trans l47).trans lf48_0_0).trans l49).trans l57).trans l58).trans lfd12_4_0_0_0).trans lfd12_4_0_1_0).trans lfd12_4_0).trans lfd12_5_0).trans l64).trans l65).trans l68).trans l70).trans l75).trans l77).trans l84).trans l85).trans l89).trans l94).trans l100).trans l105).trans l106).trans lfb0_6_0_0_0).trans lfb0_6_0).trans lfb0_7_0_0_0).trans lfb0_7_0_1_0).trans lfb0_7_0).trans lfb0_8_0_0_0_0_0).trans lfb0_8_0_0_0_1_0).trans lfb0_8_0_0_0).trans lfb0_8_0_1_0_0_0).trans lfb0_8_0_1_0_1_0).trans lfb0_8_0_1_0).trans lfb0_8_0_2_0_0_0).trans lfb0_8_0_2_0_1_0).trans lfb0_8_0_2_0).trans lfb0_8_0_3_0_2_0).trans lfb0_8_0_3_0_3_0).trans lfb0_8_0_3_0).trans lfb0_8_0_4_0_1_0).trans lfb0_8_0_4_0).trans lfb0_8_0_5_0_0_0).trans lfb0_8_0_5_0).trans lfb0_8_0).trans lk0).trans l116).trans l134) ⟨rfl, rfl⟩ (ConvH.of (.cons r6 .nil))
            ·replace hl0 := iff_ (or_f g141_17 w146) hl0
             conv => whnf
             refine int_in (cntn w0 hk0) ?_
             conv => whnf
             refine RoundStep.mk (i0 + 1) ⟨rfl, trivial⟩ (by repeat (first | exact trivial | refine And.intro rfl ?_)) (ConvH.of (.cons r1 (.cons r1 (.cons r1 (.cons r1 (.cons r1 (.cons r1 .nil))))))) ((lk0.trans l116).trans l134) (ltnm w0) hl0
         ·rw [lto (n := (8 : Int)) w0, law44_RuletypeScopes_L0.eq_1] at hl0
          conv => whnf
          refine cond_T ?_
          conv => whnf
          refine MeetStep.mk (()) trivial (by repeat (first | exact trivial | refine And.intro rfl ?_)) (ConvH.of (.cons r0 (.cons r0 (.cons r0 (.cons r0 (.cons r0 (.cons r0 .nil))))))) lk0 (si hl0).symm
        ·rintro t0 Kt0 lt0 rfl j0
         replace hm := elg hm
         obtain rfl := si hm
         conv => whnf
         refine EndStep.mk _ ((((((((((((((((((((((((((((((((((((((((((((((((((((((((((l15.trans l17).trans l23).trans l24).trans l25).trans lf26_0_0).trans lf26_1_0).trans lf26_2_0).trans l27_0).trans l27).trans l29).trans l32).trans l37).trans l42).trans l47).trans lf48_0_0).trans l49).trans l57).trans l58).trans lfd12_4_0_0_0).trans lfd12_4_0_1_0).trans lfd12_4_0).trans lfd12_5_0).trans l64).trans l65).trans l68).trans l70).trans l75).trans l77).trans l84).trans l85).trans l89).trans l94).trans l100).trans l105).trans l106).trans lfb0_6_0_0_0).trans lfb0_6_0).trans lfb0_7_0_0_0).trans lfb0_7_0_1_0).trans lfb0_7_0).trans lfb0_8_0_0_0_0_0).trans lfb0_8_0_0_0_1_0).trans lfb0_8_0_0_0).trans lfb0_8_0_1_0_0_0).trans lfb0_8_0_1_0_1_0).trans lfb0_8_0_1_0).trans lfb0_8_0_2_0_0_0).trans lfb0_8_0_2_0_1_0).trans lfb0_8_0_2_0).trans lfb0_8_0_3_0_2_0).trans lfb0_8_0_3_0_3_0).trans lfb0_8_0_3_0).trans lfb0_8_0_4_0_1_0).trans lfb0_8_0_4_0).trans lfb0_8_0_5_0_0_0).trans lfb0_8_0_5_0).trans lfb0_8_0).trans lt0) ⟨rfl, rfl⟩ (ConvH.of (.cons r5 .nil))
