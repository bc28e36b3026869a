/- Functions of the program: mirrors, and that a call returns what the mirror says. Printed by gen.py. -/
import Derived.Test.YtkpipkpdnbconaaDoorG4
set_option linter.unusedVariables false
set_option linter.unusedSimpArgs false
open Go Go.SL Go.Proofs
set_option maxRecDepth 1000000
noncomputable def JM (x60 : (List Jh) × Err) (x68 : (List Jh) × Err) : List Jh → Nat → Option (Fl (Bool) (Unit))
  | [], _ => some (Fl.go ())
  | e0 :: xs0, i0 =>
    if decide ((i0 : Int) < ((x60.1.length : Int) - 1)) then
    (ix x60.1 (i0 : Int)).bind fun x118 =>
    if ((decide (e0.Op ≠ x118.Op) || decide (e0.N ≠ x118.N)) || decide (e0.S ≠ x118.S)) then
    some (Fl.ret false)
    else
    JM x60 x68 xs0 (i0 + 1)
    else
    (chk (InI ((i0 : Int) - ((x60.1.length : Int) - 1)))).bind fun _ =>
    (ix x68.1 ((i0 : Int) - ((x60.1.length : Int) - 1))).bind fun x124 =>
    if (decide (x124.Op = 9) || decide (x124.Op = 10)) then
    (chk (InI (x124.N + ((x60.1.length : Int) - 1)))).bind fun _ =>
    if ((decide (e0.Op ≠ x124.Op) || decide (e0.N ≠ (x124.N + ((x60.1.length : Int) - 1)))) || decide (e0.S ≠ x124.S)) then
    some (Fl.ret false)
    else
    JM x60 x68 xs0 (i0 + 1)
    else
    if ((decide (e0.Op ≠ x124.Op) || decide (e0.N ≠ x124.N)) || decide (e0.S ≠ x124.S)) then
    some (Fl.ret false)
    else
    JM x60 x68 xs0 (i0 + 1)
noncomputable def JaN (n : Nat) (a : Jd) (b : Jd) : Option (Bool) :=
  (Jax n a).bind fun x17 =>
  (if x17 then some true else (Jax n b).bind fun x20 =>
  some x20).bind fun x21 =>
  (if x21 then some true else (Jaj n a).bind fun x24 =>
  (Jaj n b).bind fun x26 =>
  (chk (InI (x24 + x26))).bind fun _ =>
  some (decide ((x24 + x26) > 0))).bind fun x29 =>
  (if x29 then some true else (Jbr n).bind fun x31 =>
  some (!x31)).bind fun x33 =>
  if x33 then
  (Jax n a).bind fun x35 =>
  (if x35 then some true else (Jax n b).bind fun x38 =>
  some x38).bind fun x39 =>
  (if x39 then some true else (Jaj n a).bind fun x42 =>
  (Jaj n b).bind fun x44 =>
  (chk (InI (x42 + x44))).bind fun _ =>
  some (decide ((x42 + x44) > 0))).bind fun x47 =>
  some x47
  else
  (chk (([] : List Jd).length + a.Kids.length ≤ lim)).bind fun _ =>
  (chk ((([] : List Jd) ++ a.Kids).length + b.Kids.length ≤ lim)).bind fun _ =>
  (JaJ a.Kids).bind fun x58 =>
  (JaK n x58).bind fun x59 =>
  (J5 n x59).bind fun x60 =>
  (JaJ b.Kids).bind fun x66 =>
  (JaK n x66).bind fun x67 =>
  (J5 n x67).bind fun x68 =>
  (JaJ ((([] : List Jd) ++ a.Kids) ++ b.Kids)).bind fun x73 =>
  (JaK n x73).bind fun x74 =>
  (J5 n x74).bind fun x75 =>
  if ((x60.2.isSome || x68.2.isSome) || x75.2.isSome) then
  some true
  else
  (if decide ((x60.1.length : Int) = 0) then some true else (chk (InI ((x60.1.length : Int) - 1))).bind fun _ =>
  (chk (InI (((x60.1.length : Int) - 1) + (x68.1.length : Int)))).bind fun _ =>
  some (decide ((x75.1.length : Int) ≠ (((x60.1.length : Int) - 1) + (x68.1.length : Int))))).bind fun x101 =>
  if x101 then
  some false
  else
  (chk (InI ((x60.1.length : Int) - 1))).bind fun _ =>
  (chk (x75.1.length ≤ szMax)).bind fun _ =>
  (JM x60 x68 x75.1 0).bind fun s0 => s0.el some fun t0 =>
  some true
set_option maxHeartbeats 8000000 in
theorem Jbt {n : Nat} {a : Jd} {b : Jd} {ap0_0 : Option Addr} {cp0_0 : Nat} {ap1_0 : Option Addr} {cp1_0 : Nat} {K : Hp} {r : Bool}
    (hm : JaN n a b = some r) (hp0_0 : LiC Jd.R K ap0_0 cp0_0 4 a.Kids) (hp1_0 : LiC Jd.R K ap1_0 cp1_0 4 b.Kids) (hG0 : GlL eS 1 0 Jv K) (hG1 : GlL eS 1 1 JC K) (hG2 : GlL eS 1 2 JD K) (hG3 : GlL eS 1 3 gkw0 K) :
    Fn Tryd.prog 4 [.agg #[.int .i64 a.Kind, str a.Text, .slice ap0_0 a.Kids.length cp0_0, .int .i64 a.Line], .agg #[.int .i64 b.Kind, str b.Text, .slice ap1_0 b.Kids.length cp1_0, .int .i64 b.Line]] K [] (fun v K' H' => v = .bool r ∧ H' = []) := by
 obtain ⟨ga0, gn0, gc0, gn_, gs0, gd0⟩ := id hG0
 subst gn_
 obtain ⟨ga1, gn1, gc1, gn_, gs1, gd1⟩ := id hG1
 subst gn_
 obtain ⟨ga2, gn2, gc2, gn_, gs2, gd2⟩ := id hG2
 subst gn_
 obtain ⟨ga3, gn3, gc3, gn_, gs3, gd3⟩ := id hG3
 subst gn_
 refine Fn.enter Tryd.func4 Tryd.call4 rfl fun F => ?_
 unfold JaN at hm
 refine box_rule ?_
 intro b2
 refine box_rule ?_
 intro b3
 refine draw_go ⟨⟨[], false⟩, _, [(_, _), (_, _)]⟩ (by kernel_rfl) ⟨Hp.Le.refl _, (ConvH.of (.cons r1 (.cons r0 .nil)))⟩ ?_
 refine loadn_l m0 rfl (Nat.le_of_ble_eq_true rfl) ?_
 obtain ⟨x17, q17, hm⟩ := bnd hm
 refine call_fn (Jaf (n' := a) q17 hp0_0) .nil ?_
 rintro _ K17 _ l17 ⟨rfl, rfl⟩
 refine ⟨⟨l17, (ConvH.of (.cons r1 (.cons r0 .nil)))⟩, ?_⟩
 obtain ⟨x21, e21, hm⟩ := bnd hm
 refine cond_s (fun g18_1 => ?_) (fun g18_1 => ?_)
 replace e21 := ift g18_1 e21
 refine cond_t g18_1 (cond_t g18_1 ?_)
 obtain ⟨x29, e29, hm⟩ := bnd hm
 replace e29 := ift (si e21).symm e29
 refine cond_T (cond_T (cond_T (cond_T (cond_T (cond_T ?_)))))
 refine cond_T ?_
 obtain ⟨x33, e33, hm⟩ := bnd hm
 replace e33 := ift (si e29).symm e33
 refine cond_T (cond_T (cond_T (cond_go rfl (cond_T ?_))))
 replace hm := ift (si e33).symm hm
 refine draw_go ⟨⟨[], false⟩, _, [(_, _), (_, _)]⟩ (by kernel_rfl) ⟨Hp.Le.refl _, (ConvH.of (.cons r1 (.cons r0 .nil)))⟩ ?_
 refine loadn_l m0 rfl (Nat.le_of_ble_eq_true rfl) ?_
 obtain ⟨x35, q35, hm⟩ := bnd hm
 refine call_fn (Jaf (n' := a) q35 (LiC.mono Jd.R_ok l17 hp0_0)) .nil ?_
 rintro _ K35 _ l35 ⟨rfl, rfl⟩
 refine ⟨⟨l35, (ConvH.of (.cons r1 (.cons r0 .nil)))⟩, ?_⟩
 obtain ⟨x39, e39, hm⟩ := bnd hm
 refine cond_s (fun g36_2 => ?_) (fun g36_2 => ?_)
 replace e39 := ift g36_2 e39
 refine cond_t g36_2 (cond_t g36_2 ?_)
 obtain ⟨x47, e47, hm⟩ := bnd hm
 replace e47 := ift (si e39).symm e47
 refine cond_T (cond_T (cond_T (cond_T (cond_T (cond_T ?_)))))
 refine cond_T ?_
 obtain rfl := si hm
 refine EndStep.mk _ (l17.trans l35) ⟨(by rw [← ((si e47).symm).symm] <;> rfl), rfl⟩ (ConvH.of (.cons r2 .nil))
 replace e39 := iff_ g36_2 e39
 refine loadn_l m1 rfl (Nat.le_of_ble_eq_true rfl) (cond_f g36_2 ?_)
 obtain ⟨x38, q38, e39⟩ := bnd e39
 refine call_fn (Jaf (n' := b) q38 (LiC.mono Jd.R_ok (l17.trans l35) hp1_0)) .nil ?_
 rintro _ K38 _ l38 ⟨rfl, rfl⟩
 refine ⟨⟨(l35.trans l38), (ConvH.of (.cons r1 (.cons r0 .nil)))⟩, ?_⟩
 refine cond_f g36_2 ?_
 obtain ⟨x47, e47, hm⟩ := bnd hm
 refine cond_s (fun g40_2 => ?_) (fun g40_2 => ?_)
 replace e47 := ift ((si e39).symm.trans g40_2) e47
 refine cond_t g40_2 (cond_t g40_2 (cond_t g40_2 (cond_t g40_2 (cond_t g40_2 (cond_t g40_2 ?_)))))
 obtain rfl := si hm
 refine EndStep.mk _ ((l17.trans l35).trans l38) ⟨(by rw [← ((si e47).symm).symm] <;> rfl), rfl⟩ (ConvH.of (.cons r2 .nil))
 replace e47 := iff_ ((si e39).symm.trans g40_2) e47
 refine loadn_l m0 rfl (Nat.le_of_ble_eq_true rfl) (cond_f g40_2 ?_)
 obtain ⟨x42, q42, e47⟩ := bnd e47
 refine call_fn (Jan (n' := a) q42 (LiC.mono Jd.R_ok ((l17.trans l35).trans l38) hp0_0)) .nil ?_
 rintro _ K42 _ l42 ⟨rfl, rfl⟩
 refine ⟨⟨((l35.trans l38).trans l42), (ConvH.of (.cons r1 (.cons r0 .nil)))⟩, ?_⟩
 refine cond_f g40_2 (loadn_l m1 rfl (Nat.le_of_ble_eq_true rfl) (cond_f g40_2 ?_))
 obtain ⟨x44, q44, e47⟩ := bnd e47
 refine call_fn (Jan (n' := b) q44 (LiC.mono Jd.R_ok (((l17.trans l35).trans l38).trans l42) hp1_0)) .nil ?_
 rintro _ K44 _ l44 ⟨rfl, rfl⟩
 refine ⟨⟨(((l35.trans l38).trans l42).trans l44), (ConvH.of (.cons r1 (.cons r0 .nil)))⟩, ?_⟩
 refine cond_f g40_2 ?_
 obtain ⟨h45, e47⟩ := chkb e47
 refine int_in h45 (cond_f g40_2 (cond_f g40_2 ?_))
 obtain rfl := si hm
 refine EndStep.mk _ ((((l17.trans l35).trans l38).trans l42).trans l44) ⟨(by rw [← (si e47)] <;> rfl), rfl⟩ (ConvH.of (.cons r2 .nil))
 replace e21 := iff_ g18_1 e21
 refine loadn_l m1 rfl (Nat.le_of_ble_eq_true rfl) (cond_f g18_1 ?_)
 obtain ⟨x20, q20, e21⟩ := bnd e21
 refine call_fn (Jaf (n' := b) q20 (LiC.mono Jd.R_ok l17 hp1_0)) .nil ?_
 rintro _ K20 _ l20 ⟨rfl, rfl⟩
 refine ⟨⟨(l17.trans l20), (ConvH.of (.cons r1 (.cons r0 .nil)))⟩, ?_⟩
 refine cond_f g18_1 ?_
 obtain ⟨x29, e29, hm⟩ := bnd hm
 refine cond_s (fun g22_1 => ?_) (fun g22_1 => ?_)
 replace e29 := ift ((si e21).symm.trans g22_1) e29
 refine cond_t g22_1 (cond_t g22_1 (cond_t g22_1 (cond_t g22_1 (cond_t g22_1 (cond_t g22_1 ?_)))))
 obtain ⟨x33, e33, hm⟩ := bnd hm
 replace e33 := ift (si e29).symm e33
 refine cond_T (cond_T (cond_T (cond_go rfl (cond_T ?_))))
 replace hm := ift (si e33).symm hm
 refine draw_go ⟨⟨[], false⟩, _, [(_, _), (_, _)]⟩ (by kernel_rfl) ⟨Hp.Le.refl _, (ConvH.of (.cons r1 (.cons r0 .nil)))⟩ ?_
 refine loadn_l m0 rfl (Nat.le_of_ble_eq_true rfl) ?_
 obtain ⟨x35, q35, hm⟩ := bnd hm
 refine call_fn (Jaf (n' := a) q35 (LiC.mono Jd.R_ok (l17.trans l20) hp0_0)) .nil ?_
 rintro _ K35 _ l35 ⟨rfl, rfl⟩
 refine ⟨⟨l35, (ConvH.of (.cons r1 (.cons r0 .nil)))⟩, ?_⟩
 obtain ⟨x39, e39, hm⟩ := bnd hm
 refine cond_s (fun g36_2 => ?_) (fun g36_2 => ?_)
 replace e39 := ift g36_2 e39
 refine cond_t g36_2 (cond_t g36_2 ?_)
 obtain ⟨x47, e47, hm⟩ := bnd hm
 replace e47 := ift (si e39).symm e47
 refine cond_T (cond_T (cond_T (cond_T (cond_T (cond_T ?_)))))
 refine cond_T ?_
 obtain rfl := si hm
 refine EndStep.mk _ ((l17.trans l20).trans l35) ⟨(by rw [← ((si e47).symm).symm] <;> rfl), rfl⟩ (ConvH.of (.cons r2 .nil))
 replace e39 := iff_ g36_2 e39
 refine loadn_l m1 rfl (Nat.le_of_ble_eq_true rfl) (cond_f g36_2 ?_)
 obtain ⟨x38, q38, e39⟩ := bnd e39
 refine call_fn (Jaf (n' := b) q38 (LiC.mono Jd.R_ok ((l17.trans l20).trans l35) hp1_0)) .nil ?_
 rintro _ K38 _ l38 ⟨rfl, rfl⟩
 refine ⟨⟨(l35.trans l38), (ConvH.of (.cons r1 (.cons r0 .nil)))⟩, ?_⟩
 refine cond_f g36_2 ?_
 obtain ⟨x47, e47, hm⟩ := bnd hm
 refine cond_s (fun g40_2 => ?_) (fun g40_2 => ?_)
 replace e47 := ift ((si e39).symm.trans g40_2) e47
 refine cond_t g40_2 (cond_t g40_2 (cond_t g40_2 (cond_t g40_2 (cond_t g40_2 (cond_t g40_2 ?_)))))
 obtain rfl := si hm
 refine EndStep.mk _ (((l17.trans l20).trans l35).trans l38) ⟨(by rw [← ((si e47).symm).symm] <;> rfl), rfl⟩ (ConvH.of (.cons r2 .nil))
 replace e47 := iff_ ((si e39).symm.trans g40_2) e47
 refine loadn_l m0 rfl (Nat.le_of_ble_eq_true rfl) (cond_f g40_2 ?_)
 obtain ⟨x42, q42, e47⟩ := bnd e47
 refine call_fn (Jan (n' := a) q42 (LiC.mono Jd.R_ok (((l17.trans l20).trans l35).trans l38) hp0_0)) .nil ?_
 rintro _ K42 _ l42 ⟨rfl, rfl⟩
 refine ⟨⟨((l35.trans l38).trans l42), (ConvH.of (.cons r1 (.cons r0 .nil)))⟩, ?_⟩
 refine cond_f g40_2 (loadn_l m1 rfl (Nat.le_of_ble_eq_true rfl) (cond_f g40_2 ?_))
 obtain ⟨x44, q44, e47⟩ := bnd e47
 refine call_fn (Jan (n' := b) q44 (LiC.mono Jd.R_ok ((((l17.trans l20).trans l35).trans l38).trans l42) hp1_0)) .nil ?_
 rintro _ K44 _ l44 ⟨rfl, rfl⟩
 refine ⟨⟨(((l35.trans l38).trans l42).trans l44), (ConvH.of (.cons r1 (.cons r0 .nil)))⟩, ?_⟩
 refine cond_f g40_2 ?_
 obtain ⟨h45, e47⟩ := chkb e47
 refine int_in h45 (cond_f g40_2 (cond_f g40_2 ?_))
 obtain rfl := si hm
 refine EndStep.mk _ (((((l17.trans l20).trans l35).trans l38).trans l42).trans l44) ⟨(by rw [← (si e47)] <;> rfl), rfl⟩ (ConvH.of (.cons r2 .nil))
 replace e29 := iff_ ((si e21).symm.trans g22_1) e29
 refine loadn_l m0 rfl (Nat.le_of_ble_eq_true rfl) (cond_f g22_1 ?_)
 obtain ⟨x24, q24, e29⟩ := bnd e29
 refine call_fn (Jan (n' := a) q24 (LiC.mono Jd.R_ok (l17.trans l20) hp0_0)) .nil ?_
 rintro _ K24 _ l24 ⟨rfl, rfl⟩
 refine ⟨⟨((l17.trans l20).trans l24), (ConvH.of (.cons r1 (.cons r0 .nil)))⟩, ?_⟩
 refine cond_f g22_1 (loadn_l m1 rfl (Nat.le_of_ble_eq_true rfl) (cond_f g22_1 ?_))
 obtain ⟨x26, q26, e29⟩ := bnd e29
 refine call_fn (Jan (n' := b) q26 (LiC.mono Jd.R_ok ((l17.trans l20).trans l24) hp1_0)) .nil ?_
 rintro _ K26 _ l26 ⟨rfl, rfl⟩
 refine ⟨⟨(((l17.trans l20).trans l24).trans l26), (ConvH.of (.cons r1 (.cons r0 .nil)))⟩, ?_⟩
 refine cond_f g22_1 ?_
 obtain ⟨h27, e29⟩ := chkb e29
 refine int_in h27 (cond_f g22_1 (cond_f g22_1 ?_))
 obtain ⟨x33, e33, hm⟩ := bnd hm
 refine cond_s (fun g30_1 => ?_) (fun g30_1 => ?_)
 replace e33 := ift ((si e29).symm.trans g30_1) e33
 refine cond_t g30_1 (cond_t g30_1 (cond_go rfl (cond_T ?_)))
 replace hm := ift (si e33).symm hm
 refine draw_go ⟨⟨[], false⟩, _, [(_, _), (_, _)]⟩ (by kernel_rfl) ⟨Hp.Le.refl _, (ConvH.of (.cons r1 (.cons r0 .nil)))⟩ ?_
 refine loadn_l m0 rfl (Nat.le_of_ble_eq_true rfl) ?_
 obtain ⟨x35, q35, hm⟩ := bnd hm
 refine call_fn (Jaf (n' := a) q35 (LiC.mono Jd.R_ok (((l17.trans l20).trans l24).trans l26) hp0_0)) .nil ?_
 rintro _ K35 _ l35 ⟨rfl, rfl⟩
 refine ⟨⟨l35, (ConvH.of (.cons r1 (.cons r0 .nil)))⟩, ?_⟩
 obtain ⟨x39, e39, hm⟩ := bnd hm
 refine cond_s (fun g36_2 => ?_) (fun g36_2 => ?_)
 replace e39 := ift g36_2 e39
 refine cond_t g36_2 (cond_t g36_2 ?_)
 obtain ⟨x47, e47, hm⟩ := bnd hm
 replace e47 := ift (si e39).symm e47
 refine cond_T (cond_T (cond_T (cond_T (cond_T (cond_T ?_)))))
 refine cond_T ?_
 obtain rfl := si hm
 refine EndStep.mk _ ((((l17.trans l20).trans l24).trans l26).trans l35) ⟨(by rw [← ((si e47).symm).symm] <;> rfl), rfl⟩ (ConvH.of (.cons r2 .nil))
 replace e39 := iff_ g36_2 e39
 refine loadn_l m1 rfl (Nat.le_of_ble_eq_true rfl) (cond_f g36_2 ?_)
 obtain ⟨x38, q38, e39⟩ := bnd e39
 refine call_fn (Jaf (n' := b) q38 (LiC.mono Jd.R_ok ((((l17.trans l20).trans l24).trans l26).trans l35) hp1_0)) .nil ?_
 rintro _ K38 _ l38 ⟨rfl, rfl⟩
 refine ⟨⟨(l35.trans l38), (ConvH.of (.cons r1 (.cons r0 .nil)))⟩, ?_⟩
 refine cond_f g36_2 ?_
 obtain ⟨x47, e47, hm⟩ := bnd hm
 refine cond_s (fun g40_2 => ?_) (fun g40_2 => ?_)
 replace e47 := ift ((si e39).symm.trans g40_2) e47
 refine cond_t g40_2 (cond_t g40_2 (cond_t g40_2 (cond_t g40_2 (cond_t g40_2 (cond_t g40_2 ?_)))))
 obtain rfl := si hm
 refine EndStep.mk _ (((((l17.trans l20).trans l24).trans l26).trans l35).trans l38) ⟨(by rw [← ((si e47).symm).symm] <;> rfl), rfl⟩ (ConvH.of (.cons r2 .nil))
 replace e47 := iff_ ((si e39).symm.trans g40_2) e47
 refine loadn_l m0 rfl (Nat.le_of_ble_eq_true rfl) (cond_f g40_2 ?_)
 obtain ⟨x42, q42, e47⟩ := bnd e47
 refine call_fn (Jan (n' := a) q42 (LiC.mono Jd.R_ok (((((l17.trans l20).trans l24).trans l26).trans l35).trans l38) hp0_0)) .nil ?_
 rintro _ K42 _ l42 ⟨rfl, rfl⟩
 refine ⟨⟨((l35.trans l38).trans l42), (ConvH.of (.cons r1 (.cons r0 .nil)))⟩, ?_⟩
 refine cond_f g40_2 (loadn_l m1 rfl (Nat.le_of_ble_eq_true rfl) (cond_f g40_2 ?_))
 obtain ⟨x44, q44, e47⟩ := bnd e47
 refine call_fn (Jan (n' := b) q44 (LiC.mono Jd.R_ok ((((((l17.trans l20).trans l24).trans l26).trans l35).trans l38).trans l42) hp1_0)) .nil ?_
 rintro _ K44 _ l44 ⟨rfl, rfl⟩
 refine ⟨⟨(((l35.trans l38).trans l42).trans l44), (ConvH.of (.cons r1 (.cons r0 .nil)))⟩, ?_⟩
 refine cond_f g40_2 ?_
 obtain ⟨h45, e47⟩ := chkb e47
 refine int_in h45 (cond_f g40_2 (cond_f g40_2 ?_))
 obtain rfl := si hm
 refine EndStep.mk _ (((((((l17.trans l20).trans l24).trans l26).trans l35).trans l38).trans l42).trans l44) ⟨(by rw [← (si e47)] <;> rfl), rfl⟩ (ConvH.of (.cons r2 .nil))
 replace e33 := iff_ ((si e29).symm.trans g30_1) e33
 obtain ⟨x31, q31, e33⟩ := bnd e33
 refine call_fn (JbO q31 (hG0.mono (((l17.trans l20).trans l24).trans l26)) (hG1.mono (((l17.trans l20).trans l24).trans l26)) (hG2.mono (((l17.trans l20).trans l24).trans l26)) (hG3.mono (((l17.trans l20).trans l24).trans l26))) .nil ?_
 rintro _ K31 _ l31 ⟨rfl, rfl⟩
 refine ⟨⟨((((l17.trans l20).trans l24).trans l26).trans l31), (ConvH.of (.cons r1 (.cons r0 .nil)))⟩, ?_⟩
 refine cond_f g30_1 (un_not (cond_f g30_1 (cond_go rfl ?_)))
 refine cond_s (fun w33 => ?_) (fun w33 => ?_)
 replace hm := ift ((si e33).symm.trans (not_t (ni_t w33))) hm
 refine draw_go ⟨⟨[], false⟩, _, [(_, _), (_, _)]⟩ (by kernel_rfl) ⟨Hp.Le.refl _, (ConvH.of (.cons r1 (.cons r0 .nil)))⟩ ?_
 refine loadn_l m0 rfl (Nat.le_of_ble_eq_true rfl) ?_
 obtain ⟨x35, q35, hm⟩ := bnd hm
 refine call_fn (Jaf (n' := a) q35 (LiC.mono Jd.R_ok ((((l17.trans l20).trans l24).trans l26).trans l31) hp0_0)) .nil ?_
 rintro _ K35 _ l35 ⟨rfl, rfl⟩
 refine ⟨⟨l35, (ConvH.of (.cons r1 (.cons r0 .nil)))⟩, ?_⟩
 obtain ⟨x39, e39, hm⟩ := bnd hm
 refine cond_s (fun g36_2 => ?_) (fun g36_2 => ?_)
 replace e39 := ift g36_2 e39
 refine cond_t g36_2 (cond_t g36_2 ?_)
 obtain ⟨x47, e47, hm⟩ := bnd hm
 replace e47 := ift (si e39).symm e47
 refine cond_T (cond_T (cond_T (cond_T (cond_T (cond_T ?_)))))
 refine cond_T ?_
 obtain rfl := si hm
 refine EndStep.mk _ (((((l17.trans l20).trans l24).trans l26).trans l31).trans l35) ⟨(by rw [← ((si e47).symm).symm] <;> rfl), rfl⟩ (ConvH.of (.cons r2 .nil))
 replace e39 := iff_ g36_2 e39
 refine loadn_l m1 rfl (Nat.le_of_ble_eq_true rfl) (cond_f g36_2 ?_)
 obtain ⟨x38, q38, e39⟩ := bnd e39
 refine call_fn (Jaf (n' := b) q38 (LiC.mono Jd.R_ok (((((l17.trans l20).trans l24).trans l26).trans l31).trans l35) hp1_0)) .nil ?_
 rintro _ K38 _ l38 ⟨rfl, rfl⟩
 refine ⟨⟨(l35.trans l38), (ConvH.of (.cons r1 (.cons r0 .nil)))⟩, ?_⟩
 refine cond_f g36_2 ?_
 obtain ⟨x47, e47, hm⟩ := bnd hm
 refine cond_s (fun g40_2 => ?_) (fun g40_2 => ?_)
 replace e47 := ift ((si e39).symm.trans g40_2) e47
 refine cond_t g40_2 (cond_t g40_2 (cond_t g40_2 (cond_t g40_2 (cond_t g40_2 (cond_t g40_2 ?_)))))
 obtain rfl := si hm
 refine EndStep.mk _ ((((((l17.trans l20).trans l24).trans l26).trans l31).trans l35).trans l38) ⟨(by rw [← ((si e47).symm).symm] <;> rfl), rfl⟩ (ConvH.of (.cons r2 .nil))
 replace e47 := iff_ ((si e39).symm.trans g40_2) e47
 refine loadn_l m0 rfl (Nat.le_of_ble_eq_true rfl) (cond_f g40_2 ?_)
 obtain ⟨x42, q42, e47⟩ := bnd e47
 refine call_fn (Jan (n' := a) q42 (LiC.mono Jd.R_ok ((((((l17.trans l20).trans l24).trans l26).trans l31).trans l35).trans l38) hp0_0)) .nil ?_
 rintro _ K42 _ l42 ⟨rfl, rfl⟩
 refine ⟨⟨((l35.trans l38).trans l42), (ConvH.of (.cons r1 (.cons r0 .nil)))⟩, ?_⟩
 refine cond_f g40_2 (loadn_l m1 rfl (Nat.le_of_ble_eq_true rfl) (cond_f g40_2 ?_))
 obtain ⟨x44, q44, e47⟩ := bnd e47
 refine call_fn (Jan (n' := b) q44 (LiC.mono Jd.R_ok (((((((l17.trans l20).trans l24).trans l26).trans l31).trans l35).trans l38).trans l42) hp1_0)) .nil ?_
 rintro _ K44 _ l44 ⟨rfl, rfl⟩
 refine ⟨⟨(((l35.trans l38).trans l42).trans l44), (ConvH.of (.cons r1 (.cons r0 .nil)))⟩, ?_⟩
 refine cond_f g40_2 ?_
 obtain ⟨h45, e47⟩ := chkb e47
 refine int_in h45 (cond_f g40_2 (cond_f g40_2 ?_))
 obtain rfl := si hm
 refine EndStep.mk _ ((((((((l17.trans l20).trans l24).trans l26).trans l31).trans l35).trans l38).trans l42).trans l44) ⟨(by rw [← (si e47)] <;> rfl), rfl⟩ (ConvH.of (.cons r2 .nil))
 replace hm := iff_ ((si e33).symm.trans (not_f (ni_f w33))) hm
 refine draw_go ⟨⟨[], false⟩, _, [(_, _), (_, _)]⟩ (by kernel_rfl) ⟨Hp.Le.refl _, (ConvH.of (.cons r1 (.cons r0 .nil)))⟩ ?_
 refine bsOR (R := Jd.R) (len := 0) (l := ([] : List Jd)) (css := []) (cl := []) Jd.R_ok elT37 rfl rfl LR.nil rfl rfl rfl ?_ fun b48 => ?_
 · conv => whnf
   first | done | rfl
 refine ⟨⟨(Hp.Le.refl _), (ConvH.of (.cons r2 (.cons r1 .nil)))⟩, ?_⟩
 refine Jb rfl (load1_l m0 rfl rfl ?_)
 obtain ⟨h51, hm⟩ := chkb hm
 refine apRk r0 (show LR Jd.R _ [] ([] : List Jd) from LR.nil) rfl elT37 rfl (LiC.mono Jd.R_ok ((((l17.trans l20).trans l24).trans l26).trans l31) hp0_0) rfl h51 ?_
 intro a51 c51 s51 r_51 o51
 refine ⟨⟨(Hp.Le.refl _), (ConvH.of (.cons r2 (.cons r1 .nil)))⟩, ?_⟩
 refine Jb rfl (load1_l m1 rfl rfl ?_)
 obtain ⟨h54, hm⟩ := chkb hm
 refine apRk r0 r_51 rfl elT37 rfl (LiC.mono Jd.R_ok ((((l17.trans l20).trans l24).trans l26).trans l31) hp1_0) rfl h54 ?_
 intro a54 c54 s54 r_54 o54
 refine ⟨⟨(Hp.Le.refl _), (ConvH.of (.cons r2 (.cons r1 .nil)))⟩, ?_⟩
 refine Jb rfl (RStep.of (load1_s r2 rfl rfl ?_))
 obtain ⟨x58, q58, hm⟩ := bnd hm
 refine call_fn (JaY q58 (LiC.mono Jd.R_ok ((((l17.trans l20).trans l24).trans l26).trans l31) hp0_0) rfl) .nil ?_
 rintro _ K58 _ l58 ⟨a58_0, c58_0, rfl, h58_0, rfl⟩
 obtain ⟨x59, q59, hm⟩ := bnd hm
 refine call_fn (Jbo (n' := x58) q59 h58_0) .nil ?_
 rintro _ K59 _ l59 ⟨a59_0, c59_0, s59_0, rfl, h59_0, r59_0, rfl⟩
 obtain ⟨x60, q60, hm⟩ := bnd hm
 refine fzFR Tryd.call13 Ja.R_ok r0 r59_0 fun Kf60_0_0 lf60_0_0 ff60_0_0 => ?_
 refine call_fn (JaM (program := x59) q60 ff60_0_0 (hG0.mono (((((((l17.trans l20).trans l24).trans l26).trans l31).trans l58).trans l59).trans lf60_0_0)) (hG1.mono (((((((l17.trans l20).trans l24).trans l26).trans l31).trans l58).trans l59).trans lf60_0_0)) (hG2.mono (((((((l17.trans l20).trans l24).trans l26).trans l31).trans l58).trans l59).trans lf60_0_0)) (hG3.mono (((((((l17.trans l20).trans l24).trans l26).trans l31).trans l58).trans l59).trans lf60_0_0))) .nil ?_
 rintro _ K60 _ l60 ⟨a60_0, c60_0, rfl, h60_0, rfl⟩
 refine Jb rfl (RStep.of (load1_s r2 rfl rfl ?_))
 obtain ⟨x66, q66, hm⟩ := bnd hm
 refine call_fn (JaY q66 (LiC.mono Jd.R_ok ((((((((l17.trans l20).trans l24).trans l26).trans l31).trans l58).trans l59).trans lf60_0_0).trans l60) hp1_0) rfl) .nil ?_
 rintro _ K66 _ l66 ⟨a66_0, c66_0, rfl, h66_0, rfl⟩
 obtain ⟨x67, q67, hm⟩ := bnd hm
 refine call_fn (Jbo (n' := x66) q67 h66_0) .nil ?_
 rintro _ K67 _ l67 ⟨a67_0, c67_0, s67_0, rfl, h67_0, r67_0, rfl⟩
 obtain ⟨x68, q68, hm⟩ := bnd hm
 refine fzFR Tryd.call13 Ja.R_ok r0 r67_0 fun Kf68_0_0 lf68_0_0 ff68_0_0 => ?_
 refine call_fn (JaM (program := x67) q68 ff68_0_0 (hG0.mono (((((((((((l17.trans l20).trans l24).trans l26).trans l31).trans l58).trans l59).trans lf60_0_0).trans l60).trans l66).trans l67).trans lf68_0_0)) (hG1.mono (((((((((((l17.trans l20).trans l24).trans l26).trans l31).trans l58).trans l59).trans lf60_0_0).trans l60).trans l66).trans l67).trans lf68_0_0)) (hG2.mono (((((((((((l17.trans l20).trans l24).trans l26).trans l31).trans l58).trans l59).trans lf60_0_0).trans l60).trans l66).trans l67).trans lf68_0_0)) (hG3.mono (((((((((((l17.trans l20).trans l24).trans l26).trans l31).trans l58).trans l59).trans lf60_0_0).trans l60).trans l66).trans l67).trans lf68_0_0))) .nil ?_
 rintro _ K68 _ l68 ⟨a68_0, c68_0, rfl, h68_0, rfl⟩
 obtain ⟨x73, q73, hm⟩ := bnd hm
 refine fzFR Tryd.call15 Jd.R_ok r2 (LR.mono Jd.R_ok (((((((l58.trans l59).trans lf60_0_0).trans l60).trans l66).trans l67).trans lf68_0_0).trans l68) r_54) fun K73_0 l73_0 f73_0 => ?_
 refine call_fn (JaY q73 f73_0 rfl) .nil ?_
 rintro _ K73 _ l73 ⟨a73_0, c73_0, rfl, h73_0, rfl⟩
 obtain ⟨x74, q74, hm⟩ := bnd hm
 refine call_fn (Jbo (n' := x73) q74 h73_0) .nil ?_
 rintro _ K74 _ l74 ⟨a74_0, c74_0, s74_0, rfl, h74_0, r74_0, rfl⟩
 obtain ⟨x75, q75, hm⟩ := bnd hm
 refine fzFR Tryd.call13 Ja.R_ok r0 r74_0 fun Kf75_0_0 lf75_0_0 ff75_0_0 => ?_
 refine call_fn (JaM (program := x74) q75 ff75_0_0 (hG0.mono ((((((((((((((((l17.trans l20).trans l24).trans l26).trans l31).trans l58).trans l59).trans lf60_0_0).trans l60).trans l66).trans l67).trans lf68_0_0).trans l68).trans l73_0).trans l73).trans l74).trans lf75_0_0)) (hG1.mono ((((((((((((((((l17.trans l20).trans l24).trans l26).trans l31).trans l58).trans l59).trans lf60_0_0).trans l60).trans l66).trans l67).trans lf68_0_0).trans l68).trans l73_0).trans l73).trans l74).trans lf75_0_0)) (hG2.mono ((((((((((((((((l17.trans l20).trans l24).trans l26).trans l31).trans l58).trans l59).trans lf60_0_0).trans l60).trans l66).trans l67).trans lf68_0_0).trans l68).trans l73_0).trans l73).trans l74).trans lf75_0_0)) (hG3.mono ((((((((((((((((l17.trans l20).trans l24).trans l26).trans l31).trans l58).trans l59).trans lf60_0_0).trans l60).trans l66).trans l67).trans lf68_0_0).trans l68).trans l73_0).trans l73).trans l74).trans lf75_0_0))) .nil ?_
 rintro _ K75 _ l75 ⟨a75_0, c75_0, rfl, h75_0, rfl⟩
 refine neq_err rfl ?_
 refine cond_s (fun g80_7 => ?_) (fun g80_7 => ?_)
 refine cond_t g80_7 (cond_t g80_7 (cond_T (cond_T (cond_T (cond_go rfl ?_)))))
 refine cond_T ?_
 replace hm := ift (or_t (or_t g80_7)) hm
 obtain rfl := si hm
 refine EndStep.mk _ (((((((((((((((((l17.trans l20).trans l24).trans l26).trans l31).trans l58).trans l59).trans lf60_0_0).trans l60).trans l66).trans l67).trans lf68_0_0).trans l68).trans l73_0).trans l73).trans l74).trans lf75_0_0).trans l75) ⟨rfl, rfl⟩ (ConvH.of (.cons r5 .nil))
 refine cond_f g80_7 (neq_err rfl (cond_f g80_7 ?_))
 refine cond_s (fun g84_7 => ?_) (fun g84_7 => ?_)
 refine cond_t g84_7 (cond_t g84_7 (cond_go rfl (cond_T ?_)))
 replace hm := ift (or_t (or_u g80_7 g84_7)) hm
 obtain rfl := si hm
 refine EndStep.mk _ (((((((((((((((((l17.trans l20).trans l24).trans l26).trans l31).trans l58).trans l59).trans lf60_0_0).trans l60).trans l66).trans l67).trans lf68_0_0).trans l68).trans l73_0).trans l73).trans l74).trans lf75_0_0).trans l75) ⟨rfl, rfl⟩ (ConvH.of (.cons r5 .nil))
 refine cond_f g84_7 (neq_err rfl (cond_f g84_7 (cond_go rfl ?_)))
 refine cond_s (fun w87 => ?_) (fun w87 => ?_)
 replace hm := ift (or_u (or_f g80_7 g84_7) w87) hm
 obtain rfl := si hm
 refine EndStep.mk _ (((((((((((((((((l17.trans l20).trans l24).trans l26).trans l31).trans l58).trans l59).trans lf60_0_0).trans l60).trans l66).trans l67).trans lf68_0_0).trans l68).trans l73_0).trans l73).trans l74).trans lf75_0_0).trans l75) ⟨rfl, rfl⟩ (ConvH.of (.cons r5 .nil))
 replace hm := iff_ (or_f (or_f g80_7 g84_7) w87) hm
 refine RStep.of (len_slice rfl (eq_int ?_))
 obtain ⟨x101, e101, hm⟩ := bnd hm
 refine cond_s (fun g91_9 => ?_) (fun g91_9 => ?_)
 replace e101 := ift g91_9 e101
 refine cond_t g91_9 (cond_t g91_9 (cond_t g91_9 (cond_t g91_9 (cond_t g91_9 (cond_t g91_9 ?_)))))
 refine cond_t g91_9 (cond_t g91_9 (cond_t g91_9 (cond_go rfl (cond_T ?_))))
 replace hm := ift (si e101).symm hm
 obtain rfl := si hm
 refine EndStep.mk _ (((((((((((((((((l17.trans l20).trans l24).trans l26).trans l31).trans l58).trans l59).trans lf60_0_0).trans l60).trans l66).trans l67).trans lf68_0_0).trans l68).trans l73_0).trans l73).trans l74).trans lf75_0_0).trans l75) ⟨rfl, rfl⟩ (ConvH.of (.cons r5 .nil))
 replace e101 := iff_ g91_9 e101
 refine cond_f g91_9 (RStep.of (len_slice rfl (cond_f g91_9 (cond_f g91_9 (RStep.of (len_slice rfl (cond_f g91_9 ?_)))))))
 obtain ⟨h96, e101⟩ := chkb e101
 refine int_in h96 (cond_f g91_9 (cond_f g91_9 (RStep.of (len_slice rfl (cond_f g91_9 ?_)))))
 obtain ⟨h99, e101⟩ := chkb e101
 refine int_in h99 (cond_f g91_9 (neq_int (cond_f g91_9 (cond_go rfl ?_))))
 refine cond_s (fun w101 => ?_) (fun w101 => ?_)
 replace hm := ift ((si e101).symm.trans w101) hm
 obtain rfl := si hm
 refine EndStep.mk _ (((((((((((((((((l17.trans l20).trans l24).trans l26).trans l31).trans l58).trans l59).trans lf60_0_0).trans l60).trans l66).trans l67).trans lf68_0_0).trans l68).trans l73_0).trans l73).trans l74).trans lf75_0_0).trans l75) ⟨rfl, rfl⟩ (ConvH.of (.cons r5 .nil))
 replace hm := iff_ ((si e101).symm.trans w101) hm
 refine RStep.of (len_slice rfl ?_)
 obtain ⟨h104, hm⟩ := chkb hm
 refine int_in h104 (RStep.of (len_slice rfl ?_))
 obtain ⟨hk0, hm⟩ := chkb hm
 obtain ⟨s0, hl0, hm⟩ := bnd hm
 refine code_cut (σ := (Unit)) [4, 13, 14, 15, 107, 108, 109, 110, 111, 112, 113, 114, 115, 116, 117, 118, 119, 120, 121, 122, 123, 124, 125, 126, 127, 128, 129, 130, 131, 132, 133, 134, 135, 136, 137, 138, 139, 140, 141, 142, 143, 144, 145, 146, 147, 148, 149, 150, 151, 152, 153, 154, 155, 156, 157, 158] (fun t0 => []) (fun t0 => [OwnL Jh.enc a75_0 31 3 c75_0 x75.1, OwnL Jh.enc a68_0 31 3 c68_0 x68.1, OwnL Jh.enc a60_0 31 3 c60_0 x60.1, Cells b3 39 [.int .i64 b.Kind, str b.Text, .slice ap1_0 b.Kids.length cp1_0, .int .i64 b.Line], Cells b2 39 [.int .i64 a.Kind, str a.Text, .slice ap0_0 a.Kids.length cp0_0, .int .i64 a.Line], F]) (fun zz K1 => match zz with | t0 => s0 = Fl.go t0) ?_ ?_
 refine block_go rfl ?_
 refine loop_rule (σ := Nat) [4, 13, 14, 15, 107, 108, 109, 110, 111, 112, 113, 114, 115, 116, 117, 118, 119, 120, 121, 122, 123, 124, 125, 126, 127, 128, 129, 130, 131, 132, 133, 134, 135, 136, 137, 138, 139, 140, 141, 142, 143, 144, 145, 146, 147, 148, 149, 150, 151, 152, 153, 154, 155, 156, 157, 158] (fun i0 => [(107, .int .i64 (i0 : Int))]) (fun i0 => [OwnL Jh.enc a75_0 31 3 c75_0 x75.1, OwnL Jh.enc a68_0 31 3 c68_0 x68.1, OwnL Jh.enc a60_0 31 3 c60_0 x60.1, Cells b3 39 [.int .i64 b.Kind, str b.Text, .slice ap1_0 b.Kids.length cp1_0, .int .i64 b.Line], Cells b2 39 [.int .i64 a.Kind, str a.Text, .slice ap0_0 a.Kids.length cp0_0, .int .i64 a.Line], F]) (fun zz K1 => match zz with | i0 => JM x60 x68 (x75.1.drop i0) i0 = some s0) (fun zz => x75.1.length - zz) (0) rfl ⟨rfl, trivial⟩ (ConvH.of (.cons r0 (.cons r0 (.cons r0 (.cons r0 (.cons r0 (.cons r0 .nil))))))) hl0 ?_
 clear hl0
 rintro i0 Kb0 lk0 hl0 j0
 conv at hl0 => whnf
 refine cond_go rfl ?_
 refine cond_s (fun w0 => ?_) (fun w0 => ?_)
 obtain ⟨e0, hx0, hd0⟩ := ltx w0
 rw [hd0, JM.eq_2] at hl0
 refine block_go rfl ?_
 refine RStep.ofN (index_addr rfl rfl (hasO h75_0 hx0) (nn _) (lt_ofNE rfl hx0) (RStep.of (ldn_own (i := i0) r0 rfl hx0 rfl rfl ?_)))
 refine alloc_rule rfl ?_
 intro b14
 refine store_rule r0 rfl ?_
 refine ⟨rfl, rfl, (Nat.le_of_ble_eq_true rfl), ?_⟩
 refine build_struct rfl rfl ?_
 refine alloc_rule rfl ?_
 intro b15
 refine store_rule r0 rfl ?_
 refine ⟨rfl, rfl, (Nat.le_of_ble_eq_true rfl), ?_⟩
 refine cond_go rfl ?_
 refine cond_s (fun w115 => ?_) (fun w115 => ?_)
 replace hl0 := ift w115 hl0
 obtain ⟨x118, l118, k118, hl0⟩ := ixb hl0
 refine RStep.ofN (index_addr rfl rfl (hasO h60_0 k118) l118 (lt_ofE rfl l118 k118) (RStep.of (ldn_own (i := ((i0 : Int)).toNat) r4 rfl k118 rfl rfl ?_)))
 refine store_rule r0 rfl ?_
 refine ⟨rfl, rfl, (Nat.le_of_ble_eq_true rfl), ?_⟩
 refine Jb rfl (RStep.of (load1_s r1 rfl rfl (Jb rfl (RStep.of (load1_s r0 rfl rfl (neq_int ?_))))))
 refine cond_s (fun g144_21 => ?_) (fun g144_21 => ?_)
 refine cond_t g144_21 (cond_t g144_21 (cond_t g144_21 (cond_t g144_21 (cond_t g144_21 (cond_T ?_)))))
 refine cond_T (cond_T (cond_T (cond_T (cond_T (cond_go rfl ?_)))))
 refine cond_T ?_
 replace hl0 := ift (or_t (or_t g144_21)) hl0
 obtain rfl := si hl0
 replace hm := elr hm
 obtain rfl := si hm
 refine EndStep.mk _ ((((((((((((((((((l17.trans l20).trans l24).trans l26).trans l31).trans l58).trans l59).trans lf60_0_0).trans l60).trans l66).trans l67).trans lf68_0_0).trans l68).trans l73_0).trans l73).trans l74).trans lf75_0_0).trans l75).trans lk0) ⟨rfl, rfl⟩ (ConvH.of (.cons r7 .nil))
 refine Jb rfl (cond_f g144_21 (RStep.of (load1_s r1 rfl rfl (cond_f g144_21 (Jb rfl (cond_f g144_21 ?_))))))
 refine RStep.of (load1_s r0 rfl rfl (cond_f g144_21 (neq_int (cond_f g144_21 ?_))))
 refine cond_s (fun g151_21 => ?_) (fun g151_21 => ?_)
 refine cond_t g151_21 (cond_t g151_21 (cond_t g151_21 (cond_t g151_21 (cond_t g151_21 (cond_go rfl ?_)))))
 refine cond_T ?_
 replace hl0 := ift (or_t (or_u g144_21 g151_21)) hl0
 obtain rfl := si hl0
 replace hm := elr hm
 obtain rfl := si hm
 refine EndStep.mk _ ((((((((((((((((((l17.trans l20).trans l24).trans l26).trans l31).trans l58).trans l59).trans lf60_0_0).trans l60).trans l66).trans l67).trans lf68_0_0).trans l68).trans l73_0).trans l73).trans l74).trans lf75_0_0).trans l75).trans lk0) ⟨rfl, rfl⟩ (ConvH.of (.cons r7 .nil))
 refine Jb rfl (cond_f g151_21 (RStep.of (load1_s r1 rfl rfl (cond_f g151_21 (Jb rfl (cond_f g151_21 ?_))))))
 refine RStep.of (load1_s r0 rfl rfl (cond_f g151_21 (neq_str (cond_f g151_21 (cond_go rfl ?_)))))
 refine cond_s (fun w157 => ?_) (fun w157 => ?_)
 replace hl0 := ift (or_u (or_f g144_21 g151_21) w157) hl0
 obtain rfl := si hl0
 replace hm := elr hm
 obtain rfl := si hm
 refine EndStep.mk _ ((((((((((((((((((l17.trans l20).trans l24).trans l26).trans l31).trans l58).trans l59).trans lf60_0_0).trans l60).trans l66).trans l67).trans lf68_0_0).trans l68).trans l73_0).trans l73).trans l74).trans lf75_0_0).trans l75).trans lk0) ⟨rfl, rfl⟩ (ConvH.of (.cons r7 .nil))
 replace hl0 := iff_ (or_f (or_f g144_21 g151_21) w157) hl0
 refine int_in (cntz hx0 hk0) ?_
 refine RoundStep.mk (i0 + 1) ⟨rfl, trivial⟩ (by repeat (first | exact trivial | refine And.intro rfl ?_)) (ConvH.of (.cons r2 (.cons r2 (.cons r2 (.cons r2 (.cons r2 (.cons r2 .nil))))))) lk0 (ltm hx0) hl0
 replace hl0 := iff_ w115 hl0
 obtain ⟨h123, hl0⟩ := chkb hl0
 refine int_in h123 ?_
 obtain ⟨x124, l124, k124, hl0⟩ := ixb hl0
 refine RStep.ofN (index_addr rfl rfl (hasO h68_0 k124) l124 (lt_ofE rfl l124 k124) (RStep.of (ldn_own (i := (((i0 : Int) - ((x60.1.length : Int) - 1))).toNat) r3 rfl k124 rfl rfl ?_)))
 refine store_rule r0 rfl ?_
 refine ⟨rfl, rfl, (Nat.le_of_ble_eq_true rfl), ?_⟩
 refine Jb rfl (RStep.of (load1_s r0 rfl rfl (eq_int ?_)))
 refine cond_s (fun g129_19 => ?_) (fun g129_19 => ?_)
 refine cond_t g129_19 (cond_t g129_19 (cond_t g129_19 (cond_go rfl (cond_T ?_))))
 replace hl0 := ift (or_t g129_19) hl0
 refine Jb rfl (RStep.of (load1_s r0 rfl rfl ?_))
 obtain ⟨h137, hl0⟩ := chkb hl0
 refine int_in h137 (Jb rfl ?_)
 refine store_rule r0 rfl ?_
 refine ⟨rfl, rfl, (Nat.le_of_ble_eq_true rfl), ?_⟩
 refine Jb rfl (RStep.of (load1_s r1 rfl rfl (Jb rfl (RStep.of (load1_s r0 rfl rfl (neq_int ?_))))))
 refine cond_s (fun g144_21 => ?_) (fun g144_21 => ?_)
 refine cond_t g144_21 (cond_t g144_21 (cond_t g144_21 (cond_t g144_21 (cond_t g144_21 (cond_T ?_)))))
 refine cond_T (cond_T (cond_T (cond_T (cond_T (cond_go rfl ?_)))))
 refine cond_T ?_
 replace hl0 := ift (or_t (or_t g144_21)) hl0
 obtain rfl := si hl0
 replace hm := elr hm
 obtain rfl := si hm
 refine EndStep.mk _ ((((((((((((((((((l17.trans l20).trans l24).trans l26).trans l31).trans l58).trans l59).trans lf60_0_0).trans l60).trans l66).trans l67).trans lf68_0_0).trans l68).trans l73_0).trans l73).trans l74).trans lf75_0_0).trans l75).trans lk0) ⟨rfl, rfl⟩ (ConvH.of (.cons r7 .nil))
 refine Jb rfl (cond_f g144_21 (RStep.of (load1_s r1 rfl rfl (cond_f g144_21 (Jb rfl (cond_f g144_21 ?_))))))
 refine RStep.of (load1_s r0 rfl rfl (cond_f g144_21 (neq_int (cond_f g144_21 ?_))))
 refine cond_s (fun g151_21 => ?_) (fun g151_21 => ?_)
 refine cond_t g151_21 (cond_t g151_21 (cond_t g151_21 (cond_t g151_21 (cond_t g151_21 (cond_go rfl ?_)))))
 refine cond_T ?_
 replace hl0 := ift (or_t (or_u g144_21 g151_21)) hl0
 obtain rfl := si hl0
 replace hm := elr hm
 obtain rfl := si hm
 refine EndStep.mk _ ((((((((((((((((((l17.trans l20).trans l24).trans l26).trans l31).trans l58).trans l59).trans lf60_0_0).trans l60).trans l66).trans l67).trans lf68_0_0).trans l68).trans l73_0).trans l73).trans l74).trans lf75_0_0).trans l75).trans lk0) ⟨rfl, rfl⟩ (ConvH.of (.cons r7 .nil))
 refine Jb rfl (cond_f g151_21 (RStep.of (load1_s r1 rfl rfl (cond_f g151_21 (Jb rfl (cond_f g151_21 ?_))))))
 refine RStep.of (load1_s r0 rfl rfl (cond_f g151_21 (neq_str (cond_f g151_21 (cond_go rfl ?_)))))
 refine cond_s (fun w157 => ?_) (fun w157 => ?_)
 replace hl0 := ift (or_u (or_f g144_21 g151_21) w157) hl0
 obtain rfl := si hl0
 replace hm := elr hm
 obtain rfl := si hm
 refine EndStep.mk _ ((((((((((((((((((l17.trans l20).trans l24).trans l26).trans l31).trans l58).trans l59).trans lf60_0_0).trans l60).trans l66).trans l67).trans lf68_0_0).trans l68).trans l73_0).trans l73).trans l74).trans lf75_0_0).trans l75).trans lk0) ⟨rfl, rfl⟩ (ConvH.of (.cons r7 .nil))
 replace hl0 := iff_ (or_f (or_f g144_21 g151_21) w157) hl0
 refine int_in (cntz hx0 hk0) ?_
 refine RoundStep.mk (i0 + 1) ⟨rfl, trivial⟩ (by repeat (first | exact trivial | refine And.intro rfl ?_)) (ConvH.of (.cons r2 (.cons r2 (.cons r2 (.cons r2 (.cons r2 (.cons r2 .nil))))))) lk0 (ltm hx0) hl0
 refine Jb rfl (cond_f g129_19 (RStep.of (load1_s r0 rfl rfl (cond_f g129_19 (eq_int (cond_f g129_19 ?_))))))
 refine cond_go rfl ?_
 refine cond_s (fun w133 => ?_) (fun w133 => ?_)
 replace hl0 := ift (or_u g129_19 w133) hl0
 refine Jb rfl (RStep.of (load1_s r0 rfl rfl ?_))
 obtain ⟨h137, hl0⟩ := chkb hl0
 refine int_in h137 (Jb rfl ?_)
 refine store_rule r0 rfl ?_
 refine ⟨rfl, rfl, (Nat.le_of_ble_eq_true rfl), ?_⟩
 refine Jb rfl (RStep.of (load1_s r1 rfl rfl (Jb rfl (RStep.of (load1_s r0 rfl rfl (neq_int ?_))))))
 refine cond_s (fun g144_21 => ?_) (fun g144_21 => ?_)
 refine cond_t g144_21 (cond_t g144_21 (cond_t g144_21 (cond_t g144_21 (cond_t g144_21 (cond_T ?_)))))
 refine cond_T (cond_T (cond_T (cond_T (cond_T (cond_go rfl ?_)))))
 refine cond_T ?_
 replace hl0 := ift (or_t (or_t g144_21)) hl0
 obtain rfl := si hl0
 replace hm := elr hm
 obtain rfl := si hm
 refine EndStep.mk _ ((((((((((((((((((l17.trans l20).trans l24).trans l26).trans l31).trans l58).trans l59).trans lf60_0_0).trans l60).trans l66).trans l67).trans lf68_0_0).trans l68).trans l73_0).trans l73).trans l74).trans lf75_0_0).trans l75).trans lk0) ⟨rfl, rfl⟩ (ConvH.of (.cons r7 .nil))
 refine Jb rfl (cond_f g144_21 (RStep.of (load1_s r1 rfl rfl (cond_f g144_21 (Jb rfl (cond_f g144_21 ?_))))))
 refine RStep.of (load1_s r0 rfl rfl (cond_f g144_21 (neq_int (cond_f g144_21 ?_))))
 refine cond_s (fun g151_21 => ?_) (fun g151_21 => ?_)
 refine cond_t g151_21 (cond_t g151_21 (cond_t g151_21 (cond_t g151_21 (cond_t g151_21 (cond_go rfl ?_)))))
 refine cond_T ?_
 replace hl0 := ift (or_t (or_u g144_21 g151_21)) hl0
 obtain rfl := si hl0
 replace hm := elr hm
 obtain rfl := si hm
 refine EndStep.mk _ ((((((((((((((((((l17.trans l20).trans l24).trans l26).trans l31).trans l58).trans l59).trans lf60_0_0).trans l60).trans l66).trans l67).trans lf68_0_0).trans l68).trans l73_0).trans l73).trans l74).trans lf75_0_0).trans l75).trans lk0) ⟨rfl, rfl⟩ (ConvH.of (.cons r7 .nil))
 refine Jb rfl (cond_f g151_21 (RStep.of (load1_s r1 rfl rfl (cond_f g151_21 (Jb rfl (cond_f g151_21 ?_))))))
 refine RStep.of (load1_s r0 rfl rfl (cond_f g151_21 (neq_str (cond_f g151_21 (cond_go rfl ?_)))))
 refine cond_s (fun w157 => ?_) (fun w157 => ?_)
 replace hl0 := ift (or_u (or_f g144_21 g151_21) w157) hl0
 obtain rfl := si hl0
 replace hm := elr hm
 obtain rfl := si hm
 refine EndStep.mk _ ((((((((((((((((((l17.trans l20).trans l24).trans l26).trans l31).trans l58).trans l59).trans lf60_0_0).trans l60).trans l66).trans l67).trans lf68_0_0).trans l68).trans l73_0).trans l73).trans l74).trans lf75_0_0).trans l75).trans lk0) ⟨rfl, rfl⟩ (ConvH.of (.cons r7 .nil))
 replace hl0 := iff_ (or_f (or_f g144_21 g151_21) w157) hl0
 refine int_in (cntz hx0 hk0) ?_
 refine RoundStep.mk (i0 + 1) ⟨rfl, trivial⟩ (by repeat (first | exact trivial | refine And.intro rfl ?_)) (ConvH.of (.cons r2 (.cons r2 (.cons r2 (.cons r2 (.cons r2 (.cons r2 .nil))))))) lk0 (ltm hx0) hl0
 replace hl0 := iff_ (or_f g129_19 w133) hl0
 refine Jb rfl (RStep.of (load1_s r1 rfl rfl (Jb rfl (RStep.of (load1_s r0 rfl rfl (neq_int ?_))))))
 refine cond_s (fun g144_21 => ?_) (fun g144_21 => ?_)
 refine cond_t g144_21 (cond_t g144_21 (cond_t g144_21 (cond_t g144_21 (cond_t g144_21 (cond_T ?_)))))
 refine cond_T (cond_T (cond_T (cond_T (cond_T (cond_go rfl ?_)))))
 refine cond_T ?_
 replace hl0 := ift (or_t (or_t g144_21)) hl0
 obtain rfl := si hl0
 replace hm := elr hm
 obtain rfl := si hm
 refine EndStep.mk _ ((((((((((((((((((l17.trans l20).trans l24).trans l26).trans l31).trans l58).trans l59).trans lf60_0_0).trans l60).trans l66).trans l67).trans lf68_0_0).trans l68).trans l73_0).trans l73).trans l74).trans lf75_0_0).trans l75).trans lk0) ⟨rfl, rfl⟩ (ConvH.of (.cons r7 .nil))
 refine Jb rfl (cond_f g144_21 (RStep.of (load1_s r1 rfl rfl (cond_f g144_21 (Jb rfl (cond_f g144_21 ?_))))))
 refine RStep.of (load1_s r0 rfl rfl (cond_f g144_21 (neq_int (cond_f g144_21 ?_))))
 refine cond_s (fun g151_21 => ?_) (fun g151_21 => ?_)
 refine cond_t g151_21 (cond_t g151_21 (cond_t g151_21 (cond_t g151_21 (cond_t g151_21 (cond_go rfl ?_)))))
 refine cond_T ?_
 replace hl0 := ift (or_t (or_u g144_21 g151_21)) hl0
 obtain rfl := si hl0
 replace hm := elr hm
 obtain rfl := si hm
 refine EndStep.mk _ ((((((((((((((((((l17.trans l20).trans l24).trans l26).trans l31).trans l58).trans l59).trans lf60_0_0).trans l60).trans l66).trans l67).trans lf68_0_0).trans l68).trans l73_0).trans l73).trans l74).trans lf75_0_0).trans l75).trans lk0) ⟨rfl, rfl⟩ (ConvH.of (.cons r7 .nil))
 refine Jb rfl (cond_f g151_21 (RStep.of (load1_s r1 rfl rfl (cond_f g151_21 (Jb rfl (cond_f g151_21 ?_))))))
 refine RStep.of (load1_s r0 rfl rfl (cond_f g151_21 (neq_str (cond_f g151_21 (cond_go rfl ?_)))))
 refine cond_s (fun w157 => ?_) (fun w157 => ?_)
 replace hl0 := ift (or_u (or_f g144_21 g151_21) w157) hl0
 obtain rfl := si hl0
 replace hm := elr hm
 obtain rfl := si hm
 refine EndStep.mk _ ((((((((((((((((((l17.trans l20).trans l24).trans l26).trans l31).trans l58).trans l59).trans lf60_0_0).trans l60).trans l66).trans l67).trans lf68_0_0).trans l68).trans l73_0).trans l73).trans l74).trans lf75_0_0).trans l75).trans lk0) ⟨rfl, rfl⟩ (ConvH.of (.cons r7 .nil))
 replace hl0 := iff_ (or_f (or_f g144_21 g151_21) w157) hl0
 refine int_in (cntz hx0 hk0) ?_
 refine RoundStep.mk (i0 + 1) ⟨rfl, trivial⟩ (by repeat (first | exact trivial | refine And.intro rfl ?_)) (ConvH.of (.cons r2 (.cons r2 (.cons r2 (.cons r2 (.cons r2 (.cons r2 .nil))))))) lk0 (ltm hx0) hl0
 rw [lty w0, JM.eq_1] at hl0
 refine cond_T ?_
 refine MeetStep.mk (()) trivial (by repeat (first | exact trivial | refine And.intro rfl ?_)) (ConvH.of (.cons r0 (.cons r0 (.cons r0 (.cons r0 (.cons r0 (.cons r0 .nil))))))) lk0 (si hl0).symm
 rintro t0 Kt0 lt0 rfl j0
 replace hm := elg hm
 obtain rfl := si hm
 refine EndStep.mk _ ((((((((((((((((((l17.trans l20).trans l24).trans l26).trans l31).trans l58).trans l59).trans lf60_0_0).trans l60).trans l66).trans l67).trans lf68_0_0).trans l68).trans l73_0).trans l73).trans l74).trans lf75_0_0).trans l75).trans lt0) ⟨rfl, rfl⟩ (ConvH.of (.cons r5 .nil))
