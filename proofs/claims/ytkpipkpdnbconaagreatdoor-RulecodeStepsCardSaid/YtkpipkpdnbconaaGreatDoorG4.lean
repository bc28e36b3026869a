/- Functions of the program: mirrors, and that a call returns what the mirror says. Printed by gen.py. -/
import Derived.Test.YtkpipkpdnbconaaGreatDoorG3
set_option linter.unusedVariables false
set_option linter.unusedSimpArgs false
open Go Go.SL Go.Proofs
set_option maxRecDepth 1000000
noncomputable def Ja4 (s : Str) (prefixZ : Str) : Option (Str × Bool) :=
  (Jaw s prefixZ).bind fun x8 =>
  some (x8.1, x8.2)
set_option maxHeartbeats 8000000 in
theorem Jbx {s : Str} {prefixZ : Str} {K : Hp} {r : Str × Bool}
    (hm : Ja4 s prefixZ = some r)  :
    Fn Tryz.prog 111 [str s, str prefixZ] K [] (fun v K' H' => v = .tuple #[str r.1, .bool r.2] ∧ H' = []) := by
 refine Fn.enter Tryz.func111 Tryz.call111 rfl fun F => ?_
 unfold Ja4 at hm
 obtain ⟨x8, q8, hm⟩ := bnd hm
 refine call_fn (Jbk (s := s) (prefixZ := prefixZ) q8) .nil ?_
 rintro _ K8 _ l8 ⟨rfl, rfl⟩
 obtain rfl := si hm
 refine EndStep.mk _ l8 ⟨rfl, rfl⟩ (ConvH.of (.cons r0 .nil))

noncomputable def Jb5 (s : Str) : Option (Int × Bool) :=
  if decide (s = ([112, 97, 116, 104] : Str)) then
  some (1, true)
  else
  if decide (s = ([113, 117, 101, 114, 121] : Str)) then
  some (1, true)
  else
  if decide (s = ([116, 97, 103] : Str)) then
  some (1, true)
  else
  if decide (s = ([116, 116, 108] : Str)) then
  some (1, true)
  else
  if decide (s = ([100, 101, 110, 121] : Str)) then
  some (1, true)
  else
  if decide (s = ([112, 97, 115, 115] : Str)) then
  some (0, true)
  else
  if decide (s = ([116, 111, 107, 101, 110] : Str)) then
  some (0, true)
  else
  (Ja4 s ([104, 101, 97, 100, 101, 114, 58] : Str)).bind fun x20 =>
  if x20.2 then
  (JaI x20.1).bind fun x25 =>
  some (1, x25)
  else
  (Ja4 s ([118, 97, 114, 121, 58] : Str)).bind fun x28 =>
  (if x28.2 then (JaI x28.1).bind fun x34 =>
  some x34 else some false).bind fun x35 =>
  some (0, x35)
set_option maxHeartbeats 8000000 in
theorem JbE {s : Str} {K : Hp} {r : Int × Bool}
    (hm : Jb5 s = some r)  :
    Fn Tryz.prog 94 [str s] K [] (fun v K' H' => v = .tuple #[.int .i64 r.1, .bool r.2] ∧ H' = []) := by
 refine Fn.enter Tryz.func94 Tryz.call94 rfl fun F => ?_
 unfold Jb5 at hm
 refine block_go rfl ?_
 refine eq_str (cond_go rfl ?_)
 refine cond_s (fun w9 => ?_) (fun w9 => ?_)
 replace hm := ift w9 hm
 refine cond_go rfl (cond_t w9 ?_)
 obtain rfl := si hm
 refine EndStep.mk _ (Hp.Le.refl _) ⟨rfl, rfl⟩ (ConvH.of (.cons r0 .nil))
 replace hm := iff_ w9 hm
 refine eq_str (cond_go rfl ?_)
 refine cond_s (fun w9 => ?_) (fun w9 => ?_)
 replace hm := ift w9 hm
 refine cond_go rfl (cond_t w9 ?_)
 obtain rfl := si hm
 refine EndStep.mk _ (Hp.Le.refl _) ⟨rfl, rfl⟩ (ConvH.of (.cons r0 .nil))
 replace hm := iff_ w9 hm
 refine eq_str (cond_go rfl ?_)
 refine cond_s (fun w9 => ?_) (fun w9 => ?_)
 replace hm := ift w9 hm
 refine cond_go rfl (cond_t w9 ?_)
 obtain rfl := si hm
 refine EndStep.mk _ (Hp.Le.refl _) ⟨rfl, rfl⟩ (ConvH.of (.cons r0 .nil))
 replace hm := iff_ w9 hm
 refine eq_str (cond_go rfl ?_)
 refine cond_s (fun w9 => ?_) (fun w9 => ?_)
 replace hm := ift w9 hm
 refine cond_go rfl (cond_t w9 ?_)
 obtain rfl := si hm
 refine EndStep.mk _ (Hp.Le.refl _) ⟨rfl, rfl⟩ (ConvH.of (.cons r0 .nil))
 replace hm := iff_ w9 hm
 refine eq_str (cond_go rfl ?_)
 refine cond_s (fun w9 => ?_) (fun w9 => ?_)
 replace hm := ift w9 hm
 obtain rfl := si hm
 refine EndStep.mk _ (Hp.Le.refl _) ⟨rfl, rfl⟩ (ConvH.of (.cons r0 .nil))
 replace hm := iff_ w9 hm
 refine eq_str (cond_go rfl ?_)
 refine cond_s (fun w15 => ?_) (fun w15 => ?_)
 replace hm := ift w15 hm
 refine cond_go rfl (cond_t w15 ?_)
 obtain rfl := si hm
 refine EndStep.mk _ (Hp.Le.refl _) ⟨rfl, rfl⟩ (ConvH.of (.cons r0 .nil))
 replace hm := iff_ w15 hm
 refine eq_str (cond_go rfl ?_)
 refine cond_s (fun w15 => ?_) (fun w15 => ?_)
 replace hm := ift w15 hm
 obtain rfl := si hm
 refine EndStep.mk _ (Hp.Le.refl _) ⟨rfl, rfl⟩ (ConvH.of (.cons r0 .nil))
 replace hm := iff_ w15 hm
 obtain ⟨x20, q20, hm⟩ := bnd hm
 refine call_fn (Jbx (s := s) (prefixZ := ([104, 101, 97, 100, 101, 114, 58] : Str)) q20) .nil ?_
 rintro _ K20 _ l20 ⟨rfl, rfl⟩
 refine cond_go rfl ?_
 refine cond_s (fun w23 => ?_) (fun w23 => ?_)
 replace hm := ift w23 hm
 obtain ⟨x25, q25, hm⟩ := bnd hm
 refine call_fn (Jav (s := x20.1) q25) .nil ?_
 rintro _ K25 _ l25 ⟨rfl, rfl⟩
 obtain rfl := si hm
 refine EndStep.mk _ (l20.trans l25) ⟨rfl, rfl⟩ (ConvH.of (.cons r0 .nil))
 replace hm := iff_ w23 hm
 obtain ⟨x28, q28, hm⟩ := bnd hm
 refine call_fn (Jbx (s := s) (prefixZ := ([118, 97, 114, 121, 58] : Str)) q28) .nil ?_
 rintro _ K28 _ l28 ⟨rfl, rfl⟩
 obtain ⟨x35, e35, hm⟩ := bnd hm
 refine cond_s (fun g32_15 => ?_) (fun g32_15 => ?_)
 replace e35 := ift g32_15 e35
 refine cond_t g32_15 ?_
 obtain ⟨x34, q34, e35⟩ := bnd e35
 refine call_fn (Jav (s := x28.1) q34) .nil ?_
 rintro _ K34 _ l34 ⟨rfl, rfl⟩
 refine cond_t g32_15 ?_
 obtain rfl := si hm
 refine EndStep.mk _ ((l20.trans l28).trans l34) ⟨(by rw [← (si e35)] <;> rfl), rfl⟩ (ConvH.of (.cons r0 .nil))
 replace e35 := iff_ g32_15 e35
 refine cond_f g32_15 (cond_f g32_15 ?_)
 obtain rfl := si hm
 refine EndStep.mk _ (l20.trans l28) ⟨(by rw [← ((si e35).symm).symm] <;> rfl), rfl⟩ (ConvH.of (.cons r0 .nil))

noncomputable def JbN (x : Jj) : Option (Int × Int × Bool) :=
  if decide (x.Op = 1) then
  some (0, 1, ((decide (x.S = ([] : Str)) && decide (x.N ≥ 0)) && decide (x.N ≤ 999999999)))
  else
  if decide (x.Op = 2) then
  (if decide (x.N = 0) then (JaI x.S).bind fun x46 =>
  some x46 else some false).bind fun x47 =>
  some (0, 1, x47)
  else
  if decide (x.Op = 3) then
  some (0, 1, ((decide (x.S = ([] : Str)) && decide (x.N ≥ 0)) && decide (x.N ≤ 511)))
  else
  if decide (x.Op = 4) then
  some (1, 0, ((decide (x.S = ([] : Str)) && decide (x.N ≥ 0)) && decide (x.N ≤ 511)))
  else
  if decide (x.Op = 5) then
  (if decide (x.N = 0) then (J8 Js x.S).bind fun x61 =>
  some x61 else some false).bind fun x62 =>
  some (0, 1, x62)
  else
  if decide (x.Op = 6) then
  (if decide (x.N = 0) then (J8 Jx x.S).bind fun x70 =>
  some x70 else some false).bind fun x71 =>
  some (1, 1, x71)
  else
  if decide (x.Op = 7) then
  (if decide (x.N = 0) then (J8 JD x.S).bind fun x79 =>
  some x79 else some false).bind fun x80 =>
  some (2, 1, x80)
  else
  if decide (x.Op = 8) then
  some (1, 1, (decide (x.N = 0) && decide (x.S = ([] : Str))))
  else
  if decide (x.Op = 9) then
  some (0, 0, decide (x.S = ([] : Str)))
  else
  if decide (x.Op = 10) then
  some (1, 0, decide (x.S = ([] : Str)))
  else
  if decide (x.Op = 11) then
  (Jb5 x.S).bind fun x98 =>
  some (x98.1, 0, (decide (x.N = 0) && x98.2))
  else
  if decide (x.Op = 12) then
  some (0, 0, (decide (x.N = 0) && decide (x.S = ([] : Str))))
  else
  some (0, 0, false)
set_option maxHeartbeats 8000000 in
theorem Jci {x : Jj} {K : Hp} {r : Int × Int × Bool}
    (hm : JbN x = some r) (hG1 : GlL eS 1 1 Js K) (hG2 : GlL eS 1 2 Jx K) (hG3 : GlL eS 1 3 JD K) (hG4 : GlL eS 1 4 gkw0 K) :
    Fn Tryz.prog 67 [.agg #[.int .i64 x.Op, .int .i64 x.N, str x.S]] K [] (fun v K' H' => v = .tuple #[.int .i64 r.1, .int .i64 r.2.1, .bool r.2.2] ∧ H' = []) := by
 obtain ⟨ga1, gn1, gc1, gn_, gs1, gd1⟩ := id hG1
 subst gn_
 obtain ⟨ga2, gn2, gc2, gn_, gs2, gd2⟩ := id hG2
 subst gn_
 obtain ⟨ga3, gn3, gc3, gn_, gs3, gd3⟩ := id hG3
 subst gn_
 obtain ⟨ga4, gn4, gc4, gn_, gs4, gd4⟩ := id hG4
 subst gn_
 refine Fn.enter Tryz.func67 Tryz.call67 rfl fun F => ?_
 unfold JbN at hm
 refine box_rule ?_
 intro b1
 refine Jb rfl (RStep.of (load1_s r0 rfl rfl (eq_int (Jb rfl (RStep.of (load1_s r0 rfl rfl (eq_str ?_)))))))
 refine cond_s (fun g15_3 => ?_) (fun g15_3 => ?_)
 refine Jb rfl (cond_t g15_3 (RStep.of (load1_s r0 rfl rfl (cond_t g15_3 (cond_t g15_3 ?_)))))
 refine cond_s (fun g20_3 => ?_) (fun g20_3 => ?_)
 refine Jb rfl (cond_t g20_3 (RStep.of (load1_s r0 rfl rfl (cond_t g20_3 (cond_t g20_3 (Jb rfl ?_))))))
 refine RStep.of (load1_s r0 rfl rfl ?_)
 refine block_go rfl ?_
 refine eq_int (cond_go rfl ?_)
 refine cond_s (fun w27 => ?_) (fun w27 => ?_)
 replace hm := ift w27 hm
 refine draw_go ⟨⟨[], false⟩, _, [(_, _)]⟩ (by kernel_rfl) ⟨Hp.Le.refl _, (ConvH.of (.cons r0 .nil))⟩ ?_
 refine cond_s (fun g30_6 => ?_) (fun g30_6 => ?_)
 refine Jb rfl (cond_t g30_6 (load1_l m0 rfl rfl (cond_t g30_6 (cond_t g30_6 ?_))))
 refine cond_s (fun g35_6 => ?_) (fun g35_6 => ?_)
 refine Jb rfl (cond_t g35_6 (load1_l m0 rfl rfl (cond_t g35_6 (cond_t g35_6 ?_))))
 obtain rfl := si hm
 refine EndStep.mk _ (Hp.Le.refl _) ⟨(by rw [← (and_e (b := decide (x.N ≤ 999999999)) (and_t g30_6 g35_6))] <;> rfl), rfl⟩ (ConvH.of (.cons r1 .nil))
 refine cond_f g35_6 (cond_f g35_6 (cond_f g35_6 ?_))
 obtain rfl := si hm
 refine EndStep.mk _ (Hp.Le.refl _) ⟨(by rw [← ((and_f (and_g g30_6 g35_6))).symm] <;> rfl), rfl⟩ (ConvH.of (.cons r1 .nil))
 refine cond_f g30_6 (cond_f g30_6 (cond_f g30_6 (cond_F (cond_F (cond_F ?_)))))
 refine cond_F ?_
 obtain rfl := si hm
 refine EndStep.mk _ (Hp.Le.refl _) ⟨(by rw [← ((and_f (and_f g30_6))).symm] <;> rfl), rfl⟩ (ConvH.of (.cons r1 .nil))
 replace hm := iff_ w27 hm
 refine eq_int (cond_go rfl ?_)
 refine cond_s (fun w40 => ?_) (fun w40 => ?_)
 replace hm := ift w40 hm
 obtain ⟨x47, e47, hm⟩ := bnd hm
 refine cond_s (fun g43_8 => ?_) (fun g43_8 => ?_)
 replace e47 := ift g43_8 e47
 refine Jb rfl (cond_t g43_8 (RStep.of (load1_s r0 rfl rfl (cond_t g43_8 ?_))))
 obtain ⟨x46, q46, e47⟩ := bnd e47
 refine call_fn (Jav (s := x.S) q46) .nil ?_
 rintro _ K46 _ l46 ⟨rfl, rfl⟩
 refine cond_t g43_8 ?_
 obtain rfl := si hm
 refine EndStep.mk _ l46 ⟨(by rw [← (si e47)] <;> rfl), rfl⟩ (ConvH.of (.cons r1 .nil))
 replace e47 := iff_ g43_8 e47
 refine cond_f g43_8 (cond_f g43_8 (cond_f g43_8 ?_))
 obtain rfl := si hm
 refine EndStep.mk _ (Hp.Le.refl _) ⟨(by rw [← ((si e47).symm).symm] <;> rfl), rfl⟩ (ConvH.of (.cons r1 .nil))
 replace hm := iff_ w40 hm
 refine eq_int (cond_go rfl ?_)
 refine cond_s (fun w48 => ?_) (fun w48 => ?_)
 replace hm := ift w48 hm
 obtain rfl := si hm
 refine EndStep.mk _ (Hp.Le.refl _) ⟨(by rw [← (and_e (b := decide (x.N ≤ 511)) (and_t g15_3 g20_3))] <;> rfl), rfl⟩ (ConvH.of (.cons r1 .nil))
 replace hm := iff_ w48 hm
 refine eq_int (cond_go rfl ?_)
 refine cond_s (fun w51 => ?_) (fun w51 => ?_)
 replace hm := ift w51 hm
 obtain rfl := si hm
 refine EndStep.mk _ (Hp.Le.refl _) ⟨(by rw [← (and_e (b := decide (x.N ≤ 511)) (and_t g15_3 g20_3))] <;> rfl), rfl⟩ (ConvH.of (.cons r1 .nil))
 replace hm := iff_ w51 hm
 refine eq_int (cond_go rfl ?_)
 refine cond_s (fun w54 => ?_) (fun w54 => ?_)
 replace hm := ift w54 hm
 obtain ⟨x62, e62, hm⟩ := bnd hm
 refine cond_s (fun g57_14 => ?_) (fun g57_14 => ?_)
 replace e62 := ift g57_14 e62
 refine RStep.of (g_load gs1 rfl (cond_t g57_14 (Jb rfl (cond_t g57_14 (RStep.of (load1_s r0 rfl rfl (cond_t g57_14 ?_)))))))
 obtain ⟨x61, q61, e62⟩ := bnd e62
 refine call_fn (JE (v' := x.S) q61 gd1 rfl) .nil ?_
 rintro _ K61 _ l61 ⟨rfl, rfl⟩
 refine cond_t g57_14 ?_
 obtain rfl := si hm
 refine EndStep.mk _ l61 ⟨(by rw [← (si e62)] <;> rfl), rfl⟩ (ConvH.of (.cons r1 .nil))
 replace e62 := iff_ g57_14 e62
 refine cond_f g57_14 (cond_f g57_14 (cond_f g57_14 (cond_f g57_14 ?_)))
 obtain rfl := si hm
 refine EndStep.mk _ (Hp.Le.refl _) ⟨(by rw [← ((si e62).symm).symm] <;> rfl), rfl⟩ (ConvH.of (.cons r1 .nil))
 replace hm := iff_ w54 hm
 refine eq_int (cond_go rfl ?_)
 refine cond_s (fun w63 => ?_) (fun w63 => ?_)
 replace hm := ift w63 hm
 obtain ⟨x71, e71, hm⟩ := bnd hm
 refine cond_s (fun g66_16 => ?_) (fun g66_16 => ?_)
 replace e71 := ift g66_16 e71
 refine RStep.of (g_load gs2 rfl (cond_t g66_16 (Jb rfl (cond_t g66_16 (RStep.of (load1_s r0 rfl rfl (cond_t g66_16 ?_)))))))
 obtain ⟨x70, q70, e71⟩ := bnd e71
 refine call_fn (JE (v' := x.S) q70 gd2 rfl) .nil ?_
 rintro _ K70 _ l70 ⟨rfl, rfl⟩
 refine cond_t g66_16 ?_
 obtain rfl := si hm
 refine EndStep.mk _ l70 ⟨(by rw [← (si e71)] <;> rfl), rfl⟩ (ConvH.of (.cons r1 .nil))
 replace e71 := iff_ g66_16 e71
 refine cond_f g66_16 (cond_f g66_16 (cond_f g66_16 (cond_f g66_16 ?_)))
 obtain rfl := si hm
 refine EndStep.mk _ (Hp.Le.refl _) ⟨(by rw [← ((si e71).symm).symm] <;> rfl), rfl⟩ (ConvH.of (.cons r1 .nil))
 replace hm := iff_ w63 hm
 refine eq_int (cond_go rfl ?_)
 refine cond_s (fun w72 => ?_) (fun w72 => ?_)
 replace hm := ift w72 hm
 obtain ⟨x80, e80, hm⟩ := bnd hm
 refine cond_s (fun g75_18 => ?_) (fun g75_18 => ?_)
 replace e80 := ift g75_18 e80
 refine RStep.of (g_load gs3 rfl (cond_t g75_18 (Jb rfl (cond_t g75_18 (RStep.of (load1_s r0 rfl rfl (cond_t g75_18 ?_)))))))
 obtain ⟨x79, q79, e80⟩ := bnd e80
 refine call_fn (JE (v' := x.S) q79 gd3 rfl) .nil ?_
 rintro _ K79 _ l79 ⟨rfl, rfl⟩
 refine cond_t g75_18 ?_
 obtain rfl := si hm
 refine EndStep.mk _ l79 ⟨(by rw [← (si e80)] <;> rfl), rfl⟩ (ConvH.of (.cons r1 .nil))
 replace e80 := iff_ g75_18 e80
 refine cond_f g75_18 (cond_f g75_18 (cond_f g75_18 (cond_f g75_18 ?_)))
 obtain rfl := si hm
 refine EndStep.mk _ (Hp.Le.refl _) ⟨(by rw [← ((si e80).symm).symm] <;> rfl), rfl⟩ (ConvH.of (.cons r1 .nil))
 replace hm := iff_ w72 hm
 refine eq_int (cond_go rfl ?_)
 refine cond_s (fun w81 => ?_) (fun w81 => ?_)
 replace hm := ift w81 hm
 refine cond_s (fun g84_20 => ?_) (fun g84_20 => ?_)
 refine cond_t g84_20 ?_
 obtain rfl := si hm
 refine EndStep.mk _ (Hp.Le.refl _) ⟨(by rw [← (and_e (b := decide (x.S = ([] : Str))) g84_20)] <;> rfl), rfl⟩ (ConvH.of (.cons r1 .nil))
 refine cond_f g84_20 ?_
 obtain rfl := si hm
 refine EndStep.mk _ (Hp.Le.refl _) ⟨(by rw [← ((and_f g84_20)).symm] <;> rfl), rfl⟩ (ConvH.of (.cons r1 .nil))
 replace hm := iff_ w81 hm
 refine eq_int (cond_go rfl ?_)
 refine cond_s (fun w87 => ?_) (fun w87 => ?_)
 replace hm := ift w87 hm
 obtain rfl := si hm
 refine EndStep.mk _ (Hp.Le.refl _) ⟨rfl, rfl⟩ (ConvH.of (.cons r1 .nil))
 replace hm := iff_ w87 hm
 refine eq_int (cond_go rfl ?_)
 refine cond_s (fun w90 => ?_) (fun w90 => ?_)
 replace hm := ift w90 hm
 obtain rfl := si hm
 refine EndStep.mk _ (Hp.Le.refl _) ⟨rfl, rfl⟩ (ConvH.of (.cons r1 .nil))
 replace hm := iff_ w90 hm
 refine eq_int (cond_go rfl ?_)
 refine cond_s (fun w93 => ?_) (fun w93 => ?_)
 replace hm := ift w93 hm
 refine Jb rfl (RStep.of (load1_s r0 rfl rfl ?_))
 obtain ⟨x98, q98, hm⟩ := bnd hm
 refine call_fn (JbE (s := x.S) q98) .nil ?_
 rintro _ K98 _ l98 ⟨rfl, rfl⟩
 refine cond_s (fun g103_27 => ?_) (fun g103_27 => ?_)
 refine cond_t g103_27 ?_
 obtain rfl := si hm
 refine EndStep.mk _ l98 ⟨(by rw [← (and_e (b := x98.2) g103_27)] <;> rfl), rfl⟩ (ConvH.of (.cons r1 .nil))
 refine cond_f g103_27 ?_
 obtain rfl := si hm
 refine EndStep.mk _ l98 ⟨(by rw [← ((and_f g103_27)).symm] <;> rfl), rfl⟩ (ConvH.of (.cons r1 .nil))
 replace hm := iff_ w93 hm
 refine eq_int (cond_go rfl ?_)
 refine cond_s (fun w106 => ?_) (fun w106 => ?_)
 replace hm := ift w106 hm
 refine cond_s (fun g109_29 => ?_) (fun g109_29 => ?_)
 refine cond_t g109_29 ?_
 obtain rfl := si hm
 refine EndStep.mk _ (Hp.Le.refl _) ⟨(by rw [← (and_e (b := decide (x.S = ([] : Str))) g109_29)] <;> rfl), rfl⟩ (ConvH.of (.cons r1 .nil))
 refine cond_f g109_29 ?_
 obtain rfl := si hm
 refine EndStep.mk _ (Hp.Le.refl _) ⟨(by rw [← ((and_f g109_29)).symm] <;> rfl), rfl⟩ (ConvH.of (.cons r1 .nil))
 replace hm := iff_ w106 hm
 obtain rfl := si hm
 refine EndStep.mk _ (Hp.Le.refl _) ⟨rfl, rfl⟩ (ConvH.of (.cons r1 .nil))
 refine cond_f g20_3 (cond_f g20_3 (cond_f g20_3 (Jb rfl (RStep.of (load1_s r0 rfl rfl ?_)))))
 refine block_go rfl ?_
 refine eq_int (cond_go rfl ?_)
 refine cond_s (fun w27 => ?_) (fun w27 => ?_)
 replace hm := ift w27 hm
 refine draw_go ⟨⟨[], false⟩, _, [(_, _)]⟩ (by kernel_rfl) ⟨Hp.Le.refl _, (ConvH.of (.cons r0 .nil))⟩ ?_
 refine cond_s (fun g30_6 => ?_) (fun g30_6 => ?_)
 refine Jb rfl (cond_t g30_6 (load1_l m0 rfl rfl (cond_t g30_6 (cond_t g30_6 ?_))))
 refine cond_s (fun g35_6 => ?_) (fun g35_6 => ?_)
 refine Jb rfl (cond_t g35_6 (load1_l m0 rfl rfl (cond_t g35_6 (cond_t g35_6 ?_))))
 obtain rfl := si hm
 refine EndStep.mk _ (Hp.Le.refl _) ⟨(by rw [← (and_e (b := decide (x.N ≤ 999999999)) (and_t g30_6 g35_6))] <;> rfl), rfl⟩ (ConvH.of (.cons r1 .nil))
 refine cond_f g35_6 (cond_f g35_6 (cond_f g35_6 ?_))
 obtain rfl := si hm
 refine EndStep.mk _ (Hp.Le.refl _) ⟨(by rw [← ((and_f (and_g g30_6 g35_6))).symm] <;> rfl), rfl⟩ (ConvH.of (.cons r1 .nil))
 refine cond_f g30_6 (cond_f g30_6 (cond_f g30_6 (cond_F (cond_F (cond_F ?_)))))
 refine cond_F ?_
 obtain rfl := si hm
 refine EndStep.mk _ (Hp.Le.refl _) ⟨(by rw [← ((and_f (and_f g30_6))).symm] <;> rfl), rfl⟩ (ConvH.of (.cons r1 .nil))
 replace hm := iff_ w27 hm
 refine eq_int (cond_go rfl ?_)
 refine cond_s (fun w40 => ?_) (fun w40 => ?_)
 replace hm := ift w40 hm
 obtain ⟨x47, e47, hm⟩ := bnd hm
 refine cond_s (fun g43_8 => ?_) (fun g43_8 => ?_)
 replace e47 := ift g43_8 e47
 refine Jb rfl (cond_t g43_8 (RStep.of (load1_s r0 rfl rfl (cond_t g43_8 ?_))))
 obtain ⟨x46, q46, e47⟩ := bnd e47
 refine call_fn (Jav (s := x.S) q46) .nil ?_
 rintro _ K46 _ l46 ⟨rfl, rfl⟩
 refine cond_t g43_8 ?_
 obtain rfl := si hm
 refine EndStep.mk _ l46 ⟨(by rw [← (si e47)] <;> rfl), rfl⟩ (ConvH.of (.cons r1 .nil))
 replace e47 := iff_ g43_8 e47
 refine cond_f g43_8 (cond_f g43_8 (cond_f g43_8 ?_))
 obtain rfl := si hm
 refine EndStep.mk _ (Hp.Le.refl _) ⟨(by rw [← ((si e47).symm).symm] <;> rfl), rfl⟩ (ConvH.of (.cons r1 .nil))
 replace hm := iff_ w40 hm
 refine eq_int (cond_go rfl ?_)
 refine cond_s (fun w48 => ?_) (fun w48 => ?_)
 replace hm := ift w48 hm
 obtain rfl := si hm
 refine EndStep.mk _ (Hp.Le.refl _) ⟨(by rw [← ((and_f (and_g g15_3 g20_3))).symm] <;> rfl), rfl⟩ (ConvH.of (.cons r1 .nil))
 replace hm := iff_ w48 hm
 refine eq_int (cond_go rfl ?_)
 refine cond_s (fun w51 => ?_) (fun w51 => ?_)
 replace hm := ift w51 hm
 obtain rfl := si hm
 refine EndStep.mk _ (Hp.Le.refl _) ⟨(by rw [← ((and_f (and_g g15_3 g20_3))).symm] <;> rfl), rfl⟩ (ConvH.of (.cons r1 .nil))
 replace hm := iff_ w51 hm
 refine eq_int (cond_go rfl ?_)
 refine cond_s (fun w54 => ?_) (fun w54 => ?_)
 replace hm := ift w54 hm
 obtain ⟨x62, e62, hm⟩ := bnd hm
 refine cond_s (fun g57_14 => ?_) (fun g57_14 => ?_)
 replace e62 := ift g57_14 e62
 refine RStep.of (g_load gs1 rfl (cond_t g57_14 (Jb rfl (cond_t g57_14 (RStep.of (load1_s r0 rfl rfl (cond_t g57_14 ?_)))))))
 obtain ⟨x61, q61, e62⟩ := bnd e62
 refine call_fn (JE (v' := x.S) q61 gd1 rfl) .nil ?_
 rintro _ K61 _ l61 ⟨rfl, rfl⟩
 refine cond_t g57_14 ?_
 obtain rfl := si hm
 refine EndStep.mk _ l61 ⟨(by rw [← (si e62)] <;> rfl), rfl⟩ (ConvH.of (.cons r1 .nil))
 replace e62 := iff_ g57_14 e62
 refine cond_f g57_14 (cond_f g57_14 (cond_f g57_14 (cond_f g57_14 ?_)))
 obtain rfl := si hm
 refine EndStep.mk _ (Hp.Le.refl _) ⟨(by rw [← ((si e62).symm).symm] <;> rfl), rfl⟩ (ConvH.of (.cons r1 .nil))
 replace hm := iff_ w54 hm
 refine eq_int (cond_go rfl ?_)
 refine cond_s (fun w63 => ?_) (fun w63 => ?_)
 replace hm := ift w63 hm
 obtain ⟨x71, e71, hm⟩ := bnd hm
 refine cond_s (fun g66_16 => ?_) (fun g66_16 => ?_)
 replace e71 := ift g66_16 e71
 refine RStep.of (g_load gs2 rfl (cond_t g66_16 (Jb rfl (cond_t g66_16 (RStep.of (load1_s r0 rfl rfl (cond_t g66_16 ?_)))))))
 obtain ⟨x70, q70, e71⟩ := bnd e71
 refine call_fn (JE (v' := x.S) q70 gd2 rfl) .nil ?_
 rintro _ K70 _ l70 ⟨rfl, rfl⟩
 refine cond_t g66_16 ?_
 obtain rfl := si hm
 refine EndStep.mk _ l70 ⟨(by rw [← (si e71)] <;> rfl), rfl⟩ (ConvH.of (.cons r1 .nil))
 replace e71 := iff_ g66_16 e71
 refine cond_f g66_16 (cond_f g66_16 (cond_f g66_16 (cond_f g66_16 ?_)))
 obtain rfl := si hm
 refine EndStep.mk _ (Hp.Le.refl _) ⟨(by rw [← ((si e71).symm).symm] <;> rfl), rfl⟩ (ConvH.of (.cons r1 .nil))
 replace hm := iff_ w63 hm
 refine eq_int (cond_go rfl ?_)
 refine cond_s (fun w72 => ?_) (fun w72 => ?_)
 replace hm := ift w72 hm
 obtain ⟨x80, e80, hm⟩ := bnd hm
 refine cond_s (fun g75_18 => ?_) (fun g75_18 => ?_)
 replace e80 := ift g75_18 e80
 refine RStep.of (g_load gs3 rfl (cond_t g75_18 (Jb rfl (cond_t g75_18 (RStep.of (load1_s r0 rfl rfl (cond_t g75_18 ?_)))))))
 obtain ⟨x79, q79, e80⟩ := bnd e80
 refine call_fn (JE (v' := x.S) q79 gd3 rfl) .nil ?_
 rintro _ K79 _ l79 ⟨rfl, rfl⟩
 refine cond_t g75_18 ?_
 obtain rfl := si hm
 refine EndStep.mk _ l79 ⟨(by rw [← (si e80)] <;> rfl), rfl⟩ (ConvH.of (.cons r1 .nil))
 replace e80 := iff_ g75_18 e80
 refine cond_f g75_18 (cond_f g75_18 (cond_f g75_18 (cond_f g75_18 ?_)))
 obtain rfl := si hm
 refine EndStep.mk _ (Hp.Le.refl _) ⟨(by rw [← ((si e80).symm).symm] <;> rfl), rfl⟩ (ConvH.of (.cons r1 .nil))
 replace hm := iff_ w72 hm
 refine eq_int (cond_go rfl ?_)
 refine cond_s (fun w81 => ?_) (fun w81 => ?_)
 replace hm := ift w81 hm
 refine cond_s (fun g84_20 => ?_) (fun g84_20 => ?_)
 refine cond_t g84_20 ?_
 obtain rfl := si hm
 refine EndStep.mk _ (Hp.Le.refl _) ⟨(by rw [← (and_e (b := decide (x.S = ([] : Str))) g84_20)] <;> rfl), rfl⟩ (ConvH.of (.cons r1 .nil))
 refine cond_f g84_20 ?_
 obtain rfl := si hm
 refine EndStep.mk _ (Hp.Le.refl _) ⟨(by rw [← ((and_f g84_20)).symm] <;> rfl), rfl⟩ (ConvH.of (.cons r1 .nil))
 replace hm := iff_ w81 hm
 refine eq_int (cond_go rfl ?_)
 refine cond_s (fun w87 => ?_) (fun w87 => ?_)
 replace hm := ift w87 hm
 obtain rfl := si hm
 refine EndStep.mk _ (Hp.Le.refl _) ⟨rfl, rfl⟩ (ConvH.of (.cons r1 .nil))
 replace hm := iff_ w87 hm
 refine eq_int (cond_go rfl ?_)
 refine cond_s (fun w90 => ?_) (fun w90 => ?_)
 replace hm := ift w90 hm
 obtain rfl := si hm
 refine EndStep.mk _ (Hp.Le.refl _) ⟨rfl, rfl⟩ (ConvH.of (.cons r1 .nil))
 replace hm := iff_ w90 hm
 refine eq_int (cond_go rfl ?_)
 refine cond_s (fun w93 => ?_) (fun w93 => ?_)
 replace hm := ift w93 hm
 refine Jb rfl (RStep.of (load1_s r0 rfl rfl ?_))
 obtain ⟨x98, q98, hm⟩ := bnd hm
 refine call_fn (JbE (s := x.S) q98) .nil ?_
 rintro _ K98 _ l98 ⟨rfl, rfl⟩
 refine cond_s (fun g103_27 => ?_) (fun g103_27 => ?_)
 refine cond_t g103_27 ?_
 obtain rfl := si hm
 refine EndStep.mk _ l98 ⟨(by rw [← (and_e (b := x98.2) g103_27)] <;> rfl), rfl⟩ (ConvH.of (.cons r1 .nil))
 refine cond_f g103_27 ?_
 obtain rfl := si hm
 refine EndStep.mk _ l98 ⟨(by rw [← ((and_f g103_27)).symm] <;> rfl), rfl⟩ (ConvH.of (.cons r1 .nil))
 replace hm := iff_ w93 hm
 refine eq_int (cond_go rfl ?_)
 refine cond_s (fun w106 => ?_) (fun w106 => ?_)
 replace hm := ift w106 hm
 refine cond_s (fun g109_29 => ?_) (fun g109_29 => ?_)
 refine cond_t g109_29 ?_
 obtain rfl := si hm
 refine EndStep.mk _ (Hp.Le.refl _) ⟨(by rw [← (and_e (b := decide (x.S = ([] : Str))) g109_29)] <;> rfl), rfl⟩ (ConvH.of (.cons r1 .nil))
 refine cond_f g109_29 ?_
 obtain rfl := si hm
 refine EndStep.mk _ (Hp.Le.refl _) ⟨(by rw [← ((and_f g109_29)).symm] <;> rfl), rfl⟩ (ConvH.of (.cons r1 .nil))
 replace hm := iff_ w106 hm
 obtain rfl := si hm
 refine EndStep.mk _ (Hp.Le.refl _) ⟨rfl, rfl⟩ (ConvH.of (.cons r1 .nil))
 refine cond_f g15_3 (cond_f g15_3 (cond_f g15_3 (cond_F (cond_F (cond_F ?_)))))
 refine cond_F (Jb rfl (RStep.of (load1_s r0 rfl rfl ?_)))
 refine block_go rfl ?_
 refine eq_int (cond_go rfl ?_)
 refine cond_s (fun w27 => ?_) (fun w27 => ?_)
 replace hm := ift w27 hm
 refine draw_go ⟨⟨[], false⟩, _, [(_, _)]⟩ (by kernel_rfl) ⟨Hp.Le.refl _, (ConvH.of (.cons r0 .nil))⟩ ?_
 refine cond_s (fun g30_6 => ?_) (fun g30_6 => ?_)
 refine Jb rfl (cond_t g30_6 (load1_l m0 rfl rfl (cond_t g30_6 (cond_t g30_6 ?_))))
 refine cond_s (fun g35_6 => ?_) (fun g35_6 => ?_)
 refine Jb rfl (cond_t g35_6 (load1_l m0 rfl rfl (cond_t g35_6 (cond_t g35_6 ?_))))
 obtain rfl := si hm
 refine EndStep.mk _ (Hp.Le.refl _) ⟨(by rw [← (and_e (b := decide (x.N ≤ 999999999)) (and_t g30_6 g35_6))] <;> rfl), rfl⟩ (ConvH.of (.cons r1 .nil))
 refine cond_f g35_6 (cond_f g35_6 (cond_f g35_6 ?_))
 obtain rfl := si hm
 refine EndStep.mk _ (Hp.Le.refl _) ⟨(by rw [← ((and_f (and_g g30_6 g35_6))).symm] <;> rfl), rfl⟩ (ConvH.of (.cons r1 .nil))
 refine cond_f g30_6 (cond_f g30_6 (cond_f g30_6 (cond_F (cond_F (cond_F ?_)))))
 refine cond_F ?_
 obtain rfl := si hm
 refine EndStep.mk _ (Hp.Le.refl _) ⟨(by rw [← ((and_f (and_f g30_6))).symm] <;> rfl), rfl⟩ (ConvH.of (.cons r1 .nil))
 replace hm := iff_ w27 hm
 refine eq_int (cond_go rfl ?_)
 refine cond_s (fun w40 => ?_) (fun w40 => ?_)
 replace hm := ift w40 hm
 obtain ⟨x47, e47, hm⟩ := bnd hm
 refine cond_s (fun g43_8 => ?_) (fun g43_8 => ?_)
 replace e47 := ift g43_8 e47
 refine Jb rfl (cond_t g43_8 (RStep.of (load1_s r0 rfl rfl (cond_t g43_8 ?_))))
 obtain ⟨x46, q46, e47⟩ := bnd e47
 refine call_fn (Jav (s := x.S) q46) .nil ?_
 rintro _ K46 _ l46 ⟨rfl, rfl⟩
 refine cond_t g43_8 ?_
 obtain rfl := si hm
 refine EndStep.mk _ l46 ⟨(by rw [← (si e47)] <;> rfl), rfl⟩ (ConvH.of (.cons r1 .nil))
 replace e47 := iff_ g43_8 e47
 refine cond_f g43_8 (cond_f g43_8 (cond_f g43_8 ?_))
 obtain rfl := si hm
 refine EndStep.mk _ (Hp.Le.refl _) ⟨(by rw [← ((si e47).symm).symm] <;> rfl), rfl⟩ (ConvH.of (.cons r1 .nil))
 replace hm := iff_ w40 hm
 refine eq_int (cond_go rfl ?_)
 refine cond_s (fun w48 => ?_) (fun w48 => ?_)
 replace hm := ift w48 hm
 obtain rfl := si hm
 refine EndStep.mk _ (Hp.Le.refl _) ⟨(by rw [← ((and_f (and_f g15_3))).symm] <;> rfl), rfl⟩ (ConvH.of (.cons r1 .nil))
 replace hm := iff_ w48 hm
 refine eq_int (cond_go rfl ?_)
 refine cond_s (fun w51 => ?_) (fun w51 => ?_)
 replace hm := ift w51 hm
 obtain rfl := si hm
 refine EndStep.mk _ (Hp.Le.refl _) ⟨(by rw [← ((and_f (and_f g15_3))).symm] <;> rfl), rfl⟩ (ConvH.of (.cons r1 .nil))
 replace hm := iff_ w51 hm
 refine eq_int (cond_go rfl ?_)
 refine cond_s (fun w54 => ?_) (fun w54 => ?_)
 replace hm := ift w54 hm
 obtain ⟨x62, e62, hm⟩ := bnd hm
 refine cond_s (fun g57_14 => ?_) (fun g57_14 => ?_)
 replace e62 := ift g57_14 e62
 refine RStep.of (g_load gs1 rfl (cond_t g57_14 (Jb rfl (cond_t g57_14 (RStep.of (load1_s r0 rfl rfl (cond_t g57_14 ?_)))))))
 obtain ⟨x61, q61, e62⟩ := bnd e62
 refine call_fn (JE (v' := x.S) q61 gd1 rfl) .nil ?_
 rintro _ K61 _ l61 ⟨rfl, rfl⟩
 refine cond_t g57_14 ?_
 obtain rfl := si hm
 refine EndStep.mk _ l61 ⟨(by rw [← (si e62)] <;> rfl), rfl⟩ (ConvH.of (.cons r1 .nil))
 replace e62 := iff_ g57_14 e62
 refine cond_f g57_14 (cond_f g57_14 (cond_f g57_14 (cond_f g57_14 ?_)))
 obtain rfl := si hm
 refine EndStep.mk _ (Hp.Le.refl _) ⟨(by rw [← ((si e62).symm).symm] <;> rfl), rfl⟩ (ConvH.of (.cons r1 .nil))
 replace hm := iff_ w54 hm
 refine eq_int (cond_go rfl ?_)
 refine cond_s (fun w63 => ?_) (fun w63 => ?_)
 replace hm := ift w63 hm
 obtain ⟨x71, e71, hm⟩ := bnd hm
 refine cond_s (fun g66_16 => ?_) (fun g66_16 => ?_)
 replace e71 := ift g66_16 e71
 refine RStep.of (g_load gs2 rfl (cond_t g66_16 (Jb rfl (cond_t g66_16 (RStep.of (load1_s r0 rfl rfl (cond_t g66_16 ?_)))))))
 obtain ⟨x70, q70, e71⟩ := bnd e71
 refine call_fn (JE (v' := x.S) q70 gd2 rfl) .nil ?_
 rintro _ K70 _ l70 ⟨rfl, rfl⟩
 refine cond_t g66_16 ?_
 obtain rfl := si hm
 refine EndStep.mk _ l70 ⟨(by rw [← (si e71)] <;> rfl), rfl⟩ (ConvH.of (.cons r1 .nil))
 replace e71 := iff_ g66_16 e71
 refine cond_f g66_16 (cond_f g66_16 (cond_f g66_16 (cond_f g66_16 ?_)))
 obtain rfl := si hm
 refine EndStep.mk _ (Hp.Le.refl _) ⟨(by rw [← ((si e71).symm).symm] <;> rfl), rfl⟩ (ConvH.of (.cons r1 .nil))
 replace hm := iff_ w63 hm
 refine eq_int (cond_go rfl ?_)
 refine cond_s (fun w72 => ?_) (fun w72 => ?_)
 replace hm := ift w72 hm
 obtain ⟨x80, e80, hm⟩ := bnd hm
 refine cond_s (fun g75_18 => ?_) (fun g75_18 => ?_)
 replace e80 := ift g75_18 e80
 refine RStep.of (g_load gs3 rfl (cond_t g75_18 (Jb rfl (cond_t g75_18 (RStep.of (load1_s r0 rfl rfl (cond_t g75_18 ?_)))))))
 obtain ⟨x79, q79, e80⟩ := bnd e80
 refine call_fn (JE (v' := x.S) q79 gd3 rfl) .nil ?_
 rintro _ K79 _ l79 ⟨rfl, rfl⟩
 refine cond_t g75_18 ?_
 obtain rfl := si hm
 refine EndStep.mk _ l79 ⟨(by rw [← (si e80)] <;> rfl), rfl⟩ (ConvH.of (.cons r1 .nil))
 replace e80 := iff_ g75_18 e80
 refine cond_f g75_18 (cond_f g75_18 (cond_f g75_18 (cond_f g75_18 ?_)))
 obtain rfl := si hm
 refine EndStep.mk _ (Hp.Le.refl _) ⟨(by rw [← ((si e80).symm).symm] <;> rfl), rfl⟩ (ConvH.of (.cons r1 .nil))
 replace hm := iff_ w72 hm
 refine eq_int (cond_go rfl ?_)
 refine cond_s (fun w81 => ?_) (fun w81 => ?_)
 replace hm := ift w81 hm
 refine cond_s (fun g84_20 => ?_) (fun g84_20 => ?_)
 refine cond_t g84_20 ?_
 obtain rfl := si hm
 refine EndStep.mk _ (Hp.Le.refl _) ⟨(by rw [← (and_e (b := decide (x.S = ([] : Str))) g84_20)] <;> rfl), rfl⟩ (ConvH.of (.cons r1 .nil))
 refine cond_f g84_20 ?_
 obtain rfl := si hm
 refine EndStep.mk _ (Hp.Le.refl _) ⟨(by rw [← ((and_f g84_20)).symm] <;> rfl), rfl⟩ (ConvH.of (.cons r1 .nil))
 replace hm := iff_ w81 hm
 refine eq_int (cond_go rfl ?_)
 refine cond_s (fun w87 => ?_) (fun w87 => ?_)
 replace hm := ift w87 hm
 obtain rfl := si hm
 refine EndStep.mk _ (Hp.Le.refl _) ⟨rfl, rfl⟩ (ConvH.of (.cons r1 .nil))
 replace hm := iff_ w87 hm
 refine eq_int (cond_go rfl ?_)
 refine cond_s (fun w90 => ?_) (fun w90 => ?_)
 replace hm := ift w90 hm
 obtain rfl := si hm
 refine EndStep.mk _ (Hp.Le.refl _) ⟨rfl, rfl⟩ (ConvH.of (.cons r1 .nil))
 replace hm := iff_ w90 hm
 refine eq_int (cond_go rfl ?_)
 refine cond_s (fun w93 => ?_) (fun w93 => ?_)
 replace hm := ift w93 hm
 refine Jb rfl (RStep.of (load1_s r0 rfl rfl ?_))
 obtain ⟨x98, q98, hm⟩ := bnd hm
 refine call_fn (JbE (s := x.S) q98) .nil ?_
 rintro _ K98 _ l98 ⟨rfl, rfl⟩
 refine cond_s (fun g103_27 => ?_) (fun g103_27 => ?_)
 refine cond_t g103_27 ?_
 obtain rfl := si hm
 refine EndStep.mk _ l98 ⟨(by rw [← (and_e (b := x98.2) g103_27)] <;> rfl), rfl⟩ (ConvH.of (.cons r1 .nil))
 refine cond_f g103_27 ?_
 obtain rfl := si hm
 refine EndStep.mk _ l98 ⟨(by rw [← ((and_f g103_27)).symm] <;> rfl), rfl⟩ (ConvH.of (.cons r1 .nil))
 replace hm := iff_ w93 hm
 refine eq_int (cond_go rfl ?_)
 refine cond_s (fun w106 => ?_) (fun w106 => ?_)
 replace hm := ift w106 hm
 refine cond_s (fun g109_29 => ?_) (fun g109_29 => ?_)
 refine cond_t g109_29 ?_
 obtain rfl := si hm
 refine EndStep.mk _ (Hp.Le.refl _) ⟨(by rw [← (and_e (b := decide (x.S = ([] : Str))) g109_29)] <;> rfl), rfl⟩ (ConvH.of (.cons r1 .nil))
 refine cond_f g109_29 ?_
 obtain rfl := si hm
 refine EndStep.mk _ (Hp.Le.refl _) ⟨(by rw [← ((and_f g109_29)).symm] <;> rfl), rfl⟩ (ConvH.of (.cons r1 .nil))
 replace hm := iff_ w106 hm
 obtain rfl := si hm
 refine EndStep.mk _ (Hp.Le.refl _) ⟨rfl, rfl⟩ (ConvH.of (.cons r1 .nil))

noncomputable def Jbl (s : Je) (slot : Int) : Option (Bool) :=
  (chk ((64 : Int) ≠ 0 ∧ InI (Int.tdiv slot 64))).bind fun _ =>
  (chk (0 ≤ (Int.tdiv slot 64) ∧ (Int.tdiv slot 64) < 8)).bind fun _ =>
  (chk (0 ≤ (Int.tmod slot 64))).bind fun _ =>
  some (decide ((u64and (u64shr (List.getD [s.stored.f0, s.stored.f1, s.stored.f2, s.stored.f3, s.stored.f4, s.stored.f5, s.stored.f6, s.stored.f7] (Int.toNat (Int.tdiv slot 64)) 0) (Int.tmod slot 64)) 1) = 1))
set_option maxHeartbeats 8000000 in
theorem Jb6 {s : Je} {slot : Int} {K : Hp} {r : Bool}
    (hm : Jbl s slot = some r)  :
    Fn Tryz.prog 68 [.agg #[.bool s.reached, .int .i64 s.depth, .int .u64 s.stored.f0, .int .u64 s.stored.f1, .int .u64 s.stored.f2, .int .u64 s.stored.f3, .int .u64 s.stored.f4, .int .u64 s.stored.f5, .int .u64 s.stored.f6, .int .u64 s.stored.f7], .int .i64 slot] K [] (fun v K' H' => v = .bool r ∧ H' = []) := by
 refine Fn.enter Tryz.func68 Tryz.call68 rfl fun F => ?_
 unfold Jbl at hm
 refine box_rule ?_
 intro b2
 obtain ⟨h6, hm⟩ := chkb hm
 refine quo_t h6.1 h6.2 (Jb rfl ?_)
 obtain ⟨h8, hm⟩ := chkb hm
 refine RStep.ofN (arr_addrV (sz := 1) rfl rfl h8.1 h8.2 (RStep.of (ld_arr (L := [s.stored.f0, s.stored.f1, s.stored.f2, s.stored.f3, s.stored.f4, s.stored.f5, s.stored.f6, s.stored.f7]) (pre := [.bool s.reached, .int .i64 s.depth]) (post := []) r0 rfl (by simp) rfl h8.1 h8.2 (rem_t (by decide) ?_))))
 obtain ⟨h12, hm⟩ := chkb hm
 refine u64_shr h12 ?_
 refine u64_and ?_
 refine eq_int ?_
 obtain rfl := si hm
 refine EndStep.mk _ (Hp.Le.refl _) ⟨rfl, rfl⟩ (ConvH.of (.cons r1 .nil))

noncomputable def Jal (t : Je) : Nat → Nat → Int → Int → Int → Int → Int → Int → Int → Int → Option (Int × Int × Int × Int × Int × Int × Int × Int)
  | 0, _, y0_0, y0_1, y0_2, y0_3, y0_4, y0_5, y0_6, y0_7 => some (y0_0, y0_1, y0_2, y0_3, y0_4, y0_5, y0_6, y0_7)
  | xs0 + 1, i0, y0_0, y0_1, y0_2, y0_3, y0_4, y0_5, y0_6, y0_7 =>
    (chk (0 ≤ (i0 : Int) ∧ (i0 : Int) < 8)).bind fun _ =>
    (chk (0 ≤ (i0 : Int) ∧ (i0 : Int) < 8)).bind fun _ =>
    (chk (0 ≤ (i0 : Int) ∧ (i0 : Int) < 8)).bind fun _ =>
    (some (List.set [y0_0, y0_1, y0_2, y0_3, y0_4, y0_5, y0_6, y0_7] (Int.toNat (i0 : Int)) (u64and (List.getD [y0_0, y0_1, y0_2, y0_3, y0_4, y0_5, y0_6, y0_7] (Int.toNat (i0 : Int)) 0) (List.getD [t.stored.f0, t.stored.f1, t.stored.f2, t.stored.f3, t.stored.f4, t.stored.f5, t.stored.f6, t.stored.f7] (Int.toNat (i0 : Int)) 0)))).bind fun m10_ =>
    Jal t xs0 (i0 + 1) (List.getD m10_ 0 0) (List.getD m10_ 1 0) (List.getD m10_ 2 0) (List.getD m10_ 3 0) (List.getD m10_ 4 0) (List.getD m10_ 5 0) (List.getD m10_ 6 0) (List.getD m10_ 7 0)
noncomputable def JbF (s : Je) (t : Je) : Option (Bool × Je) :=
  if (!s.reached) then
  some (true, t)
  else
  (chk (InI (8 : Int))).bind fun _ =>
  (Jal t (8 : Int).toNat 0 s.stored.f0 s.stored.f1 s.stored.f2 s.stored.f3 s.stored.f4 s.stored.f5 s.stored.f6 s.stored.f7).bind fun t0 =>
  some (decide (s.depth = t.depth), (⟨s.reached, s.depth, (⟨t0.1, t0.2.1, t0.2.2.1, t0.2.2.2.1, t0.2.2.2.2.1, t0.2.2.2.2.2.1, t0.2.2.2.2.2.2.1, t0.2.2.2.2.2.2.2⟩ : JU)⟩ : Je))
set_option maxHeartbeats 8000000 in
theorem Jcw {s : Je} {t : Je} {b0 : Nat} {K : Hp} {r : Bool × Je}
    (hm : JbF s t = some r)  :
    Fn Tryz.prog 69 [.pointer (some ⟨b0, 0, none⟩), .agg #[.bool t.reached, .int .i64 t.depth, .int .u64 t.stored.f0, .int .u64 t.stored.f1, .int .u64 t.stored.f2, .int .u64 t.stored.f3, .int .u64 t.stored.f4, .int .u64 t.stored.f5, .int .u64 t.stored.f6, .int .u64 t.stored.f7]] K [Cells b0 125 [.bool s.reached, .int .i64 s.depth, .int .u64 s.stored.f0, .int .u64 s.stored.f1, .int .u64 s.stored.f2, .int .u64 s.stored.f3, .int .u64 s.stored.f4, .int .u64 s.stored.f5, .int .u64 s.stored.f6, .int .u64 s.stored.f7]] (fun v K' H' => v = .bool r.1 ∧ H' = [Cells b0 125 [.bool r.2.reached, .int .i64 r.2.depth, .int .u64 r.2.stored.f0, .int .u64 r.2.stored.f1, .int .u64 r.2.stored.f2, .int .u64 r.2.stored.f3, .int .u64 r.2.stored.f4, .int .u64 r.2.stored.f5, .int .u64 r.2.stored.f6, .int .u64 r.2.stored.f7]]) := by
 refine Fn.enter Tryz.func69 Tryz.call69 rfl fun F => ?_
 unfold JbF at hm
 refine box_rule ?_
 intro b3
 refine nil_check (Jb rfl (RStep.of (load1_s r1 rfl rfl (un_not (cond_go rfl ?_)))))
 refine cond_s (fun w10 => ?_) (fun w10 => ?_)
 replace hm := ift (not_t (ni_t w10)) hm
 refine RStep.of (loadn_s r0 rfl (Nat.le_of_ble_eq_true rfl) (nil_check ?_))
 refine store_rule r1 rfl ?_
 refine ⟨rfl, rfl, (Nat.le_of_ble_eq_true rfl), ?_⟩
 obtain rfl := si hm
 refine EndStep.mk _ (Hp.Le.refl _) ⟨rfl, rfl⟩ (ConvH.of (.cons r0 (.cons r1 .nil)))
 replace hm := iff_ (not_f (ni_f w10)) hm
 obtain ⟨hk0, hm⟩ := chkb hm
 obtain ⟨s0, hl0, hm⟩ := bnd hm
 refine code_cut (σ := (Int × Int × Int × Int × Int × Int × Int × Int)) [5, 14, 15, 16, 17, 18, 19, 20, 21, 22, 23, 24, 25, 26, 27, 28, 29, 30, 31] (fun t0 => []) (fun t0 => [Cells b3 125 [.bool t.reached, .int .i64 t.depth, .int .u64 t.stored.f0, .int .u64 t.stored.f1, .int .u64 t.stored.f2, .int .u64 t.stored.f3, .int .u64 t.stored.f4, .int .u64 t.stored.f5, .int .u64 t.stored.f6, .int .u64 t.stored.f7], Cells b0 125 [.bool s.reached, .int .i64 s.depth, .int .u64 t0.1, .int .u64 t0.2.1, .int .u64 t0.2.2.1, .int .u64 t0.2.2.2.1, .int .u64 t0.2.2.2.2.1, .int .u64 t0.2.2.2.2.2.1, .int .u64 t0.2.2.2.2.2.2.1, .int .u64 t0.2.2.2.2.2.2.2], F]) (fun zz K1 => match zz with | t0 => t0 = s0) ?_ ?_
 refine block_go rfl ?_
 refine loop_rule (σ := Nat × Int × Int × Int × Int × Int × Int × Int × Int) [5, 14, 15, 16, 17, 18, 19, 20, 21, 22, 23, 24, 25, 26, 27, 28, 29, 30, 31] (fun (i0, y0_0, y0_1, y0_2, y0_3, y0_4, y0_5, y0_6, y0_7) => [(14, .int .i64 (i0 : Int))]) (fun (i0, y0_0, y0_1, y0_2, y0_3, y0_4, y0_5, y0_6, y0_7) => [Cells b3 125 [.bool t.reached, .int .i64 t.depth, .int .u64 t.stored.f0, .int .u64 t.stored.f1, .int .u64 t.stored.f2, .int .u64 t.stored.f3, .int .u64 t.stored.f4, .int .u64 t.stored.f5, .int .u64 t.stored.f6, .int .u64 t.stored.f7], Cells b0 125 [.bool s.reached, .int .i64 s.depth, .int .u64 y0_0, .int .u64 y0_1, .int .u64 y0_2, .int .u64 y0_3, .int .u64 y0_4, .int .u64 y0_5, .int .u64 y0_6, .int .u64 y0_7], F]) (fun zz K1 => match zz with | (i0, y0_0, y0_1, y0_2, y0_3, y0_4, y0_5, y0_6, y0_7) => Jal t ((8 : Int).toNat - i0) i0 y0_0 y0_1 y0_2 y0_3 y0_4 y0_5 y0_6 y0_7 = some s0) (fun zz => (8 : Int).toNat - zz.1) (0, s.stored.f0, s.stored.f1, s.stored.f2, s.stored.f3, s.stored.f4, s.stored.f5, s.stored.f6, s.stored.f7) rfl ⟨rfl, trivial⟩ (ConvH.of (.cons r0 (.cons r0 (.cons r0 .nil)))) hl0 ?_
 clear hl0
 rintro ⟨i0, y0_0, y0_1, y0_2, y0_3, y0_4, y0_5, y0_6, y0_7⟩ Kb0 lk0 hl0 j0
 conv at hl0 => whnf
 refine cond_go rfl ?_
 refine cond_s (fun w0 => ?_) (fun w0 => ?_)
 rw [ltn (n := (8 : Int)) w0, Jal.eq_2] at hl0
 refine block_go rfl ?_
 refine draw_go_tail ⟨⟨[], false⟩, _, [(_, _), (_, _)]⟩ 13 rfl (by kernel_rfl) ⟨Hp.Le.refl _, (ConvH.of (.cons r1 (.cons r0 .nil)))⟩ ?_
 refine nil_check (Jb rfl ?_)
 obtain ⟨h21, hl0⟩ := chkb hl0
 refine arr_addrV (sz := 1) rfl rfl h21.1 h21.2 ?_
 refine ld_arr_l (L := [y0_0, y0_1, y0_2, y0_3, y0_4, y0_5, y0_6, y0_7]) (pre := [.bool s.reached, .int .i64 s.depth]) (post := []) m0 rfl (by simp) rfl h21.1 h21.2 ?_
 refine Jb rfl ?_
 obtain ⟨h25, hl0⟩ := chkb hl0
 refine arr_addrV (sz := 1) rfl rfl h25.1 h25.2 ?_
 refine ld_arr_l (L := [t.stored.f0, t.stored.f1, t.stored.f2, t.stored.f3, t.stored.f4, t.stored.f5, t.stored.f6, t.stored.f7]) (pre := [.bool t.reached, .int .i64 t.depth]) (post := []) m1 rfl (by simp) rfl h25.1 h25.2 ?_
 refine u64_and ?_
 refine nil_check (Jb rfl ?_)
 obtain ⟨h30, hl0⟩ := chkb hl0
 refine arr_addrV (sz := 1) rfl rfl h30.1 h30.2 ?_
 obtain ⟨m10_, hm10_, hl0⟩ := bnd hl0
 replace hm10_ := Option.some.inj hm10_
 have hm10_l : m10_.length = 8 := by rw [← hm10_]; simp
 refine st_arr (L := [y0_0, y0_1, y0_2, y0_3, y0_4, y0_5, y0_6, y0_7]) (pre := [.bool s.reached, .int .i64 s.depth]) (post := []) (cs' := [.bool s.reached, .int .i64 s.depth, .int .u64 (List.getD m10_ 0 0), .int .u64 (List.getD m10_ 1 0), .int .u64 (List.getD m10_ 2 0), .int .u64 (List.getD m10_ 3 0), .int .u64 (List.getD m10_ 4 0), .int .u64 (List.getD m10_ 5 0), .int .u64 (List.getD m10_ 6 0), .int .u64 (List.getD m10_ 7 0)]) r1 rfl (by simp) rfl h30.1 h30.2 hm10_ (by rw [map8 hm10_l]; rfl) ?_
 refine ⟨⟨Hp.emp_le _, (ConvH.of .nil)⟩, ?_⟩
 refine int_in (cntn w0 hk0) ?_
 refine RoundStep.mk (i0 + 1, (List.getD m10_ 0 0), (List.getD m10_ 1 0), (List.getD m10_ 2 0), (List.getD m10_ 3 0), (List.getD m10_ 4 0), (List.getD m10_ 5 0), (List.getD m10_ 6 0), (List.getD m10_ 7 0)) ⟨rfl, trivial⟩ (by repeat (first | exact trivial | refine And.intro rfl ?_)) (ConvH.of (.cons r1 (.cons r0 (.cons r0 .nil)))) lk0 (ltnm w0) hl0
 rw [lto (n := (8 : Int)) w0, Jal.eq_1] at hl0
 refine cond_T ?_
 refine MeetStep.mk ((y0_0, y0_1, y0_2, y0_3, y0_4, y0_5, y0_6, y0_7)) trivial (by repeat (first | exact trivial | refine And.intro rfl ?_)) (ConvH.of (.cons r0 (.cons r0 (.cons r0 .nil)))) lk0 (si hl0)
 rintro t0 Kt0 lt0 rfl j0
 refine draw_go ⟨⟨[], false⟩, _, [(_, _), (_, _)]⟩ (by kernel_rfl) ⟨Hp.Le.refl _, (ConvH.of (.cons r1 (.cons r0 .nil)))⟩ ?_
 refine nil_check (Jb rfl (load1_l m0 rfl rfl (Jb rfl (load1_l m1 rfl rfl (eq_int ?_)))))
 obtain rfl := si hm
 refine EndStep.mk _ lt0 ⟨rfl, rfl⟩ (ConvH.of (.cons r1 (.cons r1 .nil)))

noncomputable def J9 (s_i : Nat) (t : Je) : Nat → Nat → (List Je) → Option ((List Je))
  | 0, _, y0_0 => some y0_0
  | xs0 + 1, i0, y0_0 =>
    (chk (0 ≤ (i0 : Int) ∧ (i0 : Int) < 8)).bind fun _ =>
    (y0_0[s_i]?).bind fun ew3 =>
    (chk (0 ≤ (i0 : Int) ∧ (i0 : Int) < 8)).bind fun _ =>
    (chk (0 ≤ (i0 : Int) ∧ (i0 : Int) < 8)).bind fun _ =>
    (some (List.set [ew3.stored.f0, ew3.stored.f1, ew3.stored.f2, ew3.stored.f3, ew3.stored.f4, ew3.stored.f5, ew3.stored.f6, ew3.stored.f7] (Int.toNat (i0 : Int)) (u64and (List.getD [ew3.stored.f0, ew3.stored.f1, ew3.stored.f2, ew3.stored.f3, ew3.stored.f4, ew3.stored.f5, ew3.stored.f6, ew3.stored.f7] (Int.toNat (i0 : Int)) 0) (List.getD [t.stored.f0, t.stored.f1, t.stored.f2, t.stored.f3, t.stored.f4, t.stored.f5, t.stored.f6, t.stored.f7] (Int.toNat (i0 : Int)) 0)))).bind fun m4_ =>
    J9 s_i t xs0 (i0 + 1) (y0_0.set s_i (⟨ew3.reached, ew3.depth, (⟨(List.getD m4_ 0 0), (List.getD m4_ 1 0), (List.getD m4_ 2 0), (List.getD m4_ 3 0), (List.getD m4_ 4 0), (List.getD m4_ 5 0), (List.getD m4_ 6 0), (List.getD m4_ 7 0)⟩ : JU)⟩ : Je))
noncomputable def JaC (s : (List Je)) (s_i : Nat) (t : Je) : Option (Bool × (List Je)) :=
  (s[s_i]?).bind fun ex0 =>
  if (!ex0.reached) then
  some (true, (s.set s_i t))
  else
  (chk (InI (8 : Int))).bind fun _ =>
  (J9 s_i t (8 : Int).toNat 0 s).bind fun t0 =>
  (t0[s_i]?).bind fun ew5 =>
  some (decide (ew5.depth = t.depth), t0)
set_option maxHeartbeats 8000000 in
theorem JP {s : (List Je)} {s_i : Nat} {t : Je} {ea0 : Option Addr} {ec0 : Nat} {K : Hp} {r : Bool × (List Je)}
    (hm : JaC s s_i t = some r) (eh0 : 0 < s.length → Has ea0) :
    Fn Tryz.prog 69 [(eptr ea0 (s_i * 10)), .agg #[.bool t.reached, .int .i64 t.depth, .int .u64 t.stored.f0, .int .u64 t.stored.f1, .int .u64 t.stored.f2, .int .u64 t.stored.f3, .int .u64 t.stored.f4, .int .u64 t.stored.f5, .int .u64 t.stored.f6, .int .u64 t.stored.f7]] K [OwnL Je.enc ea0 125 10 ec0 s] (fun v K' H' => v = .bool r.1 ∧ (0 < r.2.length → Has ea0) ∧ s.length = r.2.length ∧ H' = [OwnL Je.enc ea0 125 10 ec0 r.2]) := by
 refine Fn.enter Tryz.func69 Tryz.call69 rfl fun F => ?_
 unfold JaC at hm
 obtain ⟨ex0, ek0, hm⟩ := bnd hm
 refine box_rule ?_
 intro b3
 refine nil_checkE (hasO eh0 ek0) (eptr_field rfl (hasO eh0 ek0) (RStep.of (ld_own (i := s_i) (o := 0) r1 rfl ek0 rfl rfl (un_not (cond_go rfl ?_)))))
 refine cond_s (fun w10 => ?_) (fun w10 => ?_)
 replace hm := ift (not_t (ni_t w10)) hm
 refine RStep.of (loadn_s r0 rfl (Nat.le_of_ble_eq_true rfl) (nil_checkE (hasO eh0 ek0) ?_))
 refine st_own (o := 0) (y := t) ex0 r1 rfl ek0 rfl (by (conv => whnf); exact ⟨rfl, rfl, (Nat.le_of_ble_eq_true rfl), rfl, rfl, rfl⟩) ?_
 obtain rfl := si hm
 refine EndStep.mk _ (Hp.Le.refl _) ⟨rfl, (by first | simpa using eh0 | exact fun _ => ⟨_, _, rfl⟩), ((rfl).trans List.length_set.symm), rfl⟩ (ConvH.of (.cons r0 (.cons r1 .nil)))
 replace hm := iff_ (not_f (ni_f w10)) hm
 obtain ⟨hk0, hm⟩ := chkb hm
 obtain ⟨s0, hl0, hm⟩ := bnd hm
 refine code_cut (σ := ((List Je))) [5, 14, 15, 16, 17, 18, 19, 20, 21, 22, 23, 24, 25, 26, 27, 28, 29, 30, 31] (fun t0 => []) (fun t0 => [Cells b3 125 [.bool t.reached, .int .i64 t.depth, .int .u64 t.stored.f0, .int .u64 t.stored.f1, .int .u64 t.stored.f2, .int .u64 t.stored.f3, .int .u64 t.stored.f4, .int .u64 t.stored.f5, .int .u64 t.stored.f6, .int .u64 t.stored.f7], OwnL Je.enc ea0 125 10 ec0 t0, F]) (fun zz K1 => match zz with | t0 => (0 < t0.length → Has ea0) ∧ s.length = t0.length ∧ t0 = s0) ?_ ?_
 refine block_go rfl ?_
 refine loop_rule (σ := Nat × (List Je)) [5, 14, 15, 16, 17, 18, 19, 20, 21, 22, 23, 24, 25, 26, 27, 28, 29, 30, 31] (fun (i0, y0_0) => [(14, .int .i64 (i0 : Int))]) (fun (i0, y0_0) => [Cells b3 125 [.bool t.reached, .int .i64 t.depth, .int .u64 t.stored.f0, .int .u64 t.stored.f1, .int .u64 t.stored.f2, .int .u64 t.stored.f3, .int .u64 t.stored.f4, .int .u64 t.stored.f5, .int .u64 t.stored.f6, .int .u64 t.stored.f7], OwnL Je.enc ea0 125 10 ec0 y0_0, F]) (fun zz K1 => match zz with | (i0, y0_0) => (0 < y0_0.length → Has ea0) ∧ s.length = y0_0.length ∧ J9 s_i t ((8 : Int).toNat - i0) i0 y0_0 = some s0) (fun zz => (8 : Int).toNat - zz.1) (0, s) rfl ⟨rfl, trivial⟩ (ConvH.of (.cons r0 (.cons r0 (.cons r0 .nil)))) ⟨eh0, rfl, hl0⟩ ?_
 clear hl0
 rintro ⟨i0, y0_0⟩ Kb0 lk0 ⟨y0_h0, y0_n0, hl0⟩ j0
 refine cond_go rfl ?_
 refine cond_s (fun w0 => ?_) (fun w0 => ?_)
 rw [ltn (n := (8 : Int)) w0, J9.eq_2] at hl0
 refine block_go rfl ?_
 refine draw_go ⟨⟨[], true⟩, _, []⟩ (by kernel_rfl) ⟨Hp.Le.refl _, (ConvH.of .nil)⟩ ?_
 refine nil_checkE (hasO eh0 ek0) (eptr_field rfl (hasO eh0 ek0) ?_)
 obtain ⟨h21, hl0⟩ := chkb hl0
 refine arr_addrE (sz := 1) rfl rfl (hasO eh0 ek0) h21.1 h21.2 ?_
 obtain ⟨ew3, ej3, hl0⟩ := bnd hl0
 refine ld_own (i := s_i) (o := 2 + (Int.toNat (i0 : Int))) r1 rfl ej3 (arr_get (L := [ew3.stored.f0, ew3.stored.f1, ew3.stored.f2, ew3.stored.f3, ew3.stored.f4, ew3.stored.f5, ew3.stored.f6, ew3.stored.f7]) (pre := [.bool ew3.reached, .int .i64 ew3.depth]) (post := []) rfl h21.1 h21.2) (by omega) ?_
 refine Jb rfl ?_
 obtain ⟨h25, hl0⟩ := chkb hl0
 refine arr_addrV (sz := 1) rfl rfl h25.1 h25.2 ?_
 refine ld_arr (L := [t.stored.f0, t.stored.f1, t.stored.f2, t.stored.f3, t.stored.f4, t.stored.f5, t.stored.f6, t.stored.f7]) (pre := [.bool t.reached, .int .i64 t.depth]) (post := []) r0 rfl (by simp) rfl h25.1 h25.2 ?_
 refine u64_and ?_
 refine nil_checkE (hasO eh0 ek0) (eptr_field rfl (hasO eh0 ek0) ?_)
 obtain ⟨h30, hl0⟩ := chkb hl0
 refine arr_addrE (sz := 1) rfl rfl (hasO eh0 ek0) h30.1 h30.2 ?_
 obtain ⟨m4_, hm4_, hl0⟩ := bnd hl0
 replace hm4_ := Option.some.inj hm4_
 have hm4_l : m4_.length = 8 := by rw [← hm4_]; simp
 refine st_own (n := 1) (o := 2 + (Int.toNat (i0 : Int))) (y := (⟨ew3.reached, ew3.depth, (⟨(List.getD m4_ 0 0), (List.getD m4_ 1 0), (List.getD m4_ 2 0), (List.getD m4_ 3 0), (List.getD m4_ 4 0), (List.getD m4_ 5 0), (List.getD m4_ 6 0), (List.getD m4_ 7 0)⟩ : JU)⟩ : Je)) ew3 r1 rfl ej3 (by omega) (by rw [cellsL_eq]; exact ⟨rfl, rfl, by omega, (arr_splice (L := [ew3.stored.f0, ew3.stored.f1, ew3.stored.f2, ew3.stored.f3, ew3.stored.f4, ew3.stored.f5, ew3.stored.f6, ew3.stored.f7]) (pre := [.bool ew3.reached, .int .i64 ew3.depth]) (post := []) h30.1 h30.2).trans (by rw [hm4_, map8 hm4_l]; rfl), rfl, rfl⟩) ?_
 refine ⟨⟨(Hp.Le.refl _), (ConvH.of .nil)⟩, ?_⟩
 refine int_in (cntn w0 hk0) ?_
 refine RoundStep.mk (i0 + 1, (y0_0.set s_i (⟨ew3.reached, ew3.depth, (⟨(List.getD m4_ 0 0), (List.getD m4_ 1 0), (List.getD m4_ 2 0), (List.getD m4_ 3 0), (List.getD m4_ 4 0), (List.getD m4_ 5 0), (List.getD m4_ 6 0), (List.getD m4_ 7 0)⟩ : JU)⟩ : Je))) ⟨rfl, trivial⟩ (by repeat (first | exact trivial | refine And.intro rfl ?_)) (ConvH.of (.cons r1 (.cons r0 (.cons r0 .nil)))) lk0 (ltnm w0) ⟨(by first | simpa using y0_h0 | exact fun _ => ⟨_, _, rfl⟩), ((y0_n0).trans List.length_set.symm), hl0⟩
 rw [lto (n := (8 : Int)) w0, J9.eq_1] at hl0
 refine cond_T ?_
 refine MeetStep.mk (y0_0) trivial (by repeat (first | exact trivial | refine And.intro rfl ?_)) (ConvH.of (.cons r0 (.cons r0 (.cons r0 .nil)))) lk0 ⟨y0_h0, y0_n0, (si hl0)⟩
 rintro t0 Kt0 lt0 ⟨t0_h0, t0_n0, rfl⟩ j0
 refine draw_go ⟨⟨[], true⟩, _, []⟩ (by kernel_rfl) ⟨Hp.Le.refl _, (ConvH.of .nil)⟩ ?_
 refine nil_checkE (hasO eh0 ek0) (eptr_field rfl (hasO eh0 ek0) ?_)
 obtain ⟨ew5, ej5, hm⟩ := bnd hm
 refine ld_own (i := s_i) (o := 1) r1 rfl ej5 rfl rfl ?_
 refine Jb rfl ?_
 refine load1_s r0 rfl rfl ?_
 refine eq_int ?_
 obtain rfl := si hm
 refine EndStep.mk _ lt0 ⟨rfl, t0_h0, t0_n0, rfl⟩ (ConvH.of (.cons r1 (.cons r1 .nil)))

noncomputable def JaG (code : (List Jj)) : List Jj → Nat → Int → (List Je) → Option (Fl (Int × Bool) (Int × (List Je)))
  | [], _, y0_0, y0_1 => some (Fl.go (y0_0, y0_1))
  | e0 :: xs0, i0, y0_0, y0_1 =>
    (ix y0_1 (i0 : Int)).bind fun x36 =>
    (JbN e0).bind fun x40 =>
    (chk (InI ((code.length : Int) - 1))).bind fun _ =>
    if ((((!x40.2.2) || (!x36.reached)) || decide (x36.depth < x40.1)) || (!((decide (e0.Op = 12)) == (decide ((i0 : Int) = ((code.length : Int) - 1)))))) then
    some (Fl.ret (0, false))
    else
    (if decide (e0.Op = 3) then (Jbl x36 e0.N).bind fun x77 =>
    some (!x77) else some false).bind fun x79 =>
    if x79 then
    some (Fl.ret (0, false))
    else
    (chk (InI (x40.2.1 - x40.1))).bind fun _ =>
    (chk (InI (x36.depth + (x40.2.1 - x40.1)))).bind fun _ =>
    ((if decide (e0.Op = 4) then
    (chk ((64 : Int) ≠ 0 ∧ InI (Int.tdiv e0.N 64))).bind fun _ =>
    (chk (0 ≤ (Int.tdiv e0.N 64) ∧ (Int.tdiv e0.N 64) < 8)).bind fun _ =>
    (chk (0 ≤ (Int.tmod e0.N 64))).bind fun _ =>
    (chk (0 ≤ (Int.tdiv e0.N 64) ∧ (Int.tdiv e0.N 64) < 8)).bind fun _ =>
    (some (List.set [x36.stored.f0, x36.stored.f1, x36.stored.f2, x36.stored.f3, x36.stored.f4, x36.stored.f5, x36.stored.f6, x36.stored.f7] (Int.toNat (Int.tdiv e0.N 64)) (u64or (List.getD [x36.stored.f0, x36.stored.f1, x36.stored.f2, x36.stored.f3, x36.stored.f4, x36.stored.f5, x36.stored.f6, x36.stored.f7] (Int.toNat (Int.tdiv e0.N 64)) 0) (u64shl 1 (Int.tmod e0.N 64))))).bind fun m5_ =>
    some ((List.getD m5_ 0 0), (List.getD m5_ 1 0), (List.getD m5_ 2 0), (List.getD m5_ 3 0), (List.getD m5_ 4 0), (List.getD m5_ 5 0), (List.getD m5_ 6 0), (List.getD m5_ 7 0))
    else
    some (x36.stored.f0, x36.stored.f1, x36.stored.f2, x36.stored.f3, x36.stored.f4, x36.stored.f5, x36.stored.f6, x36.stored.f7) : Option (Int × Int × Int × Int × Int × Int × Int × Int))).bind fun t903 =>
    ((if (decide (e0.Op = 9) || decide (e0.Op = 10)) then
    if (decide (e0.N ≤ (i0 : Int)) || decide (e0.N ≥ (code.length : Int))) then
    some (Fl.ret (0, false))
    else
    (ix y0_1 e0.N).bind fun x135 =>
    (JaC y0_1 ((e0.N).toNat) (⟨x36.reached, (x36.depth + (x40.2.1 - x40.1)), (⟨t903.1, t903.2.1, t903.2.2.1, t903.2.2.2.1, t903.2.2.2.2.1, t903.2.2.2.2.2.1, t903.2.2.2.2.2.2.1, t903.2.2.2.2.2.2.2⟩ : JU)⟩ : Je)).bind fun x137 =>
    if (!x137.1) then
    some (Fl.ret (0, false))
    else
    some (Fl.go x137.2)
    else
    some (Fl.go y0_1) : Option (Fl (Int × Bool) ((List Je))))).bind fun s910 => s910.el (fun r => some (Fl.ret r)) fun t910 =>
    if decide ((i0 : Int) = ((code.length : Int) - 1)) then
    some (Fl.ret ((max (max y0_0 x36.depth) (x36.depth + (x40.2.1 - x40.1))), decide ((x36.depth + (x40.2.1 - x40.1)) = 0)))
    else
    if decide (e0.Op ≠ 9) then
    (ix t910 ((i0 : Int) + 1)).bind fun x152 =>
    (JaC t910 ((((i0 : Int) + 1)).toNat) (⟨x36.reached, (x36.depth + (x40.2.1 - x40.1)), (⟨t903.1, t903.2.1, t903.2.2.1, t903.2.2.2.1, t903.2.2.2.2.1, t903.2.2.2.2.2.1, t903.2.2.2.2.2.2.1, t903.2.2.2.2.2.2.2⟩ : JU)⟩ : Je)).bind fun x154 =>
    if (!x154.1) then
    some (Fl.ret (0, false))
    else
    JaG code xs0 (i0 + 1) (max (max y0_0 x36.depth) (x36.depth + (x40.2.1 - x40.1))) x154.2
    else
    JaG code xs0 (i0 + 1) (max (max y0_0 x36.depth) (x36.depth + (x40.2.1 - x40.1))) t910
noncomputable def JbY (code : (List Jj)) : Option (Int × Bool) :=
  if (decide ((code.length : Int) < 1) || decide ((code.length : Int) > 2048)) then
  some (0, false)
  else
  (chk (0 ≤ (code.length : Int) ∧ (code.length : Int) ≤ (lim : Int))).bind fun _ =>
  (ix (List.replicate (Int.toNat (code.length : Int)) ((⟨false, 0, (⟨0, 0, 0, 0, 0, 0, 0, 0⟩ : JU)⟩ : Je) : Je)) 0).bind fun x25 =>
  (chk (code.length ≤ szMax)).bind fun _ =>
  (JaG code code 0 0 ((List.replicate (Int.toNat (code.length : Int)) ((⟨false, 0, (⟨0, 0, 0, 0, 0, 0, 0, 0⟩ : JU)⟩ : Je) : Je)).set ((0 : Int).toNat) (⟨true, x25.depth, x25.stored⟩ : Je))).bind fun s0 => s0.el some fun t0 =>
  some (0, false)
set_option maxHeartbeats 8000000 in
theorem Jcq {code : (List Jj)} {ap0_0 : Option Addr} {cp0_0 : Nat} {n0 : Nat} {K : Hp} {r : Int × Bool}
    (hm : JbY code = some r) (hp0_0 : RdC Jj.enc K ap0_0 cp0_0 3 code) (en0 : n0 = code.length) (hG1 : GlL eS 1 1 Js K) (hG2 : GlL eS 1 2 Jx K) (hG3 : GlL eS 1 3 JD K) (hG4 : GlL eS 1 4 gkw0 K) :
    Fn Tryz.prog 41 [.slice ap0_0 n0 cp0_0] K [] (fun v K' H' => v = .tuple #[.int .i64 r.1, .bool r.2] ∧ H' = []) := by
 subst en0
 obtain ⟨ga1, gn1, gc1, gn_, gs1, gd1⟩ := id hG1
 subst gn_
 obtain ⟨ga2, gn2, gc2, gn_, gs2, gd2⟩ := id hG2
 subst gn_
 obtain ⟨ga3, gn3, gc3, gn_, gs3, gd3⟩ := id hG3
 subst gn_
 obtain ⟨ga4, gn4, gc4, gn_, gs4, gd4⟩ := id hG4
 subst gn_
 refine Fn.enter Tryz.func41 Tryz.call41 rfl fun F => ?_
 unfold JbY at hm
 refine RStep.of (len_slice rfl ?_)
 refine cond_s (fun g16_1 => ?_) (fun g16_1 => ?_)
 refine cond_t g16_1 (cond_t g16_1 (cond_t g16_1 (cond_go rfl (cond_T ?_))))
 replace hm := ift (or_t g16_1) hm
 obtain rfl := si hm
 refine EndStep.mk _ (Hp.Le.refl _) ⟨rfl, rfl⟩ (ConvH.of (.cons r0 .nil))
 refine cond_f g16_1 (RStep.of (len_slice rfl (cond_f g16_1 (cond_f g16_1 (cond_go rfl ?_)))))
 refine cond_s (fun w20 => ?_) (fun w20 => ?_)
 replace hm := ift (or_u g16_1 w20) hm
 obtain rfl := si hm
 refine EndStep.mk _ (Hp.Le.refl _) ⟨rfl, rfl⟩ (ConvH.of (.cons r0 .nil))
 replace hm := iff_ (or_f g16_1 w20) hm
 refine RStep.of (len_slice rfl ?_)
 obtain ⟨h23, hm⟩ := chkb hm
 refine mk_slice (enc := Je.enc) ((⟨false, 0, (⟨0, 0, 0, 0, 0, 0, 0, 0⟩ : JU)⟩ : Je) : Je) elT121 rfl rfl rfl h23 fun b23 => ?_
 obtain ⟨x25, l25, k25, hm⟩ := ixb hm
 refine RStep.ofN (index_addr rfl rfl (hasO (fun _ => ⟨_, _, rfl⟩) k25) l25 (lt_ofE List.length_replicate.symm l25 k25) (eptr_field rfl (hasO (fun _ => ⟨_, _, rfl⟩) k25) ?_))
 refine st_own (o := 0) (y := (⟨true, x25.depth, x25.stored⟩ : Je)) x25 r0 rfl k25 rfl (by (conv => whnf); exact ⟨rfl, rfl, (Nat.le_of_ble_eq_true rfl), rfl, rfl, rfl⟩) ?_
 refine RStep.of (len_slice rfl ?_)
 obtain ⟨hk0, hm⟩ := chkb hm
 obtain ⟨s0, hl0, hm⟩ := bnd hm
 refine code_cut (σ := (Int × (List Je))) [2, 3, 5, 6, 7, 8, 9, 10, 11, 12, 29, 30, 31, 32, 33, 34, 35, 36, 37, 38, 39, 40, 41, 42, 43, 44, 45, 46, 47, 48, 49, 50, 51, 52, 53, 54, 55, 56, 57, 58, 59, 60, 61, 62, 63, 64, 65, 66, 67, 68, 69, 70, 71, 72, 73, 74, 75, 76, 77, 78, 79, 80, 81, 82, 83, 84, 85, 86, 87, 88, 89, 90, 91, 92, 93, 94, 95, 96, 97, 98, 99, 100, 101, 102, 103, 104, 105, 106, 107, 108, 109, 110, 111, 112, 113, 114, 115, 116, 117, 118, 119, 120, 121, 122, 123, 124, 125, 126, 127, 128, 129, 130, 131, 132, 133, 134, 135, 136, 137, 138, 139, 140, 141, 142, 143, 144, 145, 146, 147, 148, 149, 150, 151, 152, 153, 154, 155, 156, 157] (fun t0 => [(5, .int .i64 t0.1)]) (fun t0 => [OwnL Je.enc (some ⟨b23, 0, none⟩) 125 10 (Int.toNat (code.length : Int)) t0.2, F]) (fun zz K1 => match zz with | t0 => (0 < t0.2.length → Has (some ⟨b23, 0, none⟩)) ∧ (Int.toNat (code.length : Int)) = t0.2.length ∧ s0 = Fl.go t0) ?_ ?_
 refine block_go rfl ?_
 refine loop_rule (σ := Nat × Int × (List Je)) [2, 3, 5, 6, 7, 8, 9, 10, 11, 12, 29, 30, 31, 32, 33, 34, 35, 36, 37, 38, 39, 40, 41, 42, 43, 44, 45, 46, 47, 48, 49, 50, 51, 52, 53, 54, 55, 56, 57, 58, 59, 60, 61, 62, 63, 64, 65, 66, 67, 68, 69, 70, 71, 72, 73, 74, 75, 76, 77, 78, 79, 80, 81, 82, 83, 84, 85, 86, 87, 88, 89, 90, 91, 92, 93, 94, 95, 96, 97, 98, 99, 100, 101, 102, 103, 104, 105, 106, 107, 108, 109, 110, 111, 112, 113, 114, 115, 116, 117, 118, 119, 120, 121, 122, 123, 124, 125, 126, 127, 128, 129, 130, 131, 132, 133, 134, 135, 136, 137, 138, 139, 140, 141, 142, 143, 144, 145, 146, 147, 148, 149, 150, 151, 152, 153, 154, 155, 156, 157] (fun (i0, y0_0, y0_1) => [(29, .int .i64 (i0 : Int)), (5, .int .i64 y0_0)]) (fun (i0, y0_0, y0_1) => [OwnL Je.enc (some ⟨b23, 0, none⟩) 125 10 (Int.toNat (code.length : Int)) y0_1, F]) (fun zz K1 => match zz with | (i0, y0_0, y0_1) => (0 < y0_1.length → Has (some ⟨b23, 0, none⟩)) ∧ (Int.toNat (code.length : Int)) = y0_1.length ∧ JaG code (code.drop i0) i0 y0_0 y0_1 = some s0) (fun zz => code.length - zz.1) (0, 0, ((List.replicate (Int.toNat (code.length : Int)) ((⟨false, 0, (⟨0, 0, 0, 0, 0, 0, 0, 0⟩ : JU)⟩ : Je) : Je)).set ((0 : Int).toNat) (⟨true, x25.depth, x25.stored⟩ : Je))) rfl ⟨rfl, rfl, trivial⟩ (ConvH.of (.cons r0 (.cons r0 .nil))) ⟨(by first | simpa using (fun _ => ⟨_, _, rfl⟩) | exact fun _ => ⟨_, _, rfl⟩), ((List.length_replicate.symm).trans List.length_set.symm), hl0⟩ ?_
 clear hl0
 rintro ⟨i0, y0_0, y0_1⟩ Kb0 lk0 ⟨y0_h1, y0_n1, hl0⟩ j0
 refine cond_go rfl ?_
 refine cond_s (fun w0 => ?_) (fun w0 => ?_)
 obtain ⟨e0, hx0, hd0⟩ := ltx w0
 rw [hd0, JaG.eq_2] at hl0
 refine block_go rfl ?_
 refine RStep.ofN (index_addr rfl rfl (hasK (hp0_0.mono lk0).rd hx0) (nn _) (lt_ofN hx0) (RStep.of (load_rd_agg i0 _ (hp0_0.mono lk0).rd rfl (mp hx0) rfl ?_)))
 refine alloc_rule rfl ?_
 intro b7
 refine store_rule r0 rfl ?_
 refine ⟨rfl, rfl, (Nat.le_of_ble_eq_true rfl), ?_⟩
 obtain ⟨x36, l36, k36, hl0⟩ := ixb hl0
 refine RStep.ofN (index_addr rfl rfl (hasO y0_h1 k36) l36 (lt_ofE y0_n1 l36 k36) (RStep.of (ldn_own (i := ((i0 : Int)).toNat) r1 rfl k36 rfl rfl ?_)))
 refine alloc_rule rfl ?_
 intro b8
 refine store_rule r0 rfl ?_
 refine ⟨rfl, rfl, (Nat.le_of_ble_eq_true rfl), ?_⟩
 refine RStep.of (loadn_s r1 rfl (Nat.le_of_ble_eq_true rfl) ?_)
 obtain ⟨x40, q40, hl0⟩ := bnd hl0
 refine call_fn (Jci (x := e0) q40 (hG1.mono lk0) (hG2.mono lk0) (hG3.mono lk0) (hG4.mono lk0)) .nil ?_
 rintro _ K40 _ l40 ⟨rfl, rfl⟩
 refine RStep.of (len_slice rfl ?_)
 obtain ⟨h47, hl0⟩ := chkb hl0
 refine int_in h47 (eq_int (un_not ?_))
 refine cond_s (fun g51_12 => ?_) (fun g51_12 => ?_)
 refine cond_t g51_12 (cond_t g51_12 (cond_t g51_12 (cond_T (cond_T (cond_T ?_)))))
 refine cond_T (cond_T (cond_T (cond_T (cond_T (cond_T ?_)))))
 refine cond_T (cond_T ?_)
 replace hl0 := ift (or_t (or_t (or_t (not_t (ni_t g51_12))))) hl0
 refine cond_T (cond_T (cond_T (cond_T (cond_T (cond_T ?_)))))
 refine cond_go rfl (cond_T ?_)
 obtain rfl := si hl0
 replace hm := elr hm
 obtain rfl := si hm
 refine EndStep.mk _ (lk0.trans l40) ⟨rfl, rfl⟩ (ConvH.of (.cons r3 .nil))
 refine Jb rfl (cond_f g51_12 (RStep.of (load1_s r0 rfl rfl (cond_f g51_12 (un_not (cond_f g51_12 ?_))))))
 refine cond_s (fun g56_12 => ?_) (fun g56_12 => ?_)
 refine cond_t g56_12 (cond_t g56_12 (cond_t g56_12 (cond_t g56_12 (cond_T (cond_T ?_)))))
 refine cond_T (cond_T (cond_T (cond_T ?_)))
 replace hl0 := ift (or_t (or_t (or_u (not_f (ni_f g51_12)) (not_t (ni_t g56_12))))) hl0
 refine cond_T (cond_T (cond_T (cond_T (cond_T (cond_T ?_)))))
 refine cond_go rfl (cond_T ?_)
 obtain rfl := si hl0
 replace hm := elr hm
 obtain rfl := si hm
 refine EndStep.mk _ (lk0.trans l40) ⟨rfl, rfl⟩ (ConvH.of (.cons r3 .nil))
 refine Jb rfl (cond_f g56_12 (RStep.of (load1_s r0 rfl rfl (cond_f g56_12 (cond_f g56_12 (cond_f g56_12 ?_))))))
 refine cond_s (fun g62_12 => ?_) (fun g62_12 => ?_)
 refine cond_t g62_12 (cond_t g62_12 (cond_t g62_12 (cond_t g62_12 (cond_t g62_12 ?_))))
 replace hl0 := ift (or_t (or_u (or_f (not_f (ni_f g51_12)) (not_f (ni_f g56_12))) g62_12)) hl0
 refine cond_T (cond_T (cond_T (cond_T (cond_T (cond_T ?_)))))
 refine cond_go rfl (cond_T ?_)
 obtain rfl := si hl0
 replace hm := elr hm
 obtain rfl := si hm
 refine EndStep.mk _ (lk0.trans l40) ⟨rfl, rfl⟩ (ConvH.of (.cons r3 .nil))
 refine Jb rfl (cond_f g62_12 (RStep.of (load1_s r1 rfl rfl (cond_f g62_12 (eq_int (cond_f g62_12 ?_))))))
 refine cond_f g62_12 (neq_bool rfl (cond_f g62_12 ?_))
 refine cond_s (fun g69_12 => ?_) (fun g69_12 => ?_)
 replace hl0 := ift (or_u (or_f (or_f (not_f (ni_f g51_12)) (not_f (ni_f g56_12))) g62_12) g69_12) hl0
 refine cond_t g69_12 (cond_t g69_12 (cond_t g69_12 (cond_t g69_12 (cond_t g69_12 (cond_go rfl ?_)))))
 refine cond_T ?_
 obtain rfl := si hl0
 replace hm := elr hm
 obtain rfl := si hm
 refine EndStep.mk _ (lk0.trans l40) ⟨rfl, rfl⟩ (ConvH.of (.cons r3 .nil))
 replace hl0 := iff_ (or_f (or_f (or_f (not_f (ni_f g51_12)) (not_f (ni_f g56_12))) g62_12) g69_12) hl0
 refine Jb rfl (cond_f g69_12 (RStep.of (load1_s r1 rfl rfl (cond_f g69_12 (eq_int (cond_f g69_12 ?_))))))
 obtain ⟨x79, e79, hl0⟩ := bnd hl0
 refine cond_s (fun g73_12 => ?_) (fun g73_12 => ?_)
 replace e79 := ift g73_12 e79
 refine RStep.of (loadn_s r0 rfl (Nat.le_of_ble_eq_true rfl) (cond_t g73_12 (Jb rfl (cond_t g73_12 (RStep.of (load1_s r1 rfl rfl (cond_t g73_12 ?_)))))))
 obtain ⟨x77, q77, e79⟩ := bnd e79
 refine call_fn (Jb6 (s := x36) (slot := e0.N) q77) .nil ?_
 rintro _ K77 _ l77 ⟨rfl, rfl⟩
 refine cond_t g73_12 (un_not (cond_f g69_12 (cond_t g73_12 (cond_f g69_12 (cond_go rfl ?_)))))
 refine cond_s (fun w80 => ?_) (fun w80 => ?_)
 replace hl0 := ift ((si e79).symm.trans (not_t (ni_t w80))) hl0
 obtain rfl := si hl0
 replace hm := elr hm
 obtain rfl := si hm
 refine EndStep.mk _ ((lk0.trans l40).trans l77) ⟨rfl, rfl⟩ (ConvH.of (.cons r3 .nil))
 replace hl0 := iff_ ((si e79).symm.trans (not_f (ni_f w80))) hl0
 refine Jb rfl (RStep.of (load1_s r0 rfl rfl (RStep.of (max_int (Jb rfl (RStep.of (load1_s r0 rfl rfl ?_)))))))
 obtain ⟨h89, hl0⟩ := chkb hl0
 refine int_in h89 ?_
 obtain ⟨h90, hl0⟩ := chkb hl0
 refine int_in h90 (Jb rfl ?_)
 refine store_rule r0 rfl ?_
 refine ⟨rfl, rfl, (Nat.le_of_ble_eq_true rfl), ?_⟩
 refine Jb rfl (RStep.of (load1_s r0 rfl rfl (RStep.of (max_int (Jb rfl (RStep.of (load1_s r1 rfl rfl (eq_int ?_))))))))
 obtain ⟨s903, hl903, hl0⟩ := bnd hl0
 refine code_cut (σ := (Int × Int × Int × Int × Int × Int × Int × Int)) [99, 100, 101, 102, 103, 104, 105, 106, 107, 108, 109, 110, 111] (fun t903 => []) (fun t903 => [Cells b8 125 [.bool x36.reached, .int .i64 (x36.depth + (x40.2.1 - x40.1)), .int .u64 t903.1, .int .u64 t903.2.1, .int .u64 t903.2.2.1, .int .u64 t903.2.2.2.1, .int .u64 t903.2.2.2.2.1, .int .u64 t903.2.2.2.2.2.1, .int .u64 t903.2.2.2.2.2.2.1, .int .u64 t903.2.2.2.2.2.2.2], Cells b7 50 [.int .i64 e0.Op, .int .i64 e0.N, str e0.S], OwnL Je.enc (some ⟨b23, 0, none⟩) 125 10 (Int.toNat (code.length : Int)) y0_1, F]) (fun zz K1 => match zz with | t903 => t903 = s903) ?_ ?_
 refine cond_go rfl ?_
 refine cond_s (fun w98 => ?_) (fun w98 => ?_)
 replace hl903 := ift w98 hl903
 refine draw_go_tail ⟨⟨[], false⟩, _, [(_, _), (_, _)]⟩ 12 rfl (by kernel_rfl) ⟨Hp.Le.refl _, (ConvH.of (.cons r1 (.cons r0 .nil)))⟩ ?_
 refine Jb rfl (load1_l m0 rfl rfl ?_)
 obtain ⟨h101, hl903⟩ := chkb hl903
 refine quo_t h101.1 h101.2 (Jb rfl ?_)
 obtain ⟨h103, hl903⟩ := chkb hl903
 refine arr_addrV (sz := 1) rfl rfl h103.1 h103.2 ?_
 refine ld_arr_l (L := [x36.stored.f0, x36.stored.f1, x36.stored.f2, x36.stored.f3, x36.stored.f4, x36.stored.f5, x36.stored.f6, x36.stored.f7]) (pre := [.bool x36.reached, .int .i64 (x36.depth + (x40.2.1 - x40.1))]) (post := []) m1 rfl (by simp) rfl h103.1 h103.2 ?_
 refine Jb rfl (load1_l m0 rfl rfl (rem_t (by decide) ?_))
 obtain ⟨h108, hl903⟩ := chkb hl903
 refine u64_shl h108 ?_
 refine u64_or ?_
 refine Jb rfl ?_
 obtain ⟨h111, hl903⟩ := chkb hl903
 refine arr_addrV (sz := 1) rfl rfl h111.1 h111.2 ?_
 obtain ⟨m5_, hm5_, hl903⟩ := bnd hl903
 replace hm5_ := Option.some.inj hm5_
 have hm5_l : m5_.length = 8 := by rw [← hm5_]; simp
 refine st_arr (L := [x36.stored.f0, x36.stored.f1, x36.stored.f2, x36.stored.f3, x36.stored.f4, x36.stored.f5, x36.stored.f6, x36.stored.f7]) (pre := [.bool x36.reached, .int .i64 (x36.depth + (x40.2.1 - x40.1))]) (post := []) (cs' := [.bool x36.reached, .int .i64 (x36.depth + (x40.2.1 - x40.1)), .int .u64 (List.getD m5_ 0 0), .int .u64 (List.getD m5_ 1 0), .int .u64 (List.getD m5_ 2 0), .int .u64 (List.getD m5_ 3 0), .int .u64 (List.getD m5_ 4 0), .int .u64 (List.getD m5_ 5 0), .int .u64 (List.getD m5_ 6 0), .int .u64 (List.getD m5_ 7 0)]) r0 rfl (by simp) rfl h111.1 h111.2 hm5_ (by rw [map8 hm5_l]; rfl) ?_
 refine ⟨⟨Hp.emp_le _, (ConvH.of .nil)⟩, ?_⟩
 refine MeetStep.mk (((List.getD m5_ 0 0), (List.getD m5_ 1 0), (List.getD m5_ 2 0), (List.getD m5_ 3 0), (List.getD m5_ 4 0), (List.getD m5_ 5 0), (List.getD m5_ 6 0), (List.getD m5_ 7 0))) trivial (by repeat (first | exact trivial | refine And.intro rfl ?_)) (ConvH.of (.cons r0 (.cons r0 (.cons r0 (.cons r0 .nil))))) (Hp.Le.refl _) (si hl903)
 replace hl903 := iff_ w98 hl903
 refine MeetStep.mk ((x36.stored.f0, x36.stored.f1, x36.stored.f2, x36.stored.f3, x36.stored.f4, x36.stored.f5, x36.stored.f6, x36.stored.f7)) trivial (by repeat (first | exact trivial | refine And.intro rfl ?_)) (ConvH.of (.cons r0 (.cons r0 (.cons r0 (.cons r0 .nil))))) (Hp.Le.refl _) (si hl903)
 rintro t903 Kt903 lt903 rfl j903
 refine Jb rfl (RStep.of (load1_s r1 rfl rfl (eq_int ?_)))
 refine cond_s (fun g115_19 => ?_) (fun g115_19 => ?_)
 refine cond_t g115_19 (cond_t g115_19 (cond_t g115_19 ?_))
 obtain ⟨s906, hl906, hl0⟩ := bnd hl0
 refine code_cut (σ := ((List Je))) [2, 3, 120, 121, 122, 123, 124, 125, 126, 127, 128, 129, 130, 131, 132, 133, 134, 135, 136, 137, 138, 139] (fun t906 => [(125, .pointer (some ⟨b7, 1, none⟩)), (133, .pointer (some ⟨b7, 1, none⟩))]) (fun t906 => [Cells b8 125 [.bool x36.reached, .int .i64 (x36.depth + (x40.2.1 - x40.1)), .int .u64 t903.1, .int .u64 t903.2.1, .int .u64 t903.2.2.1, .int .u64 t903.2.2.2.1, .int .u64 t903.2.2.2.2.1, .int .u64 t903.2.2.2.2.2.1, .int .u64 t903.2.2.2.2.2.2.1, .int .u64 t903.2.2.2.2.2.2.2], Cells b7 50 [.int .i64 e0.Op, .int .i64 e0.N, str e0.S], OwnL Je.enc (some ⟨b23, 0, none⟩) 125 10 (Int.toNat (code.length : Int)) t906, F]) (fun zz K1 => match zz with | t906 => (0 < t906.length → Has (some ⟨b23, 0, none⟩)) ∧ (Int.toNat (code.length : Int)) = t906.length ∧ s906 = Fl.go t906) ?_ ?_
 refine cond_go rfl (cond_T ?_)
 replace hl906 := ift (or_t g115_19) hl906
 refine draw_go ⟨⟨[], false⟩, _, [(_, _), (_, _)]⟩ (by kernel_rfl) ⟨Hp.Le.refl _, (ConvH.of (.cons r1 (.cons r0 .nil)))⟩ ?_
 refine Jb rfl (load1_l m0 rfl rfl ?_)
 refine cond_s (fun g124_20 => ?_) (fun g124_20 => ?_)
 refine cond_t g124_20 (cond_t g124_20 (cond_t g124_20 (cond_t g124_20 (cond_t g124_20 ?_))))
 replace hl906 := ift (or_t g124_20) hl906
 refine cond_T (cond_T (cond_T (cond_T (cond_T (cond_T ?_)))))
 refine cond_T (cond_T (cond_go rfl (cond_T ?_)))
 obtain rfl := si hl906
 replace hl0 := elr hl0
 obtain rfl := si hl0
 replace hm := elr hm
 obtain rfl := si hm
 refine EndStep.mk _ (((lk0.trans l40).trans l77).trans lt903) ⟨rfl, rfl⟩ (ConvH.of (.cons r3 .nil))
 refine Jb rfl (cond_f g124_20 (load1_l m0 rfl rfl (cond_f g124_20 (cond_f g124_20 (len_sliceN rfl ?_)))))
 refine cond_f g124_20 (cond_f g124_20 ?_)
 refine cond_s (fun g131_20 => ?_) (fun g131_20 => ?_)
 replace hl906 := ift (or_u g124_20 g131_20) hl906
 refine cond_t g131_20 (cond_t g131_20 (cond_t g131_20 (cond_t g131_20 (cond_t g131_20 (cond_t g131_20 ?_)))))
 refine cond_t g131_20 (cond_go rfl (cond_T ?_))
 obtain rfl := si hl906
 replace hl0 := elr hl0
 obtain rfl := si hl0
 replace hm := elr hm
 obtain rfl := si hm
 refine EndStep.mk _ (((lk0.trans l40).trans l77).trans lt903) ⟨rfl, rfl⟩ (ConvH.of (.cons r3 .nil))
 replace hl906 := iff_ (or_f g124_20 g131_20) hl906
 refine cond_f g131_20 (Jb rfl (cond_f g131_20 (load1_l m0 rfl rfl (cond_f g131_20 ?_))))
 obtain ⟨x135, l135, k135, hl906⟩ := ixb hl906
 refine index_addr rfl rfl (hasO y0_h1 k135) l135 (lt_ofE y0_n1 l135 k135) (cond_f g131_20 (loadn_l m1 rfl (Nat.le_of_ble_eq_true rfl) (cond_f g131_20 ?_)))
 obtain ⟨x137, q137, hl906⟩ := bnd hl906
 refine call_fn (JP (s := y0_1) (s_i := ((e0.N).toNat)) (t := (⟨x36.reached, (x36.depth + (x40.2.1 - x40.1)), (⟨t903.1, t903.2.1, t903.2.2.1, t903.2.2.2.1, t903.2.2.2.2.1, t903.2.2.2.2.2.1, t903.2.2.2.2.2.2.1, t903.2.2.2.2.2.2.2⟩ : JU)⟩ : Je)) q137 y0_h1) (.cons r2 .nil) ?_
 rintro _ K137 _ l137 ⟨rfl, h137_0, n137_0, rfl⟩
 refine ⟨⟨l137, (ConvH.of (.cons r2 (.cons r1 .nil)))⟩, ?_⟩
 refine cond_f g131_20 (un_not (cond_f g131_20 (cond_go rfl ?_)))
 refine cond_s (fun w139 => ?_) (fun w139 => ?_)
 replace hl906 := ift (not_t (ni_t w139)) hl906
 obtain rfl := si hl906
 replace hl0 := elr hl0
 obtain rfl := si hl0
 replace hm := elr hm
 obtain rfl := si hm
 refine EndStep.mk _ ((((lk0.trans l40).trans l77).trans lt903).trans l137) ⟨rfl, rfl⟩ (ConvH.of (.cons r3 .nil))
 replace hl906 := iff_ (not_f (ni_f w139)) hl906
 refine MeetStep.mk (x137.2) ⟨rfl, rfl, trivial⟩ (by repeat (first | exact trivial | refine And.intro rfl ?_)) (ConvH.of (.cons r1 (.cons r1 (.cons r0 (.cons r0 .nil))))) l137 ⟨h137_0, ((y0_n1).trans n137_0), (si hl906).symm⟩
 rintro t906 Kt906 lt906 ⟨t906_h0, t906_n0, rfl⟩ j906
 replace hl0 := elg hl0
 refine cond_go rfl ?_
 refine cond_s (fun w140 => ?_) (fun w140 => ?_)
 replace hl0 := ift w140 hl0
 refine draw_go ⟨⟨[], false⟩, _, [(_, _)]⟩ (by kernel_rfl) ⟨Hp.Le.refl _, (ConvH.of (.cons r0 .nil))⟩ ?_
 refine Jb rfl (load1_l m0 rfl rfl (eq_int ?_))
 obtain rfl := si hl0
 replace hm := elr hm
 obtain rfl := si hm
 refine EndStep.mk _ ((((lk0.trans l40).trans l77).trans lt903).trans lt906) ⟨rfl, rfl⟩ (ConvH.of (.cons r3 .nil))
 replace hl0 := iff_ w140 hl0
 refine draw_go ⟨⟨[], false⟩, _, [(_, _), (_, _)]⟩ (by kernel_rfl) ⟨Hp.Le.refl _, (ConvH.of (.cons r1 (.cons r0 .nil)))⟩ ?_
 refine Jb rfl (load1_l m0 rfl rfl (neq_int ?_))
 refine cond_s (fun g148_24 => ?_) (fun g148_24 => ?_)
 replace hl0 := ift g148_24 hl0
 refine cond_t g148_24 (cond_t g148_24 (int_in (cntz hx0 hk0) (cond_t g148_24 ?_)))
 obtain ⟨x152, l152, k152, hl0⟩ := ixb hl0
 refine index_addr rfl rfl (hasO t906_h0 k152) l152 (lt_ofE t906_n0 l152 k152) (cond_t g148_24 (loadn_l m1 rfl (Nat.le_of_ble_eq_true rfl) (cond_t g148_24 ?_)))
 obtain ⟨x154, q154, hl0⟩ := bnd hl0
 refine call_fn (JP (s := t906) (s_i := ((((i0 : Int) + 1)).toNat)) (t := (⟨x36.reached, (x36.depth + (x40.2.1 - x40.1)), (⟨t903.1, t903.2.1, t903.2.2.1, t903.2.2.2.1, t903.2.2.2.2.1, t903.2.2.2.2.2.1, t903.2.2.2.2.2.2.1, t903.2.2.2.2.2.2.2⟩ : JU)⟩ : Je)) q154 t906_h0) (.cons r2 .nil) ?_
 rintro _ K154 _ l154 ⟨rfl, h154_0, n154_0, rfl⟩
 refine ⟨⟨l154, (ConvH.of (.cons r2 (.cons r1 .nil)))⟩, ?_⟩
 refine cond_t g148_24 (un_not (cond_t g148_24 (cond_go rfl ?_)))
 refine cond_s (fun w156 => ?_) (fun w156 => ?_)
 replace hl0 := ift (not_t (ni_t w156)) hl0
 obtain rfl := si hl0
 replace hm := elr hm
 obtain rfl := si hm
 refine EndStep.mk _ (((((lk0.trans l40).trans l77).trans lt903).trans lt906).trans l154) ⟨rfl, rfl⟩ (ConvH.of (.cons r3 .nil))
 replace hl0 := iff_ (not_f (ni_f w156)) hl0
 refine int_in (cntz hx0 hk0) ?_
 refine RoundStep.mk (i0 + 1, (max (max y0_0 x36.depth) (x36.depth + (x40.2.1 - x40.1))), x154.2) ⟨rfl, rfl, trivial⟩ (by repeat (first | exact trivial | refine And.intro rfl ?_)) (ConvH.of (.cons r0 (.cons r2 .nil))) (((((lk0.trans l40).trans l77).trans lt903).trans lt906).trans l154) (ltm hx0) ⟨h154_0, ((t906_n0).trans n154_0), hl0⟩
 replace hl0 := iff_ g148_24 hl0
 refine cond_f g148_24 (cond_f g148_24 (cond_f g148_24 (cond_f g148_24 (cond_f g148_24 (cond_f g148_24 ?_)))))
 refine cond_f g148_24 (cond_go rfl (cond_F (int_in (cntz hx0 hk0) ?_)))
 refine RoundStep.mk (i0 + 1, (max (max y0_0 x36.depth) (x36.depth + (x40.2.1 - x40.1))), t906) ⟨rfl, rfl, trivial⟩ (by repeat (first | exact trivial | refine And.intro rfl ?_)) (ConvH.of (.cons r2 (.cons r2 .nil))) ((((lk0.trans l40).trans l77).trans lt903).trans lt906) (ltm hx0) ⟨t906_h0, t906_n0, hl0⟩
 refine Jb rfl (cond_f g115_19 (RStep.of (load1_s r1 rfl rfl (cond_f g115_19 (eq_int (cond_f g115_19 ?_))))))
 obtain ⟨s910, hl910, hl0⟩ := bnd hl0
 refine code_cut (σ := ((List Je))) [2, 3, 120, 121, 122, 123, 124, 125, 126, 127, 128, 129, 130, 131, 132, 133, 134, 135, 136, 137, 138, 139] (fun t910 => []) (fun t910 => [Cells b8 125 [.bool x36.reached, .int .i64 (x36.depth + (x40.2.1 - x40.1)), .int .u64 t903.1, .int .u64 t903.2.1, .int .u64 t903.2.2.1, .int .u64 t903.2.2.2.1, .int .u64 t903.2.2.2.2.1, .int .u64 t903.2.2.2.2.2.1, .int .u64 t903.2.2.2.2.2.2.1, .int .u64 t903.2.2.2.2.2.2.2], Cells b7 50 [.int .i64 e0.Op, .int .i64 e0.N, str e0.S], OwnL Je.enc (some ⟨b23, 0, none⟩) 125 10 (Int.toNat (code.length : Int)) t910, F]) (fun zz K1 => match zz with | t910 => (0 < t910.length → Has (some ⟨b23, 0, none⟩)) ∧ (Int.toNat (code.length : Int)) = t910.length ∧ s910 = Fl.go t910) ?_ ?_
 refine cond_go rfl ?_
 refine cond_s (fun w119 => ?_) (fun w119 => ?_)
 replace hl910 := ift (or_u g115_19 w119) hl910
 refine draw_go ⟨⟨[], false⟩, _, [(_, _), (_, _)]⟩ (by kernel_rfl) ⟨Hp.Le.refl _, (ConvH.of (.cons r1 (.cons r0 .nil)))⟩ ?_
 refine Jb rfl (load1_l m0 rfl rfl ?_)
 refine cond_s (fun g124_20 => ?_) (fun g124_20 => ?_)
 refine cond_t g124_20 (cond_t g124_20 (cond_t g124_20 (cond_t g124_20 (cond_t g124_20 ?_))))
 replace hl910 := ift (or_t g124_20) hl910
 refine cond_T (cond_T (cond_T (cond_T (cond_T (cond_T ?_)))))
 refine cond_T (cond_T (cond_go rfl (cond_T ?_)))
 obtain rfl := si hl910
 replace hl0 := elr hl0
 obtain rfl := si hl0
 replace hm := elr hm
 obtain rfl := si hm
 refine EndStep.mk _ (((lk0.trans l40).trans l77).trans lt903) ⟨rfl, rfl⟩ (ConvH.of (.cons r3 .nil))
 refine Jb rfl (cond_f g124_20 (load1_l m0 rfl rfl (cond_f g124_20 (cond_f g124_20 (len_sliceN rfl ?_)))))
 refine cond_f g124_20 (cond_f g124_20 ?_)
 refine cond_s (fun g131_20 => ?_) (fun g131_20 => ?_)
 replace hl910 := ift (or_u g124_20 g131_20) hl910
 refine cond_t g131_20 (cond_t g131_20 (cond_t g131_20 (cond_t g131_20 (cond_t g131_20 (cond_t g131_20 ?_)))))
 refine cond_t g131_20 (cond_go rfl (cond_T ?_))
 obtain rfl := si hl910
 replace hl0 := elr hl0
 obtain rfl := si hl0
 replace hm := elr hm
 obtain rfl := si hm
 refine EndStep.mk _ (((lk0.trans l40).trans l77).trans lt903) ⟨rfl, rfl⟩ (ConvH.of (.cons r3 .nil))
 replace hl910 := iff_ (or_f g124_20 g131_20) hl910
 refine cond_f g131_20 (Jb rfl (cond_f g131_20 (load1_l m0 rfl rfl (cond_f g131_20 ?_))))
 obtain ⟨x135, l135, k135, hl910⟩ := ixb hl910
 refine index_addr rfl rfl (hasO y0_h1 k135) l135 (lt_ofE y0_n1 l135 k135) (cond_f g131_20 (loadn_l m1 rfl (Nat.le_of_ble_eq_true rfl) (cond_f g131_20 ?_)))
 obtain ⟨x137, q137, hl910⟩ := bnd hl910
 refine call_fn (JP (s := y0_1) (s_i := ((e0.N).toNat)) (t := (⟨x36.reached, (x36.depth + (x40.2.1 - x40.1)), (⟨t903.1, t903.2.1, t903.2.2.1, t903.2.2.2.1, t903.2.2.2.2.1, t903.2.2.2.2.2.1, t903.2.2.2.2.2.2.1, t903.2.2.2.2.2.2.2⟩ : JU)⟩ : Je)) q137 y0_h1) (.cons r2 .nil) ?_
 rintro _ K137 _ l137 ⟨rfl, h137_0, n137_0, rfl⟩
 refine ⟨⟨l137, (ConvH.of (.cons r2 (.cons r1 .nil)))⟩, ?_⟩
 refine cond_f g131_20 (un_not (cond_f g131_20 (cond_go rfl ?_)))
 refine cond_s (fun w139 => ?_) (fun w139 => ?_)
 replace hl910 := ift (not_t (ni_t w139)) hl910
 obtain rfl := si hl910
 replace hl0 := elr hl0
 obtain rfl := si hl0
 replace hm := elr hm
 obtain rfl := si hm
 refine EndStep.mk _ ((((lk0.trans l40).trans l77).trans lt903).trans l137) ⟨rfl, rfl⟩ (ConvH.of (.cons r3 .nil))
 replace hl910 := iff_ (not_f (ni_f w139)) hl910
 refine MeetStep.mk (x137.2) trivial (by repeat (first | exact trivial | refine And.intro rfl ?_)) (ConvH.of (.cons r1 (.cons r1 (.cons r0 (.cons r0 .nil))))) l137 ⟨h137_0, ((y0_n1).trans n137_0), (si hl910).symm⟩
 replace hl910 := iff_ (or_f g115_19 w119) hl910
 refine MeetStep.mk (y0_1) trivial (by repeat (first | exact trivial | refine And.intro rfl ?_)) (ConvH.of (.cons r0 (.cons r0 (.cons r0 (.cons r0 .nil))))) (Hp.Le.refl _) ⟨y0_h1, y0_n1, (si hl910).symm⟩
 rintro t910 Kt910 lt910 ⟨t910_h0, t910_n0, rfl⟩ j910
 replace hl0 := elg hl0
 refine cond_go rfl ?_
 refine cond_s (fun w140 => ?_) (fun w140 => ?_)
 replace hl0 := ift w140 hl0
 refine draw_go ⟨⟨[], false⟩, _, [(_, _)]⟩ (by kernel_rfl) ⟨Hp.Le.refl _, (ConvH.of (.cons r0 .nil))⟩ ?_
 refine Jb rfl (load1_l m0 rfl rfl (eq_int ?_))
 obtain rfl := si hl0
 replace hm := elr hm
 obtain rfl := si hm
 refine EndStep.mk _ ((((lk0.trans l40).trans l77).trans lt903).trans lt910) ⟨rfl, rfl⟩ (ConvH.of (.cons r3 .nil))
 replace hl0 := iff_ w140 hl0
 refine draw_go ⟨⟨[], false⟩, _, [(_, _), (_, _)]⟩ (by kernel_rfl) ⟨Hp.Le.refl _, (ConvH.of (.cons r1 (.cons r0 .nil)))⟩ ?_
 refine Jb rfl (load1_l m0 rfl rfl (neq_int ?_))
 refine cond_s (fun g148_24 => ?_) (fun g148_24 => ?_)
 replace hl0 := ift g148_24 hl0
 refine cond_t g148_24 (cond_t g148_24 (int_in (cntz hx0 hk0) (cond_t g148_24 ?_)))
 obtain ⟨x152, l152, k152, hl0⟩ := ixb hl0
 refine index_addr rfl rfl (hasO t910_h0 k152) l152 (lt_ofE t910_n0 l152 k152) (cond_t g148_24 (loadn_l m1 rfl (Nat.le_of_ble_eq_true rfl) (cond_t g148_24 ?_)))
 obtain ⟨x154, q154, hl0⟩ := bnd hl0
 refine call_fn (JP (s := t910) (s_i := ((((i0 : Int) + 1)).toNat)) (t := (⟨x36.reached, (x36.depth + (x40.2.1 - x40.1)), (⟨t903.1, t903.2.1, t903.2.2.1, t903.2.2.2.1, t903.2.2.2.2.1, t903.2.2.2.2.2.1, t903.2.2.2.2.2.2.1, t903.2.2.2.2.2.2.2⟩ : JU)⟩ : Je)) q154 t910_h0) (.cons r2 .nil) ?_
 rintro _ K154 _ l154 ⟨rfl, h154_0, n154_0, rfl⟩
 refine ⟨⟨l154, (ConvH.of (.cons r2 (.cons r1 .nil)))⟩, ?_⟩
 refine cond_t g148_24 (un_not (cond_t g148_24 (cond_go rfl ?_)))
 refine cond_s (fun w156 => ?_) (fun w156 => ?_)
 replace hl0 := ift (not_t (ni_t w156)) hl0
 obtain rfl := si hl0
 replace hm := elr hm
 obtain rfl := si hm
 refine EndStep.mk _ (((((lk0.trans l40).trans l77).trans lt903).trans lt910).trans l154) ⟨rfl, rfl⟩ (ConvH.of (.cons r3 .nil))
 replace hl0 := iff_ (not_f (ni_f w156)) hl0
 refine int_in (cntz hx0 hk0) ?_
 refine RoundStep.mk (i0 + 1, (max (max y0_0 x36.depth) (x36.depth + (x40.2.1 - x40.1))), x154.2) ⟨rfl, rfl, trivial⟩ (by repeat (first | exact trivial | refine And.intro rfl ?_)) (ConvH.of (.cons r0 (.cons r2 .nil))) (((((lk0.trans l40).trans l77).trans lt903).trans lt910).trans l154) (ltm hx0) ⟨h154_0, ((t910_n0).trans n154_0), hl0⟩
 replace hl0 := iff_ g148_24 hl0
 refine cond_f g148_24 (cond_f g148_24 (cond_f g148_24 (cond_f g148_24 (cond_f g148_24 (cond_f g148_24 ?_)))))
 refine cond_f g148_24 (cond_go rfl (cond_F (int_in (cntz hx0 hk0) ?_)))
 refine RoundStep.mk (i0 + 1, (max (max y0_0 x36.depth) (x36.depth + (x40.2.1 - x40.1))), t910) ⟨rfl, rfl, trivial⟩ (by repeat (first | exact trivial | refine And.intro rfl ?_)) (ConvH.of (.cons r2 (.cons r2 .nil))) ((((lk0.trans l40).trans l77).trans lt903).trans lt910) (ltm hx0) ⟨t910_h0, t910_n0, hl0⟩
 replace e79 := iff_ g73_12 e79
 refine cond_f g73_12 (cond_f g73_12 (cond_f g73_12 (cond_f g73_12 (cond_f g69_12 (cond_f g73_12 ?_)))))
 refine cond_f g69_12 (cond_go rfl (cond_F ?_))
 replace hl0 := iff_ (si e79).symm hl0
 refine Jb rfl (RStep.of (load1_s r0 rfl rfl (RStep.of (max_int (Jb rfl (RStep.of (load1_s r0 rfl rfl ?_)))))))
 obtain ⟨h89, hl0⟩ := chkb hl0
 refine int_in h89 ?_
 obtain ⟨h90, hl0⟩ := chkb hl0
 refine int_in h90 (Jb rfl ?_)
 refine store_rule r0 rfl ?_
 refine ⟨rfl, rfl, (Nat.le_of_ble_eq_true rfl), ?_⟩
 refine Jb rfl (RStep.of (load1_s r0 rfl rfl (RStep.of (max_int (Jb rfl (RStep.of (load1_s r1 rfl rfl (eq_int ?_))))))))
 obtain ⟨s915, hl915, hl0⟩ := bnd hl0
 refine code_cut (σ := (Int × Int × Int × Int × Int × Int × Int × Int)) [99, 100, 101, 102, 103, 104, 105, 106, 107, 108, 109, 110, 111] (fun t915 => []) (fun t915 => [Cells b8 125 [.bool x36.reached, .int .i64 (x36.depth + (x40.2.1 - x40.1)), .int .u64 t915.1, .int .u64 t915.2.1, .int .u64 t915.2.2.1, .int .u64 t915.2.2.2.1, .int .u64 t915.2.2.2.2.1, .int .u64 t915.2.2.2.2.2.1, .int .u64 t915.2.2.2.2.2.2.1, .int .u64 t915.2.2.2.2.2.2.2], Cells b7 50 [.int .i64 e0.Op, .int .i64 e0.N, str e0.S], OwnL Je.enc (some ⟨b23, 0, none⟩) 125 10 (Int.toNat (code.length : Int)) y0_1, F]) (fun zz K1 => match zz with | t915 => t915 = s915) ?_ ?_
 refine cond_go rfl ?_
 refine cond_s (fun w98 => ?_) (fun w98 => ?_)
 replace hl915 := ift w98 hl915
 refine draw_go_tail ⟨⟨[], false⟩, _, [(_, _), (_, _)]⟩ 12 rfl (by kernel_rfl) ⟨Hp.Le.refl _, (ConvH.of (.cons r1 (.cons r0 .nil)))⟩ ?_
 refine Jb rfl (load1_l m0 rfl rfl ?_)
 obtain ⟨h101, hl915⟩ := chkb hl915
 refine quo_t h101.1 h101.2 (Jb rfl ?_)
 obtain ⟨h103, hl915⟩ := chkb hl915
 refine arr_addrV (sz := 1) rfl rfl h103.1 h103.2 ?_
 refine ld_arr_l (L := [x36.stored.f0, x36.stored.f1, x36.stored.f2, x36.stored.f3, x36.stored.f4, x36.stored.f5, x36.stored.f6, x36.stored.f7]) (pre := [.bool x36.reached, .int .i64 (x36.depth + (x40.2.1 - x40.1))]) (post := []) m1 rfl (by simp) rfl h103.1 h103.2 ?_
 refine Jb rfl (load1_l m0 rfl rfl (rem_t (by decide) ?_))
 obtain ⟨h108, hl915⟩ := chkb hl915
 refine u64_shl h108 ?_
 refine u64_or ?_
 refine Jb rfl ?_
 obtain ⟨h111, hl915⟩ := chkb hl915
 refine arr_addrV (sz := 1) rfl rfl h111.1 h111.2 ?_
 obtain ⟨m17_, hm17_, hl915⟩ := bnd hl915
 replace hm17_ := Option.some.inj hm17_
 have hm17_l : m17_.length = 8 := by rw [← hm17_]; simp
 refine st_arr (L := [x36.stored.f0, x36.stored.f1, x36.stored.f2, x36.stored.f3, x36.stored.f4, x36.stored.f5, x36.stored.f6, x36.stored.f7]) (pre := [.bool x36.reached, .int .i64 (x36.depth + (x40.2.1 - x40.1))]) (post := []) (cs' := [.bool x36.reached, .int .i64 (x36.depth + (x40.2.1 - x40.1)), .int .u64 (List.getD m17_ 0 0), .int .u64 (List.getD m17_ 1 0), .int .u64 (List.getD m17_ 2 0), .int .u64 (List.getD m17_ 3 0), .int .u64 (List.getD m17_ 4 0), .int .u64 (List.getD m17_ 5 0), .int .u64 (List.getD m17_ 6 0), .int .u64 (List.getD m17_ 7 0)]) r0 rfl (by simp) rfl h111.1 h111.2 hm17_ (by rw [map8 hm17_l]; rfl) ?_
 refine ⟨⟨Hp.emp_le _, (ConvH.of .nil)⟩, ?_⟩
 refine MeetStep.mk (((List.getD m17_ 0 0), (List.getD m17_ 1 0), (List.getD m17_ 2 0), (List.getD m17_ 3 0), (List.getD m17_ 4 0), (List.getD m17_ 5 0), (List.getD m17_ 6 0), (List.getD m17_ 7 0))) trivial (by repeat (first | exact trivial | refine And.intro rfl ?_)) (ConvH.of (.cons r0 (.cons r0 (.cons r0 (.cons r0 .nil))))) (Hp.Le.refl _) (si hl915)
 replace hl915 := iff_ w98 hl915
 refine MeetStep.mk ((x36.stored.f0, x36.stored.f1, x36.stored.f2, x36.stored.f3, x36.stored.f4, x36.stored.f5, x36.stored.f6, x36.stored.f7)) trivial (by repeat (first | exact trivial | refine And.intro rfl ?_)) (ConvH.of (.cons r0 (.cons r0 (.cons r0 (.cons r0 .nil))))) (Hp.Le.refl _) (si hl915)
 rintro t915 Kt915 lt915 rfl j915
 refine Jb rfl (RStep.of (load1_s r1 rfl rfl (eq_int ?_)))
 refine cond_s (fun g115_19 => ?_) (fun g115_19 => ?_)
 refine cond_t g115_19 (cond_t g115_19 (cond_t g115_19 ?_))
 obtain ⟨s918, hl918, hl0⟩ := bnd hl0
 refine code_cut (σ := ((List Je))) [2, 3, 120, 121, 122, 123, 124, 125, 126, 127, 128, 129, 130, 131, 132, 133, 134, 135, 136, 137, 138, 139] (fun t918 => [(125, .pointer (some ⟨b7, 1, none⟩)), (133, .pointer (some ⟨b7, 1, none⟩))]) (fun t918 => [Cells b8 125 [.bool x36.reached, .int .i64 (x36.depth + (x40.2.1 - x40.1)), .int .u64 t915.1, .int .u64 t915.2.1, .int .u64 t915.2.2.1, .int .u64 t915.2.2.2.1, .int .u64 t915.2.2.2.2.1, .int .u64 t915.2.2.2.2.2.1, .int .u64 t915.2.2.2.2.2.2.1, .int .u64 t915.2.2.2.2.2.2.2], Cells b7 50 [.int .i64 e0.Op, .int .i64 e0.N, str e0.S], OwnL Je.enc (some ⟨b23, 0, none⟩) 125 10 (Int.toNat (code.length : Int)) t918, F]) (fun zz K1 => match zz with | t918 => (0 < t918.length → Has (some ⟨b23, 0, none⟩)) ∧ (Int.toNat (code.length : Int)) = t918.length ∧ s918 = Fl.go t918) ?_ ?_
 refine cond_go rfl (cond_T ?_)
 replace hl918 := ift (or_t g115_19) hl918
 refine draw_go ⟨⟨[], false⟩, _, [(_, _), (_, _)]⟩ (by kernel_rfl) ⟨Hp.Le.refl _, (ConvH.of (.cons r1 (.cons r0 .nil)))⟩ ?_
 refine Jb rfl (load1_l m0 rfl rfl ?_)
 refine cond_s (fun g124_20 => ?_) (fun g124_20 => ?_)
 refine cond_t g124_20 (cond_t g124_20 (cond_t g124_20 (cond_t g124_20 (cond_t g124_20 ?_))))
 replace hl918 := ift (or_t g124_20) hl918
 refine cond_T (cond_T (cond_T (cond_T (cond_T (cond_T ?_)))))
 refine cond_T (cond_T (cond_go rfl (cond_T ?_)))
 obtain rfl := si hl918
 replace hl0 := elr hl0
 obtain rfl := si hl0
 replace hm := elr hm
 obtain rfl := si hm
 refine EndStep.mk _ ((lk0.trans l40).trans lt915) ⟨rfl, rfl⟩ (ConvH.of (.cons r3 .nil))
 refine Jb rfl (cond_f g124_20 (load1_l m0 rfl rfl (cond_f g124_20 (cond_f g124_20 (len_sliceN rfl ?_)))))
 refine cond_f g124_20 (cond_f g124_20 ?_)
 refine cond_s (fun g131_20 => ?_) (fun g131_20 => ?_)
 replace hl918 := ift (or_u g124_20 g131_20) hl918
 refine cond_t g131_20 (cond_t g131_20 (cond_t g131_20 (cond_t g131_20 (cond_t g131_20 (cond_t g131_20 ?_)))))
 refine cond_t g131_20 (cond_go rfl (cond_T ?_))
 obtain rfl := si hl918
 replace hl0 := elr hl0
 obtain rfl := si hl0
 replace hm := elr hm
 obtain rfl := si hm
 refine EndStep.mk _ ((lk0.trans l40).trans lt915) ⟨rfl, rfl⟩ (ConvH.of (.cons r3 .nil))
 replace hl918 := iff_ (or_f g124_20 g131_20) hl918
 refine cond_f g131_20 (Jb rfl (cond_f g131_20 (load1_l m0 rfl rfl (cond_f g131_20 ?_))))
 obtain ⟨x135, l135, k135, hl918⟩ := ixb hl918
 refine index_addr rfl rfl (hasO y0_h1 k135) l135 (lt_ofE y0_n1 l135 k135) (cond_f g131_20 (loadn_l m1 rfl (Nat.le_of_ble_eq_true rfl) (cond_f g131_20 ?_)))
 obtain ⟨x137, q137, hl918⟩ := bnd hl918
 refine call_fn (JP (s := y0_1) (s_i := ((e0.N).toNat)) (t := (⟨x36.reached, (x36.depth + (x40.2.1 - x40.1)), (⟨t915.1, t915.2.1, t915.2.2.1, t915.2.2.2.1, t915.2.2.2.2.1, t915.2.2.2.2.2.1, t915.2.2.2.2.2.2.1, t915.2.2.2.2.2.2.2⟩ : JU)⟩ : Je)) q137 y0_h1) (.cons r2 .nil) ?_
 rintro _ K137 _ l137 ⟨rfl, h137_0, n137_0, rfl⟩
 refine ⟨⟨l137, (ConvH.of (.cons r2 (.cons r1 .nil)))⟩, ?_⟩
 refine cond_f g131_20 (un_not (cond_f g131_20 (cond_go rfl ?_)))
 refine cond_s (fun w139 => ?_) (fun w139 => ?_)
 replace hl918 := ift (not_t (ni_t w139)) hl918
 obtain rfl := si hl918
 replace hl0 := elr hl0
 obtain rfl := si hl0
 replace hm := elr hm
 obtain rfl := si hm
 refine EndStep.mk _ (((lk0.trans l40).trans lt915).trans l137) ⟨rfl, rfl⟩ (ConvH.of (.cons r3 .nil))
 replace hl918 := iff_ (not_f (ni_f w139)) hl918
 refine MeetStep.mk (x137.2) ⟨rfl, rfl, trivial⟩ (by repeat (first | exact trivial | refine And.intro rfl ?_)) (ConvH.of (.cons r1 (.cons r1 (.cons r0 (.cons r0 .nil))))) l137 ⟨h137_0, ((y0_n1).trans n137_0), (si hl918).symm⟩
 rintro t918 Kt918 lt918 ⟨t918_h0, t918_n0, rfl⟩ j918
 replace hl0 := elg hl0
 refine cond_go rfl ?_
 refine cond_s (fun w140 => ?_) (fun w140 => ?_)
 replace hl0 := ift w140 hl0
 refine draw_go ⟨⟨[], false⟩, _, [(_, _)]⟩ (by kernel_rfl) ⟨Hp.Le.refl _, (ConvH.of (.cons r0 .nil))⟩ ?_
 refine Jb rfl (load1_l m0 rfl rfl (eq_int ?_))
 obtain rfl := si hl0
 replace hm := elr hm
 obtain rfl := si hm
 refine EndStep.mk _ (((lk0.trans l40).trans lt915).trans lt918) ⟨rfl, rfl⟩ (ConvH.of (.cons r3 .nil))
 replace hl0 := iff_ w140 hl0
 refine draw_go ⟨⟨[], false⟩, _, [(_, _), (_, _)]⟩ (by kernel_rfl) ⟨Hp.Le.refl _, (ConvH.of (.cons r1 (.cons r0 .nil)))⟩ ?_
 refine Jb rfl (load1_l m0 rfl rfl (neq_int ?_))
 refine cond_s (fun g148_24 => ?_) (fun g148_24 => ?_)
 replace hl0 := ift g148_24 hl0
 refine cond_t g148_24 (cond_t g148_24 (int_in (cntz hx0 hk0) (cond_t g148_24 ?_)))
 obtain ⟨x152, l152, k152, hl0⟩ := ixb hl0
 refine index_addr rfl rfl (hasO t918_h0 k152) l152 (lt_ofE t918_n0 l152 k152) (cond_t g148_24 (loadn_l m1 rfl (Nat.le_of_ble_eq_true rfl) (cond_t g148_24 ?_)))
 obtain ⟨x154, q154, hl0⟩ := bnd hl0
 refine call_fn (JP (s := t918) (s_i := ((((i0 : Int) + 1)).toNat)) (t := (⟨x36.reached, (x36.depth + (x40.2.1 - x40.1)), (⟨t915.1, t915.2.1, t915.2.2.1, t915.2.2.2.1, t915.2.2.2.2.1, t915.2.2.2.2.2.1, t915.2.2.2.2.2.2.1, t915.2.2.2.2.2.2.2⟩ : JU)⟩ : Je)) q154 t918_h0) (.cons r2 .nil) ?_
 rintro _ K154 _ l154 ⟨rfl, h154_0, n154_0, rfl⟩
 refine ⟨⟨l154, (ConvH.of (.cons r2 (.cons r1 .nil)))⟩, ?_⟩
 refine cond_t g148_24 (un_not (cond_t g148_24 (cond_go rfl ?_)))
 refine cond_s (fun w156 => ?_) (fun w156 => ?_)
 replace hl0 := ift (not_t (ni_t w156)) hl0
 obtain rfl := si hl0
 replace hm := elr hm
 obtain rfl := si hm
 refine EndStep.mk _ ((((lk0.trans l40).trans lt915).trans lt918).trans l154) ⟨rfl, rfl⟩ (ConvH.of (.cons r3 .nil))
 replace hl0 := iff_ (not_f (ni_f w156)) hl0
 refine int_in (cntz hx0 hk0) ?_
 refine RoundStep.mk (i0 + 1, (max (max y0_0 x36.depth) (x36.depth + (x40.2.1 - x40.1))), x154.2) ⟨rfl, rfl, trivial⟩ (by repeat (first | exact trivial | refine And.intro rfl ?_)) (ConvH.of (.cons r0 (.cons r2 .nil))) ((((lk0.trans l40).trans lt915).trans lt918).trans l154) (ltm hx0) ⟨h154_0, ((t918_n0).trans n154_0), hl0⟩
 replace hl0 := iff_ g148_24 hl0
 refine cond_f g148_24 (cond_f g148_24 (cond_f g148_24 (cond_f g148_24 (cond_f g148_24 (cond_f g148_24 ?_)))))
 refine cond_f g148_24 (cond_go rfl (cond_F (int_in (cntz hx0 hk0) ?_)))
 refine RoundStep.mk (i0 + 1, (max (max y0_0 x36.depth) (x36.depth + (x40.2.1 - x40.1))), t918) ⟨rfl, rfl, trivial⟩ (by repeat (first | exact trivial | refine And.intro rfl ?_)) (ConvH.of (.cons r2 (.cons r2 .nil))) (((lk0.trans l40).trans lt915).trans lt918) (ltm hx0) ⟨t918_h0, t918_n0, hl0⟩
 refine Jb rfl (cond_f g115_19 (RStep.of (load1_s r1 rfl rfl (cond_f g115_19 (eq_int (cond_f g115_19 ?_))))))
 obtain ⟨s922, hl922, hl0⟩ := bnd hl0
 refine code_cut (σ := ((List Je))) [2, 3, 120, 121, 122, 123, 124, 125, 126, 127, 128, 129, 130, 131, 132, 133, 134, 135, 136, 137, 138, 139] (fun t922 => []) (fun t922 => [Cells b8 125 [.bool x36.reached, .int .i64 (x36.depth + (x40.2.1 - x40.1)), .int .u64 t915.1, .int .u64 t915.2.1, .int .u64 t915.2.2.1, .int .u64 t915.2.2.2.1, .int .u64 t915.2.2.2.2.1, .int .u64 t915.2.2.2.2.2.1, .int .u64 t915.2.2.2.2.2.2.1, .int .u64 t915.2.2.2.2.2.2.2], Cells b7 50 [.int .i64 e0.Op, .int .i64 e0.N, str e0.S], OwnL Je.enc (some ⟨b23, 0, none⟩) 125 10 (Int.toNat (code.length : Int)) t922, F]) (fun zz K1 => match zz with | t922 => (0 < t922.length → Has (some ⟨b23, 0, none⟩)) ∧ (Int.toNat (code.length : Int)) = t922.length ∧ s922 = Fl.go t922) ?_ ?_
 refine cond_go rfl ?_
 refine cond_s (fun w119 => ?_) (fun w119 => ?_)
 replace hl922 := ift (or_u g115_19 w119) hl922
 refine draw_go ⟨⟨[], false⟩, _, [(_, _), (_, _)]⟩ (by kernel_rfl) ⟨Hp.Le.refl _, (ConvH.of (.cons r1 (.cons r0 .nil)))⟩ ?_
 refine Jb rfl (load1_l m0 rfl rfl ?_)
 refine cond_s (fun g124_20 => ?_) (fun g124_20 => ?_)
 refine cond_t g124_20 (cond_t g124_20 (cond_t g124_20 (cond_t g124_20 (cond_t g124_20 ?_))))
 replace hl922 := ift (or_t g124_20) hl922
 refine cond_T (cond_T (cond_T (cond_T (cond_T (cond_T ?_)))))
 refine cond_T (cond_T (cond_go rfl (cond_T ?_)))
 obtain rfl := si hl922
 replace hl0 := elr hl0
 obtain rfl := si hl0
 replace hm := elr hm
 obtain rfl := si hm
 refine EndStep.mk _ ((lk0.trans l40).trans lt915) ⟨rfl, rfl⟩ (ConvH.of (.cons r3 .nil))
 refine Jb rfl (cond_f g124_20 (load1_l m0 rfl rfl (cond_f g124_20 (cond_f g124_20 (len_sliceN rfl ?_)))))
 refine cond_f g124_20 (cond_f g124_20 ?_)
 refine cond_s (fun g131_20 => ?_) (fun g131_20 => ?_)
 replace hl922 := ift (or_u g124_20 g131_20) hl922
 refine cond_t g131_20 (cond_t g131_20 (cond_t g131_20 (cond_t g131_20 (cond_t g131_20 (cond_t g131_20 ?_)))))
 refine cond_t g131_20 (cond_go rfl (cond_T ?_))
 obtain rfl := si hl922
 replace hl0 := elr hl0
 obtain rfl := si hl0
 replace hm := elr hm
 obtain rfl := si hm
 refine EndStep.mk _ ((lk0.trans l40).trans lt915) ⟨rfl, rfl⟩ (ConvH.of (.cons r3 .nil))
 replace hl922 := iff_ (or_f g124_20 g131_20) hl922
 refine cond_f g131_20 (Jb rfl (cond_f g131_20 (load1_l m0 rfl rfl (cond_f g131_20 ?_))))
 obtain ⟨x135, l135, k135, hl922⟩ := ixb hl922
 refine index_addr rfl rfl (hasO y0_h1 k135) l135 (lt_ofE y0_n1 l135 k135) (cond_f g131_20 (loadn_l m1 rfl (Nat.le_of_ble_eq_true rfl) (cond_f g131_20 ?_)))
 obtain ⟨x137, q137, hl922⟩ := bnd hl922
 refine call_fn (JP (s := y0_1) (s_i := ((e0.N).toNat)) (t := (⟨x36.reached, (x36.depth + (x40.2.1 - x40.1)), (⟨t915.1, t915.2.1, t915.2.2.1, t915.2.2.2.1, t915.2.2.2.2.1, t915.2.2.2.2.2.1, t915.2.2.2.2.2.2.1, t915.2.2.2.2.2.2.2⟩ : JU)⟩ : Je)) q137 y0_h1) (.cons r2 .nil) ?_
 rintro _ K137 _ l137 ⟨rfl, h137_0, n137_0, rfl⟩
 refine ⟨⟨l137, (ConvH.of (.cons r2 (.cons r1 .nil)))⟩, ?_⟩
 refine cond_f g131_20 (un_not (cond_f g131_20 (cond_go rfl ?_)))
 refine cond_s (fun w139 => ?_) (fun w139 => ?_)
 replace hl922 := ift (not_t (ni_t w139)) hl922
 obtain rfl := si hl922
 replace hl0 := elr hl0
 obtain rfl := si hl0
 replace hm := elr hm
 obtain rfl := si hm
 refine EndStep.mk _ (((lk0.trans l40).trans lt915).trans l137) ⟨rfl, rfl⟩ (ConvH.of (.cons r3 .nil))
 replace hl922 := iff_ (not_f (ni_f w139)) hl922
 refine MeetStep.mk (x137.2) trivial (by repeat (first | exact trivial | refine And.intro rfl ?_)) (ConvH.of (.cons r1 (.cons r1 (.cons r0 (.cons r0 .nil))))) l137 ⟨h137_0, ((y0_n1).trans n137_0), (si hl922).symm⟩
 replace hl922 := iff_ (or_f g115_19 w119) hl922
 refine MeetStep.mk (y0_1) trivial (by repeat (first | exact trivial | refine And.intro rfl ?_)) (ConvH.of (.cons r0 (.cons r0 (.cons r0 (.cons r0 .nil))))) (Hp.Le.refl _) ⟨y0_h1, y0_n1, (si hl922).symm⟩
 rintro t922 Kt922 lt922 ⟨t922_h0, t922_n0, rfl⟩ j922
 replace hl0 := elg hl0
 refine cond_go rfl ?_
 refine cond_s (fun w140 => ?_) (fun w140 => ?_)
 replace hl0 := ift w140 hl0
 refine draw_go ⟨⟨[], false⟩, _, [(_, _)]⟩ (by kernel_rfl) ⟨Hp.Le.refl _, (ConvH.of (.cons r0 .nil))⟩ ?_
 refine Jb rfl (load1_l m0 rfl rfl (eq_int ?_))
 obtain rfl := si hl0
 replace hm := elr hm
 obtain rfl := si hm
 refine EndStep.mk _ (((lk0.trans l40).trans lt915).trans lt922) ⟨rfl, rfl⟩ (ConvH.of (.cons r3 .nil))
 replace hl0 := iff_ w140 hl0
 refine draw_go ⟨⟨[], false⟩, _, [(_, _), (_, _)]⟩ (by kernel_rfl) ⟨Hp.Le.refl _, (ConvH.of (.cons r1 (.cons r0 .nil)))⟩ ?_
 refine Jb rfl (load1_l m0 rfl rfl (neq_int ?_))
 refine cond_s (fun g148_24 => ?_) (fun g148_24 => ?_)
 replace hl0 := ift g148_24 hl0
 refine cond_t g148_24 (cond_t g148_24 (int_in (cntz hx0 hk0) (cond_t g148_24 ?_)))
 obtain ⟨x152, l152, k152, hl0⟩ := ixb hl0
 refine index_addr rfl rfl (hasO t922_h0 k152) l152 (lt_ofE t922_n0 l152 k152) (cond_t g148_24 (loadn_l m1 rfl (Nat.le_of_ble_eq_true rfl) (cond_t g148_24 ?_)))
 obtain ⟨x154, q154, hl0⟩ := bnd hl0
 refine call_fn (JP (s := t922) (s_i := ((((i0 : Int) + 1)).toNat)) (t := (⟨x36.reached, (x36.depth + (x40.2.1 - x40.1)), (⟨t915.1, t915.2.1, t915.2.2.1, t915.2.2.2.1, t915.2.2.2.2.1, t915.2.2.2.2.2.1, t915.2.2.2.2.2.2.1, t915.2.2.2.2.2.2.2⟩ : JU)⟩ : Je)) q154 t922_h0) (.cons r2 .nil) ?_
 rintro _ K154 _ l154 ⟨rfl, h154_0, n154_0, rfl⟩
 refine ⟨⟨l154, (ConvH.of (.cons r2 (.cons r1 .nil)))⟩, ?_⟩
 refine cond_t g148_24 (un_not (cond_t g148_24 (cond_go rfl ?_)))
 refine cond_s (fun w156 => ?_) (fun w156 => ?_)
 replace hl0 := ift (not_t (ni_t w156)) hl0
 obtain rfl := si hl0
 replace hm := elr hm
 obtain rfl := si hm
 refine EndStep.mk _ ((((lk0.trans l40).trans lt915).trans lt922).trans l154) ⟨rfl, rfl⟩ (ConvH.of (.cons r3 .nil))
 replace hl0 := iff_ (not_f (ni_f w156)) hl0
 refine int_in (cntz hx0 hk0) ?_
 refine RoundStep.mk (i0 + 1, (max (max y0_0 x36.depth) (x36.depth + (x40.2.1 - x40.1))), x154.2) ⟨rfl, rfl, trivial⟩ (by repeat (first | exact trivial | refine And.intro rfl ?_)) (ConvH.of (.cons r0 (.cons r2 .nil))) ((((lk0.trans l40).trans lt915).trans lt922).trans l154) (ltm hx0) ⟨h154_0, ((t922_n0).trans n154_0), hl0⟩
 replace hl0 := iff_ g148_24 hl0
 refine cond_f g148_24 (cond_f g148_24 (cond_f g148_24 (cond_f g148_24 (cond_f g148_24 (cond_f g148_24 ?_)))))
 refine cond_f g148_24 (cond_go rfl (cond_F (int_in (cntz hx0 hk0) ?_)))
 refine RoundStep.mk (i0 + 1, (max (max y0_0 x36.depth) (x36.depth + (x40.2.1 - x40.1))), t922) ⟨rfl, rfl, trivial⟩ (by repeat (first | exact trivial | refine And.intro rfl ?_)) (ConvH.of (.cons r2 (.cons r2 .nil))) (((lk0.trans l40).trans lt915).trans lt922) (ltm hx0) ⟨t922_h0, t922_n0, hl0⟩
 rw [lty w0, JaG.eq_1] at hl0
 refine cond_T ?_
 refine MeetStep.mk ((y0_0, y0_1)) ⟨rfl, trivial⟩ (by repeat (first | exact trivial | refine And.intro rfl ?_)) (ConvH.of (.cons r0 (.cons r0 .nil))) lk0 ⟨y0_h1, y0_n1, (si hl0).symm⟩
 rintro t0 Kt0 lt0 ⟨t0_h1, t0_n1, rfl⟩ j0
 replace hm := elg hm
 obtain rfl := si hm
 refine EndStep.mk _ lt0 ⟨rfl, rfl⟩ (ConvH.of (.cons r1 .nil))

noncomputable def Jbr (code : (List Jj)) : Option (Err) :=
  (JbY code).bind fun x7 =>
  if (!x7.2) then
  some (some 2)
  else
  some none
set_option maxHeartbeats 8000000 in
theorem JbT {code : (List Jj)} {ap0_0 : Option Addr} {cp0_0 : Nat} {n0 : Nat} {K : Hp} {r : Err}
    (hm : Jbr code = some r) (hp0_0 : RdC Jj.enc K ap0_0 cp0_0 3 code) (en0 : n0 = code.length) (hG1 : GlL eS 1 1 Js K) (hG2 : GlL eS 1 2 Jx K) (hG3 : GlL eS 1 3 JD K) (hG4 : GlL eS 1 4 gkw0 K) :
    Fn Tryz.prog 19 [.slice ap0_0 n0 cp0_0] K [] (fun v K' H' => v = errV 44 r ∧ H' = []) := by
 subst en0
 obtain ⟨ga1, gn1, gc1, gn_, gs1, gd1⟩ := id hG1
 subst gn_
 obtain ⟨ga2, gn2, gc2, gn_, gs2, gd2⟩ := id hG2
 subst gn_
 obtain ⟨ga3, gn3, gc3, gn_, gs3, gd3⟩ := id hG3
 subst gn_
 obtain ⟨ga4, gn4, gc4, gn_, gs4, gd4⟩ := id hG4
 subst gn_
 refine Fn.enter Tryz.func19 Tryz.call19 rfl fun F => ?_
 unfold Jbr at hm
 obtain ⟨x7, q7, hm⟩ := bnd hm
 refine call_fn (Jcq q7 hp0_0 rfl hG1 hG2 hG3 hG4) .nil ?_
 rintro _ K7 _ l7 ⟨rfl, rfl⟩
 refine un_not (cond_go rfl ?_)
 refine cond_s (fun w11 => ?_) (fun w11 => ?_)
 replace hm := ift (not_t (ni_t w11)) hm
 refine mk_iface rfl ?_
 obtain rfl := si hm
 refine EndStep.mk _ l7 ⟨rfl, rfl⟩ (ConvH.of (.cons r0 .nil))
 replace hm := iff_ (not_f (ni_f w11)) hm
 obtain rfl := si hm
 refine EndStep.mk _ l7 ⟨rfl, rfl⟩ (ConvH.of (.cons r0 .nil))

noncomputable def Jcv (e : Err) : Option (Int) :=
  if e.isNone then
  some 0
  else
  if (!e.isSome) then
  some (-1)
  else
  some (e.getD 0)
set_option maxHeartbeats 8000000 in
theorem Jcx {e : Err} {K : Hp} {r : Int}
    (hm : Jcv e = some r)  :
    Fn Tryz.prog 13 [errV 44 e] K [] (fun v K' H' => v = .int .i64 r ∧ H' = []) := by
 refine Fn.enter Tryz.func13 Tryz.call13 rfl fun F => ?_
 unfold Jcv at hm
 refine eq_err rfl (cond_go rfl ?_)
 refine cond_s (fun w6 => ?_) (fun w6 => ?_)
 replace hm := ift w6 hm
 obtain rfl := si hm
 refine EndStep.mk _ (Hp.Le.refl _) ⟨rfl, rfl⟩ (ConvH.of (.cons r0 .nil))
 replace hm := iff_ w6 hm
 refine asrt rfl rfl rfl ?_
 refine un_not (cond_go rfl ?_)
 refine cond_s (fun w13 => ?_) (fun w13 => ?_)
 replace hm := ift (not_t (ni_t w13)) hm
 obtain rfl := si hm
 refine EndStep.mk _ (Hp.Le.refl _) ⟨rfl, rfl⟩ (ConvH.of (.cons r0 .nil))
 replace hm := iff_ (not_f (ni_f w13)) hm
 obtain rfl := si hm
 refine EndStep.mk _ (Hp.Le.refl _) ⟨rfl, rfl⟩ (ConvH.of (.cons r0 .nil))

noncomputable def Jcy (e : Err) (want : Int) : Option (Bool) :=
  (Jcv e).bind fun x6 =>
  some (decide (x6 = want) && decide (want ≠ 0))
set_option maxHeartbeats 8000000 in
theorem Jcz {e : Err} {want : Int} {K : Hp} {r : Bool}
    (hm : Jcy e want = some r)  :
    Fn Tryz.prog 16 [errV 44 e, .int .i64 want] K [] (fun v K' H' => v = .bool r ∧ H' = []) := by
 refine Fn.enter Tryz.func16 Tryz.call16 rfl fun F => ?_
 unfold Jcy at hm
 obtain ⟨x6, q6, hm⟩ := bnd hm
 refine call_fn (Jcx (e := e) q6) .nil ?_
 rintro _ K6 _ l6 ⟨rfl, rfl⟩
 refine eq_int ?_
 refine cond_s (fun g9_1 => ?_) (fun g9_1 => ?_)
 refine cond_t g9_1 (neq_int (cond_t g9_1 ?_))
 obtain rfl := si hm
 refine EndStep.mk _ l6 ⟨(by rw [← (and_e (b := decide (want ≠ 0)) g9_1)] <;> rfl), rfl⟩ (ConvH.of (.cons r0 .nil))
 refine cond_f g9_1 (cond_f g9_1 ?_)
 obtain rfl := si hm
 refine EndStep.mk _ l6 ⟨(by rw [← ((and_f g9_1)).symm] <;> rfl), rfl⟩ (ConvH.of (.cons r0 .nil))

noncomputable def JbZ (n : Nat) : Option (Bool) :=
  (JbU ([(⟨10, ([] : Str), [], 0⟩ : Jk)])).bind fun x6 =>
  (Jbg n x6).bind fun x9 =>
  (JaF n x9).bind fun x10 =>
  (if (x10.2.isSome || decide ((x10.1.length : Int) ≠ 2)) then some true else (ix x10.1 0).bind fun x22 =>
  some (decide (x22.S ≠ ([112, 97, 115, 115] : Str)))).bind fun x26 =>
  (if x26 then some true else (Jbr x10.1).bind fun x29 =>
  some x29.isSome).bind fun x31 =>
  if x31 then
  some false
  else
  (chk (0 ≤ (0 : Int) ∧ (0 : Int) ≤ (1 : Int) ∧ (1 : Int) ≤ (x10.1.length : Int))).bind fun _ =>
  (Jbr (subL x10.1 (0 : Int) (1 : Int))).bind fun x34 =>
  (Jcy x34 2).bind fun x35 =>
  some x35
set_option maxHeartbeats 8000000 in
theorem Jct {n : Nat}  {K : Hp} {r : Bool}
    (hm : JbZ n = some r) (hG1 : GlL eS 1 1 Js K) (hG2 : GlL eS 1 2 Jx K) (hG3 : GlL eS 1 3 JD K) (hG4 : GlL eS 1 4 gkw0 K) :
    Fn Tryz.prog 9 [] K [] (fun v K' H' => v = .bool r ∧ H' = []) := by
 obtain ⟨ga1, gn1, gc1, gn_, gs1, gd1⟩ := id hG1
 subst gn_
 obtain ⟨ga2, gn2, gc2, gn_, gs2, gd2⟩ := id hG2
 subst gn_
 obtain ⟨ga3, gn3, gc3, gn_, gs3, gd3⟩ := id hG3
 subst gn_
 obtain ⟨ga4, gn4, gc4, gn_, gs4, gd4⟩ := id hG4
 subst gn_
 refine Fn.enter Tryz.func9 Tryz.call9 rfl fun F => ?_
 unfold JbZ at hm
 refine build_struct rfl rfl (cond_T ?_)
 refine bsOR (R := Jk.R) (len := 1) (l := [(⟨10, ([] : Str), [], 0⟩ : Jk)]) (css := [[.int .i64 10, str ([] : Str), .slice none 0 0, .int .i64 0]]) (cl := [.int .i64 10, str ([] : Str), .slice none 0 0, .int .i64 0]) Jk.R_ok elT22 rfl rfl (LR.snoc LR.nil (Jk.of (x := (⟨10, ([] : Str), [], 0⟩ : Jk)) ⟨none, 0, rfl, LiC.nil⟩)) rfl rfl rfl ?_ fun b5 => ?_
 · conv => whnf
   refine cond_T ?_
   first | done | rfl
 obtain ⟨x6, q6, hm⟩ := bnd hm
 refine fzFR Tryz.call29 Jk.R_ok r0 (show LR Jk.R _ [[.int .i64 10, str ([] : Str), .slice none 0 0, .int .i64 0]] [(⟨10, ([] : Str), [], 0⟩ : Jk)] from (LR.snoc LR.nil (Jk.of (x := (⟨10, ([] : Str), [], 0⟩ : Jk)) ⟨none, 0, rfl, LiC.nil⟩))) fun K6_0 l6_0 f6_0 => ?_
 refine call_fn (Jcn q6 f6_0 rfl) .nil ?_
 rintro _ K6 _ l6 ⟨a6_0, c6_0, rfl, h6_0, rfl⟩
 refine alloc_rule rfl ?_
 intro b1
 refine store_rule r0 rfl ?_
 refine ⟨rfl, rfl, (Nat.le_of_ble_eq_true rfl), ?_⟩
 refine RStep.of (loadn_s r0 rfl (Nat.le_of_ble_eq_true rfl) ?_)
 obtain ⟨x9, q9, hm⟩ := bnd hm
 refine call_fn (Jca (n' := x6) q9 h6_0) .nil ?_
 rintro _ K9 _ l9 ⟨a9_0, c9_0, s9_0, rfl, h9_0, r9_0, rfl⟩
 obtain ⟨x10, q10, hm⟩ := bnd hm
 refine fzFR Tryz.call10 Ja.R_ok r0 r9_0 fun Kf10_0_0 lf10_0_0 ff10_0_0 => ?_
 refine call_fn (JbD (program := x9) q10 ff10_0_0 (hG1.mono (((l6_0.trans l6).trans l9).trans lf10_0_0)) (hG2.mono (((l6_0.trans l6).trans l9).trans lf10_0_0)) (hG3.mono (((l6_0.trans l6).trans l9).trans lf10_0_0)) (hG4.mono (((l6_0.trans l6).trans l9).trans lf10_0_0))) .nil ?_
 rintro _ K10 _ l10 ⟨a10_0, c10_0, rfl, h10_0, rfl⟩
 refine neq_err rfl ?_
 refine cond_s (fun g15_3 => ?_) (fun g15_3 => ?_)
 refine cond_t g15_3 (cond_t g15_3 (cond_t g15_3 ?_))
 obtain ⟨x26, e26, hm⟩ := bnd hm
 replace e26 := ift (or_t g15_3) e26
 refine cond_T (cond_T (cond_T (cond_T (cond_T (cond_T ?_)))))
 obtain ⟨x31, e31, hm⟩ := bnd hm
 replace e31 := ift (si e26).symm e31
 refine cond_T (cond_T (cond_T (cond_T (cond_go rfl (cond_T ?_)))))
 replace hm := ift (si e31).symm hm
 obtain rfl := si hm
 refine EndStep.mk _ ((((l6_0.trans l6).trans l9).trans lf10_0_0).trans l10) ⟨rfl, rfl⟩ (ConvH.of (.cons r2 .nil))
 refine cond_f g15_3 (RStep.of (len_slice rfl (cond_f g15_3 (neq_int (cond_f g15_3 ?_)))))
 obtain ⟨x26, e26, hm⟩ := bnd hm
 refine cond_s (fun g20_3 => ?_) (fun g20_3 => ?_)
 replace e26 := ift (or_u g15_3 g20_3) e26
 refine cond_t g20_3 (cond_t g20_3 (cond_t g20_3 (cond_t g20_3 (cond_t g20_3 ?_))))
 obtain ⟨x31, e31, hm⟩ := bnd hm
 replace e31 := ift (si e26).symm e31
 refine cond_T (cond_T (cond_T (cond_T (cond_go rfl (cond_T ?_)))))
 replace hm := ift (si e31).symm hm
 obtain rfl := si hm
 refine EndStep.mk _ ((((l6_0.trans l6).trans l9).trans lf10_0_0).trans l10) ⟨rfl, rfl⟩ (ConvH.of (.cons r2 .nil))
 replace e26 := iff_ (or_f g15_3 g20_3) e26
 refine cond_f g20_3 ?_
 obtain ⟨x22, l22, k22, e26⟩ := ixb e26
 refine RStep.ofN (index_addr rfl rfl (hasO h10_0 k22) l22 (lt_ofE rfl l22 k22) (cond_f g20_3 (eptr_field rfl (hasO h10_0 k22) (cond_f g20_3 (RStep.of (ld_own (i := (0 : Int).toNat) (o := 2) r0 rfl k22 rfl rfl (cond_f g20_3 ?_)))))))
 refine neq_str (cond_f g20_3 ?_)
 obtain ⟨x31, e31, hm⟩ := bnd hm
 refine cond_s (fun g27_3 => ?_) (fun g27_3 => ?_)
 replace e31 := ift ((si e26).symm.trans g27_3) e31
 refine cond_t g27_3 (cond_t g27_3 (cond_t g27_3 (cond_go rfl (cond_T ?_))))
 replace hm := ift (si e31).symm hm
 obtain rfl := si hm
 refine EndStep.mk _ ((((l6_0.trans l6).trans l9).trans lf10_0_0).trans l10) ⟨rfl, rfl⟩ (ConvH.of (.cons r2 .nil))
 replace e31 := iff_ ((si e26).symm.trans g27_3) e31
 refine cond_f g27_3 ?_
 obtain ⟨x29, q29, e31⟩ := bnd e31
 refine call_fn (Fn.lend Tryz.call19 (fun K29_0 l29_0 f29_0 => (JbT q29 f29_0 rfl (hG1.mono (((((l6_0.trans l6).trans l9).trans lf10_0_0).trans l10).trans l29_0)) (hG2.mono (((((l6_0.trans l6).trans l9).trans lf10_0_0).trans l10).trans l29_0)) (hG3.mono (((((l6_0.trans l6).trans l9).trans lf10_0_0).trans l10).trans l29_0)) (hG4.mono (((((l6_0.trans l6).trans l9).trans lf10_0_0).trans l10).trans l29_0)))) (by exact fun _ _ _ _ h => h)) (.cons r0 .nil) ?_
 rintro _ K29 _ l29 ⟨_, rfl, rfl, rfl⟩
 refine cond_f g27_3 (neq_err rfl (cond_f g27_3 (cond_go rfl ?_)))
 refine cond_s (fun w31 => ?_) (fun w31 => ?_)
 replace hm := ift ((si e31).symm.trans w31) hm
 obtain rfl := si hm
 refine EndStep.mk _ (((((l6_0.trans l6).trans l9).trans lf10_0_0).trans l10).trans l29) ⟨rfl, rfl⟩ (ConvH.of (.cons r2 .nil))
 replace hm := iff_ ((si e31).symm.trans w31) hm
 obtain ⟨h33, hm⟩ := chkb hm
 refine ownSl (l := x10.1) (hi := (some 1)) rfl r0 (by simp) rfl rfl h33 ?_
 obtain ⟨x34, q34, hm⟩ := bnd hm
 refine tkF Tryz.call19 (1 : Int) r0 ?_
 refine call_fn (Fn.lend Tryz.call19 (fun K34_0 l34_0 f34_0 => (JbT q34 f34_0 rfl (hG1.mono ((((((l6_0.trans l6).trans l9).trans lf10_0_0).trans l10).trans l29).trans l34_0)) (hG2.mono ((((((l6_0.trans l6).trans l9).trans lf10_0_0).trans l10).trans l29).trans l34_0)) (hG3.mono ((((((l6_0.trans l6).trans l9).trans lf10_0_0).trans l10).trans l29).trans l34_0)) (hG4.mono ((((((l6_0.trans l6).trans l9).trans lf10_0_0).trans l10).trans l29).trans l34_0)))) (by exact fun _ _ _ _ h => h)) (.cons r0 .nil) ?_
 rintro _ K34 _ l34 ⟨_, rfl, rfl, rfl⟩
 obtain ⟨x35, q35, hm⟩ := bnd hm
 refine call_fn (Jcz (e := x34) (want := 2) q35) .nil ?_
 rintro _ K35 _ l35 ⟨rfl, rfl⟩
 obtain rfl := si hm
 refine EndStep.mk _ (((((((l6_0.trans l6).trans l9).trans lf10_0_0).trans l10).trans l29).trans l34).trans l35) ⟨rfl, rfl⟩ (ConvH.of (.cons r2 .nil))

noncomputable def Jaz : List Jj → Nat → (List Ju) → Option ((List Ju))
  | [], _, y0_0 => some y0_0
  | e0 :: xs0, i0, y0_0 =>
    (chk (y0_0.length + [(⟨e0.Op, e0.N, e0.S⟩ : Ju)].length ≤ lim)).bind fun _ =>
    Jaz xs0 (i0 + 1) (y0_0 ++ [(⟨e0.Op, e0.N, e0.S⟩ : Ju)])
noncomputable def Jbd (code : (List Jj)) : Option ((List Ju)) :=
  (chk (code.length ≤ szMax)).bind fun _ =>
  (Jaz code 0 []).bind fun t0 =>
  some t0
set_option maxHeartbeats 8000000 in
theorem JbO {code : (List Jj)} {ap0_0 : Option Addr} {cp0_0 : Nat} {n0 : Nat} {K : Hp} {r : (List Ju)}
    (hm : Jbd code = some r) (hp0_0 : RdC Jj.enc K ap0_0 cp0_0 3 code) (en0 : n0 = code.length) :
    Fn Tryz.prog 18 [.slice ap0_0 n0 cp0_0] K [] (fun v K' H' => ∃ ar_0 : Option Addr, ∃ cr_0 : Nat, v = .slice ar_0 r.length cr_0 ∧ (0 < r.length → Has ar_0) ∧ H' = [OwnL Ju.enc ar_0 73 3 cr_0 r]) := by
 subst en0
 refine Fn.enter Tryz.func18 Tryz.call18 rfl fun F => ?_
 unfold Jbd at hm
 refine RStep.of (len_slice rfl ?_)
 obtain ⟨hk0, hm⟩ := chkb hm
 obtain ⟨s0, hl0, hm⟩ := bnd hm
 refine nilC Ju.enc 73 3 ?_
 refine code_cut (σ := ((List Ju)) × Option Addr × Nat) [3, 5, 8, 9, 10, 11, 12, 13, 14, 15, 16, 17, 18, 19, 20, 21, 22] (fun (t0, t0_a0, t0_c0) => [(3, .slice t0_a0 t0.length t0_c0)]) (fun (t0, t0_a0, t0_c0) => [OwnL Ju.enc t0_a0 73 3 t0_c0 t0, F]) (fun zz K1 => match zz with | (t0, t0_a0, t0_c0) => (0 < t0.length → Has t0_a0) ∧ t0 = s0) ?_ ?_
 refine block_go rfl ?_
 refine loop_rule (σ := Nat × (List Ju) × Option Addr × Nat) [3, 5, 8, 9, 10, 11, 12, 13, 14, 15, 16, 17, 18, 19, 20, 21, 22] (fun (i0, y0_0, y0_a0, y0_c0) => [(8, .int .i64 (i0 : Int)), (3, .slice y0_a0 y0_0.length y0_c0)]) (fun (i0, y0_0, y0_a0, y0_c0) => [OwnL Ju.enc y0_a0 73 3 y0_c0 y0_0, F]) (fun zz K1 => match zz with | (i0, y0_0, y0_a0, y0_c0) => (0 < y0_0.length → Has y0_a0) ∧ Jaz (code.drop i0) i0 y0_0 = some s0) (fun zz => code.length - zz.1) (0, [], none, 0) rfl ⟨rfl, rfl, trivial⟩ (ConvH.of (.cons r0 (.cons r0 .nil))) ⟨(fun h => by simp at h), hl0⟩ ?_
 clear hl0
 rintro ⟨i0, y0_0, y0_a0, y0_c0⟩ Kb0 lk0 ⟨y0_h0, hl0⟩ j0
 refine cond_go rfl ?_
 refine cond_s (fun w0 => ?_) (fun w0 => ?_)
 obtain ⟨e0, hx0, hd0⟩ := ltx w0
 rw [hd0, Jaz.eq_2] at hl0
 refine block_go rfl ?_
 refine RStep.ofN (index_addr rfl rfl (hasK (hp0_0.mono lk0).rd hx0) (nn _) (lt_ofN hx0) (RStep.of (load_rd_agg i0 _ (hp0_0.mono lk0).rd rfl (mp hx0) rfl ?_)))
 refine alloc_rule rfl ?_
 intro b5
 refine store_rule r0 rfl ?_
 refine ⟨rfl, rfl, (Nat.le_of_ble_eq_true rfl), ?_⟩
 refine Jb rfl (RStep.of (load1_s r0 rfl rfl (Jb rfl (RStep.of (load1_s r0 rfl rfl (Jb rfl (RStep.of (load1_s r0 rfl rfl ?_))))))))
 refine build_struct rfl rfl (cond_T (cond_T (cond_T ?_)))
 refine bsO (len := 1) (enc := Ju.enc) (l := [(⟨e0.Op, e0.N, e0.S⟩ : Ju)]) (cl := [.int .i64 e0.Op, .int .i64 e0.N, str e0.S]) elT36 rfl rfl (fun _ _ => rfl) rfl rfl rfl ?_ fun b20 => ?_
 · conv => whnf
   refine cond_T ?_
   first | done | rfl
 obtain ⟨h21, hl0⟩ := chkb hl0
 refine apE rfl r2 elT36 (src_own' rfl r0 rfl (fun _ => rfl) (fun _ => rfl)) h21 ?_
 intro a21 c21 o21
 refine int_in (cntz hx0 hk0) ?_
 refine RoundStep.mk (i0 + 1, (y0_0 ++ [(⟨e0.Op, e0.N, e0.S⟩ : Ju)]), a21, c21) ⟨rfl, rfl, trivial⟩ (by repeat (first | exact trivial | refine And.intro rfl ?_)) (ConvH.of (.cons r0 (.cons r2 .nil))) lk0 (ltm hx0) ⟨o21, hl0⟩
 rw [lty w0, Jaz.eq_1] at hl0
 refine cond_T ?_
 refine MeetStep.mk (y0_0, y0_a0, y0_c0) ⟨rfl, trivial⟩ (by repeat (first | exact trivial | refine And.intro rfl ?_)) (ConvH.of (.cons r0 (.cons r0 .nil))) lk0 ⟨y0_h0, (si hl0)⟩
 rintro ⟨t0, t0_a0, t0_c0⟩ Kt0 lt0 ⟨t0_h0, rfl⟩ j0
 obtain rfl := si hm
 refine EndStep.mk _ lt0 ⟨t0_a0, t0_c0, rfl, t0_h0, rfl⟩ (ConvH.of (.cons r0 (.cons r0 .nil)))

noncomputable def J7 : List UInt8 → Nat → Option (Fl (Bool) (Unit))
  | [], _ => some (Fl.go ())
  | e0 :: xs0, i0 =>
    (if decide ((e0.toNat : Int) < 32) then some true else some (decide ((e0.toNat : Int) > 126))).bind fun x18 =>
    if x18 then
    some (Fl.ret false)
    else
    J7 xs0 (i0 + 1)
noncomputable def JaN (s : Str) : Option (Bool) :=
  (chk (s.length ≤ szMax)).bind fun _ =>
  (J7 s 0).bind fun s0 => s0.el some fun t0 =>
  some true
set_option maxHeartbeats 8000000 in
theorem JaZ {s : Str} {K : Hp} {r : Bool}
    (hm : JaN s = some r)  :
    Fn Tryz.prog 62 [str s] K [] (fun v K' H' => v = .bool r ∧ H' = []) := by
 refine Fn.enter Tryz.func62 Tryz.call62 rfl fun F => ?_
 unfold JaN at hm
 refine RStep.of (len_str rfl ?_)
 obtain ⟨hk0, hm⟩ := chkb hm
 obtain ⟨s0, hl0, hm⟩ := bnd hm
 refine code_cut (σ := (Unit)) [2, 3, 6, 7, 8, 9, 10, 11, 12, 13, 14, 15, 16, 17, 18, 19] (fun t0 => []) (fun t0 => [F]) (fun zz K1 => match zz with | t0 => s0 = Fl.go t0) ?_ ?_
 refine block_go rfl ?_
 refine loop_rule (σ := Nat) [2, 3, 6, 7, 8, 9, 10, 11, 12, 13, 14, 15, 16, 17, 18, 19] (fun i0 => [(6, .int .i64 (i0 : Int))]) (fun i0 => [F]) (fun zz K1 => match zz with | i0 => J7 (s.drop i0) i0 = some s0) (fun zz => s.length - zz) (0) rfl ⟨rfl, trivial⟩ (ConvH.of (.cons r0 .nil)) hl0 ?_
 clear hl0
 rintro i0 Kb0 lk0 hl0 j0
 conv at hl0 => whnf
 refine cond_go rfl ?_
 refine cond_s (fun w0 => ?_) (fun w0 => ?_)
 obtain ⟨e0, hx0, hd0⟩ := ltx w0
 rw [hd0, J7.eq_2] at hl0
 refine block_go rfl ?_
 refine idx_str rfl (nn _) hx0 ?_
 obtain ⟨x18, e18, hl0⟩ := bnd hl0
 refine cond_s (fun g13_4 => ?_) (fun g13_4 => ?_)
 replace e18 := ift g13_4 e18
 refine cond_t g13_4 (cond_t g13_4 (cond_t g13_4 (cond_t g13_4 (cond_go rfl (cond_T ?_)))))
 replace hl0 := ift (si e18).symm hl0
 obtain rfl := si hl0
 replace hm := elr hm
 obtain rfl := si hm
 refine EndStep.mk _ lk0 ⟨rfl, rfl⟩ (ConvH.of (.cons r0 .nil))
 replace e18 := iff_ g13_4 e18
 refine cond_f g13_4 (cond_f g13_4 (idx_str rfl (nn _) hx0 (cond_f g13_4 (cond_f g13_4 (cond_go rfl ?_)))))
 refine cond_s (fun w18 => ?_) (fun w18 => ?_)
 replace hl0 := ift ((si e18).symm.trans w18) hl0
 obtain rfl := si hl0
 replace hm := elr hm
 obtain rfl := si hm
 refine EndStep.mk _ lk0 ⟨rfl, rfl⟩ (ConvH.of (.cons r0 .nil))
 replace hl0 := iff_ ((si e18).symm.trans w18) hl0
 refine int_in (cntz hx0 hk0) ?_
 refine RoundStep.mk (i0 + 1) ⟨rfl, trivial⟩ (by repeat (first | exact trivial | refine And.intro rfl ?_)) (ConvH.of (.cons r0 .nil)) lk0 (ltm hx0) hl0
 rw [lty w0, J7.eq_1] at hl0
 refine cond_T ?_
 refine MeetStep.mk (()) trivial (by repeat (first | exact trivial | refine And.intro rfl ?_)) (ConvH.of (.cons r0 .nil)) lk0 (si hl0).symm
 rintro t0 Kt0 lt0 rfl j0
 replace hm := elg hm
 obtain rfl := si hm
 refine EndStep.mk _ lt0 ⟨rfl, rfl⟩ (ConvH.of (.cons r0 .nil))

noncomputable def JaO (s : Str) : Option (Bool) :=
  some (((decide (s = ([109, 101, 116, 104, 111, 100] : Str)) || decide (s = ([104, 111, 115, 116] : Str))) || decide (s = ([112, 97, 116, 104] : Str))) || decide (s = ([113, 117, 101, 114, 121] : Str)))
set_option maxHeartbeats 8000000 in
theorem Ja7 {s : Str} {K : Hp} {r : Bool}
    (hm : JaO s = some r)  :
    Fn Tryz.prog 63 [str s] K [] (fun v K' H' => v = .bool r ∧ H' = []) := by
 refine Fn.enter Tryz.func63 Tryz.call63 rfl fun F => ?_
 unfold JaO at hm
 refine eq_str ?_
 refine cond_s (fun g5_1 => ?_) (fun g5_1 => ?_)
 refine cond_t g5_1 (cond_t g5_1 (cond_T (cond_T (cond_T (cond_T ?_)))))
 refine cond_T (cond_T ?_)
 obtain rfl := si hm
 refine EndStep.mk _ (Hp.Le.refl _) ⟨(by rw [← ((or_t (or_t (or_t g5_1)))).symm] <;> rfl), rfl⟩ (ConvH.of (.cons r0 .nil))
 refine cond_f g5_1 (eq_str (cond_f g5_1 ?_))
 refine cond_s (fun g9_1 => ?_) (fun g9_1 => ?_)
 refine cond_t g9_1 (cond_t g9_1 (cond_T (cond_T (cond_T ?_))))
 obtain rfl := si hm
 refine EndStep.mk _ (Hp.Le.refl _) ⟨(by rw [← ((or_t (or_t (or_u g5_1 g9_1)))).symm] <;> rfl), rfl⟩ (ConvH.of (.cons r0 .nil))
 refine cond_f g9_1 (eq_str (cond_f g9_1 ?_))
 refine cond_s (fun g13_1 => ?_) (fun g13_1 => ?_)
 refine cond_t g13_1 (cond_t g13_1 ?_)
 obtain rfl := si hm
 refine EndStep.mk _ (Hp.Le.refl _) ⟨(by rw [← ((or_t (or_u (or_f g5_1 g9_1) g13_1))).symm] <;> rfl), rfl⟩ (ConvH.of (.cons r0 .nil))
 refine cond_f g13_1 (eq_str (cond_f g13_1 ?_))
 obtain rfl := si hm
 refine EndStep.mk _ (Hp.Le.refl _) ⟨(by rw [← (or_e (b := decide (s = ([113, 117, 101, 114, 121] : Str))) (or_f (or_f g5_1 g9_1) g13_1))] <;> rfl), rfl⟩ (ConvH.of (.cons r0 .nil))
