/- Functions of the program: mirrors, and that a call returns what the mirror says. Printed by gen.py. -/
import Derived.Test.YtmpdebfckeahmaaGreatDoorG5
set_option linter.unusedVariables false
set_option linter.unusedSimpArgs false
open Go Go.SL Go.Proofs
set_option maxRecDepth 1000000
noncomputable def JaH (code : (List Jm)) (n : Nat) (inZ : Jn) (most : Int) : Nat → (List Jd) → (List Jd) → Int → Str → Str → (List Jc) → (List Str) → (List Str) → Int → Int → Int → Bool → Bool → Bool → Int → Option ((List Jd) × (List Jd) × Int × Str × Str × (List Jc) × (List Str) × (List Str) × Int × Int × Int × Bool × Bool × Bool × Int)
  | 0, _, _, _, _, _, _, _, _, _, _, _, _, _, _, _ => none
  | xs0 + 1, y0_0, y0_1, y0_2, y0_3, y0_4, y0_5, y0_6, y0_7, y0_8, y0_9, y0_10, y0_11, y0_12, y0_13, y0_14 =>
    ((if (!y0_13) then
    some (decide (y0_14 = 0))
    else
    some false) : Option (Bool)).bind fun t902 =>
    if t902 then
    (ix code y0_2).bind fun x35 =>
    (Jbo n (⟨y0_0, y0_1, y0_2, (⟨y0_3, y0_4, y0_5, y0_6, y0_7, y0_8, y0_9, y0_10, y0_11, y0_12⟩ : Ji), y0_13, y0_14⟩ : Jk) x35 inZ most).bind fun x39 =>
    JaH code n inZ most xs0 x39.stack x39.slots x39.atZ x39.r.Path x39.r.Query x39.r.Headers x39.r.Vary x39.r.Tags x39.r.TTL x39.r.Deny x39.r.Steps x39.r.Pass x39.r.Token x39.done x39.code
    else
    some (y0_0, y0_1, y0_2, y0_3, y0_4, y0_5, y0_6, y0_7, y0_8, y0_9, y0_10, y0_11, y0_12, y0_13, y0_14)
noncomputable def JbG (n : Nat) (code : (List Jm)) (inZ : Jn) (most : Int) : Option (Ji × Int) :=
  (JbC code).bind fun x13 =>
  if (!x13.2) then
  some ((⟨([] : Str), ([] : Str), [], [], [], 0, 0, 0, false, false⟩ : Ji), 2)
  else
  (JbY inZ).bind fun x21 =>
  (chk ((0 : Int) ≤ 512 ∧ 512 ≤ (lim : Int))).bind fun _ =>
  (JaH code n inZ most n [] (List.replicate (Int.toNat 512) ((⟨0, 0, ([] : Str), false⟩ : Jd) : Jd)) 0 x21.Path x21.Query x21.Headers x21.Vary x21.Tags x21.TTL x21.Deny x21.Steps x21.Pass x21.Token false 0).bind fun t0 =>
  if decide (t0.2.2.2.2.2.2.2.2.2.2.2.2.2.2 ≠ 0) then
  some ((⟨([] : Str), ([] : Str), [], [], [], 0, 0, 0, false, false⟩ : Ji), t0.2.2.2.2.2.2.2.2.2.2.2.2.2.2)
  else
  some ((⟨t0.2.2.2.1, t0.2.2.2.2.1, t0.2.2.2.2.2.1, t0.2.2.2.2.2.2.1, t0.2.2.2.2.2.2.2.1, t0.2.2.2.2.2.2.2.2.1, t0.2.2.2.2.2.2.2.2.2.1, t0.2.2.2.2.2.2.2.2.2.2.1, t0.2.2.2.2.2.2.2.2.2.2.2.1, t0.2.2.2.2.2.2.2.2.2.2.2.2.1⟩ : Ji), 0)
set_option maxHeartbeats 8000000 in
theorem Jdk {n : Nat} {code : (List Jm)} {inZ : Jn} {most : Int} {ap0_0 : Option Addr} {cp0_0 : Nat} {n0 : Nat} {ap1_0 : Option Addr} {cp1_0 : Nat} {K : Hp} {r : Ji × Int}
    (hm : JbG n code inZ most = some r) (hp0_0 : RdC Jm.enc K ap0_0 cp0_0 3 code) (en0 : n0 = code.length) (hp1_0 : RdC Jc.enc K ap1_0 cp1_0 2 inZ.Fields) :
    Fn Tryz.prog 16 [.slice ap0_0 n0 cp0_0, .agg #[str inZ.Method, str inZ.Host, str inZ.Path, str inZ.Query, .slice ap1_0 inZ.Fields.length cp1_0], .int .i64 most] K [] (fun v K' H' => ∃ ar_0 : Option Addr, ∃ cr_0 : Nat, ∃ ar_1 : Option Addr, ∃ cr_1 : Nat, ∃ ar_2 : Option Addr, ∃ cr_2 : Nat, v = .tuple #[.agg #[str r.1.Path, str r.1.Query, .slice ar_0 r.1.Headers.length cr_0, .slice ar_1 r.1.Vary.length cr_1, .slice ar_2 r.1.Tags.length cr_2, .int .i64 r.1.TTL, .int .i64 r.1.Deny, .int .i64 r.1.Steps, .bool r.1.Pass, .bool r.1.Token], .int .i64 r.2] ∧ RdC Jc.enc K' ar_0 cr_0 2 r.1.Headers ∧ RdC eS K' ar_1 cr_1 1 r.1.Vary ∧ RdC eS K' ar_2 cr_2 1 r.1.Tags ∧ H' = []) := by
 subst en0
 refine Fn.enter Tryz.func16 Tryz.call16 rfl fun F => ?_
 unfold JbG at hm
 refine box_rule ?_
 intro b4
 refine alloc_rule rfl ?_
 intro b6
 obtain ⟨x13, q13, hm⟩ := bnd hm
 refine call_fn (JcX q13 hp0_0 rfl) .nil ?_
 rintro _ K13 _ l13 ⟨rfl, rfl⟩
 refine un_not (cond_go rfl ?_)
 refine cond_s (fun w17 => ?_) (fun w17 => ?_)
 replace hm := ift (not_t (ni_t w17)) hm
 refine build_struct rfl rfl ?_
 refine store_rule r0 rfl ?_
 refine ⟨rfl, rfl, (Nat.le_of_ble_eq_true rfl), ?_⟩
 obtain rfl := si hm
 refine RStep.of (loadn_s r0 rfl (Nat.le_of_ble_eq_true rfl) ?_)
 refine EndStep.mk _ l13 ⟨none, 0, none, 0, none, 0, rfl, RdC.nil, RdC.nil, RdC.nil, rfl⟩ (ConvH.of (.cons r2 .nil))
 replace hm := iff_ (not_f (ni_f w17)) hm
 refine draw_go_P ⟨⟨[], false⟩, _, [(_, _)], []⟩ 6 [1, 2, 0, 3, 4, 5] rfl (by kernel_rfl) ⟨Hp.Le.refl _, (ConvH.of (.cons r1 .nil)), ci0⟩ ?_
 refine loadn_l m0 rfl (Nat.le_of_ble_eq_true rfl) ?_
 intro GG1
 obtain ⟨x21, q21, hm⟩ := bnd hm
 refine call_fn (JcY (inZ := inZ) q21 (hp1_0.mono l13)) .nil ?_
 rintro _ K21 _ l21 ⟨a21_0, c21_0, a21_1, c21_1, a21_2, c21_2, rfl, h21_0, h21_1, h21_2, rfl⟩
 refine ⟨⟨l21, (ConvH.of (.cons r4 .nil)), ci0⟩, ?_⟩
 refine ⟨_, .cons r6 .nil, ⟨l21, (ConvH.of (.cons r4 .nil)), ci0⟩, ?_⟩
 obtain ⟨h19, hm⟩ := chkb hm
 refine mk_sliceA elT103 rfl h19 fun b19 => ?_
 refine build_struct rfl rfl (cond_T (cond_T ?_))
 refine allocA rfl ?_
 intro b10
 intro GG5
 refine store_rule r0 rfl ?_
 refine ⟨rfl, rfl, (Nat.le_of_ble_eq_true rfl), ?_⟩
 refine ⟨⟨l21, (ConvH.of (.cons r6 .nil)), ci0⟩, ?_⟩
 refine ⟨_, .cons r8 .nil, ⟨l21, (ConvH.of (.cons r6 .nil)), ci0⟩, ?_⟩
 refine madeC (enc := Jd.enc) ((⟨0, 0, ([] : Str), false⟩ : Jd) : Jd) elT103 rfl rfl rfl (lim_n h19) r1 ?_
 obtain ⟨s0, hl0, hm⟩ := bnd hm
 refine fC r0 fun Kc0_0 lc0_0 fc0_0 => ?_
 refine fC r1 fun Kc0_1 lc0_1 fc0_1 => ?_
 refine fC r1 fun Kc0_2 lc0_2 fc0_2 => ?_
 refine fC r1 fun Kc0_3 lc0_3 fc0_3 => ?_
 refine code_cut (σ := ((List Jd) × (List Jd) × Int × Str × Str × (List Jc) × (List Str) × (List Str) × Int × Int × Int × Bool × Bool × Bool × Int) × Option Addr × Nat × Option Addr × Nat × Option Addr × Nat × Option Addr × Nat × Option Addr × Nat) [23, 24, 25, 26, 27, 28, 29, 30, 31, 32, 33, 34, 35, 36, 37, 38, 39] (fun (t0, t0_a0, t0_c0, t0_a1, t0_c1, t0_a5, t0_c5, t0_a6, t0_c6, t0_a7, t0_c7) => []) (fun (t0, t0_a0, t0_c0, t0_a1, t0_c1, t0_a5, t0_c5, t0_a6, t0_c6, t0_a7, t0_c7) => [Cells b10 106 [.slice t0_a0 t0.1.length t0_c0, .slice t0_a1 t0.2.1.length t0_c1, .int .i64 t0.2.2.1, str t0.2.2.2.1, str t0.2.2.2.2.1, .slice t0_a5 t0.2.2.2.2.2.1.length t0_c5, .slice t0_a6 t0.2.2.2.2.2.2.1.length t0_c6, .slice t0_a7 t0.2.2.2.2.2.2.2.1.length t0_c7, .int .i64 t0.2.2.2.2.2.2.2.2.1, .int .i64 t0.2.2.2.2.2.2.2.2.2.1, .int .i64 t0.2.2.2.2.2.2.2.2.2.2.1, .bool t0.2.2.2.2.2.2.2.2.2.2.2.1, .bool t0.2.2.2.2.2.2.2.2.2.2.2.2.1, .bool t0.2.2.2.2.2.2.2.2.2.2.2.2.2.1, .int .i64 t0.2.2.2.2.2.2.2.2.2.2.2.2.2.2], Cells b6 44 [str ([] : Str), str ([] : Str), .slice none 0 0, .slice none 0 0, .slice none 0 0, .int .i64 0, .int .i64 0, .int .i64 0, .bool false, .bool false], Cells b4 25 [str inZ.Method, str inZ.Host, str inZ.Path, str inZ.Query, .slice ap1_0 inZ.Fields.length cp1_0], F]) (fun zz K1 => match zz with | (t0, t0_a0, t0_c0, t0_a1, t0_c1, t0_a5, t0_c5, t0_a6, t0_c6, t0_a7, t0_c7) => RdC Jd.enc K1 t0_a0 t0_c0 4 t0.1 ∧ RdC Jd.enc K1 t0_a1 t0_c1 4 t0.2.1 ∧ RdC Jc.enc K1 t0_a5 t0_c5 2 t0.2.2.2.2.2.1 ∧ RdC eS K1 t0_a6 t0_c6 1 t0.2.2.2.2.2.2.1 ∧ RdC eS K1 t0_a7 t0_c7 1 t0.2.2.2.2.2.2.2.1 ∧ t0 = s0) ?_ ?_
 refine block_go rfl ?_
 refine loop_rule (σ := Nat × (List Jd) × (List Jd) × Int × Str × Str × (List Jc) × (List Str) × (List Str) × Int × Int × Int × Bool × Bool × Bool × Int × Option Addr × Nat × Option Addr × Nat × Option Addr × Nat × Option Addr × Nat × Option Addr × Nat) [23, 24, 25, 26, 27, 28, 29, 30, 31, 32, 33, 34, 35, 36, 37, 38, 39] (fun (i0, y0_0, y0_1, y0_2, y0_3, y0_4, y0_5, y0_6, y0_7, y0_8, y0_9, y0_10, y0_11, y0_12, y0_13, y0_14, y0_a0, y0_c0, y0_a1, y0_c1, y0_a5, y0_c5, y0_a6, y0_c6, y0_a7, y0_c7) => []) (fun (i0, y0_0, y0_1, y0_2, y0_3, y0_4, y0_5, y0_6, y0_7, y0_8, y0_9, y0_10, y0_11, y0_12, y0_13, y0_14, y0_a0, y0_c0, y0_a1, y0_c1, y0_a5, y0_c5, y0_a6, y0_c6, y0_a7, y0_c7) => [Cells b10 106 [.slice y0_a0 y0_0.length y0_c0, .slice y0_a1 y0_1.length y0_c1, .int .i64 y0_2, str y0_3, str y0_4, .slice y0_a5 y0_5.length y0_c5, .slice y0_a6 y0_6.length y0_c6, .slice y0_a7 y0_7.length y0_c7, .int .i64 y0_8, .int .i64 y0_9, .int .i64 y0_10, .bool y0_11, .bool y0_12, .bool y0_13, .int .i64 y0_14], Cells b6 44 [str ([] : Str), str ([] : Str), .slice none 0 0, .slice none 0 0, .slice none 0 0, .int .i64 0, .int .i64 0, .int .i64 0, .bool false, .bool false], Cells b4 25 [str inZ.Method, str inZ.Host, str inZ.Path, str inZ.Query, .slice ap1_0 inZ.Fields.length cp1_0], F]) (fun zz K1 => match zz with | (i0, y0_0, y0_1, y0_2, y0_3, y0_4, y0_5, y0_6, y0_7, y0_8, y0_9, y0_10, y0_11, y0_12, y0_13, y0_14, y0_a0, y0_c0, y0_a1, y0_c1, y0_a5, y0_c5, y0_a6, y0_c6, y0_a7, y0_c7) => RdC Jd.enc K1 y0_a0 y0_c0 4 y0_0 ∧ RdC Jd.enc K1 y0_a1 y0_c1 4 y0_1 ∧ RdC Jc.enc K1 y0_a5 y0_c5 2 y0_5 ∧ RdC eS K1 y0_a6 y0_c6 1 y0_6 ∧ RdC eS K1 y0_a7 y0_c7 1 y0_7 ∧ JaH code n inZ most i0 y0_0 y0_1 y0_2 y0_3 y0_4 y0_5 y0_6 y0_7 y0_8 y0_9 y0_10 y0_11 y0_12 y0_13 y0_14 = some s0) (fun zz => zz.1) (n, [], (List.replicate (Int.toNat 512) ((⟨0, 0, ([] : Str), false⟩ : Jd) : Jd)), 0, x21.Path, x21.Query, x21.Headers, x21.Vary, x21.Tags, x21.TTL, x21.Deny, x21.Steps, x21.Pass, x21.Token, false, 0, none, 0, (some ⟨b19, 0, none⟩), (Int.toNat 512), a21_0, c21_0, a21_1, c21_1, a21_2, c21_2) rfl trivial (ConvH.of (.cons r0 (.cons r0 (.cons r0 (.cons r0 .nil))))) ⟨RdC.nil, (fc0_0.mono ((lc0_1.trans lc0_2).trans lc0_3)), (fc0_1.mono (lc0_2.trans lc0_3)), (fc0_2.mono lc0_3), fc0_3, hl0⟩ ?_
 clear hl0
 rintro ⟨i0, y0_0, y0_1, y0_2, y0_3, y0_4, y0_5, y0_6, y0_7, y0_8, y0_9, y0_10, y0_11, y0_12, y0_13, y0_14, y0_a0, y0_c0, y0_a1, y0_c1, y0_a5, y0_c5, y0_a6, y0_c6, y0_a7, y0_c7⟩ Kb0 lk0 ⟨y0_h0, y0_h1, y0_h5, y0_h6, y0_h7, hl0⟩ j0
 cases i0 with
 | zero => rw [JaH.eq_1] at hl0; cases hl0
 | succ i0 =>
  rw [JaH.eq_2] at hl0
  obtain ⟨s902, hl902, hl0⟩ := bnd hl0
  refine code_cut (σ := Bool) [23, 24, 25, 26, 27, 28, 29, 30] (fun t902 => [(30, .bool t902)]) (fun _ => [Cells b10 106 [.slice y0_a0 y0_0.length y0_c0, .slice y0_a1 y0_1.length y0_c1, .int .i64 y0_2, str y0_3, str y0_4, .slice y0_a5 y0_5.length y0_c5, .slice y0_a6 y0_6.length y0_c6, .slice y0_a7 y0_7.length y0_c7, .int .i64 y0_8, .int .i64 y0_9, .int .i64 y0_10, .bool y0_11, .bool y0_12, .bool y0_13, .int .i64 y0_14], Cells b6 44 [str ([] : Str), str ([] : Str), .slice none 0 0, .slice none 0 0, .slice none 0 0, .int .i64 0, .int .i64 0, .int .i64 0, .bool false, .bool false], Cells b4 25 [str inZ.Method, str inZ.Host, str inZ.Path, str inZ.Query, .slice ap1_0 inZ.Fields.length cp1_0], F]) (fun t902 K1 => K1 = Kb0 ∧ t902 = s902) ?_ ?_
  refine guard_go rfl ?_
  refine Ja rfl (RStep.of (load1_s r0 rfl rfl (un_not ?_)))
  refine cond_s (fun g26_5 => ?_) (fun g26_5 => ?_)
  replace hl902 := ift (not_t (ni_t g26_5)) hl902
  refine Ja rfl (cond_t g26_5 (RStep.of (load1_s r0 rfl rfl (cond_t g26_5 (eq_int (cond_t g26_5 ?_))))))
  refine MeetStep.mk (decide (y0_14 = 0)) ⟨rfl, trivial⟩ (by repeat (first | exact trivial | refine And.intro rfl ?_)) (ConvH.of (.cons r0 (.cons r0 (.cons r0 (.cons r0 .nil))))) (Hp.Le.refl _) ⟨rfl, (si hl902)⟩
  replace hl902 := iff_ (not_f (ni_f g26_5)) hl902
  refine cond_f g26_5 (cond_f g26_5 (cond_f g26_5 ?_))
  refine MeetStep.mk (false) ⟨rfl, trivial⟩ (by repeat (first | exact trivial | refine And.intro rfl ?_)) (ConvH.of (.cons r0 (.cons r0 (.cons r0 (.cons r0 .nil))))) (Hp.Le.refl _) ⟨rfl, (si hl902)⟩
  rintro t902 _ _ ⟨rfl, rfl⟩ j902
  refine cs rfl rfl hl0 (fun w30 hl0 => ?_) fun w30 hl0 => ?_
  refine block_go rfl ?_
  refine draw_go_tail ⟨⟨[], false⟩, _, [(_, _), (_, _)], []⟩ 8 rfl (by kernel_rfl) ⟨Hp.Le.refl _, (ConvH.of (.cons r0 (.cons r1 .nil))), ci0⟩ ?_
  refine loadn_l m0 rfl (Nat.le_of_ble_eq_true rfl) (Ja rfl (load1_l m0 rfl rfl ?_))
  obtain ⟨x35, l35, k35, hl0⟩ := ixb hl0
  refine index_addr rfl rfl (hasK (hp0_0.mono ((((((l13.trans l21).trans lc0_0).trans lc0_1).trans lc0_2).trans lc0_3).trans lk0)).rd k35) l35 (lt_ofE rfl l35 k35) (load_rd_agg_l ((y0_2).toNat) _ (hp0_0.mono ((((((l13.trans l21).trans lc0_0).trans lc0_1).trans lc0_2).trans lc0_3).trans lk0)).rd rfl (mp k35) rfl (loadn_l m1 rfl (Nat.le_of_ble_eq_true rfl) ?_))
  obtain ⟨x39, q39, hl0⟩ := bnd hl0
  refine call_fn (Jdb (m := (⟨y0_0, y0_1, y0_2, (⟨y0_3, y0_4, y0_5, y0_6, y0_7, y0_8, y0_9, y0_10, y0_11, y0_12⟩ : Ji), y0_13, y0_14⟩ : Jk)) (x := x35) (inZ := inZ) (most := most) q39 y0_h0 y0_h1 y0_h5 y0_h6 y0_h7 (hp1_0.mono ((((((l13.trans l21).trans lc0_0).trans lc0_1).trans lc0_2).trans lc0_3).trans lk0))) .nil ?_
  rintro _ K39 _ l39 ⟨a39_0, c39_0, a39_1, c39_1, a39_2, c39_2, a39_3, c39_3, a39_4, c39_4, rfl, h39_0, h39_1, h39_2, h39_3, h39_4, rfl⟩
  refine ⟨⟨Hp.emp_le _, (ConvH.of .nil), ci0⟩, ?_⟩
  refine store_rule r0 rfl ?_
  refine ⟨rfl, rfl, (Nat.le_of_ble_eq_true rfl), ?_⟩
  refine ⟨⟨Hp.emp_le _, (ConvH.of .nil), ci0⟩, ?_⟩
  refine RoundStep.mk (i0, x39.stack, x39.slots, x39.atZ, x39.r.Path, x39.r.Query, x39.r.Headers, x39.r.Vary, x39.r.Tags, x39.r.TTL, x39.r.Deny, x39.r.Steps, x39.r.Pass, x39.r.Token, x39.done, x39.code, a39_0, c39_0, a39_1, c39_1, a39_2, c39_2, a39_3, c39_3, a39_4, c39_4) trivial (by repeat (first | exact trivial | refine And.intro rfl ?_)) (ConvH.of (.cons r0 (.cons r0 (.cons r0 (.cons r0 .nil))))) (lk0.trans l39) (Nat.lt_succ_self _) ⟨h39_0, h39_1, h39_2, h39_3, h39_4, hl0⟩
  refine cond_T ?_
  refine MeetStep.mk ((y0_0, y0_1, y0_2, y0_3, y0_4, y0_5, y0_6, y0_7, y0_8, y0_9, y0_10, y0_11, y0_12, y0_13, y0_14), y0_a0, y0_c0, y0_a1, y0_c1, y0_a5, y0_c5, y0_a6, y0_c6, y0_a7, y0_c7) trivial (by repeat (first | exact trivial | refine And.intro rfl ?_)) (ConvH.of (.cons r0 (.cons r0 (.cons r0 (.cons r0 .nil))))) lk0 ⟨y0_h0, y0_h1, y0_h5, y0_h6, y0_h7, (si hl0)⟩
 rintro ⟨t0, t0_a0, t0_c0, t0_a1, t0_c1, t0_a5, t0_c5, t0_a6, t0_c6, t0_a7, t0_c7⟩ Kt0 lt0 ⟨t0_h0, t0_h1, t0_h5, t0_h6, t0_h7, rfl⟩ j0
 refine Ja rfl (RStep.of (load1_s r0 rfl rfl (neq_int ?_)))
 refine cs rfl rfl hm (fun w42 hm => ?_) fun w42 hm => ?_
 refine draw_go ⟨⟨[], false⟩, _, [(_, _)], []⟩ (by kernel_rfl) ⟨Hp.Le.refl _, (ConvH.of (.cons r0 .nil)), ci0⟩ ?_
 refine build_struct rfl rfl (Ja rfl (load1_l m0 rfl rfl ?_))
 refine store_rule r1 rfl ?_
 refine ⟨rfl, rfl, (Nat.le_of_ble_eq_true rfl), ?_⟩
 refine ⟨⟨(Hp.Le.refl _), (ConvH.of (.cons r1 .nil)), ci0⟩, ?_⟩
 obtain rfl := si hm
 refine RStep.of (loadn_s r0 rfl (Nat.le_of_ble_eq_true rfl) ?_)
 refine EndStep.mk _ ((((((l13.trans l21).trans lc0_0).trans lc0_1).trans lc0_2).trans lc0_3).trans lt0) ⟨none, 0, none, 0, none, 0, rfl, RdC.nil, RdC.nil, RdC.nil, rfl⟩ (ConvH.of (.cons r3 .nil))
 refine Ja rfl (RStep.of (loadn_s r0 rfl (Nat.le_of_ble_eq_true rfl) ?_))
 refine store_rule r1 rfl ?_
 refine ⟨rfl, rfl, (Nat.le_of_ble_eq_true rfl), ?_⟩
 obtain rfl := si hm
 refine RStep.of (loadn_s r0 rfl (Nat.le_of_ble_eq_true rfl) ?_)
 refine EndStep.mk _ ((((((l13.trans l21).trans lc0_0).trans lc0_1).trans lc0_2).trans lc0_3).trans lt0) ⟨t0_a5, t0_c5, t0_a6, t0_c6, t0_a7, t0_c7, rfl, t0_h5, t0_h6, t0_h7, rfl⟩ (ConvH.of (.cons r3 .nil))

noncomputable def JcM (e : Err) : Option (Int) :=
  if e.isNone then
  some 0
  else
  if (!e.isSome) then
  some (-1)
  else
  some (e.getD 0)
set_option maxHeartbeats 8000000 in
theorem Jdn {e : Err} {K : Hp} {r : Int}
    (hm : JcM e = some r)  :
    Fn Tryz.prog 17 [errV 87 e] K [] (fun v K' H' => v = .int .i64 r ∧ H' = []) := by
 refine Fn.enter Tryz.func17 Tryz.call17 rfl fun F => ?_
 unfold JcM at hm
 refine eq_err rfl ?_
 refine cs rfl rfl hm (fun w6 hm => ?_) fun w6 hm => ?_
 obtain rfl := si hm
 refine EndStep.mk _ (Hp.Le.refl _) ⟨rfl, rfl⟩ (ConvH.of (.cons r0 .nil))
 refine asrt rfl rfl rfl ?_
 refine un_not (cond_go rfl ?_)
 refine cond_s (fun w13 => ?_) (fun w13 => ?_)
 replace hm := ift (not_t (ni_t w13)) hm
 obtain rfl := si hm
 refine EndStep.mk _ (Hp.Le.refl _) ⟨rfl, rfl⟩ (ConvH.of (.cons r0 .nil))
 replace hm := iff_ (not_f (ni_f w13)) hm
 obtain rfl := si hm
 refine EndStep.mk _ (Hp.Le.refl _) ⟨rfl, rfl⟩ (ConvH.of (.cons r0 .nil))

noncomputable def JaW (b : (List Jc)) : List Jf → Nat → Option (Fl (Bool) (Unit))
  | [], _ => some (Fl.go ())
  | e0 :: xs0, i0 =>
    (ix b (i0 : Int)).bind fun x23 =>
    (if decide (e0.Name ≠ x23.Name) then some true else (ix b (i0 : Int)).bind fun x35 =>
    some (decide (e0.Value ≠ x35.Value))).bind fun x39 =>
    if x39 then
    some (Fl.ret false)
    else
    JaW b xs0 (i0 + 1)
noncomputable def Jcf (a : (List Jf)) (b : (List Jc)) : Option (Bool) :=
  if decide ((a.length : Int) ≠ (b.length : Int)) then
  some false
  else
  (chk (a.length ≤ szMax)).bind fun _ =>
  (JaW b a 0).bind fun s0 => s0.el some fun t0 =>
  some true
set_option maxHeartbeats 8000000 in
theorem Jdl {a : (List Jf)} {b : (List Jc)} {ap0_0 : Option Addr} {cp0_0 : Nat} {n0 : Nat} {ap1_0 : Option Addr} {cp1_0 : Nat} {n1 : Nat} {K : Hp} {r : Bool}
    (hm : Jcf a b = some r) (hp0_0 : RdC Jf.enc K ap0_0 cp0_0 2 a) (en0 : n0 = a.length) (hp1_0 : RdC Jc.enc K ap1_0 cp1_0 2 b) (en1 : n1 = b.length) :
    Fn Tryz.prog 27 [.slice ap0_0 n0 cp0_0, .slice ap1_0 n1 cp1_0] K [] (fun v K' H' => v = .bool r ∧ H' = []) := by
 subst en0
 subst en1
 refine Fn.enter Tryz.func27 Tryz.call27 rfl fun F => ?_
 unfold Jcf at hm
 refine RStep.of (len_slice rfl (RStep.of (len_slice rfl (neq_int ?_))))
 refine cs rfl rfl hm (fun w10 hm => ?_) fun w10 hm => ?_
 obtain rfl := si hm
 refine EndStep.mk _ (Hp.Le.refl _) ⟨rfl, rfl⟩ (ConvH.of (.cons r0 .nil))
 refine RStep.of (len_slice rfl ?_)
 obtain ⟨hk0, hm⟩ := chkb hm
 obtain ⟨s0, hl0, hm⟩ := bnd hm
 refine code_cut (σ := (Unit)) [4, 5, 13, 14, 15, 16, 17, 18, 19, 20, 21, 22, 23, 24, 25, 26, 27, 28, 29, 30, 31, 32, 33, 34, 35, 36, 37, 38, 39, 40] (fun t0 => []) (fun t0 => [F]) (fun zz K1 => match zz with | t0 => s0 = Fl.go t0) ?_ ?_
 refine block_go rfl ?_
 refine loop_rule (σ := Nat) [4, 5, 13, 14, 15, 16, 17, 18, 19, 20, 21, 22, 23, 24, 25, 26, 27, 28, 29, 30, 31, 32, 33, 34, 35, 36, 37, 38, 39, 40] (fun i0 => [(13, .int .i64 (i0 : Int))]) (fun i0 => [F]) (fun zz K1 => match zz with | i0 => JaW b (a.drop i0) i0 = some s0) (fun zz => a.length - zz) (0) rfl ⟨rfl, trivial⟩ (ConvH.of (.cons r0 .nil)) hl0 ?_
 clear hl0
 rintro i0 Kb0 lk0 hl0 j0
 conv at hl0 => whnf
 refine cond_go rfl ?_
 refine cond_s (fun w0 => ?_) (fun w0 => ?_)
 obtain ⟨e0, hx0, hd0⟩ := ltx w0
 rw [hd0, JaW.eq_2] at hl0
 refine block_go rfl ?_
 refine draw_go ⟨⟨[], false⟩, _, [], []⟩ (by kernel_rfl) ⟨Hp.Le.refl _, (ConvH.of .nil), ci0⟩ ?_
 refine index_addr rfl rfl (hasK (hp0_0.mono lk0).rd hx0) (nn _) (lt_ofN hx0) (eptr_field rfl (hasK (hp0_0.mono lk0).rd hx0) (load_rd_l i0 0 _ _ (hp0_0.mono lk0).rd rfl (mp hx0) rfl rfl ?_))
 obtain ⟨x23, l23, k23, hl0⟩ := ixb hl0
 refine index_addr rfl rfl (hasK (hp1_0.mono lk0).rd k23) l23 (lt_ofE rfl l23 k23) (eptr_field rfl (hasK (hp1_0.mono lk0).rd k23) (load_rd_l (((i0 : Int)).toNat) 0 _ _ (hp1_0.mono lk0).rd rfl (mp k23) rfl rfl (neq_str ?_)))
 obtain ⟨x39, e39, hl0⟩ := bnd hl0
 refine cond_s (fun g27_6 => ?_) (fun g27_6 => ?_)
 replace e39 := ift g27_6 e39
 refine cond_t g27_6 (cond_t g27_6 (cond_t g27_6 (cond_t g27_6 (cond_t g27_6 (cond_t g27_6 ?_)))))
 refine cond_t g27_6 (cond_t g27_6 (cond_t g27_6 (cond_t g27_6 (cond_t g27_6 (cond_go rfl ?_)))))
 refine cond_T ?_
 replace hl0 := ift (si e39).symm hl0
 obtain rfl := si hl0
 replace hm := elr hm
 obtain rfl := si hm
 refine EndStep.mk _ lk0 ⟨rfl, rfl⟩ (ConvH.of (.cons r0 .nil))
 replace e39 := iff_ g27_6 e39
 refine cond_f g27_6 (cond_f g27_6 (index_addr rfl rfl (hasK (hp0_0.mono lk0).rd hx0) (nn _) (lt_ofN hx0) (cond_f g27_6 (eptr_field rfl (hasK (hp0_0.mono lk0).rd hx0) (cond_f g27_6 ?_)))))
 refine load_rd_l i0 1 _ _ (hp0_0.mono lk0).rd rfl (mp hx0) rfl rfl (cond_f g27_6 (cond_f g27_6 (cond_f g27_6 ?_)))
 obtain ⟨x35, l35, k35, e39⟩ := ixb e39
 refine index_addr rfl rfl (hasK (hp1_0.mono lk0).rd k35) l35 (lt_ofE rfl l35 k35) (cond_f g27_6 (eptr_field rfl (hasK (hp1_0.mono lk0).rd k35) (cond_f g27_6 (load_rd_l (((i0 : Int)).toNat) 1 _ _ (hp1_0.mono lk0).rd rfl (mp k35) rfl rfl (cond_f g27_6 ?_)))))
 refine neq_str (cond_f g27_6 (cond_go rfl ?_))
 refine cond_s (fun w39 => ?_) (fun w39 => ?_)
 replace hl0 := ift ((si e39).symm.trans w39) hl0
 obtain rfl := si hl0
 replace hm := elr hm
 obtain rfl := si hm
 refine EndStep.mk _ lk0 ⟨rfl, rfl⟩ (ConvH.of (.cons r0 .nil))
 replace hl0 := iff_ ((si e39).symm.trans w39) hl0
 refine int_in (cntz hx0 hk0) ?_
 refine RoundStep.mk (i0 + 1) ⟨rfl, trivial⟩ (by repeat (first | exact trivial | refine And.intro rfl ?_)) (ConvH.of (.cons r0 .nil)) lk0 (ltm hx0) hl0
 rw [lty w0, JaW.eq_1] at hl0
 refine cond_T ?_
 refine MeetStep.mk (()) trivial (by repeat (first | exact trivial | refine And.intro rfl ?_)) (ConvH.of (.cons r0 .nil)) lk0 (si hl0).symm
 rintro t0 Kt0 lt0 rfl j0
 replace hm := elg hm
 obtain rfl := si hm
 refine EndStep.mk _ lt0 ⟨rfl, rfl⟩ (ConvH.of (.cons r0 .nil))

noncomputable def JaN (b : (List Str)) : List Str → Nat → Option (Fl (Bool) (Unit))
  | [], _ => some (Fl.go ())
  | e0 :: xs0, i0 =>
    (ix b (i0 : Int)).bind fun x22 =>
    if decide (e0 ≠ x22) then
    some (Fl.ret false)
    else
    JaN b xs0 (i0 + 1)
noncomputable def Jbw (a : (List Str)) (b : (List Str)) : Option (Bool) :=
  if decide ((a.length : Int) ≠ (b.length : Int)) then
  some false
  else
  (chk (a.length ≤ szMax)).bind fun _ =>
  (JaN b a 0).bind fun s0 => s0.el some fun t0 =>
  some true
set_option maxHeartbeats 8000000 in
theorem Jcr {a : (List Str)} {b : (List Str)} {ap0_0 : Option Addr} {cp0_0 : Nat} {n0 : Nat} {ap1_0 : Option Addr} {cp1_0 : Nat} {n1 : Nat} {K : Hp} {r : Bool}
    (hm : Jbw a b = some r) (hp0_0 : RdC eS K ap0_0 cp0_0 1 a) (en0 : n0 = a.length) (hp1_0 : RdC eS K ap1_0 cp1_0 1 b) (en1 : n1 = b.length) :
    Fn Tryz.prog 38 [.slice ap0_0 n0 cp0_0, .slice ap1_0 n1 cp1_0] K [] (fun v K' H' => v = .bool r ∧ H' = []) := by
 subst en0
 subst en1
 refine Fn.enter Tryz.func38 Tryz.call38 rfl fun F => ?_
 unfold Jbw at hm
 refine RStep.of (len_slice rfl (RStep.of (len_slice rfl (neq_int ?_))))
 refine cs rfl rfl hm (fun w10 hm => ?_) fun w10 hm => ?_
 obtain rfl := si hm
 refine EndStep.mk _ (Hp.Le.refl _) ⟨rfl, rfl⟩ (ConvH.of (.cons r0 .nil))
 refine RStep.of (len_slice rfl ?_)
 obtain ⟨hk0, hm⟩ := chkb hm
 obtain ⟨s0, hl0, hm⟩ := bnd hm
 refine code_cut (σ := (Unit)) [4, 5, 13, 14, 15, 16, 17, 18, 19, 20, 21, 22, 23, 24, 25] (fun t0 => []) (fun t0 => [F]) (fun zz K1 => match zz with | t0 => s0 = Fl.go t0) ?_ ?_
 refine block_go rfl ?_
 refine loop_rule (σ := Nat) [4, 5, 13, 14, 15, 16, 17, 18, 19, 20, 21, 22, 23, 24, 25] (fun i0 => [(13, .int .i64 (i0 : Int))]) (fun i0 => [F]) (fun zz K1 => match zz with | i0 => JaN b (a.drop i0) i0 = some s0) (fun zz => a.length - zz) (0) rfl ⟨rfl, trivial⟩ (ConvH.of (.cons r0 .nil)) hl0 ?_
 clear hl0
 rintro i0 Kb0 lk0 hl0 j0
 conv at hl0 => whnf
 refine cond_go rfl ?_
 refine cond_s (fun w0 => ?_) (fun w0 => ?_)
 obtain ⟨e0, hx0, hd0⟩ := ltx w0
 rw [hd0, JaN.eq_2] at hl0
 refine block_go rfl ?_
 refine draw_go ⟨⟨[], false⟩, _, [], []⟩ (by kernel_rfl) ⟨Hp.Le.refl _, (ConvH.of .nil), ci0⟩ ?_
 refine index_addr rfl rfl (hasK (hp0_0.mono lk0).rd hx0) (nn _) (lt_ofN hx0) (load_rd_l i0 0 _ _ (hp0_0.mono lk0).rd rfl (mp hx0) rfl rfl ?_)
 obtain ⟨x22, l22, k22, hl0⟩ := ixb hl0
 refine index_addr rfl rfl (hasK (hp1_0.mono lk0).rd k22) l22 (lt_ofE rfl l22 k22) (load_rd_l (((i0 : Int)).toNat) 0 _ _ (hp1_0.mono lk0).rd rfl (mp k22) rfl rfl (neq_str ?_))
 refine cs rfl rfl hl0 (fun w24 hl0 => ?_) fun w24 hl0 => ?_
 obtain rfl := si hl0
 replace hm := elr hm
 obtain rfl := si hm
 refine EndStep.mk _ lk0 ⟨rfl, rfl⟩ (ConvH.of (.cons r0 .nil))
 refine int_in (cntz hx0 hk0) ?_
 refine RoundStep.mk (i0 + 1) ⟨rfl, trivial⟩ (by repeat (first | exact trivial | refine And.intro rfl ?_)) (ConvH.of (.cons r0 .nil)) lk0 (ltm hx0) hl0
 rw [lty w0, JaN.eq_1] at hl0
 refine cond_T ?_
 refine MeetStep.mk (()) trivial (by repeat (first | exact trivial | refine And.intro rfl ?_)) (ConvH.of (.cons r0 .nil)) lk0 (si hl0).symm
 rintro t0 Kt0 lt0 rfl j0
 replace hm := elg hm
 obtain rfl := si hm
 refine EndStep.mk _ lt0 ⟨rfl, rfl⟩ (ConvH.of (.cons r0 .nil))

noncomputable def Jcg (r' : Jh) (w' : Ji) : Option (Bool) :=
  (if (decide (r'.Path = w'.Path) && decide (r'.Query = w'.Query)) then (Jcf r'.Headers w'.Headers).bind fun x22 =>
  some x22 else some false).bind fun x23 =>
  (if x23 then (Jbw r'.Vary w'.Vary).bind fun x29 =>
  some x29 else some false).bind fun x30 =>
  (if x30 then (Jbw r'.Tags w'.Tags).bind fun x36 =>
  some x36 else some false).bind fun x37 =>
  some (((((x37 && decide (r'.TTL = w'.TTL)) && decide (r'.Deny = w'.Deny)) && decide (r'.Steps = w'.Steps)) && (r'.Pass == w'.Pass)) && (r'.Token == w'.Token))
set_option maxHeartbeats 8000000 in
theorem Jdo {r' : Jh} {w' : Ji} {ap0_0 : Option Addr} {cp0_0 : Nat} {ap0_1 : Option Addr} {cp0_1 : Nat} {ap0_2 : Option Addr} {cp0_2 : Nat} {ap1_0 : Option Addr} {cp1_0 : Nat} {ap1_1 : Option Addr} {cp1_1 : Nat} {ap1_2 : Option Addr} {cp1_2 : Nat} {K : Hp} {r : Bool}
    (hm : Jcg r' w' = some r) (hp0_0 : RdC Jf.enc K ap0_0 cp0_0 2 r'.Headers) (hp0_1 : RdC eS K ap0_1 cp0_1 1 r'.Vary) (hp0_2 : RdC eS K ap0_2 cp0_2 1 r'.Tags) (hp1_0 : RdC Jc.enc K ap1_0 cp1_0 2 w'.Headers) (hp1_1 : RdC eS K ap1_1 cp1_1 1 w'.Vary) (hp1_2 : RdC eS K ap1_2 cp1_2 1 w'.Tags) :
    Fn Tryz.prog 18 [.agg #[str r'.Path, str r'.Query, .slice ap0_0 r'.Headers.length cp0_0, .slice ap0_1 r'.Vary.length cp0_1, .slice ap0_2 r'.Tags.length cp0_2, .int .i64 r'.TTL, .int .i64 r'.Deny, .int .i64 r'.Steps, .bool r'.Pass, .bool r'.Token], .agg #[str w'.Path, str w'.Query, .slice ap1_0 w'.Headers.length cp1_0, .slice ap1_1 w'.Vary.length cp1_1, .slice ap1_2 w'.Tags.length cp1_2, .int .i64 w'.TTL, .int .i64 w'.Deny, .int .i64 w'.Steps, .bool w'.Pass, .bool w'.Token]] K [] (fun v K' H' => v = .bool r ∧ H' = []) := by
 refine Fn.enter Tryz.func18 Tryz.call18 rfl fun F => ?_
 unfold Jcg at hm
 refine box_rule ?_
 intro b2
 refine box_rule ?_
 intro b3
 refine guard_go rfl ?_
 refine Ja rfl (RStep.of (load1_s r1 rfl rfl (Ja rfl (RStep.of (load1_s r0 rfl rfl (eq_str ?_))))))
 refine cond_s (fun g10_1 => ?_) (fun g10_1 => ?_)
 refine Ja rfl (cond_t g10_1 (RStep.of (load1_s r1 rfl rfl (cond_t g10_1 (Ja rfl (cond_t g10_1 ?_))))))
 refine RStep.of (load1_s r0 rfl rfl (cond_t g10_1 (eq_str (cond_t g10_1 ?_))))
 obtain ⟨x23, e23, hm⟩ := bnd hm
 refine cond_s (fun g17_1 => ?_) (fun g17_1 => ?_)
 replace e23 := ift (and_t g10_1 g17_1) e23
 refine Ja rfl (cond_t g17_1 (RStep.of (load1_s r1 rfl rfl (cond_t g17_1 (Ja rfl (cond_t g17_1 ?_))))))
 refine RStep.of (load1_s r0 rfl rfl (cond_t g17_1 ?_))
 obtain ⟨x22, q22, e23⟩ := bnd e23
 refine call_fn (Jdl q22 hp0_0 rfl hp1_0 rfl) .nil ?_
 rintro _ K22 _ l22 ⟨rfl, rfl⟩
 refine cond_t g17_1 ?_
 obtain ⟨x30, e30, hm⟩ := bnd hm
 refine cond_s (fun g24_1 => ?_) (fun g24_1 => ?_)
 replace e30 := ift ((si e23).symm.trans g24_1) e30
 refine Ja rfl (cond_t g24_1 (RStep.of (load1_s r1 rfl rfl (cond_t g24_1 (Ja rfl (cond_t g24_1 ?_))))))
 refine RStep.of (load1_s r0 rfl rfl (cond_t g24_1 ?_))
 obtain ⟨x29, q29, e30⟩ := bnd e30
 refine call_fn (Jcr q29 (hp0_1.mono l22) rfl (hp1_1.mono l22) rfl) .nil ?_
 rintro _ K29 _ l29 ⟨rfl, rfl⟩
 refine cond_t g24_1 ?_
 obtain ⟨x37, e37, hm⟩ := bnd hm
 refine cond_s (fun g31_1 => ?_) (fun g31_1 => ?_)
 replace e37 := ift ((si e30).symm.trans g31_1) e37
 refine Ja rfl (cond_t g31_1 (RStep.of (load1_s r1 rfl rfl (cond_t g31_1 (Ja rfl (cond_t g31_1 ?_))))))
 refine RStep.of (load1_s r0 rfl rfl (cond_t g31_1 ?_))
 obtain ⟨x36, q36, e37⟩ := bnd e37
 refine call_fn (Jcr q36 (hp0_2.mono (l22.trans l29)) rfl (hp1_2.mono (l22.trans l29)) rfl) .nil ?_
 rintro _ K36 _ l36 ⟨rfl, rfl⟩
 refine cond_t g31_1 ?_
 refine cond_s (fun g38_1 => ?_) (fun g38_1 => ?_)
 refine Ja rfl (cond_t g38_1 (RStep.of (load1_s r1 rfl rfl (cond_t g38_1 (Ja rfl (cond_t g38_1 ?_))))))
 refine RStep.of (load1_s r0 rfl rfl (cond_t g38_1 (eq_int (cond_t g38_1 ?_))))
 refine cond_s (fun g45_1 => ?_) (fun g45_1 => ?_)
 refine Ja rfl (cond_t g45_1 (RStep.of (load1_s r1 rfl rfl (cond_t g45_1 (Ja rfl (cond_t g45_1 ?_))))))
 refine RStep.of (load1_s r0 rfl rfl (cond_t g45_1 (eq_int (cond_t g45_1 ?_))))
 refine cond_s (fun g52_1 => ?_) (fun g52_1 => ?_)
 refine Ja rfl (cond_t g52_1 (RStep.of (load1_s r1 rfl rfl (cond_t g52_1 (Ja rfl (cond_t g52_1 ?_))))))
 refine RStep.of (load1_s r0 rfl rfl (cond_t g52_1 (eq_int (cond_t g52_1 ?_))))
 refine cond_s (fun g59_1 => ?_) (fun g59_1 => ?_)
 refine Ja rfl (cond_t g59_1 (RStep.of (load1_s r1 rfl rfl (cond_t g59_1 (Ja rfl (cond_t g59_1 ?_))))))
 refine RStep.of (load1_s r0 rfl rfl (cond_t g59_1 (eq_bool rfl (cond_t g59_1 ?_))))
 refine cond_s (fun g66_1 => ?_) (fun g66_1 => ?_)
 refine Ja rfl (cond_t g66_1 (RStep.of (load1_s r1 rfl rfl (cond_t g66_1 (Ja rfl (cond_t g66_1 ?_))))))
 refine RStep.of (load1_s r0 rfl rfl (cond_t g66_1 (eq_bool rfl (cond_t g66_1 ?_))))
 obtain rfl := si hm
 refine EndStep.mk _ ((l22.trans l29).trans l36) ⟨(by rw [← (and_e (b := (r'.Token == w'.Token)) (and_t (and_t (and_t (and_t ((si e37).symm.trans g38_1) g45_1) g52_1) g59_1) g66_1))] <;> rfl), rfl⟩ (ConvH.of (.cons r2 .nil))
 refine cond_f g66_1 (cond_f g66_1 (cond_f g66_1 (cond_f g66_1 (cond_f g66_1 ?_))))
 obtain rfl := si hm
 refine EndStep.mk _ ((l22.trans l29).trans l36) ⟨(by rw [← ((and_f (and_g (and_t (and_t (and_t ((si e37).symm.trans g38_1) g45_1) g52_1) g59_1) g66_1))).symm] <;> rfl), rfl⟩ (ConvH.of (.cons r2 .nil))
 refine cond_f g59_1 (cond_f g59_1 (cond_f g59_1 (cond_f g59_1 (cond_f g59_1 (cond_F ?_)))))
 refine cond_F (cond_F (cond_F (cond_F (cond_F ?_))))
 obtain rfl := si hm
 refine EndStep.mk _ ((l22.trans l29).trans l36) ⟨(by rw [← ((and_f (and_f (and_g (and_t (and_t ((si e37).symm.trans g38_1) g45_1) g52_1) g59_1)))).symm] <;> rfl), rfl⟩ (ConvH.of (.cons r2 .nil))
 refine cond_f g52_1 (cond_f g52_1 (cond_f g52_1 (cond_f g52_1 (cond_f g52_1 (cond_F ?_)))))
 refine cond_F (cond_F (cond_F (cond_F (cond_F (cond_F ?_)))))
 refine cond_F (cond_F (cond_F (cond_F (cond_F ?_))))
 obtain rfl := si hm
 refine EndStep.mk _ ((l22.trans l29).trans l36) ⟨(by rw [← ((and_f (and_f (and_f (and_g (and_t ((si e37).symm.trans g38_1) g45_1) g52_1))))).symm] <;> rfl), rfl⟩ (ConvH.of (.cons r2 .nil))
 refine cond_f g45_1 (cond_f g45_1 (cond_f g45_1 (cond_f g45_1 (cond_f g45_1 (cond_F ?_)))))
 refine cond_F (cond_F (cond_F (cond_F (cond_F (cond_F ?_)))))
 refine cond_F (cond_F (cond_F (cond_F (cond_F (cond_F ?_)))))
 refine cond_F (cond_F (cond_F (cond_F (cond_F ?_))))
 obtain rfl := si hm
 refine EndStep.mk _ ((l22.trans l29).trans l36) ⟨(by rw [← ((and_f (and_f (and_f (and_f (and_g ((si e37).symm.trans g38_1) g45_1)))))).symm] <;> rfl), rfl⟩ (ConvH.of (.cons r2 .nil))
 refine cond_f g38_1 (cond_f g38_1 (cond_f g38_1 (cond_f g38_1 (cond_f g38_1 (cond_F ?_)))))
 refine cond_F (cond_F (cond_F (cond_F (cond_F (cond_F ?_)))))
 refine cond_F (cond_F (cond_F (cond_F (cond_F (cond_F ?_)))))
 refine cond_F (cond_F (cond_F (cond_F (cond_F (cond_F ?_)))))
 refine cond_F (cond_F (cond_F (cond_F (cond_F ?_))))
 obtain rfl := si hm
 refine EndStep.mk _ ((l22.trans l29).trans l36) ⟨(by rw [← ((and_f (and_f (and_f (and_f (and_f ((si e37).symm.trans g38_1))))))).symm] <;> rfl), rfl⟩ (ConvH.of (.cons r2 .nil))
 replace e37 := iff_ ((si e30).symm.trans g31_1) e37
 refine cond_f g31_1 (cond_f g31_1 (cond_f g31_1 (cond_f g31_1 (cond_f g31_1 (cond_F ?_)))))
 refine cond_F (cond_F (cond_F (cond_F (cond_F (cond_F ?_)))))
 refine cond_F (cond_F (cond_F (cond_F (cond_F (cond_F ?_)))))
 refine cond_F (cond_F (cond_F (cond_F (cond_F (cond_F ?_)))))
 refine cond_F (cond_F (cond_F (cond_F (cond_F (cond_F ?_)))))
 refine cond_F (cond_F (cond_F (cond_F (cond_F ?_))))
 obtain rfl := si hm
 refine EndStep.mk _ (l22.trans l29) ⟨(by rw [← ((and_f (and_f (and_f (and_f (and_f (si e37).symm)))))).symm] <;> rfl), rfl⟩ (ConvH.of (.cons r2 .nil))
 replace e30 := iff_ ((si e23).symm.trans g24_1) e30
 refine cond_f g24_1 (cond_f g24_1 (cond_f g24_1 (cond_f g24_1 (cond_f g24_1 ?_))))
 obtain ⟨x37, e37, hm⟩ := bnd hm
 replace e37 := iff_ (si e30).symm e37
 refine cond_F (cond_F (cond_F (cond_F (cond_F (cond_F ?_)))))
 refine cond_F (cond_F (cond_F (cond_F (cond_F (cond_F ?_)))))
 refine cond_F (cond_F (cond_F (cond_F (cond_F (cond_F ?_)))))
 refine cond_F (cond_F (cond_F (cond_F (cond_F (cond_F ?_)))))
 refine cond_F (cond_F (cond_F (cond_F (cond_F (cond_F ?_)))))
 refine cond_F (cond_F (cond_F (cond_F (cond_F (cond_F ?_)))))
 obtain rfl := si hm
 refine EndStep.mk _ l22 ⟨(by rw [← ((and_f (and_f (and_f (and_f (and_f (si e37).symm)))))).symm] <;> rfl), rfl⟩ (ConvH.of (.cons r2 .nil))
 replace e23 := iff_ (and_g g10_1 g17_1) e23
 refine cond_f g17_1 (cond_f g17_1 (cond_f g17_1 (cond_f g17_1 (cond_f g17_1 ?_))))
 obtain ⟨x30, e30, hm⟩ := bnd hm
 replace e30 := iff_ (si e23).symm e30
 refine cond_F (cond_F (cond_F (cond_F (cond_F (cond_F ?_)))))
 obtain ⟨x37, e37, hm⟩ := bnd hm
 replace e37 := iff_ (si e30).symm e37
 refine cond_F (cond_F (cond_F (cond_F (cond_F (cond_F ?_)))))
 refine cond_F (cond_F (cond_F (cond_F (cond_F (cond_F ?_)))))
 refine cond_F (cond_F (cond_F (cond_F (cond_F (cond_F ?_)))))
 refine cond_F (cond_F (cond_F (cond_F (cond_F (cond_F ?_)))))
 refine cond_F (cond_F (cond_F (cond_F (cond_F (cond_F ?_)))))
 refine cond_F (cond_F (cond_F (cond_F (cond_F (cond_F ?_)))))
 obtain rfl := si hm
 refine EndStep.mk _ (Hp.Le.refl _) ⟨(by rw [← ((and_f (and_f (and_f (and_f (and_f (si e37).symm)))))).symm] <;> rfl), rfl⟩ (ConvH.of (.cons r2 .nil))
 refine cond_f g10_1 (cond_f g10_1 (cond_f g10_1 (cond_f g10_1 (cond_f g10_1 ?_))))
 obtain ⟨x23, e23, hm⟩ := bnd hm
 replace e23 := iff_ (and_f g10_1) e23
 refine cond_F (cond_F (cond_F (cond_F (cond_F (cond_F ?_)))))
 obtain ⟨x30, e30, hm⟩ := bnd hm
 replace e30 := iff_ (si e23).symm e30
 refine cond_F (cond_F (cond_F (cond_F (cond_F (cond_F ?_)))))
 obtain ⟨x37, e37, hm⟩ := bnd hm
 replace e37 := iff_ (si e30).symm e37
 refine cond_F (cond_F (cond_F (cond_F (cond_F (cond_F ?_)))))
 refine cond_F (cond_F (cond_F (cond_F (cond_F (cond_F ?_)))))
 refine cond_F (cond_F (cond_F (cond_F (cond_F (cond_F ?_)))))
 refine cond_F (cond_F (cond_F (cond_F (cond_F (cond_F ?_)))))
 refine cond_F (cond_F (cond_F (cond_F (cond_F (cond_F ?_)))))
 refine cond_F (cond_F (cond_F (cond_F (cond_F (cond_F ?_)))))
 obtain rfl := si hm
 refine EndStep.mk _ (Hp.Le.refl _) ⟨(by rw [← ((and_f (and_f (and_f (and_f (and_f (si e37).symm)))))).symm] <;> rfl), rfl⟩ (ConvH.of (.cons r2 .nil))

noncomputable def Ja7 (n : Nat) (code : (List Jm)) (inZ : Jn) (most : Int) : Option (Bool) :=
  (((Ja8 n).bind fun x11 =>
  (if (!x11) then some true else (Jb8 n code).bind fun x15 =>
  some (!x15)).bind fun x17 =>
  (if x17 then some true else (JbO n inZ).bind fun x20 =>
  some (!x20)).bind fun x22 =>
  some x22) : Option (Bool)).bind fun t901 =>
  if t901 then
  (Ja8 n).bind fun x23 =>
  some x23
  else
  (JbP code).bind fun x26 =>
  (JbA inZ).bind fun x28 =>
  (JaB n x26 x28 most).bind fun x30 =>
  (JbG n code inZ most).bind fun x37 =>
  (JcM x30.2).bind fun x41 =>
  (if decide (x41 = x37.2) then (Jcg x30.1 x37.1).bind fun x47 =>
  some x47 else some false).bind fun x48 =>
  some x48
set_option maxHeartbeats 8000000 in
theorem Jck {n : Nat} {code : (List Jm)} {inZ : Jn} {most : Int} {ap0_0 : Option Addr} {cp0_0 : Nat} {n0 : Nat} {ap1_0 : Option Addr} {cp1_0 : Nat} {K : Hp} {r : Bool}
    (hm : Ja7 n code inZ most = some r) (hp0_0 : RdC Jm.enc K ap0_0 cp0_0 3 code) (en0 : n0 = code.length) (hp1_0 : RdC Jc.enc K ap1_0 cp1_0 2 inZ.Fields) (hG0 : GlL eS 1 0 Jo K) (hG1 : GlL eS 1 1 Js K) (hG2 : GlL eS 1 2 Jt K) (hG3 : GlN 3 K) (hG5 : GlA 5 (Go.Lib.pow10Tab.map fun z => Value.int .u64 z) K) :
    Fn Tryz.prog 3 [.slice ap0_0 n0 cp0_0, .agg #[str inZ.Method, str inZ.Host, str inZ.Path, str inZ.Query, .slice ap1_0 inZ.Fields.length cp1_0], .int .i64 most] K [] (fun v K' H' => v = .bool r ∧ H' = []) := by
 subst en0
 refine Fn.enter Tryz.func3 Tryz.call3 rfl fun F => ?_
 unfold Ja7 at hm
 refine box_rule ?_
 intro b4
 obtain ⟨s901, hl901, hm⟩ := bnd hm
 refine code_cut (σ := Bool) [11, 12, 13, 14, 15, 16, 17, 18, 19, 20, 21, 22] (fun t901 => [(22, .bool t901)]) (fun _ => [Cells b4 25 [str inZ.Method, str inZ.Host, str inZ.Path, str inZ.Query, .slice ap1_0 inZ.Fields.length cp1_0], F]) (fun t901 K1 => t901 = s901) ?_ ?_
 refine guard_go rfl ?_
 obtain ⟨x11, q11, hl901⟩ := bnd hl901
 refine call_fn (Jcj q11 hG0 hG1 hG2 hG3 hG5) .nil ?_
 rintro _ K11 _ l11 ⟨rfl, rfl⟩
 refine un_not ?_
 obtain ⟨x17, e17, hl901⟩ := bnd hl901
 refine cond_s (fun g13_1 => ?_) (fun g13_1 => ?_)
 replace e17 := ift (not_t (ni_t g13_1)) e17
 refine cond_t g13_1 (cond_t g13_1 (cond_t g13_1 ?_))
 obtain ⟨x22, e22, hl901⟩ := bnd hl901
 replace e22 := ift (si e17).symm e22
 refine cond_T (cond_T (cond_T (cond_T ?_)))
 refine MeetStep.mk (x22) ⟨(by rw [← ((si e22).symm).symm] <;> rfl), trivial⟩ (by repeat (first | exact trivial | refine And.intro rfl ?_)) (ConvH.of (.cons r0 (.cons r0 .nil))) l11 (si hl901)
 replace e17 := iff_ (not_f (ni_f g13_1)) e17
 refine cond_f g13_1 ?_
 obtain ⟨x15, q15, e17⟩ := bnd e17
 refine call_fn (Jdf q15 (hp0_0.mono l11) rfl) .nil ?_
 rintro _ K15 _ l15 ⟨rfl, rfl⟩
 refine cond_f g13_1 (un_not (cond_f g13_1 ?_))
 obtain ⟨x22, e22, hl901⟩ := bnd hl901
 refine cond_s (fun g18_1 => ?_) (fun g18_1 => ?_)
 replace e22 := ift ((si e17).symm.trans (not_t (ni_t g18_1))) e22
 refine cond_t g18_1 (cond_t g18_1 (cond_t g18_1 ?_))
 refine MeetStep.mk (x22) ⟨(by rw [← ((si e22).symm).symm] <;> rfl), trivial⟩ (by repeat (first | exact trivial | refine And.intro rfl ?_)) (ConvH.of (.cons r0 (.cons r0 .nil))) (l11.trans l15) (si hl901)
 replace e22 := iff_ ((si e17).symm.trans (not_f (ni_f g18_1))) e22
 refine RStep.of (loadn_s r0 rfl (Nat.le_of_ble_eq_true rfl) (cond_f g18_1 ?_))
 obtain ⟨x20, q20, e22⟩ := bnd e22
 refine call_fn (Jc6 (inZ := inZ) q20 (hp1_0.mono (l11.trans l15))) .nil ?_
 rintro _ K20 _ l20 ⟨rfl, rfl⟩
 refine cond_f g18_1 (un_not (cond_f g18_1 ?_))
 refine MeetStep.mk (x22) ⟨(by rw [← (si e22)] <;> rfl), trivial⟩ (by repeat (first | exact trivial | refine And.intro rfl ?_)) (ConvH.of (.cons r0 (.cons r0 .nil))) ((l11.trans l15).trans l20) (si hl901)
 rintro t901 Kt901 lt901 rfl j901
 refine cs rfl rfl hm (fun w22 hm => ?_) fun w22 hm => ?_
 obtain ⟨x23, q23, hm⟩ := bnd hm
 refine call_fn (Jcj q23 (hG0.mono lt901) (hG1.mono lt901) (hG2.mono lt901) (hG3.mono lt901) (hG5.mono lt901)) .nil ?_
 rintro _ K23 _ l23 ⟨rfl, rfl⟩
 obtain rfl := si hm
 refine EndStep.mk _ (lt901.trans l23) ⟨rfl, rfl⟩ (ConvH.of (.cons r1 .nil))
 refine draw_go_F ⟨⟨[], false⟩, _, [(_, _)], []⟩ 12 rfl (by kernel_rfl) ⟨Hp.Le.refl _, (ConvH.of (.cons r0 .nil)), ci0⟩ ?_
 intro GG1
 obtain ⟨x26, q26, hm⟩ := bnd hm
 refine call_fn (Jc7 q26 (hp0_0.mono lt901) rfl) .nil ?_
 rintro _ K26 _ l26 ⟨a26_0, c26_0, rfl, h26_0, rfl⟩
 refine ⟨⟨l26, (ConvH.of (.cons r1 .nil)), ci0⟩, ?_⟩
 refine ⟨_, .cons r3 .nil, ⟨l26, (ConvH.of (.cons r1 .nil)), ci0⟩, ?_⟩
 refine loadn_l m0 rfl (Nat.le_of_ble_eq_true rfl) ?_
 intro GG3
 obtain ⟨x28, q28, hm⟩ := bnd hm
 refine call_fn (JcW (inZ := inZ) q28 (hp1_0.mono (lt901.trans l26))) .nil ?_
 rintro _ K28 _ l28 ⟨a28_0, c28_0, rfl, h28_0, rfl⟩
 refine ⟨⟨(l26.trans l28), (ConvH.of (.cons r2 .nil)), ci0⟩, ?_⟩
 refine ⟨_, .cons r4 .nil, ⟨(l26.trans l28), (ConvH.of (.cons r2 .nil)), ci0⟩, ?_⟩
 intro GG5
 obtain ⟨x30, q30, hm⟩ := bnd hm
 refine fF Tryz.call13 r0 fun Kf30_1_0 lf30_1_0 ff30_1_0 => ?_
 refine call_fn (Fn.lend Tryz.call13 (fun K30_0 l30_0 f30_0 => (Jcn (inZ := x28) (most := most) q30 f30_0 rfl (ff30_1_0.mono l30_0) (hG0.mono ((((lt901.trans l26).trans l28).trans lf30_1_0).trans l30_0)) (hG1.mono ((((lt901.trans l26).trans l28).trans lf30_1_0).trans l30_0)) (hG2.mono ((((lt901.trans l26).trans l28).trans lf30_1_0).trans l30_0)) (hG3.mono ((((lt901.trans l26).trans l28).trans lf30_1_0).trans l30_0)) (hG5.mono ((((lt901.trans l26).trans l28).trans lf30_1_0).trans l30_0)))) (by exact fun _ _ _ _ h => h)) (.cons r0 .nil) ?_
 rintro _ K30 _ l30 ⟨_, rfl, a30_0, c30_0, a30_1, c30_1, a30_2, c30_2, rfl, h30_0, h30_1, h30_2, rfl⟩
 refine ⟨⟨(((l26.trans l28).trans lf30_1_0).trans l30), (ConvH.of (.cons r4 .nil)), ci0⟩, ?_⟩
 refine ⟨_, .cons r6 .nil, ⟨(((l26.trans l28).trans lf30_1_0).trans l30), (ConvH.of (.cons r4 .nil)), ci0⟩, ?_⟩
 refine allocA rfl ?_
 intro b7
 intro GG10
 refine store_rule r0 rfl ?_
 refine ⟨rfl, rfl, (Nat.le_of_ble_eq_true rfl), ?_⟩
 refine ⟨⟨(((l26.trans l28).trans lf30_1_0).trans l30), (ConvH.of (.cons r5 .nil)), ci0⟩, ?_⟩
 refine ⟨_, .cons r7 .nil, ⟨(((l26.trans l28).trans lf30_1_0).trans l30), (ConvH.of (.cons r5 .nil)), ci0⟩, ?_⟩
 refine RStep.of (loadn_s r5 rfl (Nat.le_of_ble_eq_true rfl) ?_)
 obtain ⟨x37, q37, hm⟩ := bnd hm
 refine call_fn (Jdk (inZ := inZ) (most := most) q37 (hp0_0.mono ((((lt901.trans l26).trans l28).trans lf30_1_0).trans l30)) rfl (hp1_0.mono ((((lt901.trans l26).trans l28).trans lf30_1_0).trans l30))) .nil ?_
 rintro _ K37 _ l37 ⟨a37_0, c37_0, a37_1, c37_1, a37_2, c37_2, rfl, h37_0, h37_1, h37_2, rfl⟩
 refine alloc_rule rfl ?_
 intro b9
 refine store_rule r0 rfl ?_
 refine ⟨rfl, rfl, (Nat.le_of_ble_eq_true rfl), ?_⟩
 refine guard_go rfl ?_
 obtain ⟨x41, q41, hm⟩ := bnd hm
 refine call_fn (Jdn (e := x30.2) q41) .nil ?_
 rintro _ K41 _ l41 ⟨rfl, rfl⟩
 refine eq_int ?_
 obtain ⟨x48, e48, hm⟩ := bnd hm
 refine cond_s (fun g44_5 => ?_) (fun g44_5 => ?_)
 replace e48 := ift g44_5 e48
 refine RStep.of (loadn_s r1 rfl (Nat.le_of_ble_eq_true rfl) (cond_t g44_5 (RStep.of (loadn_s r0 rfl (Nat.le_of_ble_eq_true rfl) (cond_t g44_5 ?_)))))
 obtain ⟨x47, q47, e48⟩ := bnd e48
 refine fF Tryz.call18 r3 fun Kf47_0_0 lf47_0_0 ff47_0_0 => ?_
 refine fF Tryz.call18 r3 fun Kf47_0_1 lf47_0_1 ff47_0_1 => ?_
 refine fF Tryz.call18 r3 fun Kf47_0_2 lf47_0_2 ff47_0_2 => ?_
 refine call_fn (Jdo (r' := x30.1) (w' := x37.1) q47 (ff47_0_0.mono (lf47_0_1.trans lf47_0_2)) (ff47_0_1.mono lf47_0_2) ff47_0_2 (h37_0.mono (((l41.trans lf47_0_0).trans lf47_0_1).trans lf47_0_2)) (h37_1.mono (((l41.trans lf47_0_0).trans lf47_0_1).trans lf47_0_2)) (h37_2.mono (((l41.trans lf47_0_0).trans lf47_0_1).trans lf47_0_2))) .nil ?_
 rintro _ K47 _ l47 ⟨rfl, rfl⟩
 refine cond_t g44_5 ?_
 obtain rfl := si hm
 refine EndStep.mk _ ((((((((((lt901.trans l26).trans l28).trans lf30_1_0).trans l30).trans l37).trans l41).trans lf47_0_0).trans lf47_0_1).trans lf47_0_2).trans l47) ⟨(by rw [← (si e48)] <;> rfl), rfl⟩ (ConvH.of (.cons r4 .nil))
 replace e48 := iff_ g44_5 e48
 refine cond_f g44_5 (cond_f g44_5 (cond_f g44_5 ?_))
 obtain rfl := si hm
 refine EndStep.mk _ ((((((lt901.trans l26).trans l28).trans lf30_1_0).trans l30).trans l37).trans l41) ⟨(by rw [← ((si e48).symm).symm] <;> rfl), rfl⟩ (ConvH.of (.cons r7 .nil))
