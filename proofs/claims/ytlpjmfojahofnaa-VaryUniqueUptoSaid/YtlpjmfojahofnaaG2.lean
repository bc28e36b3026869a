/- Functions of the program: mirrors, and that a call returns what the mirror says. Printed by gen.py. -/
import Derived.Test.YtlpjmfojahofnaaG1
set_option linter.unusedVariables false
set_option linter.unusedSimpArgs false
open Go Go.SL Go.Proofs
set_option maxRecDepth 1000000
noncomputable def law16_VaryUnique_L2 : List Int → Nat → (List (Int × Bool)) → Option (Fl (Bool) ((List (Int × Bool))))
  | [], _, y2_0 => some (Fl.go y2_0)
  | e2 :: xs2, i2, y2_0 =>
    if ((mget y2_0 e2).getD false) then
    some (Fl.ret false)
    else
    law16_VaryUnique_L2 xs2 (i2 + 1) (mset y2_0 e2 true)
noncomputable def law16_VaryUnique_L4 : List Int → Nat → (List (Int × Bool)) → Option (Fl (Bool) ((List (Int × Bool))))
  | [], _, y4_0 => some (Fl.go y4_0)
  | e4 :: xs4, i4, y4_0 =>
    if ((mget y4_0 e4).getD false) then
    some (Fl.ret false)
    else
    law16_VaryUnique_L4 xs4 (i4 + 1) (mset y4_0 e4 true)
noncomputable def law16_VaryUnique_L6 (t4 : (List (Int × Bool))) : List Int → Nat → Option (Fl (Bool) (Unit))
  | [], _ => some (Fl.go ())
  | e6 :: xs6, i6 =>
    if (!((mget t4 e6).getD false)) then
    some (Fl.ret false)
    else
    law16_VaryUnique_L6 t4 xs6 (i6 + 1)
noncomputable def law16_VaryUnique_L0 (n : Nat) : List S_law16_Step → Nat → S_vary_Set → Option (Fl (Bool) (S_vary_Set))
  | [], _, y0_0 => some (Fl.go y0_0)
  | e0 :: xs0, i0, y0_0 =>
    (law16_long e0.Names).bind fun x37 =>
    (if x37 then some true else (law16_large [e0.FZ]).bind fun x42 =>
    some x42).bind fun x43 =>
    if x43 then
    some (Fl.ret true)
    else
    (law02_Fields e0.FZ).bind fun x46 =>
    (vary_Set_IDs y0_0).bind fun x48 =>
    (chk (InI e0.ID)).bind fun _ =>
    (vary_Set_Put n y0_0 e0.Names x46 e0.ID).bind fun x56 =>
    (vary_Set_IDs x56.2).bind fun x58 =>
    (if decide ((x58.length : Int) = 0) then some true else (ix x58 0).bind fun x64 =>
    (chk (InI e0.ID)).bind fun _ =>
    some (decide (x64 ≠ e0.ID))).bind fun x70 =>
    if (x70 || decide ((x58.length : Int) > 16)) then
    some (Fl.ret false)
    else
    (chk (x58.length ≤ szMax)).bind fun _ =>
    (law16_VaryUnique_L2 x58 0 []).bind fun s2 => s2.el (fun r => some (Fl.ret r)) fun t2 =>
    (chk (x56.1.length ≤ szMax)).bind fun _ =>
    (law16_VaryUnique_L4 x56.1 0 t2).bind fun s4 => s4.el (fun r => some (Fl.ret r)) fun t4 =>
    (chk (x48.length ≤ szMax)).bind fun _ =>
    (law16_VaryUnique_L6 t4 x48 0).bind fun s6 => s6.el (fun r => some (Fl.ret r)) fun t6 =>
    (vary_Set_Find x56.2 x46).bind fun x114 =>
    (if decide ((x114.length : Int) = 0) then some true else (ix x114 0).bind fun x120 =>
    (chk (InI e0.ID)).bind fun _ =>
    some (decide (x120 ≠ e0.ID))).bind fun x126 =>
    if x126 then
    some (Fl.ret false)
    else
    law16_VaryUnique_L0 n xs0 (i0 + 1) x56.2
noncomputable def law16_VaryUnique (n : Nat) (script : (List S_law16_Step)) : Option (Bool) :=
  (if decide ((script.length : Int) > 60) then some true else (law16_awake n).bind fun x22 =>
  some (!x22)).bind fun x24 =>
  if x24 then
  some (decide ((script.length : Int) > 60))
  else
  (vary_New).bind fun x28 =>
  (chk (script.length ≤ szMax)).bind fun _ =>
  (law16_VaryUnique_L0 n script 0 x28).bind fun s0 => s0.el some fun t0 =>
  some true
set_option maxHeartbeats 8000000 in
theorem law16_VaryUnique_ok {n : Nat} {script : (List S_law16_Step)} {ap0_0 : Option Addr} {cp0_0 : Nat} {n0 : Nat} {K : Hp} {r : Bool}
    (hm : law16_VaryUnique n script = some r) (hp0_0 : LiC S_law16_Step.R K ap0_0 cp0_0 4 script) (en0 : n0 = script.length) :
    Fn Try.prog 6 [.slice ap0_0 n0 cp0_0] K [] (fun v K' H' => v = .bool r ∧ H' = []) := by
  subst en0
  refine Fn.enter Try.func6 Try.call6 rfl fun F => ?_
  unfold law16_VaryUnique at hm
  conv => whnf
  refine RStep.of (len_slice rfl ?_)
  obtain ⟨x24, e24, hm⟩ := bnd hm
  conv => whnf
  refine cond_s (fun g21_1 => ?_) (fun g21_1 => ?_)
  · replace e24 := ift g21_1 e24
    conv => whnf
    refine cond_t g21_1 ?_
    conv => whnf
    refine cond_t g21_1 ?_
    conv => whnf
    refine cond_go rfl ?_
    conv => whnf
    refine cond_T ?_
    replace hm := ift (si e24).symm hm
    conv => whnf
    refine RStep.of (len_slice rfl ?_)
    obtain rfl := si hm
    conv => whnf
    refine EndStep.mk _ (Hp.Le.refl _) ⟨rfl, rfl⟩ (ConvH.of (.cons r0 .nil))
  · replace e24 := iff_ g21_1 e24
    obtain ⟨x22, q22, e24⟩ := bnd e24
    conv => whnf
    refine call_fn (law16_awake_ok q22) .nil ?_
    rintro _ K22 _ l22 ⟨rfl, rfl⟩
    conv => whnf
    refine cond_f g21_1 ?_
    conv => whnf
    refine un_not ?_
    conv => whnf
    refine cond_f g21_1 ?_
    conv => whnf
    refine cond_go rfl ?_
    conv => whnf
    refine cond_s (fun w24 => ?_) (fun w24 => ?_)
    · replace hm := ift ((si e24).symm.trans (not_t (ni_t w24))) hm
      conv => whnf
      refine RStep.of (len_slice rfl ?_)
      obtain rfl := si hm
      conv => whnf
      refine EndStep.mk _ l22 ⟨rfl, rfl⟩ (ConvH.of (.cons r0 .nil))
    · replace hm := iff_ ((si e24).symm.trans (not_f (ni_f w24))) hm
      obtain ⟨x28, q28, hm⟩ := bnd hm
      conv => whnf
      refine call_fn (vary_New_ok q28) .nil ?_
      rintro _ K28 _ l28 ⟨b28_0, a28_1, c28_1, s28_1, rfl, h28_1, r28_1, rfl⟩
      conv => whnf
      refine RStep.of (len_slice rfl ?_)
      obtain ⟨hk0, hm⟩ := chkb hm
      obtain ⟨s0, hl0, hm⟩ := bnd hm
      conv => whnf
      refine code_cut (σ := (S_vary_Set) × Option Addr × Nat × List (List Value)) [2, 5, 6, 7, 8, 9, 10, 12, 14, 16, 17, 31, 32, 33, 34, 35, 36, 37, 38, 39, 40, 41, 42, 43, 44, 45, 46, 47, 48, 49, 50, 51, 52, 53, 54, 55, 56, 57, 58, 59, 60, 61, 62, 63, 64, 65, 66, 67, 68, 69, 70, 71, 72, 73, 74, 75, 76, 77, 78, 79, 80, 81, 82, 83, 84, 85, 86, 87, 88, 89, 90, 91, 92, 93, 94, 95, 96, 97, 98, 99, 100, 101, 102, 103, 104, 105, 106, 107, 108, 109, 110, 111, 112, 113, 114, 115, 116, 117, 118, 119, 120, 121, 122, 123, 124, 125, 126, 127] (fun (t0, at0_0_0, ct0_0_0, st0_0_0) => []) (fun (t0, at0_0_0, ct0_0_0, st0_0_0) => [Cells b28_0 75 [.slice at0_0_0 t0.list.length ct0_0_0], OwnA at0_0_0 78 3 ct0_0_0 st0_0_0, F]) (fun zz K1 => match zz with | (t0, at0_0_0, ct0_0_0, st0_0_0) => (0 < t0.list.length → Has at0_0_0) ∧ LR S_vary_variant.R K1 st0_0_0 t0.list ∧ s0 = Fl.go t0) ?_ ?_
      · refine block_go rfl ?_
        conv => whnf
        refine loop_rule (σ := Nat × S_vary_Set × Option Addr × Nat × List (List Value)) [2, 5, 6, 7, 8, 9, 10, 12, 14, 16, 17, 31, 32, 33, 34, 35, 36, 37, 38, 39, 40, 41, 42, 43, 44, 45, 46, 47, 48, 49, 50, 51, 52, 53, 54, 55, 56, 57, 58, 59, 60, 61, 62, 63, 64, 65, 66, 67, 68, 69, 70, 71, 72, 73, 74, 75, 76, 77, 78, 79, 80, 81, 82, 83, 84, 85, 86, 87, 88, 89, 90, 91, 92, 93, 94, 95, 96, 97, 98, 99, 100, 101, 102, 103, 104, 105, 106, 107, 108, 109, 110, 111, 112, 113, 114, 115, 116, 117, 118, 119, 120, 121, 122, 123, 124, 125, 126, 127] (fun (i0, y0_0, ay0_0_0, cy0_0_0, sy0_0_0) => [(31, .int .i64 (i0 : Int))]) (fun (i0, y0_0, ay0_0_0, cy0_0_0, sy0_0_0) => [Cells b28_0 75 [.slice ay0_0_0 y0_0.list.length cy0_0_0], OwnA ay0_0_0 78 3 cy0_0_0 sy0_0_0, F]) (fun zz K1 => match zz with | (i0, y0_0, ay0_0_0, cy0_0_0, sy0_0_0) => (0 < y0_0.list.length → Has ay0_0_0) ∧ LR S_vary_variant.R K1 sy0_0_0 y0_0.list ∧ law16_VaryUnique_L0 n (script.drop i0) i0 y0_0 = some s0) (fun zz => script.length - zz.1) (0, x28, a28_1, c28_1, s28_1) rfl ⟨rfl, trivial⟩ (ConvH.of (.cons r0 (.cons r0 (.cons r0 .nil)))) ⟨h28_1, r28_1, hl0⟩ ?_
        clear hl0
        rintro ⟨i0, y0_0, ay0_0_0, cy0_0_0, sy0_0_0⟩ Kb0 lk0 ⟨hy0_0_0, ry0_0_0, hl0⟩ j0
        conv => whnf
        refine cond_go rfl ?_
        conv => whnf
        refine cond_s (fun w0 => ?_) (fun w0 => ?_)
        · obtain ⟨e0, hx0, hd0⟩ := ltx w0
          rw [hd0, law16_VaryUnique_L0.eq_2] at hl0
          conv => whnf
          refine block_go rfl ?_
          conv => whnf
          refine RStep.ofN (index_addr rfl rfl (hasR (LiC.mono S_law16_Step.R_ok ((l22.trans l28).trans lk0) hp0_0).rd hx0) (nn _) (lt_ofN hx0) ?_)
          obtain ⟨ss34, cc34, hr34, hc34, hR34⟩ := LiR.get (LiC.mono S_law16_Step.R_ok ((l22.trans l28).trans lk0) hp0_0).rd hx0
          obtain ⟨a34_0, c34_0, a34_1, c34_1, rfl, h34_0, h34_1⟩ := hR34
          conv => whnf
          refine RStep.of (load_rd_agg i0 _ hr34 rfl hc34 rfl ?_)
          conv => whnf
          refine alloc_rule rfl ?_
          intro b5
          conv => whnf
          refine store_rule r0 rfl ?_
          conv => whnf
          refine ⟨rfl, rfl, (Nat.le_of_ble_eq_true rfl), ?_⟩
          conv => whnf
          refine field_addr rfl ?_
          conv => whnf
          refine RStep.of (load1_s r0 rfl rfl ?_)
          obtain ⟨x37, q37, hl0⟩ := bnd hl0
          conv => whnf
          refine call_fn (law16_long_ok q37 h34_0 rfl) .nil ?_
          rintro _ K37 _ l37 ⟨rfl, rfl⟩
          obtain ⟨x43, e43, hl0⟩ := bnd hl0
          conv => whnf
          refine cond_s (fun g38_7 => ?_) (fun g38_7 => ?_)
          · replace e43 := ift g38_7 e43
            conv => whnf
            refine cond_t g38_7 ?_
            conv => whnf
            refine cond_t g38_7 ?_
            conv => whnf
            refine cond_t g38_7 ?_
            conv => whnf
            refine cond_t g38_7 ?_
            conv => whnf
            refine cond_go rfl ?_
            conv => whnf
            refine cond_T ?_
            replace hl0 := ift (si e43).symm hl0
            obtain rfl := si hl0
            replace hm := elr hm
            obtain rfl := si hm
            conv => whnf
            refine EndStep.mk _ (((l22.trans l28).trans lk0).trans l37) ⟨rfl, rfl⟩ (ConvH.of (.cons r3 .nil))
          · replace e43 := iff_ g38_7 e43
            conv => whnf
            refine field_addr rfl ?_
            conv => whnf
            refine cond_f g38_7 ?_
            conv => whnf
            refine RStep.of (load1_s r0 rfl rfl ?_)
            conv => whnf
            refine cond_f g38_7 ?_
            conv => whnf
            refine bsOR (len := 1) (l := [e0.FZ]) (css := [[.slice a34_1 e0.FZ.length c34_1]]) (cl := [.slice a34_1 e0.FZ.length c34_1]) sliL_ok elT64 rfl rfl (LR.snoc LR.nil ⟨a34_1, c34_1, rfl, (h34_1.mono l37)⟩) rfl rfl rfl ?_ fun b41 => ?_
            · conv => whnf
              refine cond_T ?_
              conv => whnf
              first | done | rfl
            conv => whnf
            refine cond_f g38_7 ?_
            obtain ⟨x42, q42, e43⟩ := bnd e43
            conv => whnf
            refine call_fn (Fn.lendR sliL_ok (show LR (sliL S_ref02_Field.enc 2) _ [[.slice a34_1 e0.FZ.length c34_1]] [e0.FZ] from (LR.snoc LR.nil ⟨a34_1, c34_1, rfl, (h34_1.mono l37)⟩)) Try.call10 (fun K42_0 l42_0 f42_0 => (law16_large_ok q42 f42_0 rfl)) (by exact fun _ _ _ _ h => h)) (.cons r0 .nil) ?_
            rintro _ K42 _ l42 ⟨_, rfl, rfl, rfl⟩
            conv => whnf
            refine cond_f g38_7 ?_
            conv => whnf
            refine cond_go rfl ?_
            conv => whnf
            refine cond_s (fun w43 => ?_) (fun w43 => ?_)
            · replace hl0 := ift ((si e43).symm.trans w43) hl0
              obtain rfl := si hl0
              replace hm := elr hm
              obtain rfl := si hm
              conv => whnf
              refine EndStep.mk _ ((((l22.trans l28).trans lk0).trans l37).trans l42) ⟨rfl, rfl⟩ (ConvH.of (.cons r4 .nil))
            · replace hl0 := iff_ ((si e43).symm.trans w43) hl0
              conv => whnf
              refine field_addr rfl ?_
              conv => whnf
              refine RStep.of (load1_s r1 rfl rfl ?_)
              obtain ⟨x46, q46, hl0⟩ := bnd hl0
              conv => whnf
              refine call_fn (law02_Fields_ok q46 (h34_1.mono (l37.trans l42)) rfl) .nil ?_
              rintro _ K46 _ l46 ⟨a46_0, c46_0, rfl, h46_0, rfl⟩
              obtain ⟨x48, q48, hl0⟩ := bnd hl0
              conv => whnf
              refine call_fn (vary_Set_IDs_ok q48 hy0_0_0 (LR.mono S_vary_variant.R_ok ((l37.trans l42).trans l46) ry0_0_0)) (.cons r3 (.cons r3 .nil)) ?_
              rintro _ K48 _ l48 ⟨a48_0, c48_0, rfl, h48_0, rfl⟩
              conv => whnf
              refine field_addr rfl ?_
              conv => whnf
              refine RStep.of (load1_s r5 rfl rfl ?_)
              conv => whnf
              refine field_addr rfl ?_
              conv => whnf
              refine RStep.of (load1_s r5 rfl rfl ?_)
              obtain ⟨h55, hl0⟩ := chkb hl0
              conv => whnf
              refine conv_int rfl rfl h55 ?_
              obtain ⟨x56, q56, hl0⟩ := bnd hl0
              conv => whnf
              refine fF Try.call16 r3 fun K56_2 l56_2 f56_2 => ?_
              refine call_fn (vary_Set_Put_ok q56 hy0_0_0 (LR.mono S_vary_variant.R_ok ((((l37.trans l42).trans l46).trans l48).trans l56_2) ry0_0_0) (h34_0.mono ((((l37.trans l42).trans l46).trans l48).trans l56_2)) rfl f56_2 rfl) (.cons r1 (.cons r1 .nil)) ?_
              rintro _ K56 _ l56 ⟨a56_0, c56_0, a56_1, c56_1, s56_1, rfl, h56_0, h56_1, r56_1, rfl⟩
              obtain ⟨x58, q58, hl0⟩ := bnd hl0
              conv => whnf
              refine call_fn (vary_Set_IDs_ok q58 h56_1 r56_1) (.cons r1 (.cons r1 .nil)) ?_
              rintro _ K58 _ l58 ⟨a58_0, c58_0, rfl, h58_0, rfl⟩
              conv => whnf
              refine draw_go ⟨⟨[], true⟩, _, []⟩ (by kernel_rfl) ⟨Hp.Le.refl _, (ConvH.of .nil)⟩ ?_
              conv => whnf
              refine len_sliceN rfl ?_
              conv => whnf
              refine eq_int ?_
              obtain ⟨x70, e70, hl0⟩ := bnd hl0
              conv => whnf
              refine cond_s (fun g62_13 => ?_) (fun g62_13 => ?_)
              · replace e70 := ift g62_13 e70
                conv => whnf
                refine cond_t g62_13 ?_
                conv => whnf
                refine cond_t g62_13 ?_
                conv => whnf
                refine cond_t g62_13 ?_
                conv => whnf
                refine cond_t g62_13 ?_
                conv => whnf
                refine cond_t g62_13 ?_
                conv => whnf
                refine cond_t g62_13 ?_
                conv => whnf
                refine cond_t g62_13 ?_
                conv => whnf
                refine cond_T ?_
                conv => whnf
                refine cond_T ?_
                conv => whnf
                refine cond_T ?_
                conv => whnf
                refine cond_T ?_
                conv => whnf
                refine cond_go rfl ?_
                conv => whnf
                refine cond_T ?_
                replace hl0 := ift (or_t (si e70).symm) hl0
                obtain rfl := si hl0
                replace hm := elr hm
                obtain rfl := si hm
                conv => whnf
                refine EndStep.mk _ (((((((((l22.trans l28).trans lk0).trans l37).trans l42).trans l46).trans l48).trans l56_2).trans l56).trans l58) ⟨rfl, rfl⟩ (ConvH.of (.cons r7 .nil))
              · replace e70 := iff_ g62_13 e70
                conv => whnf
                refine cond_f g62_13 ?_
                obtain ⟨x64, l64, k64, e70⟩ := ixb e70
                conv => whnf
                refine index_addr rfl rfl (hasO h58_0 k64) l64 (lt_ofE rfl l64 k64) ?_
                conv => whnf
                refine cond_f g62_13 ?_
                conv => whnf
                refine ld_own (i := (0 : Int).toNat) (o := 0) r0 rfl k64 rfl rfl ?_
                conv => whnf
                refine cond_f g62_13 ?_
                conv => whnf
                refine field_addr rfl ?_
                conv => whnf
                refine cond_f g62_13 ?_
                conv => whnf
                refine load1_s r6 rfl rfl ?_
                conv => whnf
                refine cond_f g62_13 ?_
                obtain ⟨h68, e70⟩ := chkb e70
                conv => whnf
                refine conv_int rfl rfl h68 ?_
                conv => whnf
                refine cond_f g62_13 ?_
                conv => whnf
                refine neq_int ?_
                conv => whnf
                refine cond_f g62_13 ?_
                conv => whnf
                refine cond_s (fun g71_13 => ?_) (fun g71_13 => ?_)
                · conv => whnf
                  refine cond_t g71_13 ?_
                  conv => whnf
                  refine cond_t g71_13 ?_
                  conv => whnf
                  refine cond_t g71_13 ?_
                  conv => whnf
                  refine cond_go rfl ?_
                  conv => whnf
                  refine cond_T ?_
                  replace hl0 := ift (or_t ((si e70).symm.trans g71_13)) hl0
                  obtain rfl := si hl0
                  replace hm := elr hm
                  obtain rfl := si hm
                  conv => whnf
                  refine EndStep.mk _ (((((((((l22.trans l28).trans lk0).trans l37).trans l42).trans l46).trans l48).trans l56_2).trans l56).trans l58) ⟨rfl, rfl⟩ (ConvH.of (.cons r7 .nil))
                · conv => whnf
                  refine cond_f g71_13 ?_
                  conv => whnf
                  refine len_sliceN rfl ?_
                  conv => whnf
                  refine cond_f g71_13 ?_
                  conv => whnf
                  refine cond_f g71_13 ?_
                  conv => whnf
                  refine cond_go rfl ?_
                  conv => whnf
                  refine cond_s (fun w75 => ?_) (fun w75 => ?_)
                  · replace hl0 := ift (or_u ((si e70).symm.trans g71_13) w75) hl0
                    obtain rfl := si hl0
                    replace hm := elr hm
                    obtain rfl := si hm
                    conv => whnf
                    refine EndStep.mk _ (((((((((l22.trans l28).trans lk0).trans l37).trans l42).trans l46).trans l48).trans l56_2).trans l56).trans l58) ⟨rfl, rfl⟩ (ConvH.of (.cons r7 .nil))
                  · replace hl0 := iff_ (or_f ((si e70).symm.trans g71_13) w75) hl0
                    conv => whnf
                    refine makeMap_rule intK (fun x => .bool x) fun b76 => ?_
                    conv => whnf
                    refine RStep.of (len_slice rfl ?_)
                    obtain ⟨hk2, hl0⟩ := chkb hl0
                    obtain ⟨s2, hl2, hl0⟩ := bnd hl0
                    conv => whnf
                    refine code_cut (σ := ((List (Int × Bool)))) [2, 12, 79, 80, 81, 82, 83, 84, 85, 86, 87, 88] (fun t2 => []) (fun t2 => [MapE intK (fun x => .bool x) b76 t2, OwnL eN a58_0 3 1 c58_0 x58, Cells b28_0 75 [.slice a56_1 x56.2.list.length c56_1], OwnA a56_1 78 3 c56_1 s56_1, OwnL eN a56_0 3 1 c56_0 x56.1, OwnL eN a48_0 3 1 c48_0 x48, OwnA (some ⟨b41, 0, none⟩) 23 1 1 ([[.slice a34_1 e0.FZ.length c34_1]]), Cells b5 51 [.int .u8 (e0.What.toNat : Int), .slice a34_0 e0.Names.length c34_0, .slice a34_1 e0.FZ.length c34_1, .int .i8 e0.ID], F]) (fun zz K1 => match zz with | t2 => s2 = Fl.go t2) ?_ ?_
                    · refine block_go rfl ?_
                      conv => whnf
                      refine loop_rule (σ := Nat × (List (Int × Bool))) [2, 12, 79, 80, 81, 82, 83, 84, 85, 86, 87, 88] (fun (i2, y2_0) => [(79, .int .i64 (i2 : Int))]) (fun (i2, y2_0) => [MapE intK (fun x => .bool x) b76 y2_0, OwnL eN a58_0 3 1 c58_0 x58, Cells b28_0 75 [.slice a56_1 x56.2.list.length c56_1], OwnA a56_1 78 3 c56_1 s56_1, OwnL eN a56_0 3 1 c56_0 x56.1, OwnL eN a48_0 3 1 c48_0 x48, OwnA (some ⟨b41, 0, none⟩) 23 1 1 ([[.slice a34_1 e0.FZ.length c34_1]]), Cells b5 51 [.int .u8 (e0.What.toNat : Int), .slice a34_0 e0.Names.length c34_0, .slice a34_1 e0.FZ.length c34_1, .int .i8 e0.ID], F]) (fun zz K1 => match zz with | (i2, y2_0) => law16_VaryUnique_L2 (x58.drop i2) i2 y2_0 = some s2) (fun zz => x58.length - zz.1) (0, []) rfl ⟨rfl, trivial⟩ (ConvH.of (.cons r0 (.cons r0 (.cons r0 (.cons r0 (.cons r0 (.cons r0 (.cons r0 (.cons r0 (.cons r0 .nil)))))))))) hl2 ?_
                      clear hl2
                      rintro ⟨i2, y2_0⟩ Kb2 lk2 hl2 j2
                      conv at hl2 => whnf
                      conv => whnf
                      refine cond_go rfl ?_
                      conv => whnf
                      refine cond_s (fun w2 => ?_) (fun w2 => ?_)
                      · obtain ⟨e2, hx2, hd2⟩ := ltx w2
                        rw [hd2, law16_VaryUnique_L2.eq_2] at hl2
                        conv => whnf
                        refine block_go rfl ?_
                        conv => whnf
                        refine RStep.ofN (index_addr rfl rfl (hasO h58_0 hx2) (nn _) (lt_ofNE rfl hx2) ?_)
                        conv => whnf
                        refine RStep.of (ld_own (i := i2) (o := 0) r1 rfl hx2 rfl rfl ?_)
                        conv => whnf
                        refine RStep.of (lookup_rule (kenc := intK) (venc := (fun x => .bool x)) (z := false) r0 rfl rfl (key_int rfl) ?_)
                        conv => whnf
                        refine cond_go rfl ?_
                        conv => whnf
                        refine cond_s (fun w85 => ?_) (fun w85 => ?_)
                        · replace hl2 := ift w85 hl2
                          obtain rfl := si hl2
                          replace hl0 := elr hl0
                          obtain rfl := si hl0
                          replace hm := elr hm
                          obtain rfl := si hm
                          conv => whnf
                          refine EndStep.mk _ ((((((((((l22.trans l28).trans lk0).trans l37).trans l42).trans l46).trans l48).trans l56_2).trans l56).trans l58).trans lk2) ⟨rfl, rfl⟩ (ConvH.of (.cons r8 .nil))
                        · replace hl2 := iff_ w85 hl2
                          conv => whnf
                          refine update_rule (kenc := intK) (venc := (fun x => .bool x)) true rfl r0 rfl (key_int rfl) ?_
                          conv => whnf
                          refine int_in (cntz hx2 hk2) ?_
                          conv => whnf
                          refine RoundStep.mk (i2 + 1, (mset y2_0 e2 true)) ⟨rfl, trivial⟩ (by repeat (first | exact trivial | refine And.intro rfl ?_)) (ConvH.of (.cons r0 (.cons r0 (.cons r0 (.cons r0 (.cons r0 (.cons r0 (.cons r0 (.cons r0 (.cons r0 .nil)))))))))) lk2 (ltm hx2) hl2
                      · rw [lty w2, law16_VaryUnique_L2.eq_1] at hl2
                        conv => whnf
                        refine cond_T ?_
                        conv => whnf
                        refine MeetStep.mk (y2_0) trivial (by repeat (first | exact trivial | refine And.intro rfl ?_)) (ConvH.of (.cons r0 (.cons r0 (.cons r0 (.cons r0 (.cons r0 (.cons r0 (.cons r0 (.cons r0 (.cons r0 .nil)))))))))) lk2 (si hl2).symm
                    · rintro t2 Kt2 lt2 rfl j2
                      replace hl0 := elg hl0
                      conv => whnf
                      refine RStep.of (len_slice rfl ?_)
                      obtain ⟨hk4, hl0⟩ := chkb hl0
                      obtain ⟨s4, hl4, hl0⟩ := bnd hl0
                      conv => whnf
                      refine code_cut (σ := ((List (Int × Bool)))) [2, 14, 91, 92, 93, 94, 95, 96, 97, 98, 99, 100] (fun t4 => []) (fun t4 => [MapE intK (fun x => .bool x) b76 t4, OwnL eN a58_0 3 1 c58_0 x58, Cells b28_0 75 [.slice a56_1 x56.2.list.length c56_1], OwnA a56_1 78 3 c56_1 s56_1, OwnL eN a56_0 3 1 c56_0 x56.1, OwnL eN a48_0 3 1 c48_0 x48, OwnA (some ⟨b41, 0, none⟩) 23 1 1 ([[.slice a34_1 e0.FZ.length c34_1]]), Cells b5 51 [.int .u8 (e0.What.toNat : Int), .slice a34_0 e0.Names.length c34_0, .slice a34_1 e0.FZ.length c34_1, .int .i8 e0.ID], F]) (fun zz K1 => match zz with | t4 => s4 = Fl.go t4) ?_ ?_
                      · refine block_go rfl ?_
                        conv => whnf
                        refine loop_rule (σ := Nat × (List (Int × Bool))) [2, 14, 91, 92, 93, 94, 95, 96, 97, 98, 99, 100] (fun (i4, y4_0) => [(91, .int .i64 (i4 : Int))]) (fun (i4, y4_0) => [MapE intK (fun x => .bool x) b76 y4_0, OwnL eN a58_0 3 1 c58_0 x58, Cells b28_0 75 [.slice a56_1 x56.2.list.length c56_1], OwnA a56_1 78 3 c56_1 s56_1, OwnL eN a56_0 3 1 c56_0 x56.1, OwnL eN a48_0 3 1 c48_0 x48, OwnA (some ⟨b41, 0, none⟩) 23 1 1 ([[.slice a34_1 e0.FZ.length c34_1]]), Cells b5 51 [.int .u8 (e0.What.toNat : Int), .slice a34_0 e0.Names.length c34_0, .slice a34_1 e0.FZ.length c34_1, .int .i8 e0.ID], F]) (fun zz K1 => match zz with | (i4, y4_0) => law16_VaryUnique_L4 (x56.1.drop i4) i4 y4_0 = some s4) (fun zz => x56.1.length - zz.1) (0, t2) rfl ⟨rfl, trivial⟩ (ConvH.of (.cons r0 (.cons r0 (.cons r0 (.cons r0 (.cons r0 (.cons r0 (.cons r0 (.cons r0 (.cons r0 .nil)))))))))) hl4 ?_
                        clear hl4
                        rintro ⟨i4, y4_0⟩ Kb4 lk4 hl4 j4
                        conv at hl4 => whnf
                        conv => whnf
                        refine cond_go rfl ?_
                        conv => whnf
                        refine cond_s (fun w4 => ?_) (fun w4 => ?_)
                        · obtain ⟨e4, hx4, hd4⟩ := ltx w4
                          rw [hd4, law16_VaryUnique_L4.eq_2] at hl4
                          conv => whnf
                          refine block_go rfl ?_
                          conv => whnf
                          refine RStep.ofN (index_addr rfl rfl (hasO h56_0 hx4) (nn _) (lt_ofNE rfl hx4) ?_)
                          conv => whnf
                          refine RStep.of (ld_own (i := i4) (o := 0) r4 rfl hx4 rfl rfl ?_)
                          conv => whnf
                          refine RStep.of (lookup_rule (kenc := intK) (venc := (fun x => .bool x)) (z := false) r0 rfl rfl (key_int rfl) ?_)
                          conv => whnf
                          refine cond_go rfl ?_
                          conv => whnf
                          refine cond_s (fun w97 => ?_) (fun w97 => ?_)
                          · replace hl4 := ift w97 hl4
                            obtain rfl := si hl4
                            replace hl0 := elr hl0
                            obtain rfl := si hl0
                            replace hm := elr hm
                            obtain rfl := si hm
                            conv => whnf
                            refine EndStep.mk _ (((((((((((l22.trans l28).trans lk0).trans l37).trans l42).trans l46).trans l48).trans l56_2).trans l56).trans l58).trans lt2).trans lk4) ⟨rfl, rfl⟩ (ConvH.of (.cons r8 .nil))
                          · replace hl4 := iff_ w97 hl4
                            conv => whnf
                            refine update_rule (kenc := intK) (venc := (fun x => .bool x)) true rfl r0 rfl (key_int rfl) ?_
                            conv => whnf
                            refine int_in (cntz hx4 hk4) ?_
                            conv => whnf
                            refine RoundStep.mk (i4 + 1, (mset y4_0 e4 true)) ⟨rfl, trivial⟩ (by repeat (first | exact trivial | refine And.intro rfl ?_)) (ConvH.of (.cons r0 (.cons r0 (.cons r0 (.cons r0 (.cons r0 (.cons r0 (.cons r0 (.cons r0 (.cons r0 .nil)))))))))) lk4 (ltm hx4) hl4
                        · rw [lty w4, law16_VaryUnique_L4.eq_1] at hl4
                          conv => whnf
                          refine cond_T ?_
                          conv => whnf
                          refine MeetStep.mk (y4_0) trivial (by repeat (first | exact trivial | refine And.intro rfl ?_)) (ConvH.of (.cons r0 (.cons r0 (.cons r0 (.cons r0 (.cons r0 (.cons r0 (.cons r0 (.cons r0 (.cons r0 .nil)))))))))) lk4 (si hl4).symm
                      · rintro t4 Kt4 lt4 rfl j4
                        replace hl0 := elg hl0
                        conv => whnf
                        refine RStep.of (len_slice rfl ?_)
                        obtain ⟨hk6, hl0⟩ := chkb hl0
                        obtain ⟨s6, hl6, hl0⟩ := bnd hl0
                        conv => whnf
                        refine code_cut (σ := (Unit)) [2, 16, 103, 104, 105, 106, 107, 108, 109, 110, 111] (fun t6 => []) (fun t6 => [MapE intK (fun x => .bool x) b76 t4, OwnL eN a58_0 3 1 c58_0 x58, Cells b28_0 75 [.slice a56_1 x56.2.list.length c56_1], OwnA a56_1 78 3 c56_1 s56_1, OwnL eN a56_0 3 1 c56_0 x56.1, OwnL eN a48_0 3 1 c48_0 x48, OwnA (some ⟨b41, 0, none⟩) 23 1 1 ([[.slice a34_1 e0.FZ.length c34_1]]), Cells b5 51 [.int .u8 (e0.What.toNat : Int), .slice a34_0 e0.Names.length c34_0, .slice a34_1 e0.FZ.length c34_1, .int .i8 e0.ID], F]) (fun zz K1 => match zz with | t6 => s6 = Fl.go t6) ?_ ?_
                        · refine block_go rfl ?_
                          conv => whnf
                          refine loop_rule (σ := Nat) [2, 16, 103, 104, 105, 106, 107, 108, 109, 110, 111] (fun i6 => [(103, .int .i64 (i6 : Int))]) (fun i6 => [MapE intK (fun x => .bool x) b76 t4, OwnL eN a58_0 3 1 c58_0 x58, Cells b28_0 75 [.slice a56_1 x56.2.list.length c56_1], OwnA a56_1 78 3 c56_1 s56_1, OwnL eN a56_0 3 1 c56_0 x56.1, OwnL eN a48_0 3 1 c48_0 x48, OwnA (some ⟨b41, 0, none⟩) 23 1 1 ([[.slice a34_1 e0.FZ.length c34_1]]), Cells b5 51 [.int .u8 (e0.What.toNat : Int), .slice a34_0 e0.Names.length c34_0, .slice a34_1 e0.FZ.length c34_1, .int .i8 e0.ID], F]) (fun zz K1 => match zz with | i6 => law16_VaryUnique_L6 t4 (x48.drop i6) i6 = some s6) (fun zz => x48.length - zz) (0) rfl ⟨rfl, trivial⟩ (ConvH.of (.cons r0 (.cons r0 (.cons r0 (.cons r0 (.cons r0 (.cons r0 (.cons r0 (.cons r0 (.cons r0 .nil)))))))))) hl6 ?_
                          clear hl6
                          rintro i6 Kb6 lk6 hl6 j6
                          conv at hl6 => whnf
                          conv => whnf
                          refine cond_go rfl ?_
                          conv => whnf
                          refine cond_s (fun w6 => ?_) (fun w6 => ?_)
                          · obtain ⟨e6, hx6, hd6⟩ := ltx w6
                            rw [hd6, law16_VaryUnique_L6.eq_2] at hl6
                            conv => whnf
                            refine block_go rfl ?_
                            conv => whnf
                            refine RStep.ofN (index_addr rfl rfl (hasO h48_0 hx6) (nn _) (lt_ofNE rfl hx6) ?_)
                            conv => whnf
                            refine RStep.of (ld_own (i := i6) (o := 0) r5 rfl hx6 rfl rfl ?_)
                            conv => whnf
                            refine RStep.of (lookup_rule (kenc := intK) (venc := (fun x => .bool x)) (z := false) r0 rfl rfl (key_int rfl) ?_)
                            conv => whnf
                            refine un_not ?_
                            conv => whnf
                            refine cond_go rfl ?_
                            conv => whnf
                            refine cond_s (fun w110 => ?_) (fun w110 => ?_)
                            · replace hl6 := ift (not_t (ni_t w110)) hl6
                              obtain rfl := si hl6
                              replace hl0 := elr hl0
                              obtain rfl := si hl0
                              replace hm := elr hm
                              obtain rfl := si hm
                              conv => whnf
                              refine EndStep.mk _ ((((((((((((l22.trans l28).trans lk0).trans l37).trans l42).trans l46).trans l48).trans l56_2).trans l56).trans l58).trans lt2).trans lt4).trans lk6) ⟨rfl, rfl⟩ (ConvH.of (.cons r8 .nil))
                            · replace hl6 := iff_ (not_f (ni_f w110)) hl6
                              conv => whnf
                              refine int_in (cntz hx6 hk6) ?_
                              conv => whnf
                              refine RoundStep.mk (i6 + 1) ⟨rfl, trivial⟩ (by repeat (first | exact trivial | refine And.intro rfl ?_)) (ConvH.of (.cons r0 (.cons r0 (.cons r0 (.cons r0 (.cons r0 (.cons r0 (.cons r0 (.cons r0 (.cons r0 .nil)))))))))) lk6 (ltm hx6) hl6
                          · rw [lty w6, law16_VaryUnique_L6.eq_1] at hl6
                            conv => whnf
                            refine cond_T ?_
                            conv => whnf
                            refine MeetStep.mk (()) trivial (by repeat (first | exact trivial | refine And.intro rfl ?_)) (ConvH.of (.cons r0 (.cons r0 (.cons r0 (.cons r0 (.cons r0 (.cons r0 (.cons r0 (.cons r0 (.cons r0 .nil)))))))))) lk6 (si hl6).symm
                        · rintro t6 Kt6 lt6 rfl j6
                          replace hl0 := elg hl0
                          obtain ⟨x114, q114, hl0⟩ := bnd hl0
                          conv => whnf
                          refine call_fn (vary_Set_Find_ok q114 h56_1 (LR.mono S_vary_variant.R_ok (((l58.trans lt2).trans lt4).trans lt6) r56_1) (f56_2.mono ((((l56.trans l58).trans lt2).trans lt4).trans lt6)) rfl) (.cons r2 (.cons r2 .nil)) ?_
                          rintro _ K114 _ l114 ⟨a114_0, c114_0, rfl, h114_0, rfl⟩
                          conv => whnf
                          refine draw_go ⟨⟨[], true⟩, _, []⟩ (by kernel_rfl) ⟨Hp.Le.refl _, (ConvH.of .nil)⟩ ?_
                          conv => whnf
                          refine len_sliceN rfl ?_
                          conv => whnf
                          refine eq_int ?_
                          obtain ⟨x126, e126, hl0⟩ := bnd hl0
                          conv => whnf
                          refine cond_s (fun g118_37 => ?_) (fun g118_37 => ?_)
                          · replace e126 := ift g118_37 e126
                            conv => whnf
                            refine cond_t g118_37 ?_
                            conv => whnf
                            refine cond_t g118_37 ?_
                            conv => whnf
                            refine cond_t g118_37 ?_
                            conv => whnf
                            refine cond_t g118_37 ?_
                            conv => whnf
                            refine cond_t g118_37 ?_
                            conv => whnf
                            refine cond_t g118_37 ?_
                            conv => whnf
                            refine cond_t g118_37 ?_
                            conv => whnf
                            refine cond_go rfl ?_
                            conv => whnf
                            refine cond_T ?_
                            replace hl0 := ift (si e126).symm hl0
                            obtain rfl := si hl0
                            replace hm := elr hm
                            obtain rfl := si hm
                            conv => whnf
                            refine EndStep.mk _ (((((((((((((l22.trans l28).trans lk0).trans l37).trans l42).trans l46).trans l48).trans l56_2).trans l56).trans l58).trans lt2).trans lt4).trans lt6).trans l114) ⟨rfl, rfl⟩ (ConvH.of (.cons r9 .nil))
                          · replace e126 := iff_ g118_37 e126
                            conv => whnf
                            refine cond_f g118_37 ?_
                            obtain ⟨x120, l120, k120, e126⟩ := ixb e126
                            conv => whnf
                            refine index_addr rfl rfl (hasO h114_0 k120) l120 (lt_ofE rfl l120 k120) ?_
                            conv => whnf
                            refine cond_f g118_37 ?_
                            conv => whnf
                            refine ld_own (i := (0 : Int).toNat) (o := 0) r0 rfl k120 rfl rfl ?_
                            conv => whnf
                            refine cond_f g118_37 ?_
                            conv => whnf
                            refine field_addr rfl ?_
                            conv => whnf
                            refine cond_f g118_37 ?_
                            conv => whnf
                            refine load1_s r8 rfl rfl ?_
                            conv => whnf
                            refine cond_f g118_37 ?_
                            obtain ⟨h124, e126⟩ := chkb e126
                            conv => whnf
                            refine conv_int rfl rfl h124 ?_
                            conv => whnf
                            refine cond_f g118_37 ?_
                            conv => whnf
                            refine neq_int ?_
                            conv => whnf
                            refine cond_f g118_37 ?_
                            conv => whnf
                            refine cond_go rfl ?_
                            conv => whnf
                            refine cond_s (fun w126 => ?_) (fun w126 => ?_)
                            · replace hl0 := ift ((si e126).symm.trans w126) hl0
                              obtain rfl := si hl0
                              replace hm := elr hm
                              obtain rfl := si hm
                              conv => whnf
                              refine EndStep.mk _ (((((((((((((l22.trans l28).trans lk0).trans l37).trans l42).trans l46).trans l48).trans l56_2).trans l56).trans l58).trans lt2).trans lt4).trans lt6).trans l114) ⟨rfl, rfl⟩ (ConvH.of (.cons r9 .nil))
                            · replace hl0 := iff_ ((si e126).symm.trans w126) hl0
                              conv => whnf
                              refine int_in (cntz hx0 hk0) ?_
                              conv => whnf
                              refine RoundStep.mk (i0 + 1, x56.2, a56_1, c56_1, s56_1) ⟨rfl, trivial⟩ (by repeat (first | exact trivial | refine And.intro rfl ?_)) (ConvH.of (.cons r1 (.cons r1 (.cons r7 .nil)))) (((((((((((lk0.trans l37).trans l42).trans l46).trans l48).trans l56_2).trans l56).trans l58).trans lt2).trans lt4).trans lt6).trans l114) (ltm hx0) ⟨h56_1, (LR.mono S_vary_variant.R_ok ((((l58.trans lt2).trans lt4).trans lt6).trans l114) r56_1), hl0⟩
        · rw [lty w0, law16_VaryUnique_L0.eq_1] at hl0
          conv => whnf
          refine cond_T ?_
          conv => whnf
          refine MeetStep.mk (y0_0, ay0_0_0, cy0_0_0, sy0_0_0) trivial (by repeat (first | exact trivial | refine And.intro rfl ?_)) (ConvH.of (.cons r0 (.cons r0 (.cons r0 .nil)))) lk0 ⟨hy0_0_0, ry0_0_0, (si hl0).symm⟩
      · rintro ⟨t0, at0_0_0, ct0_0_0, st0_0_0⟩ Kt0 lt0 ⟨ht0_0_0, rt0_0_0, rfl⟩ j0
        replace hm := elg hm
        obtain rfl := si hm
        conv => whnf
        refine EndStep.mk _ ((l22.trans l28).trans lt0) ⟨rfl, rfl⟩ (ConvH.of (.cons r2 .nil))
