/- Functions of the program: mirrors, and that a call returns what the mirror says. Printed by gen.py. -/
import Derived.Test.YtlpjmfojahofnaaG1
set_option linter.unusedVariables false
set_option linter.unusedSimpArgs false
open Go Go.SL Go.Proofs
set_option maxRecDepth 1000000
noncomputable def law16_VaryNormal_L0 : List S_ref02_Field → Nat → (List S_ref02_Field) → Option ((List S_ref02_Field))
  | [], _, y0_0 => some y0_0
  | e0 :: xs0, i0, y0_0 =>
    (law16_spaced e0.Value).bind fun x42 =>
    (chk (y0_0.length + [(⟨e0.Name, x42⟩ : S_ref02_Field)].length ≤ lim)).bind fun _ =>
    law16_VaryNormal_L0 xs0 (i0 + 1) (y0_0 ++ [(⟨e0.Name, x42⟩ : S_ref02_Field)])
noncomputable def law16_VaryNormal (n : Nat) (names : (List Str)) (f : (List S_ref02_Field)) (atZ : UInt8) : Option (Bool) :=
  (law16_long names).bind fun x14 =>
  (if x14 then some true else (law16_large [f]).bind fun x18 =>
  some x18).bind fun x19 =>
  (if x19 then some true else (law16_awake n).bind fun x21 =>
  some (!x21)).bind fun x23 =>
  if x23 then
  (law16_long names).bind fun x25 =>
  (if x25 then some true else (law16_large [f]).bind fun x29 =>
  some x29).bind fun x30 =>
  some x30
  else
  (chk (f.length ≤ szMax)).bind fun _ =>
  (law16_VaryNormal_L0 f 0 []).bind fun t0 =>
  (law02_Fields f).bind fun x49 =>
  (vary_Key names x49).bind fun x50 =>
  (law02_Fields t0).bind fun x53 =>
  (vary_Key names x53).bind fun x54 =>
  if decide (x54 ≠ x50) then
  some false
  else
  (law02_Fields f).bind fun x60 =>
  (field_Add x60 ([110, 111, 116, 45, 97, 45, 110, 97, 109, 101, 45, 111, 102, 45, 116, 104, 101, 45, 108, 105, 115, 116] : Str) ([49] : Str)).bind fun x61 =>
  (vary_Key names x61).bind fun x62 =>
  (if decide (x62 ≠ x50) then (law16_has names ([110, 111, 116, 45, 97, 45, 110, 97, 109, 101, 45, 111, 102, 45, 116, 104, 101, 45, 108, 105, 115, 116] : Str)).bind fun x67 =>
  some (!x67) else some false).bind fun x69 =>
  if x69 then
  some false
  else
  if decide ((names.length : Int) = 0) then
  some (decide (x50 = ([] : Str)))
  else
  (chk ((names.length : Int) ≠ 0)).bind fun _ =>
  (ix names (Int.tmod (atZ.toNat : Int) (names.length : Int))).bind fun x82 =>
  (law02_Fields f).bind fun x85 =>
  (field_Add x85 x82 ([97, 110, 111, 116, 104, 101, 114, 32, 118, 97, 108, 117, 101] : Str)).bind fun x87 =>
  (vary_Key names x87).bind fun x90 =>
  some (decide (x90 ≠ x50))
set_option maxHeartbeats 8000000 in
theorem law16_VaryNormal_ok {n : Nat} {names : (List Str)} {f : (List S_ref02_Field)} {atZ : UInt8} {ap0_0 : Option Addr} {cp0_0 : Nat} {n0 : Nat} {ap1_0 : Option Addr} {cp1_0 : Nat} {n1 : Nat} {K : Hp} {r : Bool}
    (hm : law16_VaryNormal n names f atZ = some r) (hp0_0 : RdC eS K ap0_0 cp0_0 1 names) (en0 : n0 = names.length) (hp1_0 : RdC S_ref02_Field.enc K ap1_0 cp1_0 2 f) (en1 : n1 = f.length) :
    Fn Try.prog 5 [.slice ap0_0 n0 cp0_0, .slice ap1_0 n1 cp1_0, .int .u8 (atZ.toNat : Int)] K [] (fun v K' H' => v = .bool r ∧ H' = []) := by
  subst en0
  subst en1
  refine Fn.enter Try.func5 Try.call5 rfl fun F => ?_
  unfold law16_VaryNormal at hm
  obtain ⟨x14, q14, hm⟩ := bnd hm
  conv => whnf
  refine call_fn (law16_long_ok q14 hp0_0 rfl) .nil ?_
  rintro _ K14 _ l14 ⟨rfl, rfl⟩
  obtain ⟨x19, e19, hm⟩ := bnd hm
  conv => whnf
  refine cond_s (fun g15_1 => ?_) (fun g15_1 => ?_)
  · replace e19 := ift g15_1 e19
    conv => whnf
    refine cond_t g15_1 ?_
    conv => whnf
    refine cond_t g15_1 ?_
    conv => whnf
    refine cond_t g15_1 ?_
    obtain ⟨x23, e23, hm⟩ := bnd hm
    replace e23 := ift (si e19).symm e23
    conv => whnf
    refine cond_T ?_
    conv => whnf
    refine cond_T ?_
    conv => whnf
    refine cond_T ?_
    conv => whnf
    refine cond_go rfl ?_
    conv => whnf
    refine cond_T ?_
    replace hm := ift (si e23).symm hm
    obtain ⟨x25, q25, hm⟩ := bnd hm
    conv => whnf
    refine call_fn (law16_long_ok q25 (hp0_0.mono l14) rfl) .nil ?_
    rintro _ K25 _ l25 ⟨rfl, rfl⟩
    obtain ⟨x30, e30, hm⟩ := bnd hm
    conv => whnf
    refine cond_s (fun g26_2 => ?_) (fun g26_2 => ?_)
    · replace e30 := ift g26_2 e30
      conv => whnf
      refine cond_t g26_2 ?_
      conv => whnf
      refine cond_t g26_2 ?_
      conv => whnf
      refine cond_t g26_2 ?_
      obtain rfl := si hm
      conv => whnf
      refine EndStep.mk _ (l14.trans l25) ⟨(by rw [← ((si e30).symm).symm] <;> rfl), rfl⟩ (ConvH.of (.cons r0 .nil))
    · replace e30 := iff_ g26_2 e30
      conv => whnf
      refine cond_f g26_2 ?_
      conv => whnf
      refine bsOR (len := 1) (l := [f]) (css := [[.slice ap1_0 f.length cp1_0]]) (cl := [.slice ap1_0 f.length cp1_0]) sliL_ok elT64 rfl rfl (LR.snoc LR.nil ⟨ap1_0, cp1_0, rfl, (hp1_0.mono (l14.trans l25))⟩) rfl rfl rfl ?_ fun b28 => ?_
      · conv => whnf
        refine cond_T ?_
        conv => whnf
        first | done | rfl
      conv => whnf
      refine cond_f g26_2 ?_
      obtain ⟨x29, q29, e30⟩ := bnd e30
      conv => whnf
      refine call_fn (Fn.lendR sliL_ok (show LR (sliL S_ref02_Field.enc 2) _ [[.slice ap1_0 f.length cp1_0]] [f] from (LR.snoc LR.nil ⟨ap1_0, cp1_0, rfl, (hp1_0.mono (l14.trans l25))⟩)) Try.call10 (fun K29_0 l29_0 f29_0 => (law16_large_ok q29 f29_0 rfl)) (by exact fun _ _ _ _ h => h)) (.cons r0 .nil) ?_
      rintro _ K29 _ l29 ⟨_, rfl, rfl, rfl⟩
      conv => whnf
      refine cond_f g26_2 ?_
      obtain rfl := si hm
      conv => whnf
      refine EndStep.mk _ ((l14.trans l25).trans l29) ⟨(by rw [← (si e30)] <;> rfl), rfl⟩ (ConvH.of (.cons r1 .nil))
  · replace e19 := iff_ g15_1 e19
    conv => whnf
    refine cond_f g15_1 ?_
    conv => whnf
    refine bsOR (len := 1) (l := [f]) (css := [[.slice ap1_0 f.length cp1_0]]) (cl := [.slice ap1_0 f.length cp1_0]) sliL_ok elT64 rfl rfl (LR.snoc LR.nil ⟨ap1_0, cp1_0, rfl, (hp1_0.mono l14)⟩) rfl rfl rfl ?_ fun b17 => ?_
    · conv => whnf
      refine cond_T ?_
      conv => whnf
      first | done | rfl
    conv => whnf
    refine cond_f g15_1 ?_
    obtain ⟨x18, q18, e19⟩ := bnd e19
    conv => whnf
    refine call_fn (Fn.lendR sliL_ok (show LR (sliL S_ref02_Field.enc 2) _ [[.slice ap1_0 f.length cp1_0]] [f] from (LR.snoc LR.nil ⟨ap1_0, cp1_0, rfl, (hp1_0.mono l14)⟩)) Try.call10 (fun K18_0 l18_0 f18_0 => (law16_large_ok q18 f18_0 rfl)) (by exact fun _ _ _ _ h => h)) (.cons r0 .nil) ?_
    rintro _ K18 _ l18 ⟨_, rfl, rfl, rfl⟩
    conv => whnf
    refine cond_f g15_1 ?_
    obtain ⟨x23, e23, hm⟩ := bnd hm
    conv => whnf
    refine cond_s (fun g20_1 => ?_) (fun g20_1 => ?_)
    · replace e23 := ift ((si e19).symm.trans g20_1) e23
      conv => whnf
      refine cond_t g20_1 ?_
      conv => whnf
      refine cond_t g20_1 ?_
      conv => whnf
      refine cond_go rfl ?_
      conv => whnf
      refine cond_T ?_
      replace hm := ift (si e23).symm hm
      obtain ⟨x25, q25, hm⟩ := bnd hm
      conv => whnf
      refine call_fn (law16_long_ok q25 (hp0_0.mono (l14.trans l18)) rfl) .nil ?_
      rintro _ K25 _ l25 ⟨rfl, rfl⟩
      obtain ⟨x30, e30, hm⟩ := bnd hm
      conv => whnf
      refine cond_s (fun g26_2 => ?_) (fun g26_2 => ?_)
      · replace e30 := ift g26_2 e30
        conv => whnf
        refine cond_t g26_2 ?_
        conv => whnf
        refine cond_t g26_2 ?_
        conv => whnf
        refine cond_t g26_2 ?_
        obtain rfl := si hm
        conv => whnf
        refine EndStep.mk _ ((l14.trans l18).trans l25) ⟨(by rw [← ((si e30).symm).symm] <;> rfl), rfl⟩ (ConvH.of (.cons r1 .nil))
      · replace e30 := iff_ g26_2 e30
        conv => whnf
        refine cond_f g26_2 ?_
        conv => whnf
        refine bsOR (len := 1) (l := [f]) (css := [[.slice ap1_0 f.length cp1_0]]) (cl := [.slice ap1_0 f.length cp1_0]) sliL_ok elT64 rfl rfl (LR.snoc LR.nil ⟨ap1_0, cp1_0, rfl, (hp1_0.mono ((l14.trans l18).trans l25))⟩) rfl rfl rfl ?_ fun b28 => ?_
        · conv => whnf
          refine cond_T ?_
          conv => whnf
          first | done | rfl
        conv => whnf
        refine cond_f g26_2 ?_
        obtain ⟨x29, q29, e30⟩ := bnd e30
        conv => whnf
        refine call_fn (Fn.lendR sliL_ok (show LR (sliL S_ref02_Field.enc 2) _ [[.slice ap1_0 f.length cp1_0]] [f] from (LR.snoc LR.nil ⟨ap1_0, cp1_0, rfl, (hp1_0.mono ((l14.trans l18).trans l25))⟩)) Try.call10 (fun K29_0 l29_0 f29_0 => (law16_large_ok q29 f29_0 rfl)) (by exact fun _ _ _ _ h => h)) (.cons r0 .nil) ?_
        rintro _ K29 _ l29 ⟨_, rfl, rfl, rfl⟩
        conv => whnf
        refine cond_f g26_2 ?_
        obtain rfl := si hm
        conv => whnf
        refine EndStep.mk _ (((l14.trans l18).trans l25).trans l29) ⟨(by rw [← (si e30)] <;> rfl), rfl⟩ (ConvH.of (.cons r2 .nil))
    · replace e23 := iff_ ((si e19).symm.trans g20_1) e23
      obtain ⟨x21, q21, e23⟩ := bnd e23
      conv => whnf
      refine call_fn (law16_awake_ok q21) .nil ?_
      rintro _ K21 _ l21 ⟨rfl, rfl⟩
      conv => whnf
      refine cond_f g20_1 ?_
      conv => whnf
      refine un_not ?_
      conv => whnf
      refine cond_f g20_1 ?_
      conv => whnf
      refine cond_go rfl ?_
      conv => whnf
      refine cond_s (fun w23 => ?_) (fun w23 => ?_)
      · replace hm := ift ((si e23).symm.trans (not_t (ni_t w23))) hm
        obtain ⟨x25, q25, hm⟩ := bnd hm
        conv => whnf
        refine call_fn (law16_long_ok q25 (hp0_0.mono ((l14.trans l18).trans l21)) rfl) .nil ?_
        rintro _ K25 _ l25 ⟨rfl, rfl⟩
        obtain ⟨x30, e30, hm⟩ := bnd hm
        conv => whnf
        refine cond_s (fun g26_2 => ?_) (fun g26_2 => ?_)
        · replace e30 := ift g26_2 e30
          conv => whnf
          refine cond_t g26_2 ?_
          conv => whnf
          refine cond_t g26_2 ?_
          conv => whnf
          refine cond_t g26_2 ?_
          obtain rfl := si hm
          conv => whnf
          refine EndStep.mk _ (((l14.trans l18).trans l21).trans l25) ⟨(by rw [← ((si e30).symm).symm] <;> rfl), rfl⟩ (ConvH.of (.cons r1 .nil))
        · replace e30 := iff_ g26_2 e30
          conv => whnf
          refine cond_f g26_2 ?_
          conv => whnf
          refine bsOR (len := 1) (l := [f]) (css := [[.slice ap1_0 f.length cp1_0]]) (cl := [.slice ap1_0 f.length cp1_0]) sliL_ok elT64 rfl rfl (LR.snoc LR.nil ⟨ap1_0, cp1_0, rfl, (hp1_0.mono (((l14.trans l18).trans l21).trans l25))⟩) rfl rfl rfl ?_ fun b28 => ?_
          · conv => whnf
            refine cond_T ?_
            conv => whnf
            first | done | rfl
          conv => whnf
          refine cond_f g26_2 ?_
          obtain ⟨x29, q29, e30⟩ := bnd e30
          conv => whnf
          refine call_fn (Fn.lendR sliL_ok (show LR (sliL S_ref02_Field.enc 2) _ [[.slice ap1_0 f.length cp1_0]] [f] from (LR.snoc LR.nil ⟨ap1_0, cp1_0, rfl, (hp1_0.mono (((l14.trans l18).trans l21).trans l25))⟩)) Try.call10 (fun K29_0 l29_0 f29_0 => (law16_large_ok q29 f29_0 rfl)) (by exact fun _ _ _ _ h => h)) (.cons r0 .nil) ?_
          rintro _ K29 _ l29 ⟨_, rfl, rfl, rfl⟩
          conv => whnf
          refine cond_f g26_2 ?_
          obtain rfl := si hm
          conv => whnf
          refine EndStep.mk _ ((((l14.trans l18).trans l21).trans l25).trans l29) ⟨(by rw [← (si e30)] <;> rfl), rfl⟩ (ConvH.of (.cons r2 .nil))
      · replace hm := iff_ ((si e23).symm.trans (not_f (ni_f w23))) hm
        conv => whnf
        refine RStep.of (len_slice rfl ?_)
        obtain ⟨hk0, hm⟩ := chkb hm
        obtain ⟨s0, hl0, hm⟩ := bnd hm
        conv => whnf
        refine nilC S_ref02_Field.enc 43 2 ?_
        refine code_cut (σ := ((List S_ref02_Field)) × Option Addr × Nat) [7, 9, 33, 34, 35, 36, 37, 38, 39, 40, 41, 42, 43, 44, 45, 46] (fun (t0, t0_a0, t0_c0) => [(7, .slice t0_a0 t0.length t0_c0)]) (fun (t0, t0_a0, t0_c0) => [OwnL S_ref02_Field.enc t0_a0 43 2 t0_c0 t0, OwnA (some ⟨b17, 0, none⟩) 23 1 1 ([[.slice ap1_0 f.length cp1_0]]), F]) (fun zz K1 => match zz with | (t0, t0_a0, t0_c0) => (0 < t0.length → Has t0_a0) ∧ t0 = s0) ?_ ?_
        · refine block_go rfl ?_
          conv => whnf
          refine loop_rule (σ := Nat × (List S_ref02_Field) × Option Addr × Nat) [7, 9, 33, 34, 35, 36, 37, 38, 39, 40, 41, 42, 43, 44, 45, 46] (fun (i0, y0_0, y0_a0, y0_c0) => [(33, .int .i64 (i0 : Int)), (7, .slice y0_a0 y0_0.length y0_c0)]) (fun (i0, y0_0, y0_a0, y0_c0) => [OwnL S_ref02_Field.enc y0_a0 43 2 y0_c0 y0_0, OwnA (some ⟨b17, 0, none⟩) 23 1 1 ([[.slice ap1_0 f.length cp1_0]]), F]) (fun zz K1 => match zz with | (i0, y0_0, y0_a0, y0_c0) => (0 < y0_0.length → Has y0_a0) ∧ law16_VaryNormal_L0 (f.drop i0) i0 y0_0 = some s0) (fun zz => f.length - zz.1) (0, [], none, 0) rfl ⟨rfl, rfl, trivial⟩ (ConvH.of (.cons r0 (.cons r0 (.cons r0 .nil)))) ⟨(fun h => by simp at h), hl0⟩ ?_
          clear hl0
          rintro ⟨i0, y0_0, y0_a0, y0_c0⟩ Kb0 lk0 ⟨y0_h0, hl0⟩ j0
          conv => whnf
          refine cond_go rfl ?_
          conv => whnf
          refine cond_s (fun w0 => ?_) (fun w0 => ?_)
          · obtain ⟨e0, hx0, hd0⟩ := ltx w0
            rw [hd0, law16_VaryNormal_L0.eq_2] at hl0
            conv => whnf
            refine block_go rfl ?_
            conv => whnf
            refine RStep.ofN (index_addr rfl rfl (hasK (hp1_0.mono (((l14.trans l18).trans l21).trans lk0)).rd hx0) (nn _) (lt_ofN hx0) ?_)
            conv => whnf
            refine RStep.of (load_rd_agg i0 _ (hp1_0.mono (((l14.trans l18).trans l21).trans lk0)).rd rfl (mp hx0) rfl ?_)
            conv => whnf
            refine alloc_rule rfl ?_
            intro b9
            conv => whnf
            refine store_rule r0 rfl ?_
            conv => whnf
            refine ⟨rfl, rfl, (Nat.le_of_ble_eq_true rfl), ?_⟩
            conv => whnf
            refine draw_go ⟨⟨[], false⟩, _, [(_, _)]⟩ (by kernel_rfl) ⟨Hp.Le.refl _, (ConvH.of (.cons r0 .nil))⟩ ?_
            conv => whnf
            refine field_addr rfl ?_
            conv => whnf
            refine load1_l m0 rfl rfl ?_
            conv => whnf
            refine field_addr rfl ?_
            conv => whnf
            refine load1_l m0 rfl rfl ?_
            obtain ⟨x42, q42, hl0⟩ := bnd hl0
            conv => whnf
            refine call_fn (law16_spaced_ok q42) .nil ?_
            rintro _ K42 _ l42 ⟨rfl, rfl⟩
            conv => whnf
            refine ⟨⟨l42, (ConvH.of (.cons r0 .nil))⟩, ?_⟩
            conv => whnf
            refine build_struct rfl rfl ?_
            conv => whnf
            refine cond_T ?_
            conv => whnf
            refine cond_T ?_
            conv => whnf
            refine bsO (len := 1) (enc := S_ref02_Field.enc) (l := [(⟨e0.Name, x42⟩ : S_ref02_Field)]) (cl := [str e0.Name, str x42]) elT23 rfl rfl (fun _ _ => rfl) rfl rfl rfl ?_ fun b44 => ?_
            · conv => whnf
              refine cond_T ?_
              conv => whnf
              first | done | rfl
            conv => whnf
            refine ⟨⟨l42, (ConvH.of (.cons r1 .nil))⟩, ?_⟩
            obtain ⟨h45, hl0⟩ := chkb hl0
            conv => whnf
            refine apE rfl r2 elT23 (src_own' rfl r0 rfl (fun _ => rfl) (fun _ => rfl)) h45 ?_
            intro a45 c45 o45
            conv => whnf
            refine ⟨⟨l42, (ConvH.of (.cons r2 .nil))⟩, ?_⟩
            conv => whnf
            refine int_in (cntz hx0 hk0) ?_
            conv => whnf
            refine RoundStep.mk (i0 + 1, (y0_0 ++ [(⟨e0.Name, x42⟩ : S_ref02_Field)]), a45, c45) ⟨rfl, rfl, trivial⟩ (by repeat (first | exact trivial | refine And.intro rfl ?_)) (ConvH.of (.cons r0 (.cons r2 (.cons r2 .nil)))) (lk0.trans l42) (ltm hx0) ⟨o45, hl0⟩
          · rw [lty w0, law16_VaryNormal_L0.eq_1] at hl0
            conv => whnf
            refine cond_T ?_
            conv => whnf
            refine MeetStep.mk (y0_0, y0_a0, y0_c0) ⟨rfl, trivial⟩ (by repeat (first | exact trivial | refine And.intro rfl ?_)) (ConvH.of (.cons r0 (.cons r0 (.cons r0 .nil)))) lk0 ⟨y0_h0, (si hl0)⟩
        · rintro ⟨t0, t0_a0, t0_c0⟩ Kt0 lt0 ⟨t0_h0, rfl⟩ j0
          obtain ⟨x49, q49, hm⟩ := bnd hm
          conv => whnf
          refine call_fn (law02_Fields_ok q49 (hp1_0.mono (((l14.trans l18).trans l21).trans lt0)) rfl) .nil ?_
          rintro _ K49 _ l49 ⟨a49_0, c49_0, rfl, h49_0, rfl⟩
          obtain ⟨x50, q50, hm⟩ := bnd hm
          conv => whnf
          refine call_fn (Fn.lend Try.call12 (fun K50_1 l50_1 f50_1 => (vary_Key_ok q50 (hp0_0.mono (((((l14.trans l18).trans l21).trans lt0).trans l49).trans l50_1)) rfl f50_1 rfl)) (by exact fun _ _ _ _ h => h)) (.cons r0 .nil) ?_
          rintro _ K50 _ l50 ⟨_, rfl, rfl, rfl⟩
          obtain ⟨x53, q53, hm⟩ := bnd hm
          conv => whnf
          refine call_fn (Fn.lend Try.call13 (fun K53_0 l53_0 f53_0 => (law02_Fields_ok q53 f53_0 rfl)) (by exact fun _ _ _ _ h => h)) (.cons r1 .nil) ?_
          rintro _ K53 _ l53 ⟨_, rfl, a53_0, c53_0, rfl, h53_0, rfl⟩
          obtain ⟨x54, q54, hm⟩ := bnd hm
          conv => whnf
          refine call_fn (Fn.lend Try.call12 (fun K54_1 l54_1 f54_1 => (vary_Key_ok q54 (hp0_0.mono (((((((l14.trans l18).trans l21).trans lt0).trans l49).trans l50).trans l53).trans l54_1)) rfl f54_1 rfl)) (by exact fun _ _ _ _ h => h)) (.cons r1 .nil) ?_
          rintro _ K54 _ l54 ⟨_, rfl, rfl, rfl⟩
          conv => whnf
          refine neq_str ?_
          conv => whnf
          refine cond_s (fun g57_10 => ?_) (fun g57_10 => ?_)
          · replace hm := ift g57_10 hm
            conv => whnf
            refine cond_t g57_10 ?_
            conv => whnf
            refine cond_t g57_10 ?_
            conv => whnf
            refine cond_t g57_10 ?_
            conv => whnf
            refine cond_t g57_10 ?_
            conv => whnf
            refine cond_t g57_10 ?_
            conv => whnf
            refine cond_t g57_10 ?_
            conv => whnf
            refine cond_t g57_10 ?_
            conv => whnf
            refine cond_t g57_10 ?_
            conv => whnf
            refine cond_t g57_10 ?_
            conv => whnf
            refine cond_go rfl ?_
            conv => whnf
            refine cond_T ?_
            obtain rfl := si hm
            conv => whnf
            refine EndStep.mk _ (((((((l14.trans l18).trans l21).trans lt0).trans l49).trans l50).trans l53).trans l54) ⟨rfl, rfl⟩ (ConvH.of (.cons r4 .nil))
          · replace hm := iff_ g57_10 hm
            conv => whnf
            refine cond_f g57_10 ?_
            conv => whnf
            refine cond_f g57_10 ?_
            obtain ⟨x60, q60, hm⟩ := bnd hm
            conv => whnf
            refine call_fn (law02_Fields_ok q60 (hp1_0.mono (((((((l14.trans l18).trans l21).trans lt0).trans l49).trans l50).trans l53).trans l54)) rfl) .nil ?_
            rintro _ K60 _ l60 ⟨a60_0, c60_0, rfl, h60_0, rfl⟩
            conv => whnf
            refine cond_f g57_10 ?_
            obtain ⟨x61, q61, hm⟩ := bnd hm
            conv => whnf
            refine call_fn (Fn.lend Try.call21 (fun K61_0 l61_0 f61_0 => (field_Add_ok q61 f61_0 rfl)) (by exact fun _ _ _ _ h => h)) (.cons r0 .nil) ?_
            rintro _ K61 _ l61 ⟨_, rfl, a61_0, c61_0, rfl, h61_0, rfl⟩
            conv => whnf
            refine cond_f g57_10 ?_
            obtain ⟨x62, q62, hm⟩ := bnd hm
            conv => whnf
            refine call_fn (Fn.lend Try.call12 (fun K62_1 l62_1 f62_1 => (vary_Key_ok q62 (hp0_0.mono ((((((((((l14.trans l18).trans l21).trans lt0).trans l49).trans l50).trans l53).trans l54).trans l60).trans l61).trans l62_1)) rfl f62_1 rfl)) (by exact fun _ _ _ _ h => h)) (.cons r1 .nil) ?_
            rintro _ K62 _ l62 ⟨_, rfl, rfl, rfl⟩
            conv => whnf
            refine cond_f g57_10 ?_
            conv => whnf
            refine cond_f g57_10 ?_
            conv => whnf
            refine neq_str ?_
            conv => whnf
            refine cond_f g57_10 ?_
            obtain ⟨x69, e69, hm⟩ := bnd hm
            conv => whnf
            refine cond_s (fun g65_10 => ?_) (fun g65_10 => ?_)
            · replace e69 := ift g65_10 e69
              conv => whnf
              refine cond_t g65_10 ?_
              obtain ⟨x67, q67, e69⟩ := bnd e69
              conv => whnf
              refine call_fn (law16_has_ok q67 (hp0_0.mono ((((((((((l14.trans l18).trans l21).trans lt0).trans l49).trans l50).trans l53).trans l54).trans l60).trans l61).trans l62)) rfl) .nil ?_
              rintro _ K67 _ l67 ⟨rfl, rfl⟩
              conv => whnf
              refine cond_t g65_10 ?_
              conv => whnf
              refine un_not ?_
              conv => whnf
              refine cond_f g57_10 ?_
              conv => whnf
              refine cond_t g65_10 ?_
              conv => whnf
              refine cond_f g57_10 ?_
              conv => whnf
              refine cond_go rfl ?_
              conv => whnf
              refine cond_s (fun w70 => ?_) (fun w70 => ?_)
              · replace hm := ift ((si e69).symm.trans (not_t (ni_t w70))) hm
                obtain rfl := si hm
                conv => whnf
                refine EndStep.mk _ (((((((((((l14.trans l18).trans l21).trans lt0).trans l49).trans l50).trans l53).trans l54).trans l60).trans l61).trans l62).trans l67) ⟨rfl, rfl⟩ (ConvH.of (.cons r6 .nil))
              · replace hm := iff_ ((si e69).symm.trans (not_f (ni_f w70))) hm
                conv => whnf
                refine RStep.of (len_slice rfl ?_)
                conv => whnf
                refine eq_int ?_
                conv => whnf
                refine cond_go rfl ?_
                conv => whnf
                refine cond_s (fun w73 => ?_) (fun w73 => ?_)
                · replace hm := ift w73 hm
                  conv => whnf
                  refine eq_str ?_
                  obtain rfl := si hm
                  conv => whnf
                  refine EndStep.mk _ (((((((((((l14.trans l18).trans l21).trans lt0).trans l49).trans l50).trans l53).trans l54).trans l60).trans l61).trans l62).trans l67) ⟨rfl, rfl⟩ (ConvH.of (.cons r6 .nil))
                · replace hm := iff_ w73 hm
                  conv => whnf
                  refine conv_int rfl rfl (u8in atZ) ?_
                  conv => whnf
                  refine RStep.of (len_slice rfl ?_)
                  obtain ⟨h81, hm⟩ := chkb hm
                  conv => whnf
                  refine rem_t h81 ?_
                  obtain ⟨x82, l82, k82, hm⟩ := ixb hm
                  conv => whnf
                  refine RStep.ofN (index_addr rfl rfl (hasK (hp0_0.mono (((((((((((l14.trans l18).trans l21).trans lt0).trans l49).trans l50).trans l53).trans l54).trans l60).trans l61).trans l62).trans l67)).rd k82) l82 (lt_ofE rfl l82 k82) ?_)
                  conv => whnf
                  refine RStep.of (load_rd (((Int.tmod (atZ.toNat : Int) (names.length : Int))).toNat) 0 _ _ (hp0_0.mono (((((((((((l14.trans l18).trans l21).trans lt0).trans l49).trans l50).trans l53).trans l54).trans l60).trans l61).trans l62).trans l67)).rd rfl (mp k82) rfl rfl ?_)
                  obtain ⟨x85, q85, hm⟩ := bnd hm
                  conv => whnf
                  refine call_fn (law02_Fields_ok q85 (hp1_0.mono (((((((((((l14.trans l18).trans l21).trans lt0).trans l49).trans l50).trans l53).trans l54).trans l60).trans l61).trans l62).trans l67)) rfl) .nil ?_
                  rintro _ K85 _ l85 ⟨a85_0, c85_0, rfl, h85_0, rfl⟩
                  obtain ⟨x87, q87, hm⟩ := bnd hm
                  conv => whnf
                  refine call_fn (Fn.lend Try.call21 (fun K87_0 l87_0 f87_0 => (field_Add_ok q87 f87_0 rfl)) (by exact fun _ _ _ _ h => h)) (.cons r0 .nil) ?_
                  rintro _ K87 _ l87 ⟨_, rfl, a87_0, c87_0, rfl, h87_0, rfl⟩
                  obtain ⟨x90, q90, hm⟩ := bnd hm
                  conv => whnf
                  refine call_fn (Fn.lend Try.call12 (fun K90_1 l90_1 f90_1 => (vary_Key_ok q90 (hp0_0.mono ((((((((((((((l14.trans l18).trans l21).trans lt0).trans l49).trans l50).trans l53).trans l54).trans l60).trans l61).trans l62).trans l67).trans l85).trans l87).trans l90_1)) rfl f90_1 rfl)) (by exact fun _ _ _ _ h => h)) (.cons r1 .nil) ?_
                  rintro _ K90 _ l90 ⟨_, rfl, rfl, rfl⟩
                  conv => whnf
                  refine neq_str ?_
                  obtain rfl := si hm
                  conv => whnf
                  refine EndStep.mk _ ((((((((((((((l14.trans l18).trans l21).trans lt0).trans l49).trans l50).trans l53).trans l54).trans l60).trans l61).trans l62).trans l67).trans l85).trans l87).trans l90) ⟨rfl, rfl⟩ (ConvH.of (.cons r8 .nil))
            · replace e69 := iff_ g65_10 e69
              conv => whnf
              refine cond_f g65_10 ?_
              conv => whnf
              refine cond_f g65_10 ?_
              conv => whnf
              refine cond_f g57_10 ?_
              conv => whnf
              refine cond_f g65_10 ?_
              conv => whnf
              refine cond_f g57_10 ?_
              conv => whnf
              refine cond_go rfl ?_
              conv => whnf
              refine cond_F ?_
              replace hm := iff_ (si e69).symm hm
              conv => whnf
              refine RStep.of (len_slice rfl ?_)
              conv => whnf
              refine eq_int ?_
              conv => whnf
              refine cond_go rfl ?_
              conv => whnf
              refine cond_s (fun w73 => ?_) (fun w73 => ?_)
              · replace hm := ift w73 hm
                conv => whnf
                refine eq_str ?_
                obtain rfl := si hm
                conv => whnf
                refine EndStep.mk _ ((((((((((l14.trans l18).trans l21).trans lt0).trans l49).trans l50).trans l53).trans l54).trans l60).trans l61).trans l62) ⟨rfl, rfl⟩ (ConvH.of (.cons r6 .nil))
              · replace hm := iff_ w73 hm
                conv => whnf
                refine conv_int rfl rfl (u8in atZ) ?_
                conv => whnf
                refine RStep.of (len_slice rfl ?_)
                obtain ⟨h81, hm⟩ := chkb hm
                conv => whnf
                refine rem_t h81 ?_
                obtain ⟨x82, l82, k82, hm⟩ := ixb hm
                conv => whnf
                refine RStep.ofN (index_addr rfl rfl (hasK (hp0_0.mono ((((((((((l14.trans l18).trans l21).trans lt0).trans l49).trans l50).trans l53).trans l54).trans l60).trans l61).trans l62)).rd k82) l82 (lt_ofE rfl l82 k82) ?_)
                conv => whnf
                refine RStep.of (load_rd (((Int.tmod (atZ.toNat : Int) (names.length : Int))).toNat) 0 _ _ (hp0_0.mono ((((((((((l14.trans l18).trans l21).trans lt0).trans l49).trans l50).trans l53).trans l54).trans l60).trans l61).trans l62)).rd rfl (mp k82) rfl rfl ?_)
                obtain ⟨x85, q85, hm⟩ := bnd hm
                conv => whnf
                refine call_fn (law02_Fields_ok q85 (hp1_0.mono ((((((((((l14.trans l18).trans l21).trans lt0).trans l49).trans l50).trans l53).trans l54).trans l60).trans l61).trans l62)) rfl) .nil ?_
                rintro _ K85 _ l85 ⟨a85_0, c85_0, rfl, h85_0, rfl⟩
                obtain ⟨x87, q87, hm⟩ := bnd hm
                conv => whnf
                refine call_fn (Fn.lend Try.call21 (fun K87_0 l87_0 f87_0 => (field_Add_ok q87 f87_0 rfl)) (by exact fun _ _ _ _ h => h)) (.cons r0 .nil) ?_
                rintro _ K87 _ l87 ⟨_, rfl, a87_0, c87_0, rfl, h87_0, rfl⟩
                obtain ⟨x90, q90, hm⟩ := bnd hm
                conv => whnf
                refine call_fn (Fn.lend Try.call12 (fun K90_1 l90_1 f90_1 => (vary_Key_ok q90 (hp0_0.mono (((((((((((((l14.trans l18).trans l21).trans lt0).trans l49).trans l50).trans l53).trans l54).trans l60).trans l61).trans l62).trans l85).trans l87).trans l90_1)) rfl f90_1 rfl)) (by exact fun _ _ _ _ h => h)) (.cons r1 .nil) ?_
                rintro _ K90 _ l90 ⟨_, rfl, rfl, rfl⟩
                conv => whnf
                refine neq_str ?_
                obtain rfl := si hm
                conv => whnf
                refine EndStep.mk _ (((((((((((((l14.trans l18).trans l21).trans lt0).trans l49).trans l50).trans l53).trans l54).trans l60).trans l61).trans l62).trans l85).trans l87).trans l90) ⟨rfl, rfl⟩ (ConvH.of (.cons r8 .nil))
