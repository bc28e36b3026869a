/- Functions of the program: mirrors, and that a call returns what the mirror says. Printed by gen.py. -/
import Derived.Test.YtlpjmfojahofnaaDoorG1
set_option linter.unusedVariables false
set_option linter.unusedSimpArgs false
open Go Go.SL Go.Proofs
set_option maxRecDepth 1000000
noncomputable def vary_Names_L2 : List Str → Nat → (List Str) → Option (Fl ((List Str) × Bool) ((List Str)))
  | [], _, y2_0 => some (Fl.go y2_0)
  | e2 :: xs2, i2, y2_0 =>
    (field_Name e2).bind fun x34 =>
    if (decide (e2 = ([42] : Str)) || x34.2.isSome) then
    some (Fl.ret ([], true))
    else
    (chk (y2_0.length + [x34.1].length ≤ lim)).bind fun _ =>
    vary_Names_L2 xs2 (i2 + 1) (y2_0 ++ [x34.1])
noncomputable def vary_Names_L0 (n : Nat) : List Str → Nat → (List Str) → Option (Fl ((List Str) × Bool) ((List Str)))
  | [], _, y0_0 => some (Fl.go y0_0)
  | e0 :: xs0, i0, y0_0 =>
    (syntax_List n e0).bind fun x21 =>
    if x21.2.isSome then
    some (Fl.ret ([], true))
    else
    (chk (x21.1.length ≤ szMax)).bind fun _ =>
    (vary_Names_L2 x21.1 0 y0_0).bind fun s2 => s2.el (fun r => some (Fl.ret r)) fun t2 =>
    vary_Names_L0 n xs0 (i0 + 1) t2
noncomputable def vary_Names (n : Nat) (f : (List S_field_Field)) : Option ((List Str) × Bool) :=
  (field_All f ([118, 97, 114, 121] : Str)).bind fun x13 =>
  (chk (x13.length ≤ szMax)).bind fun _ =>
  (vary_Names_L0 n x13 0 []).bind fun s0 => s0.el some fun t0 =>
  (sortSM t0).bind fun x50 =>
  (compactM x50).bind fun x52 =>
  some (x52, false)
set_option maxHeartbeats 8000000 in
theorem vary_Names_ok {n : Nat} {f : (List S_field_Field)} {ap0_0 : Option Addr} {cp0_0 : Nat} {n0 : Nat} {K : Hp} {r : (List Str) × Bool}
    (hm : vary_Names n f = some r) (hp0_0 : RdC S_field_Field.enc K ap0_0 cp0_0 2 f) (en0 : n0 = f.length) :
    Fn Tryd.prog 6 [.slice ap0_0 n0 cp0_0] K [] (fun v K' H' => ∃ ar_0 : Option Addr, ∃ cr_0 : Nat, v = .tuple #[.slice ar_0 r.1.length cr_0, .bool r.2] ∧ (0 < r.1.length → Has ar_0) ∧ H' = [OwnL eS ar_0 9 1 cr_0 r.1]) := by
  subst en0
  refine Fn.enter Tryd.func6 Tryd.call6 rfl fun F => ?_
  unfold vary_Names at hm
  obtain ⟨x13, q13, hm⟩ := bnd hm
  conv => whnf
  refine call_fn (field_All_ok (name := ([118, 97, 114, 121] : Str)) q13 hp0_0 rfl) .nil ?_
  rintro _ K13 _ l13 ⟨a13_0, c13_0, rfl, h13_0, rfl⟩
  conv => whnf
  refine RStep.of (len_slice rfl ?_)
  obtain ⟨hk0, hm⟩ := chkb hm
  obtain ⟨s0, hl0, hm⟩ := bnd hm
  conv => whnf
  refine nilC eS 9 1 ?_
  refine code_cut (σ := ((List Str)) × Option Addr × Nat) [2, 3, 5, 6, 7, 9, 10, 11, 15, 16, 17, 18, 19, 20, 21, 22, 23, 24, 25, 26, 27, 28, 29, 30, 31, 32, 33, 34, 35, 36, 37, 38, 39, 40, 41, 42, 43, 44, 45, 46, 47, 48] (fun (t0, t0_a0, t0_c0) => [(2, .slice t0_a0 t0.length t0_c0)]) (fun (t0, t0_a0, t0_c0) => [OwnL eS t0_a0 9 1 t0_c0 t0, OwnL eS a13_0 9 1 c13_0 x13, F]) (fun zz K1 => match zz with | (t0, t0_a0, t0_c0) => (0 < t0.length → Has t0_a0) ∧ s0 = Fl.go t0) ?_ ?_
  · refine block_go rfl ?_
    conv => whnf
    refine loop_rule (σ := Nat × (List Str) × Option Addr × Nat) [2, 3, 5, 6, 7, 9, 10, 11, 15, 16, 17, 18, 19, 20, 21, 22, 23, 24, 25, 26, 27, 28, 29, 30, 31, 32, 33, 34, 35, 36, 37, 38, 39, 40, 41, 42, 43, 44, 45, 46, 47, 48] (fun (i0, y0_0, y0_a0, y0_c0) => [(15, .int .i64 (i0 : Int)), (2, .slice y0_a0 y0_0.length y0_c0)]) (fun (i0, y0_0, y0_a0, y0_c0) => [OwnL eS y0_a0 9 1 y0_c0 y0_0, OwnL eS a13_0 9 1 c13_0 x13, F]) (fun zz K1 => match zz with | (i0, y0_0, y0_a0, y0_c0) => (0 < y0_0.length → Has y0_a0) ∧ vary_Names_L0 n (x13.drop i0) i0 y0_0 = some s0) (fun zz => x13.length - zz.1) (0, [], none, 0) rfl ⟨rfl, rfl, trivial⟩ (ConvH.of (.cons r0 (.cons r0 (.cons r0 .nil)))) ⟨(fun h => by simp at h), hl0⟩ ?_
    clear hl0
    rintro ⟨i0, y0_0, y0_a0, y0_c0⟩ Kb0 lk0 ⟨y0_h0, hl0⟩ j0
    conv => whnf
    refine cond_go rfl ?_
    conv => whnf
    refine cond_s (fun w0 => ?_) (fun w0 => ?_)
    · obtain ⟨e0, hx0, hd0⟩ := ltx w0
      rw [hd0, vary_Names_L0.eq_2] at hl0
      conv => whnf
      refine block_go rfl ?_
      conv => whnf
      refine RStep.ofN (index_addr rfl rfl (hasO h13_0 hx0) (nn _) (lt_ofNE rfl hx0) ?_)
      conv => whnf
      refine RStep.of (ld_own (i := i0) (o := 0) r1 rfl hx0 rfl rfl ?_)
      obtain ⟨x21, q21, hl0⟩ := bnd hl0
      conv => whnf
      refine call_fn (syntax_List_ok (s := e0) q21) .nil ?_
      rintro _ K21 _ l21 ⟨a21_0, c21_0, rfl, h21_0, rfl⟩
      conv => whnf
      refine neq_err rfl ?_
      conv => whnf
      refine cond_go rfl ?_
      conv => whnf
      refine cond_s (fun w25 => ?_) (fun w25 => ?_)
      · replace hl0 := ift w25 hl0
        obtain rfl := si hl0
        replace hm := elr hm
        obtain rfl := si hm
        conv => whnf
        refine nilE eS 9 1 ?_
        refine EndStep.mk _ ((l13.trans lk0).trans l21) ⟨none, 0, rfl, (fun h => by simp at h), rfl⟩ (ConvH.of (.cons r0 (.cons r3 .nil)))
      · replace hl0 := iff_ w25 hl0
        conv => whnf
        refine RStep.of (len_slice rfl ?_)
        obtain ⟨hk2, hl0⟩ := chkb hl0
        obtain ⟨s2, hl2, hl0⟩ := bnd hl0
        conv => whnf
        refine code_cut (σ := ((List Str)) × Option Addr × Nat) [2, 3, 9, 10, 11, 28, 29, 30, 31, 32, 33, 34, 35, 36, 37, 38, 39, 40, 41, 42, 43, 44, 45, 46, 47] (fun (t2, t2_a0, t2_c0) => [(2, .slice t2_a0 t2.length t2_c0)]) (fun (t2, t2_a0, t2_c0) => [OwnL eS t2_a0 9 1 t2_c0 t2, OwnL eS a21_0 9 1 c21_0 x21.1, OwnL eS a13_0 9 1 c13_0 x13, F]) (fun zz K1 => match zz with | (t2, t2_a0, t2_c0) => (0 < t2.length → Has t2_a0) ∧ s2 = Fl.go t2) ?_ ?_
        · refine block_go rfl ?_
          conv => whnf
          refine loop_rule (σ := Nat × (List Str) × Option Addr × Nat) [2, 3, 9, 10, 11, 28, 29, 30, 31, 32, 33, 34, 35, 36, 37, 38, 39, 40, 41, 42, 43, 44, 45, 46, 47] (fun (i2, y2_0, y2_a0, y2_c0) => [(28, .int .i64 (i2 : Int)), (2, .slice y2_a0 y2_0.length y2_c0)]) (fun (i2, y2_0, y2_a0, y2_c0) => [OwnL eS y2_a0 9 1 y2_c0 y2_0, OwnL eS a21_0 9 1 c21_0 x21.1, OwnL eS a13_0 9 1 c13_0 x13, F]) (fun zz K1 => match zz with | (i2, y2_0, y2_a0, y2_c0) => (0 < y2_0.length → Has y2_a0) ∧ vary_Names_L2 (x21.1.drop i2) i2 y2_0 = some s2) (fun zz => x21.1.length - zz.1) (0, y0_0, y0_a0, y0_c0) rfl ⟨rfl, rfl, trivial⟩ (ConvH.of (.cons r1 (.cons r0 (.cons r0 (.cons r0 .nil))))) ⟨y0_h0, hl2⟩ ?_
          clear hl2
          rintro ⟨i2, y2_0, y2_a0, y2_c0⟩ Kb2 lk2 ⟨y2_h0, hl2⟩ j2
          conv => whnf
          refine cond_go rfl ?_
          conv => whnf
          refine cond_s (fun w2 => ?_) (fun w2 => ?_)
          · obtain ⟨e2, hx2, hd2⟩ := ltx w2
            rw [hd2, vary_Names_L2.eq_2] at hl2
            conv => whnf
            refine block_go rfl ?_
            conv => whnf
            refine RStep.ofN (index_addr rfl rfl (hasO h21_0 hx2) (nn _) (lt_ofNE rfl hx2) ?_)
            conv => whnf
            refine RStep.of (ld_own (i := i2) (o := 0) r1 rfl hx2 rfl rfl ?_)
            obtain ⟨x34, q34, hl2⟩ := bnd hl2
            conv => whnf
            refine call_fn (field_Name_ok (s := e2) q34) .nil ?_
            rintro _ K34 _ l34 ⟨rfl, rfl⟩
            conv => whnf
            refine eq_str ?_
            conv => whnf
            refine cond_s (fun g39_11 => ?_) (fun g39_11 => ?_)
            · conv => whnf
              refine cond_t g39_11 ?_
              conv => whnf
              refine cond_t g39_11 ?_
              conv => whnf
              refine cond_go rfl ?_
              conv => whnf
              refine cond_T ?_
              replace hl2 := ift (or_t g39_11) hl2
              obtain rfl := si hl2
              replace hl0 := elr hl0
              obtain rfl := si hl0
              replace hm := elr hm
              obtain rfl := si hm
              conv => whnf
              refine nilE eS 9 1 ?_
              refine EndStep.mk _ ((((l13.trans lk0).trans l21).trans lk2).trans l34) ⟨none, 0, rfl, (fun h => by simp at h), rfl⟩ (ConvH.of (.cons r0 (.cons r3 .nil)))
            · conv => whnf
              refine cond_f g39_11 ?_
              conv => whnf
              refine neq_err rfl ?_
              conv => whnf
              refine cond_f g39_11 ?_
              conv => whnf
              refine cond_go rfl ?_
              conv => whnf
              refine cond_s (fun w42 => ?_) (fun w42 => ?_)
              · replace hl2 := ift (or_u g39_11 w42) hl2
                obtain rfl := si hl2
                replace hl0 := elr hl0
                obtain rfl := si hl0
                replace hm := elr hm
                obtain rfl := si hm
                conv => whnf
                refine nilE eS 9 1 ?_
                refine EndStep.mk _ ((((l13.trans lk0).trans l21).trans lk2).trans l34) ⟨none, 0, rfl, (fun h => by simp at h), rfl⟩ (ConvH.of (.cons r0 (.cons r3 .nil)))
              · replace hl2 := iff_ (or_f g39_11 w42) hl2
                conv => whnf
                refine bsO (len := 1) (enc := eS) (l := [x34.1]) (cl := [str x34.1]) elT25 rfl rfl (fun _ _ => rfl) rfl rfl rfl ?_ fun b45 => ?_
                · conv => whnf
                  refine cond_T ?_
                  conv => whnf
                  first | done | rfl
                obtain ⟨h46, hl2⟩ := chkb hl2
                conv => whnf
                refine apE rfl r1 elT25 (src_own' rfl r0 rfl (fun _ => rfl) (fun _ => rfl)) h46 ?_
                intro a46 c46 o46
                conv => whnf
                refine int_in (cntz hx2 hk2) ?_
                conv => whnf
                refine RoundStep.mk (i2 + 1, (y2_0 ++ [x34.1]), a46, c46) ⟨rfl, rfl, trivial⟩ (by repeat (first | exact trivial | refine And.intro rfl ?_)) (ConvH.of (.cons r0 (.cons r1 (.cons r1 (.cons r1 .nil))))) (lk2.trans l34) (ltm hx2) ⟨o46, hl2⟩
          · rw [lty w2, vary_Names_L2.eq_1] at hl2
            conv => whnf
            refine cond_T ?_
            conv => whnf
            refine MeetStep.mk (y2_0, y2_a0, y2_c0) ⟨rfl, trivial⟩ (by repeat (first | exact trivial | refine And.intro rfl ?_)) (ConvH.of (.cons r0 (.cons r0 (.cons r0 (.cons r0 .nil))))) lk2 ⟨y2_h0, (si hl2).symm⟩
        · rintro ⟨t2, t2_a0, t2_c0⟩ Kt2 lt2 ⟨t2_h0, rfl⟩ j2
          replace hl0 := elg hl0
          conv => whnf
          refine int_in (cntz hx0 hk0) ?_
          conv => whnf
          refine RoundStep.mk (i0 + 1, t2, t2_a0, t2_c0) ⟨rfl, rfl, trivial⟩ (by repeat (first | exact trivial | refine And.intro rfl ?_)) (ConvH.of (.cons r0 (.cons r1 (.cons r1 .nil)))) ((lk0.trans l21).trans lt2) (ltm hx0) ⟨t2_h0, hl0⟩
    · rw [lty w0, vary_Names_L0.eq_1] at hl0
      conv => whnf
      refine cond_T ?_
      conv => whnf
      refine MeetStep.mk (y0_0, y0_a0, y0_c0) ⟨rfl, trivial⟩ (by repeat (first | exact trivial | refine And.intro rfl ?_)) (ConvH.of (.cons r0 (.cons r0 (.cons r0 .nil)))) lk0 ⟨y0_h0, (si hl0).symm⟩
  · rintro ⟨t0, t0_a0, t0_c0⟩ Kt0 lt0 ⟨t0_h0, rfl⟩ j0
    replace hm := elg hm
    obtain ⟨x50, q50, hm⟩ := bnd hm
    conv => whnf
    refine call_fn (sort_string_ok q50 rfl) (.cons r0 .nil) ?_
    rintro _ K50 _ l50 ⟨rfl, rfl⟩
    obtain ⟨x52, q52, hm⟩ := bnd hm
    conv => whnf
    refine call_fn (compact_string_ok q52 (Eq.trans (rfl) (sortSM_len q50).symm)) (.cons r0 .nil) ?_
    rintro _ K52 _ l52 ⟨rfl, rfl⟩
    obtain rfl := si hm
    conv => whnf
    refine EndStep.mk _ (((l13.trans lt0).trans l50).trans l52) ⟨t0_a0, t0_c0, rfl, (fun h => (fun h => t0_h0 (by rw [sortSM_len q50] at h; exact h)) (compactM_pos q52 h)), rfl⟩ (ConvH.of (.cons r0 (.cons r1 .nil)))

noncomputable def ref01_Lower_L0 : List UInt8 → Nat → Str → Option (Str)
  | [], _, y0_0 => some y0_0
  | e0 :: xs0, i0, y0_0 =>
    if (decide ((e0.toNat : Int) ≥ 65) && decide ((e0.toNat : Int) ≤ 90)) then
    (chk (y0_0.length + ([(e0 + (32 : UInt8))] : Str).length ≤ lim)).bind fun _ =>
    ref01_Lower_L0 xs0 (i0 + 1) (y0_0 ++ ([(e0 + (32 : UInt8))] : Str))
    else
    (chk (y0_0.length + ([e0] : Str).length ≤ lim)).bind fun _ =>
    ref01_Lower_L0 xs0 (i0 + 1) (y0_0 ++ ([e0] : Str))
noncomputable def ref01_Lower (s : Str) : Option (Str) :=
  (chk (s.length ≤ szMax)).bind fun _ =>
  (ref01_Lower_L0 s 0 ([] : Str)).bind fun t0 =>
  some t0
set_option maxHeartbeats 8000000 in
theorem ref01_Lower_ok {s : Str} {K : Hp} {r : Str}
    (hm : ref01_Lower s = some r)  :
    Fn Tryd.prog 36 [str s] K [] (fun v K' H' => v = str r ∧ H' = []) := by
  refine Fn.enter Tryd.func36 Tryd.call36 rfl fun F => ?_
  unfold ref01_Lower at hm
  conv => whnf
  refine RStep.of (len_str rfl ?_)
  obtain ⟨hk0, hm⟩ := chkb hm
  obtain ⟨s0, hl0, hm⟩ := bnd hm
  conv => whnf
  refine code_cut (σ := (Str)) [3, 4, 5, 8, 9, 10, 11, 12, 13, 14, 15, 16, 17, 18, 19, 20, 21, 22, 23, 24, 25, 26, 27] (fun t0 => [(3, str t0)]) (fun t0 => [F]) (fun zz K1 => match zz with | t0 => t0 = s0) ?_ ?_
  · refine block_go rfl ?_
    conv => whnf
    refine loop_rule (σ := Nat × Str) [3, 4, 5, 8, 9, 10, 11, 12, 13, 14, 15, 16, 17, 18, 19, 20, 21, 22, 23, 24, 25, 26, 27] (fun (i0, y0_0) => [(8, .int .i64 (i0 : Int)), (3, str y0_0)]) (fun (i0, y0_0) => [F]) (fun zz K1 => match zz with | (i0, y0_0) => ref01_Lower_L0 (s.drop i0) i0 y0_0 = some s0) (fun zz => s.length - zz.1) (0, ([] : Str)) rfl ⟨rfl, rfl, trivial⟩ (ConvH.of (.cons r0 .nil)) hl0 ?_
    clear hl0
    rintro ⟨i0, y0_0⟩ Kb0 lk0 hl0 j0
    conv at hl0 => whnf
    conv => whnf
    refine cond_go rfl ?_
    conv => whnf
    refine cond_s (fun w0 => ?_) (fun w0 => ?_)
    · obtain ⟨e0, hx0, hd0⟩ := ltx w0
      rw [hd0, ref01_Lower_L0.eq_2] at hl0
      conv => whnf
      refine block_go rfl ?_
      conv => whnf
      refine idx_str rfl (nn _) hx0 ?_
      conv => whnf
      refine cond_s (fun g16_6 => ?_) (fun g16_6 => ?_)
      · conv => whnf
        refine cond_t g16_6 ?_
        conv => whnf
        refine cond_t g16_6 ?_
        conv => whnf
        refine cond_go rfl ?_
        conv => whnf
        refine cond_s (fun w19 => ?_) (fun w19 => ?_)
        · replace hl0 := ift (and_t g16_6 w19) hl0
          conv => whnf
          refine u8_addS (x := e0) (y := (32 : UInt8)) rfl rfl ?_
          conv => whnf
          refine bsO (len := 1) (enc := eU) (l := ([(e0 + (32 : UInt8))] : Str)) (cl := [.int .u8 ((e0 + (32 : UInt8)).toNat : Int)]) elT73 rfl rfl (fun _ _ => rfl) rfl rfl rfl ?_ fun b24 => ?_
          · conv => whnf
            refine cond_T ?_
            conv => whnf
            first | done | rfl
          conv => whnf
          refine RStep.of (cv_ownE rfl r0 rfl rfl rfl ?_)
          obtain ⟨h26, hl0⟩ := chkb hl0
          conv => whnf
          refine cat_str h26 ?_
          conv => whnf
          refine int_in (cntz hx0 hk0) ?_
          conv => whnf
          refine RoundStep.mk (i0 + 1, (y0_0 ++ ([(e0 + (32 : UInt8))] : Str))) ⟨rfl, rfl, trivial⟩ (by repeat (first | exact trivial | refine And.intro rfl ?_)) (ConvH.of (.cons r1 .nil)) lk0 (ltm hx0) hl0
        · replace hl0 := iff_ (and_g g16_6 w19) hl0
          conv => whnf
          refine bsO (len := 1) (enc := eU) (l := ([e0] : Str)) (cl := [.int .u8 (e0.toNat : Int)]) elT73 rfl rfl (fun _ _ => rfl) rfl rfl rfl ?_ fun b24 => ?_
          · conv => whnf
            refine cond_T ?_
            conv => whnf
            first | done | rfl
          conv => whnf
          refine RStep.of (cv_ownE rfl r0 rfl rfl rfl ?_)
          obtain ⟨h26, hl0⟩ := chkb hl0
          conv => whnf
          refine cat_str h26 ?_
          conv => whnf
          refine int_in (cntz hx0 hk0) ?_
          conv => whnf
          refine RoundStep.mk (i0 + 1, (y0_0 ++ ([e0] : Str))) ⟨rfl, rfl, trivial⟩ (by repeat (first | exact trivial | refine And.intro rfl ?_)) (ConvH.of (.cons r1 .nil)) lk0 (ltm hx0) hl0
      · conv => whnf
        refine cond_f g16_6 ?_
        conv => whnf
        refine cond_f g16_6 ?_
        conv => whnf
        refine cond_go rfl ?_
        conv => whnf
        refine cond_F ?_
        replace hl0 := iff_ (and_f g16_6) hl0
        conv => whnf
        refine bsO (len := 1) (enc := eU) (l := ([e0] : Str)) (cl := [.int .u8 (e0.toNat : Int)]) elT73 rfl rfl (fun _ _ => rfl) rfl rfl rfl ?_ fun b24 => ?_
        · conv => whnf
          refine cond_T ?_
          conv => whnf
          first | done | rfl
        conv => whnf
        refine RStep.of (cv_ownE rfl r0 rfl rfl rfl ?_)
        obtain ⟨h26, hl0⟩ := chkb hl0
        conv => whnf
        refine cat_str h26 ?_
        conv => whnf
        refine int_in (cntz hx0 hk0) ?_
        conv => whnf
        refine RoundStep.mk (i0 + 1, (y0_0 ++ ([e0] : Str))) ⟨rfl, rfl, trivial⟩ (by repeat (first | exact trivial | refine And.intro rfl ?_)) (ConvH.of (.cons r1 .nil)) lk0 (ltm hx0) hl0
    · rw [lty w0, ref01_Lower_L0.eq_1] at hl0
      conv => whnf
      refine cond_T ?_
      conv => whnf
      refine MeetStep.mk (y0_0) ⟨rfl, trivial⟩ (by repeat (first | exact trivial | refine And.intro rfl ?_)) (ConvH.of (.cons r0 .nil)) lk0 (si hl0)
  · rintro t0 Kt0 lt0 rfl j0
    obtain rfl := si hm
    conv => whnf
    refine EndStep.mk _ lt0 ⟨rfl, rfl⟩ (ConvH.of (.cons r0 .nil))

noncomputable def ref02_Of (f : S_ref02_Field) (name : Str) : Option (Bool) :=
  (ref01_Lower f.Name).bind fun x7 =>
  (ref01_Lower name).bind fun x9 =>
  some (decide (x7 = x9))
set_option maxHeartbeats 8000000 in
theorem ref02_Of_ok {f : S_ref02_Field} {name : Str} {K : Hp} {r : Bool}
    (hm : ref02_Of f name = some r)  :
    Fn Tryd.prog 33 [.agg #[str f.Name, str f.Value], str name] K [] (fun v K' H' => v = .bool r ∧ H' = []) := by
  refine Fn.enter Tryd.func33 Tryd.call33 rfl fun F => ?_
  unfold ref02_Of at hm
  conv => whnf
  refine box_rule ?_
  intro b2
  conv => whnf
  refine field_addr rfl ?_
  conv => whnf
  refine RStep.of (load1_s r0 rfl rfl ?_)
  obtain ⟨x7, q7, hm⟩ := bnd hm
  conv => whnf
  refine call_fn (ref01_Lower_ok (s := f.Name) q7) .nil ?_
  rintro _ K7 _ l7 ⟨rfl, rfl⟩
  obtain ⟨x9, q9, hm⟩ := bnd hm
  conv => whnf
  refine call_fn (ref01_Lower_ok (s := name) q9) .nil ?_
  rintro _ K9 _ l9 ⟨rfl, rfl⟩
  conv => whnf
  refine eq_str ?_
  obtain rfl := si hm
  conv => whnf
  refine EndStep.mk _ (l7.trans l9) ⟨rfl, rfl⟩ (ConvH.of (.cons r1 .nil))

noncomputable def ref02_All_L0 (name : Str) : List S_ref02_Field → Nat → (List Str) → Option ((List Str))
  | [], _, y0_0 => some y0_0
  | e0 :: xs0, i0, y0_0 =>
    (ref02_Of e0 name).bind fun x17 =>
    if x17 then
    (chk (y0_0.length + [e0.Value].length ≤ lim)).bind fun _ =>
    ref02_All_L0 name xs0 (i0 + 1) (y0_0 ++ [e0.Value])
    else
    ref02_All_L0 name xs0 (i0 + 1) y0_0
noncomputable def ref02_All (f : (List S_ref02_Field)) (name : Str) : Option ((List Str)) :=
  (chk (f.length ≤ szMax)).bind fun _ =>
  (ref02_All_L0 name f 0 []).bind fun t0 =>
  some t0
set_option maxHeartbeats 8000000 in
theorem ref02_All_ok {f : (List S_ref02_Field)} {name : Str} {ap0_0 : Option Addr} {cp0_0 : Nat} {n0 : Nat} {K : Hp} {r : (List Str)}
    (hm : ref02_All f name = some r) (hp0_0 : RdC S_ref02_Field.enc K ap0_0 cp0_0 2 f) (en0 : n0 = f.length) :
    Fn Tryd.prog 20 [.slice ap0_0 n0 cp0_0, str name] K [] (fun v K' H' => ∃ ar_0 : Option Addr, ∃ cr_0 : Nat, v = .slice ar_0 r.length cr_0 ∧ (0 < r.length → Has ar_0) ∧ H' = [OwnL eS ar_0 9 1 cr_0 r]) := by
  subst en0
  refine Fn.enter Tryd.func20 Tryd.call20 rfl fun F => ?_
  unfold ref02_All at hm
  conv => whnf
  refine RStep.of (len_slice rfl ?_)
  obtain ⟨hk0, hm⟩ := chkb hm
  obtain ⟨s0, hl0, hm⟩ := bnd hm
  conv => whnf
  refine nilC eS 9 1 ?_
  refine code_cut (σ := ((List Str)) × Option Addr × Nat) [5, 6, 9, 10, 11, 12, 13, 14, 15, 16, 17, 18, 19, 20, 21, 22, 23, 24, 25, 26] (fun (t0, t0_a0, t0_c0) => [(5, .slice t0_a0 t0.length t0_c0)]) (fun (t0, t0_a0, t0_c0) => [OwnL eS t0_a0 9 1 t0_c0 t0, F]) (fun zz K1 => match zz with | (t0, t0_a0, t0_c0) => (0 < t0.length → Has t0_a0) ∧ t0 = s0) ?_ ?_
  · refine block_go rfl ?_
    conv => whnf
    refine loop_rule (σ := Nat × (List Str) × Option Addr × Nat) [5, 6, 9, 10, 11, 12, 13, 14, 15, 16, 17, 18, 19, 20, 21, 22, 23, 24, 25, 26] (fun (i0, y0_0, y0_a0, y0_c0) => [(9, .int .i64 (i0 : Int)), (5, .slice y0_a0 y0_0.length y0_c0)]) (fun (i0, y0_0, y0_a0, y0_c0) => [OwnL eS y0_a0 9 1 y0_c0 y0_0, F]) (fun zz K1 => match zz with | (i0, y0_0, y0_a0, y0_c0) => (0 < y0_0.length → Has y0_a0) ∧ ref02_All_L0 name (f.drop i0) i0 y0_0 = some s0) (fun zz => f.length - zz.1) (0, [], none, 0) rfl ⟨rfl, rfl, trivial⟩ (ConvH.of (.cons r0 (.cons r0 .nil))) ⟨(fun h => by simp at h), hl0⟩ ?_
    clear hl0
    rintro ⟨i0, y0_0, y0_a0, y0_c0⟩ Kb0 lk0 ⟨y0_h0, hl0⟩ j0
    conv => whnf
    refine cond_go rfl ?_
    conv => whnf
    refine cond_s (fun w0 => ?_) (fun w0 => ?_)
    · obtain ⟨e0, hx0, hd0⟩ := ltx w0
      rw [hd0, ref02_All_L0.eq_2] at hl0
      conv => whnf
      refine block_go rfl ?_
      conv => whnf
      refine RStep.ofN (index_addr rfl rfl (hasK (hp0_0.mono lk0).rd hx0) (nn _) (lt_ofN hx0) ?_)
      conv => whnf
      refine RStep.of (load_rd_agg i0 _ (hp0_0.mono lk0).rd rfl (mp hx0) rfl ?_)
      obtain ⟨x17, q17, hl0⟩ := bnd hl0
      conv => whnf
      refine call_fn (ref02_Of_ok (f := e0) (name := name) q17) .nil ?_
      rintro _ K17 _ l17 ⟨rfl, rfl⟩
      conv => whnf
      refine cond_go rfl ?_
      conv => whnf
      refine cond_s (fun w17 => ?_) (fun w17 => ?_)
      · replace hl0 := ift w17 hl0
        conv => whnf
        refine RStep.ofN (index_addr rfl rfl (hasK (hp0_0.mono (lk0.trans l17)).rd hx0) (nn _) (lt_ofN hx0) ?_)
        conv => whnf
        refine eptr_field rfl (hasK (hp0_0.mono (lk0.trans l17)).rd hx0) ?_
        conv => whnf
        refine RStep.of (load_rd i0 1 _ _ (hp0_0.mono (lk0.trans l17)).rd rfl (mp hx0) rfl rfl ?_)
        conv => whnf
        refine bsO (len := 1) (enc := eS) (l := [e0.Value]) (cl := [str e0.Value]) elT25 rfl rfl (fun _ _ => rfl) rfl rfl rfl ?_ fun b24 => ?_
        · conv => whnf
          refine cond_T ?_
          conv => whnf
          first | done | rfl
        obtain ⟨h25, hl0⟩ := chkb hl0
        conv => whnf
        refine apE rfl r1 elT25 (src_own' rfl r0 rfl (fun _ => rfl) (fun _ => rfl)) h25 ?_
        intro a25 c25 o25
        conv => whnf
        refine int_in (cntz hx0 hk0) ?_
        conv => whnf
        refine RoundStep.mk (i0 + 1, (y0_0 ++ [e0.Value]), a25, c25) ⟨rfl, rfl, trivial⟩ (by repeat (first | exact trivial | refine And.intro rfl ?_)) (ConvH.of (.cons r0 (.cons r1 .nil))) (lk0.trans l17) (ltm hx0) ⟨o25, hl0⟩
      · replace hl0 := iff_ w17 hl0
        conv => whnf
        refine int_in (cntz hx0 hk0) ?_
        conv => whnf
        refine RoundStep.mk (i0 + 1, y0_0, y0_a0, y0_c0) ⟨rfl, rfl, trivial⟩ (by repeat (first | exact trivial | refine And.intro rfl ?_)) (ConvH.of (.cons r0 (.cons r0 .nil))) (lk0.trans l17) (ltm hx0) ⟨y0_h0, hl0⟩
    · rw [lty w0, ref02_All_L0.eq_1] at hl0
      conv => whnf
      refine cond_T ?_
      conv => whnf
      refine MeetStep.mk (y0_0, y0_a0, y0_c0) ⟨rfl, trivial⟩ (by repeat (first | exact trivial | refine And.intro rfl ?_)) (ConvH.of (.cons r0 (.cons r0 .nil))) lk0 ⟨y0_h0, (si hl0)⟩
  · rintro ⟨t0, t0_a0, t0_c0⟩ Kt0 lt0 ⟨t0_h0, rfl⟩ j0
    obtain rfl := si hm
    conv => whnf
    refine EndStep.mk _ lt0 ⟨t0_a0, t0_c0, rfl, t0_h0, rfl⟩ (ConvH.of (.cons r0 (.cons r0 .nil)))

noncomputable def ref01_Trim_L0 : Nat → Str → Option (Str)
  | 0, _ => none
  | xs0 + 1, y0_0 =>
    if decide ((y0_0.length : Int) > 0) then
    (ix y0_0 0).bind fun x8 =>
    (if decide ((x8.toNat : Int) = 32) then some true else (ix y0_0 0).bind fun x12 =>
    some (decide ((x12.toNat : Int) = 9))).bind fun x14 =>
    if x14 then
    (chk (0 ≤ (1 : Int) ∧ (1 : Int) ≤ (y0_0.length : Int) ∧ (y0_0.length : Int) ≤ (y0_0.length : Int))).bind fun _ =>
    ref01_Trim_L0 xs0 (subL y0_0 (1 : Int) (y0_0.length : Int))
    else
    some y0_0
    else
    some y0_0
noncomputable def ref01_Trim_L2 : Nat → Str → Option (Str)
  | 0, _ => none
  | xs2 + 1, y2_0 =>
    if decide ((y2_0.length : Int) > 0) then
    (chk (InI ((y2_0.length : Int) - 1))).bind fun _ =>
    (ix y2_0 ((y2_0.length : Int) - 1)).bind fun x26 =>
    (if decide ((x26.toNat : Int) = 32) then some true else (chk (InI ((y2_0.length : Int) - 1))).bind fun _ =>
    (ix y2_0 ((y2_0.length : Int) - 1)).bind fun x33 =>
    some (decide ((x33.toNat : Int) = 9))).bind fun x35 =>
    if x35 then
    (chk (InI ((y2_0.length : Int) - 1))).bind fun _ =>
    (chk (0 ≤ (0 : Int) ∧ (0 : Int) ≤ ((y2_0.length : Int) - 1) ∧ ((y2_0.length : Int) - 1) ≤ (y2_0.length : Int))).bind fun _ =>
    ref01_Trim_L2 xs2 (subL y2_0 (0 : Int) ((y2_0.length : Int) - 1))
    else
    some y2_0
    else
    some y2_0
noncomputable def ref01_Trim (n : Nat) (s : Str) : Option (Str) :=
  (ref01_Trim_L0 n s).bind fun t0 =>
  (ref01_Trim_L2 n t0).bind fun t2 =>
  some t2
set_option maxHeartbeats 8000000 in
theorem ref01_Trim_ok {n : Nat} {s : Str} {K : Hp} {r : Str}
    (hm : ref01_Trim n s = some r)  :
    Fn Tryd.prog 54 [str s] K [] (fun v K' H' => v = str r ∧ H' = []) := by
  refine Fn.enter Tryd.func54 Tryd.call54 rfl fun F => ?_
  unfold ref01_Trim at hm
  obtain ⟨s0, hl0, hm⟩ := bnd hm
  conv => whnf
  refine code_cut (σ := (Str)) [0, 3, 4, 5, 6, 7, 8, 9, 10, 11, 12, 13, 14, 15, 16, 17] (fun t0 => [(0, str t0)]) (fun t0 => [F]) (fun zz K1 => match zz with | t0 => t0 = s0) ?_ ?_
  · refine block_go rfl ?_
    conv => whnf
    refine loop_rule (σ := Nat × Str) [0, 3, 4, 5, 6, 7, 8, 9, 10, 11, 12, 13, 14, 15, 16, 17] (fun (i0, y0_0) => [(0, str y0_0)]) (fun (i0, y0_0) => [F]) (fun zz K1 => match zz with | (i0, y0_0) => ref01_Trim_L0 i0 y0_0 = some s0) (fun zz => zz.1) (n, s) rfl ⟨rfl, trivial⟩ (ConvH.of (.cons r0 .nil)) hl0 ?_
    clear hl0
    rintro ⟨i0, y0_0⟩ Kb0 lk0 hl0 j0
    conv at hl0 => whnf
    cases i0 with
    | zero => rw [ref01_Trim_L0.eq_1] at hl0; cases hl0
    | succ i0 =>
      rw [ref01_Trim_L0.eq_2] at hl0
      conv => whnf
      refine RStep.of (len_str rfl ?_)
      conv => whnf
      refine cond_s (fun g6_1 => ?_) (fun g6_1 => ?_)
      · replace hl0 := ift g6_1 hl0
        conv => whnf
        refine cond_t g6_1 ?_
        obtain ⟨x8, l8, k8, hl0⟩ := ixb hl0
        conv => whnf
        refine idx_str rfl l8 k8 ?_
        conv => whnf
        refine cond_t g6_1 ?_
        conv => whnf
        refine eq_int ?_
        conv => whnf
        refine cond_t g6_1 ?_
        obtain ⟨x14, e14, hl0⟩ := bnd hl0
        conv => whnf
        refine cond_s (fun g10_1 => ?_) (fun g10_1 => ?_)
        · replace e14 := ift g10_1 e14
          conv => whnf
          refine cond_t g10_1 ?_
          conv => whnf
          refine cond_t g10_1 ?_
          conv => whnf
          refine cond_t g6_1 ?_
          conv => whnf
          refine cond_t g10_1 ?_
          conv => whnf
          refine cond_t g6_1 ?_
          conv => whnf
          refine cond_go rfl ?_
          conv => whnf
          refine cond_T ?_
          replace hl0 := ift (si e14).symm hl0
          conv => whnf
          refine block_go rfl ?_
          obtain ⟨h17, hl0⟩ := chkb hl0
          conv => whnf
          refine RStep.ofN (sl_str (lo := (some 1)) (hi := none) rfl h17 ?_)
          conv => whnf
          refine RoundStep.mk (i0, (subL y0_0 (1 : Int) (y0_0.length : Int))) ⟨rfl, trivial⟩ (by repeat (first | exact trivial | refine And.intro rfl ?_)) (ConvH.of (.cons r0 .nil)) lk0 (Nat.lt_succ_self _) hl0
        · replace e14 := iff_ g10_1 e14
          conv => whnf
          refine cond_f g10_1 ?_
          obtain ⟨x12, l12, k12, e14⟩ := ixb e14
          conv => whnf
          refine idx_str rfl l12 k12 ?_
          conv => whnf
          refine cond_f g10_1 ?_
          conv => whnf
          refine eq_int ?_
          conv => whnf
          refine cond_t g6_1 ?_
          conv => whnf
          refine cond_f g10_1 ?_
          conv => whnf
          refine cond_t g6_1 ?_
          conv => whnf
          refine cond_go rfl ?_
          conv => whnf
          refine cond_s (fun w15 => ?_) (fun w15 => ?_)
          · replace hl0 := ift ((si e14).symm.trans w15) hl0
            conv => whnf
            refine block_go rfl ?_
            obtain ⟨h17, hl0⟩ := chkb hl0
            conv => whnf
            refine RStep.ofN (sl_str (lo := (some 1)) (hi := none) rfl h17 ?_)
            conv => whnf
            refine RoundStep.mk (i0, (subL y0_0 (1 : Int) (y0_0.length : Int))) ⟨rfl, trivial⟩ (by repeat (first | exact trivial | refine And.intro rfl ?_)) (ConvH.of (.cons r0 .nil)) lk0 (Nat.lt_succ_self _) hl0
          · replace hl0 := iff_ ((si e14).symm.trans w15) hl0
            conv => whnf
            refine cond_T ?_
            conv => whnf
            refine MeetStep.mk (y0_0) ⟨rfl, trivial⟩ (by repeat (first | exact trivial | refine And.intro rfl ?_)) (ConvH.of (.cons r0 .nil)) lk0 (si hl0)
      · replace hl0 := iff_ g6_1 hl0
        conv => whnf
        refine cond_f g6_1 ?_
        conv => whnf
        refine cond_f g6_1 ?_
        conv => whnf
        refine cond_f g6_1 ?_
        conv => whnf
        refine cond_f g6_1 ?_
        conv => whnf
        refine cond_f g6_1 ?_
        conv => whnf
        refine cond_go rfl ?_
        conv => whnf
        refine cond_F ?_
        conv => whnf
        refine cond_T ?_
        conv => whnf
        refine MeetStep.mk (y0_0) ⟨rfl, trivial⟩ (by repeat (first | exact trivial | refine And.intro rfl ?_)) (ConvH.of (.cons r0 .nil)) lk0 (si hl0)
  · rintro t0 Kt0 lt0 rfl j0
    obtain ⟨s2, hl2, hm⟩ := bnd hm
    conv => whnf
    refine code_cut (σ := (Str)) [0, 18, 19, 20, 21, 22, 23, 24, 25, 26, 27, 28, 29, 30, 31, 32, 33, 34, 35, 36, 37, 38, 39, 40, 41] (fun t2 => [(0, str t2)]) (fun t2 => [F]) (fun zz K1 => match zz with | t2 => t2 = s2) ?_ ?_
    · refine block_go rfl ?_
      conv => whnf
      refine loop_rule (σ := Nat × Str) [0, 18, 19, 20, 21, 22, 23, 24, 25, 26, 27, 28, 29, 30, 31, 32, 33, 34, 35, 36, 37, 38, 39, 40, 41] (fun (i2, y2_0) => [(0, str y2_0)]) (fun (i2, y2_0) => [F]) (fun zz K1 => match zz with | (i2, y2_0) => ref01_Trim_L2 i2 y2_0 = some s2) (fun zz => zz.1) (n, t0) rfl ⟨rfl, trivial⟩ (ConvH.of (.cons r0 .nil)) hl2 ?_
      clear hl2
      rintro ⟨i2, y2_0⟩ Kb2 lk2 hl2 j2
      conv at hl2 => whnf
      cases i2 with
      | zero => rw [ref01_Trim_L2.eq_1] at hl2; cases hl2
      | succ i2 =>
        rw [ref01_Trim_L2.eq_2] at hl2
        conv => whnf
        refine RStep.of (len_str rfl ?_)
        conv => whnf
        refine cond_s (fun g21_3 => ?_) (fun g21_3 => ?_)
        · replace hl2 := ift g21_3 hl2
          conv => whnf
          refine cond_t g21_3 ?_
          conv => whnf
          refine cond_t g21_3 ?_
          conv => whnf
          refine RStep.of (len_str rfl ?_)
          conv => whnf
          refine cond_t g21_3 ?_
          obtain ⟨h25, hl2⟩ := chkb hl2
          conv => whnf
          refine int_in h25 ?_
          conv => whnf
          refine cond_t g21_3 ?_
          obtain ⟨x26, l26, k26, hl2⟩ := ixb hl2
          conv => whnf
          refine idx_str rfl l26 k26 ?_
          conv => whnf
          refine cond_t g21_3 ?_
          conv => whnf
          refine eq_int ?_
          conv => whnf
          refine cond_t g21_3 ?_
          obtain ⟨x35, e35, hl2⟩ := bnd hl2
          conv => whnf
          refine cond_s (fun g28_3 => ?_) (fun g28_3 => ?_)
          · replace e35 := ift g28_3 e35
            conv => whnf
            refine cond_t g28_3 ?_
            conv => whnf
            refine cond_t g28_3 ?_
            conv => whnf
            refine cond_t g28_3 ?_
            conv => whnf
            refine cond_t g28_3 ?_
            conv => whnf
            refine cond_t g28_3 ?_
            conv => whnf
            refine cond_t g21_3 ?_
            conv => whnf
            refine cond_t g28_3 ?_
            conv => whnf
            refine cond_t g21_3 ?_
            conv => whnf
            refine cond_go rfl ?_
            conv => whnf
            refine cond_T ?_
            replace hl2 := ift (si e35).symm hl2
            conv => whnf
            refine block_go rfl ?_
            conv => whnf
            refine RStep.of (len_str rfl ?_)
            obtain ⟨h40, hl2⟩ := chkb hl2
            conv => whnf
            refine int_in h40 ?_
            obtain ⟨h41, hl2⟩ := chkb hl2
            conv => whnf
            refine RStep.ofN (sl_str (lo := none) (hi := (some ((y2_0.length : Int) - 1))) rfl h41 ?_)
            conv => whnf
            refine RoundStep.mk (i2, (subL y2_0 (0 : Int) ((y2_0.length : Int) - 1))) ⟨rfl, trivial⟩ (by repeat (first | exact trivial | refine And.intro rfl ?_)) (ConvH.of (.cons r0 .nil)) lk2 (Nat.lt_succ_self _) hl2
          · replace e35 := iff_ g28_3 e35
            conv => whnf
            refine cond_f g28_3 ?_
            conv => whnf
            refine cond_f g28_3 ?_
            conv => whnf
            refine RStep.of (len_str rfl ?_)
            conv => whnf
            refine cond_f g28_3 ?_
            obtain ⟨h32, e35⟩ := chkb e35
            conv => whnf
            refine int_in h32 ?_
            conv => whnf
            refine cond_f g28_3 ?_
            obtain ⟨x33, l33, k33, e35⟩ := ixb e35
            conv => whnf
            refine idx_str rfl l33 k33 ?_
            conv => whnf
            refine cond_f g28_3 ?_
            conv => whnf
            refine eq_int ?_
            conv => whnf
            refine cond_t g21_3 ?_
            conv => whnf
            refine cond_f g28_3 ?_
            conv => whnf
            refine cond_t g21_3 ?_
            conv => whnf
            refine cond_go rfl ?_
            conv => whnf
            refine cond_s (fun w36 => ?_) (fun w36 => ?_)
            · replace hl2 := ift ((si e35).symm.trans w36) hl2
              conv => whnf
              refine block_go rfl ?_
              conv => whnf
              refine RStep.of (len_str rfl ?_)
              obtain ⟨h40, hl2⟩ := chkb hl2
              conv => whnf
              refine int_in h40 ?_
              obtain ⟨h41, hl2⟩ := chkb hl2
              conv => whnf
              refine RStep.ofN (sl_str (lo := none) (hi := (some ((y2_0.length : Int) - 1))) rfl h41 ?_)
              conv => whnf
              refine RoundStep.mk (i2, (subL y2_0 (0 : Int) ((y2_0.length : Int) - 1))) ⟨rfl, trivial⟩ (by repeat (first | exact trivial | refine And.intro rfl ?_)) (ConvH.of (.cons r0 .nil)) lk2 (Nat.lt_succ_self _) hl2
            · replace hl2 := iff_ ((si e35).symm.trans w36) hl2
              conv => whnf
              refine cond_T ?_
              conv => whnf
              refine MeetStep.mk (y2_0) ⟨rfl, trivial⟩ (by repeat (first | exact trivial | refine And.intro rfl ?_)) (ConvH.of (.cons r0 .nil)) lk2 (si hl2)
        · replace hl2 := iff_ g21_3 hl2
          conv => whnf
          refine cond_f g21_3 ?_
          conv => whnf
          refine cond_f g21_3 ?_
          conv => whnf
          refine cond_f g21_3 ?_
          conv => whnf
          refine cond_f g21_3 ?_
          conv => whnf
          refine cond_f g21_3 ?_
          conv => whnf
          refine cond_f g21_3 ?_
          conv => whnf
          refine cond_f g21_3 ?_
          conv => whnf
          refine cond_f g21_3 ?_
          conv => whnf
          refine cond_go rfl ?_
          conv => whnf
          refine cond_F ?_
          conv => whnf
          refine cond_T ?_
          conv => whnf
          refine MeetStep.mk (y2_0) ⟨rfl, trivial⟩ (by repeat (first | exact trivial | refine And.intro rfl ?_)) (ConvH.of (.cons r0 .nil)) lk2 (si hl2)
    · rintro t2 Kt2 lt2 rfl j2
      obtain rfl := si hm
      conv => whnf
      refine EndStep.mk _ (lt0.trans lt2) ⟨rfl, rfl⟩ (ConvH.of (.cons r0 .nil))

noncomputable def ref01_Control_L0 : List UInt8 → Nat → Option (Fl (Bool) (Unit))
  | [], _ => some (Fl.go ())
  | e0 :: xs0, i0 =>
    (if decide ((e0.toNat : Int) < 32) then some (decide ((e0.toNat : Int) ≠ 9)) else some false).bind fun x18 =>
    (if x18 then some true else some (decide ((e0.toNat : Int) = 127))).bind fun x24 =>
    if x24 then
    some (Fl.ret true)
    else
    ref01_Control_L0 xs0 (i0 + 1)
noncomputable def ref01_Control (s : Str) : Option (Bool) :=
  (chk (s.length ≤ szMax)).bind fun _ =>
  (ref01_Control_L0 s 0).bind fun s0 => s0.el some fun t0 =>
  some false
set_option maxHeartbeats 8000000 in
theorem ref01_Control_ok {s : Str} {K : Hp} {r : Bool}
    (hm : ref01_Control s = some r)  :
    Fn Tryd.prog 55 [str s] K [] (fun v K' H' => v = .bool r ∧ H' = []) := by
  refine Fn.enter Tryd.func55 Tryd.call55 rfl fun F => ?_
  unfold ref01_Control at hm
  conv => whnf
  refine RStep.of (len_str rfl ?_)
  obtain ⟨hk0, hm⟩ := chkb hm
  obtain ⟨s0, hl0, hm⟩ := bnd hm
  conv => whnf
  refine code_cut (σ := (Unit)) [2, 3, 6, 7, 8, 9, 10, 11, 12, 13, 14, 15, 16, 17, 18, 19, 20, 21, 22, 23, 24, 25] (fun t0 => []) (fun t0 => [F]) (fun zz K1 => match zz with | t0 => s0 = Fl.go t0) ?_ ?_
  · refine block_go rfl ?_
    conv => whnf
    refine loop_rule (σ := Nat) [2, 3, 6, 7, 8, 9, 10, 11, 12, 13, 14, 15, 16, 17, 18, 19, 20, 21, 22, 23, 24, 25] (fun i0 => [(6, .int .i64 (i0 : Int))]) (fun i0 => [F]) (fun zz K1 => match zz with | i0 => ref01_Control_L0 (s.drop i0) i0 = some s0) (fun zz => s.length - zz) (0) rfl ⟨rfl, trivial⟩ (ConvH.of (.cons r0 .nil)) hl0 ?_
    clear hl0
    rintro i0 Kb0 lk0 hl0 j0
    conv at hl0 => whnf
    conv => whnf
    refine cond_go rfl ?_
    conv => whnf
    refine cond_s (fun w0 => ?_) (fun w0 => ?_)
    · obtain ⟨e0, hx0, hd0⟩ := ltx w0
      rw [hd0, ref01_Control_L0.eq_2] at hl0
      conv => whnf
      refine block_go rfl ?_
      conv => whnf
      refine idx_str rfl (nn _) hx0 ?_
      obtain ⟨x18, e18, hl0⟩ := bnd hl0
      conv => whnf
      refine cond_s (fun g13_4 => ?_) (fun g13_4 => ?_)
      · replace e18 := ift g13_4 e18
        conv => whnf
        refine cond_t g13_4 ?_
        conv => whnf
        refine cond_t g13_4 ?_
        conv => whnf
        refine idx_str rfl (nn _) hx0 ?_
        conv => whnf
        refine cond_t g13_4 ?_
        conv => whnf
        refine neq_int ?_
        conv => whnf
        refine cond_t g13_4 ?_
        obtain ⟨x24, e24, hl0⟩ := bnd hl0
        conv => whnf
        refine cond_s (fun g19_4 => ?_) (fun g19_4 => ?_)
        · replace e24 := ift ((si e18).symm.trans g19_4) e24
          conv => whnf
          refine cond_t g19_4 ?_
          conv => whnf
          refine cond_t g19_4 ?_
          conv => whnf
          refine cond_t g19_4 ?_
          conv => whnf
          refine cond_t g19_4 ?_
          conv => whnf
          refine cond_go rfl ?_
          conv => whnf
          refine cond_T ?_
          replace hl0 := ift (si e24).symm hl0
          obtain rfl := si hl0
          replace hm := elr hm
          obtain rfl := si hm
          conv => whnf
          refine EndStep.mk _ lk0 ⟨rfl, rfl⟩ (ConvH.of (.cons r0 .nil))
        · replace e24 := iff_ ((si e18).symm.trans g19_4) e24
          conv => whnf
          refine cond_f g19_4 ?_
          conv => whnf
          refine cond_f g19_4 ?_
          conv => whnf
          refine idx_str rfl (nn _) hx0 ?_
          conv => whnf
          refine cond_f g19_4 ?_
          conv => whnf
          refine eq_int ?_
          conv => whnf
          refine cond_f g19_4 ?_
          conv => whnf
          refine cond_go rfl ?_
          conv => whnf
          refine cond_s (fun w24 => ?_) (fun w24 => ?_)
          · replace hl0 := ift ((si e24).symm.trans w24) hl0
            obtain rfl := si hl0
            replace hm := elr hm
            obtain rfl := si hm
            conv => whnf
            refine EndStep.mk _ lk0 ⟨rfl, rfl⟩ (ConvH.of (.cons r0 .nil))
          · replace hl0 := iff_ ((si e24).symm.trans w24) hl0
            conv => whnf
            refine int_in (cntz hx0 hk0) ?_
            conv => whnf
            refine RoundStep.mk (i0 + 1) ⟨rfl, trivial⟩ (by repeat (first | exact trivial | refine And.intro rfl ?_)) (ConvH.of (.cons r0 .nil)) lk0 (ltm hx0) hl0
      · replace e18 := iff_ g13_4 e18
        conv => whnf
        refine cond_f g13_4 ?_
        conv => whnf
        refine cond_f g13_4 ?_
        conv => whnf
        refine cond_f g13_4 ?_
        conv => whnf
        refine cond_f g13_4 ?_
        obtain ⟨x24, e24, hl0⟩ := bnd hl0
        replace e24 := iff_ (si e18).symm e24
        conv => whnf
        refine cond_F ?_
        conv => whnf
        refine cond_F ?_
        conv => whnf
        refine cond_F ?_
        conv => whnf
        refine idx_str rfl (nn _) hx0 ?_
        conv => whnf
        refine cond_F ?_
        conv => whnf
        refine eq_int ?_
        conv => whnf
        refine cond_F ?_
        conv => whnf
        refine cond_go rfl ?_
        conv => whnf
        refine cond_s (fun w24 => ?_) (fun w24 => ?_)
        · replace hl0 := ift ((si e24).symm.trans w24) hl0
          obtain rfl := si hl0
          replace hm := elr hm
          obtain rfl := si hm
          conv => whnf
          refine EndStep.mk _ lk0 ⟨rfl, rfl⟩ (ConvH.of (.cons r0 .nil))
        · replace hl0 := iff_ ((si e24).symm.trans w24) hl0
          conv => whnf
          refine int_in (cntz hx0 hk0) ?_
          conv => whnf
          refine RoundStep.mk (i0 + 1) ⟨rfl, trivial⟩ (by repeat (first | exact trivial | refine And.intro rfl ?_)) (ConvH.of (.cons r0 .nil)) lk0 (ltm hx0) hl0
    · rw [lty w0, ref01_Control_L0.eq_1] at hl0
      conv => whnf
      refine cond_T ?_
      conv => whnf
      refine MeetStep.mk (()) trivial (by repeat (first | exact trivial | refine And.intro rfl ?_)) (ConvH.of (.cons r0 .nil)) lk0 (si hl0).symm
  · rintro t0 Kt0 lt0 rfl j0
    replace hm := elg hm
    obtain rfl := si hm
    conv => whnf
    refine EndStep.mk _ lt0 ⟨rfl, rfl⟩ (ConvH.of (.cons r0 .nil))

noncomputable def ref01_Parts_L0 (s : Str) (byZ : UInt8) (n : Nat) : Nat → (List Str) → Int → Bool → Int → Option (Fl ((List Str) × Bool) ((List Str) × Int × Bool × Int))
  | 0, _, _, _, _ => none
  | xs0 + 1, y0_0, y0_1, y0_2, y0_3 =>
    if decide (y0_3 < (s.length : Int)) then
    (if y0_2 then (ix s y0_3).bind fun x19 =>
    some (decide ((x19.toNat : Int) = 92)) else some false).bind fun x21 =>
    if x21 then
    (chk (InI (y0_3 + 1))).bind fun _ =>
    if decide ((y0_3 + 1) = (s.length : Int)) then
    some (Fl.ret ([], false))
    else
    (chk (InI ((y0_3 + 1) + 1))).bind fun _ =>
    ref01_Parts_L0 s byZ n xs0 y0_0 y0_1 y0_2 ((y0_3 + 1) + 1)
    else
    (ix s y0_3).bind fun x31 =>
    if decide ((x31.toNat : Int) = 34) then
    (chk (InI (y0_3 + 1))).bind fun _ =>
    ref01_Parts_L0 s byZ n xs0 y0_0 y0_1 (!y0_2) (y0_3 + 1)
    else
    (if (!y0_2) then (ix s y0_3).bind fun x41 =>
    some (decide ((x41.toNat : Int) = (byZ.toNat : Int))) else some false).bind fun x44 =>
    if x44 then
    (chk (0 ≤ y0_1 ∧ y0_1 ≤ y0_3 ∧ y0_3 ≤ (s.length : Int))).bind fun _ =>
    (ref01_Trim n (subL s y0_1 y0_3)).bind fun x50 =>
    (chk (y0_0.length + [x50].length ≤ lim)).bind fun _ =>
    (chk (InI (y0_3 + 1))).bind fun _ =>
    (chk (InI (y0_3 + 1))).bind fun _ =>
    ref01_Parts_L0 s byZ n xs0 (y0_0 ++ [x50]) (y0_3 + 1) y0_2 (y0_3 + 1)
    else
    (chk (InI (y0_3 + 1))).bind fun _ =>
    ref01_Parts_L0 s byZ n xs0 y0_0 y0_1 y0_2 (y0_3 + 1)
    else
    some (Fl.go (y0_0, y0_1, y0_2, y0_3))
noncomputable def ref01_Parts (n : Nat) (s : Str) (byZ : UInt8) : Option ((List Str) × Bool) :=
  (ref01_Parts_L0 s byZ n n [] 0 false 0).bind fun s0 => s0.el some fun t0 =>
  (if t0.2.2.1 then some true else (ref01_Control s).bind fun x60 =>
  some x60).bind fun x61 =>
  if x61 then
  some ([], false)
  else
  (chk (0 ≤ t0.2.1 ∧ t0.2.1 ≤ (s.length : Int) ∧ (s.length : Int) ≤ (s.length : Int))).bind fun _ =>
  (ref01_Trim n (subL s t0.2.1 (s.length : Int))).bind fun x66 =>
  (chk (t0.1.length + [x66].length ≤ lim)).bind fun _ =>
  some ((t0.1 ++ [x66]), true)
set_option maxHeartbeats 8000000 in
theorem ref01_Parts_ok {n : Nat} {s : Str} {byZ : UInt8} {K : Hp} {r : (List Str) × Bool}
    (hm : ref01_Parts n s byZ = some r)  :
    Fn Tryd.prog 34 [str s, .int .u8 (byZ.toNat : Int)] K [] (fun v K' H' => ∃ ar_0 : Option Addr, ∃ cr_0 : Nat, v = .tuple #[.slice ar_0 r.1.length cr_0, .bool r.2] ∧ (0 < r.1.length → Has ar_0) ∧ H' = [OwnL eS ar_0 9 1 cr_0 r.1]) := by
  refine Fn.enter Tryd.func34 Tryd.call34 rfl fun F => ?_
  unfold ref01_Parts at hm
  obtain ⟨s0, hl0, hm⟩ := bnd hm
  conv => whnf
  refine nilC eS 9 1 ?_
  refine code_cut (σ := ((List Str) × Int × Bool × Int) × Option Addr × Nat) [4, 5, 6, 7, 8, 9, 10, 11, 12, 13, 14, 15, 16, 17, 18, 19, 20, 21, 22, 23, 24, 25, 26, 27, 28, 29, 30, 31, 32, 33, 34, 35, 36, 37, 38, 39, 40, 41, 42, 43, 44, 45, 46, 47, 48, 49, 50, 51, 52, 53, 54, 55, 56] (fun (t0, t0_a0, t0_c0) => [(6, .slice t0_a0 t0.1.length t0_c0), (7, .int .i64 t0.2.1), (8, .bool t0.2.2.1), (9, .int .i64 t0.2.2.2)]) (fun (t0, t0_a0, t0_c0) => [OwnL eS t0_a0 9 1 t0_c0 t0.1, F]) (fun zz K1 => match zz with | (t0, t0_a0, t0_c0) => (0 < t0.1.length → Has t0_a0) ∧ s0 = Fl.go t0) ?_ ?_
  · refine block_go rfl ?_
    conv => whnf
    refine loop_rule (σ := Nat × (List Str) × Int × Bool × Int × Option Addr × Nat) [4, 5, 6, 7, 8, 9, 10, 11, 12, 13, 14, 15, 16, 17, 18, 19, 20, 21, 22, 23, 24, 25, 26, 27, 28, 29, 30, 31, 32, 33, 34, 35, 36, 37, 38, 39, 40, 41, 42, 43, 44, 45, 46, 47, 48, 49, 50, 51, 52, 53, 54, 55, 56] (fun (i0, y0_0, y0_1, y0_2, y0_3, y0_a0, y0_c0) => [(6, .slice y0_a0 y0_0.length y0_c0), (7, .int .i64 y0_1), (8, .bool y0_2), (9, .int .i64 y0_3)]) (fun (i0, y0_0, y0_1, y0_2, y0_3, y0_a0, y0_c0) => [OwnL eS y0_a0 9 1 y0_c0 y0_0, F]) (fun zz K1 => match zz with | (i0, y0_0, y0_1, y0_2, y0_3, y0_a0, y0_c0) => (0 < y0_0.length → Has y0_a0) ∧ ref01_Parts_L0 s byZ n i0 y0_0 y0_1 y0_2 y0_3 = some s0) (fun zz => zz.1) (n, [], 0, false, 0, none, 0) rfl ⟨rfl, rfl, rfl, rfl, trivial⟩ (ConvH.of (.cons r0 (.cons r0 .nil))) ⟨(fun h => by simp at h), hl0⟩ ?_
    clear hl0
    rintro ⟨i0, y0_0, y0_1, y0_2, y0_3, y0_a0, y0_c0⟩ Kb0 lk0 ⟨y0_h0, hl0⟩ j0
    cases i0 with
    | zero => rw [ref01_Parts_L0.eq_1] at hl0; cases hl0
    | succ i0 =>
      rw [ref01_Parts_L0.eq_2] at hl0
      conv => whnf
      refine RStep.of (len_str rfl ?_)
      conv => whnf
      refine cond_go rfl ?_
      conv => whnf
      refine cond_s (fun w13 => ?_) (fun w13 => ?_)
      · replace hl0 := ift w13 hl0
        conv => whnf
        refine block_go rfl ?_
        conv => whnf
        refine block_go rfl ?_
        obtain ⟨x21, e21, hl0⟩ := bnd hl0
        conv => whnf
        refine cond_s (fun g16_5 => ?_) (fun g16_5 => ?_)
        · replace e21 := ift g16_5 e21
          conv => whnf
          refine cond_t g16_5 ?_
          conv => whnf
          refine cond_t g16_5 ?_
          obtain ⟨x19, l19, k19, e21⟩ := ixb e21
          conv => whnf
          refine idx_str rfl l19 k19 ?_
          conv => whnf
          refine cond_t g16_5 ?_
          conv => whnf
          refine eq_int ?_
          conv => whnf
          refine cond_t g16_5 ?_
          conv => whnf
          refine CStep.ownLe r0 fun hc2 => ?_
          conv => whnf
          refine cond_go rfl ?_
          conv => whnf
          refine cond_s (fun w14 => ?_) (fun w14 => ?_)
          · replace hl0 := ift ((si e21).symm.trans w14) hl0
            obtain ⟨h23, hl0⟩ := chkb hl0
            conv => whnf
            refine int_in h23 ?_
            conv => whnf
            refine RStep.of (len_str rfl ?_)
            conv => whnf
            refine eq_int ?_
            conv => whnf
            refine cond_go rfl ?_
            conv => whnf
            refine cond_s (fun w27 => ?_) (fun w27 => ?_)
            · replace hl0 := ift w27 hl0
              obtain rfl := si hl0
              replace hm := elr hm
              obtain rfl := si hm
              conv => whnf
              refine nilE eS 9 1 ?_
              refine EndStep.mk _ lk0 ⟨none, 0, rfl, (fun h => by simp at h), rfl⟩ (ConvH.of (.cons r0 (.cons r1 .nil)))
            · replace hl0 := iff_ w27 hl0
              obtain ⟨h56, hl0⟩ := chkb hl0
              conv => whnf
              refine int_in h56 ?_
              conv => whnf
              refine RoundStep.mk (i0, y0_0, y0_1, y0_2, ((y0_3 + 1) + 1), y0_a0, y0_c0) ⟨rfl, rfl, rfl, rfl, trivial⟩ (by repeat (first | exact trivial | refine And.intro rfl ?_)) (ConvH.of (.cons r0 (.cons r0 .nil))) lk0 (Nat.lt_succ_self _) ⟨y0_h0, hl0⟩
          · replace hl0 := iff_ ((si e21).symm.trans w14) hl0
            obtain ⟨x31, l31, k31, hl0⟩ := ixb hl0
            conv => whnf
            refine idx_str rfl l31 k31 ?_
            conv => whnf
            refine eq_int ?_
            conv => whnf
            refine CStep.ownLe r0 fun hc5 => ?_
            conv => whnf
            refine cond_go rfl ?_
            conv => whnf
            refine cond_s (fun w28 => ?_) (fun w28 => ?_)
            · replace hl0 := ift w28 hl0
              conv => whnf
              refine un_not ?_
              obtain ⟨h56, hl0⟩ := chkb hl0
              conv => whnf
              refine int_in h56 ?_
              conv => whnf
              refine RoundStep.mk (i0, y0_0, y0_1, (!y0_2), (y0_3 + 1), y0_a0, y0_c0) ⟨rfl, rfl, rfl, rfl, trivial⟩ (by repeat (first | exact trivial | refine And.intro rfl ?_)) (ConvH.of (.cons r0 (.cons r0 .nil))) lk0 (Nat.lt_succ_self _) ⟨y0_h0, hl0⟩
            · replace hl0 := iff_ w28 hl0
              conv => whnf
              refine un_not ?_
              obtain ⟨x44, e44, hl0⟩ := bnd hl0
              conv => whnf
              refine cond_s (fun g38_11 => ?_) (fun g38_11 => ?_)
              · replace e44 := ift (not_t (ni_t g38_11)) e44
                conv => whnf
                refine cond_t g38_11 ?_
                conv => whnf
                refine cond_t g38_11 ?_
                obtain ⟨x41, l41, k41, e44⟩ := ixb e44
                conv => whnf
                refine idx_str rfl l41 k41 ?_
                conv => whnf
                refine cond_t g38_11 ?_
                conv => whnf
                refine cond_t g38_11 ?_
                conv => whnf
                refine eq_int ?_
                conv => whnf
                refine cond_t g38_11 ?_
                conv => whnf
                refine CStep.ownLe r0 fun hc7 => ?_
                conv => whnf
                refine cond_go rfl ?_
                conv => whnf
                refine cond_s (fun w35 => ?_) (fun w35 => ?_)
                · replace hl0 := ift ((si e44).symm.trans w35) hl0
                  obtain ⟨h49, hl0⟩ := chkb hl0
                  conv => whnf
                  refine RStep.ofN (sl_str (lo := (some y0_1)) (hi := (some y0_3)) rfl h49 ?_)
                  obtain ⟨x50, q50, hl0⟩ := bnd hl0
                  conv => whnf
                  refine call_fn (ref01_Trim_ok (s := (subL s y0_1 y0_3)) q50) .nil ?_
                  rintro _ K50 _ l50 ⟨rfl, rfl⟩
                  conv => whnf
                  refine bsO (len := 1) (enc := eS) (l := [x50]) (cl := [str x50]) elT25 rfl rfl (fun _ _ => rfl) rfl rfl rfl ?_ fun b51 => ?_
                  · conv => whnf
                    refine cond_T ?_
                    conv => whnf
                    first | done | rfl
                  obtain ⟨h52, hl0⟩ := chkb hl0
                  conv => whnf
                  refine apE rfl r1 elT25 (src_own' rfl r0 rfl (fun _ => rfl) (fun _ => rfl)) h52 ?_
                  intro a52 c52 o52
                  obtain ⟨h54, hl0⟩ := chkb hl0
                  conv => whnf
                  refine int_in h54 ?_
                  obtain ⟨h56, hl0⟩ := chkb hl0
                  conv => whnf
                  refine int_in h56 ?_
                  conv => whnf
                  refine RoundStep.mk (i0, (y0_0 ++ [x50]), (y0_3 + 1), y0_2, (y0_3 + 1), a52, c52) ⟨rfl, rfl, rfl, rfl, trivial⟩ (by repeat (first | exact trivial | refine And.intro rfl ?_)) (ConvH.of (.cons r0 (.cons r1 .nil))) (lk0.trans l50) (Nat.lt_succ_self _) ⟨o52, hl0⟩
                · replace hl0 := iff_ ((si e44).symm.trans w35) hl0
                  obtain ⟨h56, hl0⟩ := chkb hl0
                  conv => whnf
                  refine int_in h56 ?_
                  conv => whnf
                  refine RoundStep.mk (i0, y0_0, y0_1, y0_2, (y0_3 + 1), y0_a0, y0_c0) ⟨rfl, rfl, rfl, rfl, trivial⟩ (by repeat (first | exact trivial | refine And.intro rfl ?_)) (ConvH.of (.cons r0 (.cons r0 .nil))) lk0 (Nat.lt_succ_self _) ⟨y0_h0, hl0⟩
              · replace e44 := iff_ (not_f (ni_f g38_11)) e44
                conv => whnf
                refine cond_f g38_11 ?_
                conv => whnf
                refine cond_f g38_11 ?_
                conv => whnf
                refine cond_f g38_11 ?_
                conv => whnf
                refine cond_f g38_11 ?_
                conv => whnf
                refine cond_f g38_11 ?_
                conv => whnf
                refine CStep.ownLe r0 fun hc9 => ?_
                conv => whnf
                refine cond_go rfl ?_
                conv => whnf
                refine cond_F ?_
                replace hl0 := iff_ (si e44).symm hl0
                obtain ⟨h56, hl0⟩ := chkb hl0
                conv => whnf
                refine int_in h56 ?_
                conv => whnf
                refine RoundStep.mk (i0, y0_0, y0_1, y0_2, (y0_3 + 1), y0_a0, y0_c0) ⟨rfl, rfl, rfl, rfl, trivial⟩ (by repeat (first | exact trivial | refine And.intro rfl ?_)) (ConvH.of (.cons r0 (.cons r0 .nil))) lk0 (Nat.lt_succ_self _) ⟨y0_h0, hl0⟩
        · replace e21 := iff_ g16_5 e21
          conv => whnf
          refine cond_f g16_5 ?_
          conv => whnf
          refine cond_f g16_5 ?_
          conv => whnf
          refine cond_f g16_5 ?_
          conv => whnf
          refine cond_f g16_5 ?_
          conv => whnf
          refine CStep.ownLe r0 fun hc10 => ?_
          conv => whnf
          refine cond_go rfl ?_
          conv => whnf
          refine cond_F ?_
          replace hl0 := iff_ (si e21).symm hl0
          obtain ⟨x31, l31, k31, hl0⟩ := ixb hl0
          conv => whnf
          refine idx_str rfl l31 k31 ?_
          conv => whnf
          refine eq_int ?_
          conv => whnf
          refine CStep.ownLe r0 fun hc11 => ?_
          conv => whnf
          refine cond_go rfl ?_
          conv => whnf
          refine cond_s (fun w28 => ?_) (fun w28 => ?_)
          · replace hl0 := ift w28 hl0
            conv => whnf
            refine un_not ?_
            obtain ⟨h56, hl0⟩ := chkb hl0
            conv => whnf
            refine int_in h56 ?_
            conv => whnf
            refine RoundStep.mk (i0, y0_0, y0_1, (!y0_2), (y0_3 + 1), y0_a0, y0_c0) ⟨rfl, rfl, rfl, rfl, trivial⟩ (by repeat (first | exact trivial | refine And.intro rfl ?_)) (ConvH.of (.cons r0 (.cons r0 .nil))) lk0 (Nat.lt_succ_self _) ⟨y0_h0, hl0⟩
          · replace hl0 := iff_ w28 hl0
            conv => whnf
            refine un_not ?_
            obtain ⟨x44, e44, hl0⟩ := bnd hl0
            conv => whnf
            refine cond_s (fun g38_11 => ?_) (fun g38_11 => ?_)
            · replace e44 := ift (not_t (ni_t g38_11)) e44
              conv => whnf
              refine cond_t g38_11 ?_
              conv => whnf
              refine cond_t g38_11 ?_
              obtain ⟨x41, l41, k41, e44⟩ := ixb e44
              conv => whnf
              refine idx_str rfl l41 k41 ?_
              conv => whnf
              refine cond_t g38_11 ?_
              conv => whnf
              refine cond_t g38_11 ?_
              conv => whnf
              refine eq_int ?_
              conv => whnf
              refine cond_t g38_11 ?_
              conv => whnf
              refine CStep.ownLe r0 fun hc13 => ?_
              conv => whnf
              refine cond_go rfl ?_
              conv => whnf
              refine cond_s (fun w35 => ?_) (fun w35 => ?_)
              · replace hl0 := ift ((si e44).symm.trans w35) hl0
                obtain ⟨h49, hl0⟩ := chkb hl0
                conv => whnf
                refine RStep.ofN (sl_str (lo := (some y0_1)) (hi := (some y0_3)) rfl h49 ?_)
                obtain ⟨x50, q50, hl0⟩ := bnd hl0
                conv => whnf
                refine call_fn (ref01_Trim_ok (s := (subL s y0_1 y0_3)) q50) .nil ?_
                rintro _ K50 _ l50 ⟨rfl, rfl⟩
                conv => whnf
                refine bsO (len := 1) (enc := eS) (l := [x50]) (cl := [str x50]) elT25 rfl rfl (fun _ _ => rfl) rfl rfl rfl ?_ fun b51 => ?_
                · conv => whnf
                  refine cond_T ?_
                  conv => whnf
                  first | done | rfl
                obtain ⟨h52, hl0⟩ := chkb hl0
                conv => whnf
                refine apE rfl r1 elT25 (src_own' rfl r0 rfl (fun _ => rfl) (fun _ => rfl)) h52 ?_
                intro a52 c52 o52
                obtain ⟨h54, hl0⟩ := chkb hl0
                conv => whnf
                refine int_in h54 ?_
                obtain ⟨h56, hl0⟩ := chkb hl0
                conv => whnf
                refine int_in h56 ?_
                conv => whnf
                refine RoundStep.mk (i0, (y0_0 ++ [x50]), (y0_3 + 1), y0_2, (y0_3 + 1), a52, c52) ⟨rfl, rfl, rfl, rfl, trivial⟩ (by repeat (first | exact trivial | refine And.intro rfl ?_)) (ConvH.of (.cons r0 (.cons r1 .nil))) (lk0.trans l50) (Nat.lt_succ_self _) ⟨o52, hl0⟩
              · replace hl0 := iff_ ((si e44).symm.trans w35) hl0
                obtain ⟨h56, hl0⟩ := chkb hl0
                conv => whnf
                refine int_in h56 ?_
                conv => whnf
                refine RoundStep.mk (i0, y0_0, y0_1, y0_2, (y0_3 + 1), y0_a0, y0_c0) ⟨rfl, rfl, rfl, rfl, trivial⟩ (by repeat (first | exact trivial | refine And.intro rfl ?_)) (ConvH.of (.cons r0 (.cons r0 .nil))) lk0 (Nat.lt_succ_self _) ⟨y0_h0, hl0⟩
            · replace e44 := iff_ (not_f (ni_f g38_11)) e44
              conv => whnf
              refine cond_f g38_11 ?_
              conv => whnf
              refine cond_f g38_11 ?_
              conv => whnf
              refine cond_f g38_11 ?_
              conv => whnf
              refine cond_f g38_11 ?_
              conv => whnf
              refine cond_f g38_11 ?_
              conv => whnf
              refine CStep.ownLe r0 fun hc15 => ?_
              conv => whnf
              refine cond_go rfl ?_
              conv => whnf
              refine cond_F ?_
              replace hl0 := iff_ (si e44).symm hl0
              obtain ⟨h56, hl0⟩ := chkb hl0
              conv => whnf
              refine int_in h56 ?_
              conv => whnf
              refine RoundStep.mk (i0, y0_0, y0_1, y0_2, (y0_3 + 1), y0_a0, y0_c0) ⟨rfl, rfl, rfl, rfl, trivial⟩ (by repeat (first | exact trivial | refine And.intro rfl ?_)) (ConvH.of (.cons r0 (.cons r0 .nil))) lk0 (Nat.lt_succ_self _) ⟨y0_h0, hl0⟩
      · replace hl0 := iff_ w13 hl0
        conv => whnf
        refine cond_T ?_
        conv => whnf
        refine MeetStep.mk ((y0_0, y0_1, y0_2, y0_3), y0_a0, y0_c0) ⟨rfl, rfl, rfl, rfl, trivial⟩ (by repeat (first | exact trivial | refine And.intro rfl ?_)) (ConvH.of (.cons r0 (.cons r0 .nil))) lk0 ⟨y0_h0, (si hl0).symm⟩
  · rintro ⟨t0, t0_a0, t0_c0⟩ Kt0 lt0 ⟨t0_h0, rfl⟩ j0
    replace hm := elg hm
    obtain ⟨x61, e61, hm⟩ := bnd hm
    conv => whnf
    refine cond_s (fun g58_15 => ?_) (fun g58_15 => ?_)
    · replace e61 := ift g58_15 e61
      conv => whnf
      refine cond_t g58_15 ?_
      conv => whnf
      refine cond_t g58_15 ?_
      conv => whnf
      refine cond_go rfl ?_
      conv => whnf
      refine cond_T ?_
      replace hm := ift (si e61).symm hm
      obtain rfl := si hm
      conv => whnf
      refine nilE eS 9 1 ?_
      refine EndStep.mk _ lt0 ⟨none, 0, rfl, (fun h => by simp at h), rfl⟩ (ConvH.of (.cons r0 (.cons r1 .nil)))
    · replace e61 := iff_ g58_15 e61
      conv => whnf
      refine cond_f g58_15 ?_
      obtain ⟨x60, q60, e61⟩ := bnd e61
      conv => whnf
      refine call_fn (ref01_Control_ok (s := s) q60) .nil ?_
      rintro _ K60 _ l60 ⟨rfl, rfl⟩
      conv => whnf
      refine cond_f g58_15 ?_
      conv => whnf
      refine cond_go rfl ?_
      conv => whnf
      refine cond_s (fun w61 => ?_) (fun w61 => ?_)
      · replace hm := ift ((si e61).symm.trans w61) hm
        obtain rfl := si hm
        conv => whnf
        refine nilE eS 9 1 ?_
        refine EndStep.mk _ (lt0.trans l60) ⟨none, 0, rfl, (fun h => by simp at h), rfl⟩ (ConvH.of (.cons r0 (.cons r1 .nil)))
      · replace hm := iff_ ((si e61).symm.trans w61) hm
        obtain ⟨h65, hm⟩ := chkb hm
        conv => whnf
        refine RStep.ofN (sl_str (lo := (some t0.2.1)) (hi := none) rfl h65 ?_)
        obtain ⟨x66, q66, hm⟩ := bnd hm
        conv => whnf
        refine call_fn (ref01_Trim_ok (s := (subL s t0.2.1 (s.length : Int))) q66) .nil ?_
        rintro _ K66 _ l66 ⟨rfl, rfl⟩
        conv => whnf
        refine bsO (len := 1) (enc := eS) (l := [x66]) (cl := [str x66]) elT25 rfl rfl (fun _ _ => rfl) rfl rfl rfl ?_ fun b67 => ?_
        · conv => whnf
          refine cond_T ?_
          conv => whnf
          first | done | rfl
        obtain ⟨h68, hm⟩ := chkb hm
        conv => whnf
        refine apE rfl r1 elT25 (src_own' rfl r0 rfl (fun _ => rfl) (fun _ => rfl)) h68 ?_
        intro a68 c68 o68
        obtain rfl := si hm
        conv => whnf
        refine EndStep.mk _ ((lt0.trans l60).trans l66) ⟨a68, c68, rfl, o68, rfl⟩ (ConvH.of (.cons r0 (.cons r1 .nil)))

noncomputable def ref01_List_L0 : List Str → Nat → (List Str) → Option ((List Str))
  | [], _, y0_0 => some y0_0
  | e0 :: xs0, i0, y0_0 =>
    if decide (e0 ≠ ([] : Str)) then
    (chk (y0_0.length + [e0].length ≤ lim)).bind fun _ =>
    ref01_List_L0 xs0 (i0 + 1) (y0_0 ++ [e0])
    else
    ref01_List_L0 xs0 (i0 + 1) y0_0
noncomputable def ref01_List (n : Nat) (s : Str) : Option ((List Str) × Bool) :=
  (ref01_Parts n s (44 : UInt8)).bind fun x10 =>
  (chk (x10.1.length ≤ szMax)).bind fun _ =>
  (ref01_List_L0 x10.1 0 []).bind fun t0 =>
  some (t0, x10.2)
set_option maxHeartbeats 8000000 in
theorem ref01_List_ok {n : Nat} {s : Str} {K : Hp} {r : (List Str) × Bool}
    (hm : ref01_List n s = some r)  :
    Fn Tryd.prog 21 [str s] K [] (fun v K' H' => ∃ ar_0 : Option Addr, ∃ cr_0 : Nat, v = .tuple #[.slice ar_0 r.1.length cr_0, .bool r.2] ∧ (0 < r.1.length → Has ar_0) ∧ H' = [OwnL eS ar_0 9 1 cr_0 r.1]) := by
  refine Fn.enter Tryd.func21 Tryd.call21 rfl fun F => ?_
  unfold ref01_List at hm
  obtain ⟨x10, q10, hm⟩ := bnd hm
  conv => whnf
  refine call_fn (ref01_Parts_ok (s := s) (byZ := (44 : UInt8)) q10) .nil ?_
  rintro _ K10 _ l10 ⟨a10_0, c10_0, rfl, h10_0, rfl⟩
  conv => whnf
  refine RStep.of (len_slice rfl ?_)
  obtain ⟨hk0, hm⟩ := chkb hm
  obtain ⟨s0, hl0, hm⟩ := bnd hm
  conv => whnf
  refine nilC eS 9 1 ?_
  refine code_cut (σ := ((List Str)) × Option Addr × Nat) [6, 7, 15, 16, 17, 18, 19, 20, 21, 22, 23, 24, 25, 26, 27, 28, 29, 30] (fun (t0, t0_a0, t0_c0) => [(6, .slice t0_a0 t0.length t0_c0)]) (fun (t0, t0_a0, t0_c0) => [OwnL eS t0_a0 9 1 t0_c0 t0, OwnL eS a10_0 9 1 c10_0 x10.1, F]) (fun zz K1 => match zz with | (t0, t0_a0, t0_c0) => (0 < t0.length → Has t0_a0) ∧ t0 = s0) ?_ ?_
  · refine block_go rfl ?_
    conv => whnf
    refine loop_rule (σ := Nat × (List Str) × Option Addr × Nat) [6, 7, 15, 16, 17, 18, 19, 20, 21, 22, 23, 24, 25, 26, 27, 28, 29, 30] (fun (i0, y0_0, y0_a0, y0_c0) => [(15, .int .i64 (i0 : Int)), (6, .slice y0_a0 y0_0.length y0_c0)]) (fun (i0, y0_0, y0_a0, y0_c0) => [OwnL eS y0_a0 9 1 y0_c0 y0_0, OwnL eS a10_0 9 1 c10_0 x10.1, F]) (fun zz K1 => match zz with | (i0, y0_0, y0_a0, y0_c0) => (0 < y0_0.length → Has y0_a0) ∧ ref01_List_L0 (x10.1.drop i0) i0 y0_0 = some s0) (fun zz => x10.1.length - zz.1) (0, [], none, 0) rfl ⟨rfl, rfl, trivial⟩ (ConvH.of (.cons r0 (.cons r0 (.cons r0 .nil)))) ⟨(fun h => by simp at h), hl0⟩ ?_
    clear hl0
    rintro ⟨i0, y0_0, y0_a0, y0_c0⟩ Kb0 lk0 ⟨y0_h0, hl0⟩ j0
    conv => whnf
    refine cond_go rfl ?_
    conv => whnf
    refine cond_s (fun w0 => ?_) (fun w0 => ?_)
    · obtain ⟨e0, hx0, hd0⟩ := ltx w0
      rw [hd0, ref01_List_L0.eq_2] at hl0
      conv => whnf
      refine block_go rfl ?_
      conv => whnf
      refine RStep.ofN (index_addr rfl rfl (hasO h10_0 hx0) (nn _) (lt_ofNE rfl hx0) ?_)
      conv => whnf
      refine RStep.of (ld_own (i := i0) (o := 0) r1 rfl hx0 rfl rfl ?_)
      conv => whnf
      refine neq_str ?_
      conv => whnf
      refine cond_go rfl ?_
      conv => whnf
      refine cond_s (fun w22 => ?_) (fun w22 => ?_)
      · replace hl0 := ift w22 hl0
        conv => whnf
        refine RStep.ofN (index_addr rfl rfl (hasO h10_0 hx0) (nn _) (lt_ofNE rfl hx0) ?_)
        conv => whnf
        refine RStep.of (ld_own (i := i0) (o := 0) r1 rfl hx0 rfl rfl ?_)
        conv => whnf
        refine bsO (len := 1) (enc := eS) (l := [e0]) (cl := [str e0]) elT25 rfl rfl (fun _ _ => rfl) rfl rfl rfl ?_ fun b28 => ?_
        · conv => whnf
          refine cond_T ?_
          conv => whnf
          first | done | rfl
        obtain ⟨h29, hl0⟩ := chkb hl0
        conv => whnf
        refine apE rfl r1 elT25 (src_own' rfl r0 rfl (fun _ => rfl) (fun _ => rfl)) h29 ?_
        intro a29 c29 o29
        conv => whnf
        refine int_in (cntz hx0 hk0) ?_
        conv => whnf
        refine RoundStep.mk (i0 + 1, (y0_0 ++ [e0]), a29, c29) ⟨rfl, rfl, trivial⟩ (by repeat (first | exact trivial | refine And.intro rfl ?_)) (ConvH.of (.cons r0 (.cons r1 (.cons r1 .nil)))) lk0 (ltm hx0) ⟨o29, hl0⟩
      · replace hl0 := iff_ w22 hl0
        conv => whnf
        refine int_in (cntz hx0 hk0) ?_
        conv => whnf
        refine RoundStep.mk (i0 + 1, y0_0, y0_a0, y0_c0) ⟨rfl, rfl, trivial⟩ (by repeat (first | exact trivial | refine And.intro rfl ?_)) (ConvH.of (.cons r0 (.cons r0 (.cons r0 .nil)))) lk0 (ltm hx0) ⟨y0_h0, hl0⟩
    · rw [lty w0, ref01_List_L0.eq_1] at hl0
      conv => whnf
      refine cond_T ?_
      conv => whnf
      refine MeetStep.mk (y0_0, y0_a0, y0_c0) ⟨rfl, trivial⟩ (by repeat (first | exact trivial | refine And.intro rfl ?_)) (ConvH.of (.cons r0 (.cons r0 (.cons r0 .nil)))) lk0 ⟨y0_h0, (si hl0)⟩
  · rintro ⟨t0, t0_a0, t0_c0⟩ Kt0 lt0 ⟨t0_h0, rfl⟩ j0
    obtain rfl := si hm
    conv => whnf
    refine EndStep.mk _ (l10.trans lt0) ⟨t0_a0, t0_c0, rfl, t0_h0, rfl⟩ (ConvH.of (.cons r0 (.cons r1 .nil)))

noncomputable def ref01_tchar_L0 (c : UInt8) : List UInt8 → Nat → Option (Fl (Bool) (Unit))
  | [], _ => some (Fl.go ())
  | e0 :: xs0, i0 =>
    if decide ((e0.toNat : Int) = (c.toNat : Int)) then
    some (Fl.ret true)
    else
    ref01_tchar_L0 c xs0 (i0 + 1)
noncomputable def ref01_tchar (c : UInt8) : Option (Bool) :=
  if (decide ((c.toNat : Int) ≥ 48) && decide ((c.toNat : Int) ≤ 57)) then
  some true
  else
  if (decide ((c.toNat : Int) ≥ 97) && decide ((c.toNat : Int) ≤ 122)) then
  some true
  else
  if (decide ((c.toNat : Int) ≥ 65) && decide ((c.toNat : Int) ≤ 90)) then
  some true
  else
  (chk (([33, 35, 36, 37, 38, 39, 42, 43, 45, 46, 94, 95, 96, 124, 126] : Str).length ≤ szMax)).bind fun _ =>
  (ref01_tchar_L0 c ([33, 35, 36, 37, 38, 39, 42, 43, 45, 46, 94, 95, 96, 124, 126] : Str) 0).bind fun s0 => s0.el some fun t0 =>
  some false
set_option maxHeartbeats 8000000 in
theorem ref01_tchar_ok {c : UInt8} {K : Hp} {r : Bool}
    (hm : ref01_tchar c = some r)  :
    Fn Tryd.prog 56 [.int .u8 (c.toNat : Int)] K [] (fun v K' H' => v = .bool r ∧ H' = []) := by
  refine Fn.enter Tryd.func56 Tryd.call56 rfl fun F => ?_
  unfold ref01_tchar at hm
  conv => whnf
  refine cond_s (fun g7_1 => ?_) (fun g7_1 => ?_)
  · conv => whnf
    refine cond_t g7_1 ?_
    conv => whnf
    refine cond_t g7_1 ?_
    conv => whnf
    refine cond_s (fun g11_1 => ?_) (fun g11_1 => ?_)
    · replace hm := ift (and_t g7_1 g11_1) hm
      conv => whnf
      refine cond_t g11_1 ?_
      conv => whnf
      refine cond_t g11_1 ?_
      conv => whnf
      refine cond_t g11_1 ?_
      conv => whnf
      refine cond_t g11_1 ?_
      conv => whnf
      refine cond_T ?_
      conv => whnf
      refine cond_T ?_
      conv => whnf
      refine cond_T ?_
      conv => whnf
      refine cond_T ?_
      conv => whnf
      refine cond_T ?_
      conv => whnf
      refine cond_go rfl ?_
      conv => whnf
      refine cond_T ?_
      obtain rfl := si hm
      conv => whnf
      refine EndStep.mk _ (Hp.Le.refl _) ⟨rfl, rfl⟩ (ConvH.of (.cons r0 .nil))
    · replace hm := iff_ (and_g g7_1 g11_1) hm
      conv => whnf
      refine cond_f g11_1 ?_
      conv => whnf
      refine cond_f g11_1 ?_
      conv => whnf
      refine cond_s (fun g14_1 => ?_) (fun g14_1 => ?_)
      · conv => whnf
        refine cond_t g14_1 ?_
        conv => whnf
        refine cond_f g11_1 ?_
        conv => whnf
        refine cond_t g14_1 ?_
        conv => whnf
        refine cond_f g11_1 ?_
        conv => whnf
        refine cond_s (fun g19_1 => ?_) (fun g19_1 => ?_)
        · replace hm := ift (and_t g14_1 g19_1) hm
          conv => whnf
          refine cond_t g19_1 ?_
          conv => whnf
          refine cond_t g19_1 ?_
          conv => whnf
          refine cond_t g19_1 ?_
          conv => whnf
          refine cond_t g19_1 ?_
          conv => whnf
          refine cond_go rfl ?_
          conv => whnf
          refine cond_T ?_
          obtain rfl := si hm
          conv => whnf
          refine EndStep.mk _ (Hp.Le.refl _) ⟨rfl, rfl⟩ (ConvH.of (.cons r0 .nil))
        · replace hm := iff_ (and_g g14_1 g19_1) hm
          conv => whnf
          refine cond_f g19_1 ?_
          conv => whnf
          refine cond_f g19_1 ?_
          conv => whnf
          refine cond_s (fun g22_1 => ?_) (fun g22_1 => ?_)
          · conv => whnf
            refine cond_t g22_1 ?_
            conv => whnf
            refine cond_f g19_1 ?_
            conv => whnf
            refine cond_t g22_1 ?_
            conv => whnf
            refine cond_f g19_1 ?_
            conv => whnf
            refine cond_go rfl ?_
            conv => whnf
            refine cond_s (fun w26 => ?_) (fun w26 => ?_)
            · replace hm := ift (and_t g22_1 w26) hm
              obtain rfl := si hm
              conv => whnf
              refine EndStep.mk _ (Hp.Le.refl _) ⟨rfl, rfl⟩ (ConvH.of (.cons r0 .nil))
            · replace hm := iff_ (and_g g22_1 w26) hm
              conv => whnf
              refine RStep.of (len_str rfl ?_)
              obtain ⟨hk0, hm⟩ := chkb hm
              obtain ⟨s0, hl0, hm⟩ := bnd hm
              conv => whnf
              refine code_cut (σ := (Unit)) [2, 4, 29, 30, 31, 32, 33, 34, 35, 36, 37] (fun t0 => []) (fun t0 => [F]) (fun zz K1 => match zz with | t0 => s0 = Fl.go t0) ?_ ?_
              · refine block_go rfl ?_
                conv => whnf
                refine loop_rule (σ := Nat) [2, 4, 29, 30, 31, 32, 33, 34, 35, 36, 37] (fun i0 => [(29, .int .i64 (i0 : Int))]) (fun i0 => [F]) (fun zz K1 => match zz with | i0 => ref01_tchar_L0 c (([33, 35, 36, 37, 38, 39, 42, 43, 45, 46, 94, 95, 96, 124, 126] : Str).drop i0) i0 = some s0) (fun zz => ([33, 35, 36, 37, 38, 39, 42, 43, 45, 46, 94, 95, 96, 124, 126] : Str).length - zz) (0) rfl ⟨rfl, trivial⟩ (ConvH.of (.cons r0 .nil)) hl0 ?_
                clear hl0
                rintro i0 Kb0 lk0 hl0 j0
                conv at hl0 => whnf
                conv => whnf
                refine cond_go rfl ?_
                conv => whnf
                refine cond_s (fun w0 => ?_) (fun w0 => ?_)
                · obtain ⟨e0, hx0, hd0⟩ := ltx w0
                  rw [hd0, ref01_tchar_L0.eq_2] at hl0
                  conv => whnf
                  refine block_go rfl ?_
                  conv => whnf
                  refine idx_str rfl (nn _) hx0 ?_
                  conv => whnf
                  refine eq_int ?_
                  conv => whnf
                  refine cond_go rfl ?_
                  conv => whnf
                  refine cond_s (fun w36 => ?_) (fun w36 => ?_)
                  · replace hl0 := ift w36 hl0
                    obtain rfl := si hl0
                    replace hm := elr hm
                    obtain rfl := si hm
                    conv => whnf
                    refine EndStep.mk _ lk0 ⟨rfl, rfl⟩ (ConvH.of (.cons r0 .nil))
                  · replace hl0 := iff_ w36 hl0
                    conv => whnf
                    refine int_in (cntz hx0 hk0) ?_
                    conv => whnf
                    refine RoundStep.mk (i0 + 1) ⟨rfl, trivial⟩ (by repeat (first | exact trivial | refine And.intro rfl ?_)) (ConvH.of (.cons r0 .nil)) lk0 (ltm hx0) hl0
                · rw [lty w0, ref01_tchar_L0.eq_1] at hl0
                  conv => whnf
                  refine cond_T ?_
                  conv => whnf
                  refine MeetStep.mk (()) trivial (by repeat (first | exact trivial | refine And.intro rfl ?_)) (ConvH.of (.cons r0 .nil)) lk0 (si hl0).symm
              · rintro t0 Kt0 lt0 rfl j0
                replace hm := elg hm
                obtain rfl := si hm
                conv => whnf
                refine EndStep.mk _ lt0 ⟨rfl, rfl⟩ (ConvH.of (.cons r0 .nil))
          · conv => whnf
            refine cond_f g22_1 ?_
            conv => whnf
            refine cond_f g19_1 ?_
            conv => whnf
            refine cond_f g22_1 ?_
            conv => whnf
            refine cond_f g19_1 ?_
            conv => whnf
            refine cond_go rfl ?_
            conv => whnf
            refine cond_F ?_
            replace hm := iff_ (and_f g22_1) hm
            conv => whnf
            refine RStep.of (len_str rfl ?_)
            obtain ⟨hk0, hm⟩ := chkb hm
            obtain ⟨s0, hl0, hm⟩ := bnd hm
            conv => whnf
            refine code_cut (σ := (Unit)) [2, 4, 29, 30, 31, 32, 33, 34, 35, 36, 37] (fun t0 => []) (fun t0 => [F]) (fun zz K1 => match zz with | t0 => s0 = Fl.go t0) ?_ ?_
            · refine block_go rfl ?_
              conv => whnf
              refine loop_rule (σ := Nat) [2, 4, 29, 30, 31, 32, 33, 34, 35, 36, 37] (fun i0 => [(29, .int .i64 (i0 : Int))]) (fun i0 => [F]) (fun zz K1 => match zz with | i0 => ref01_tchar_L0 c (([33, 35, 36, 37, 38, 39, 42, 43, 45, 46, 94, 95, 96, 124, 126] : Str).drop i0) i0 = some s0) (fun zz => ([33, 35, 36, 37, 38, 39, 42, 43, 45, 46, 94, 95, 96, 124, 126] : Str).length - zz) (0) rfl ⟨rfl, trivial⟩ (ConvH.of (.cons r0 .nil)) hl0 ?_
              clear hl0
              rintro i0 Kb0 lk0 hl0 j0
              conv at hl0 => whnf
              conv => whnf
              refine cond_go rfl ?_
              conv => whnf
              refine cond_s (fun w0 => ?_) (fun w0 => ?_)
              · obtain ⟨e0, hx0, hd0⟩ := ltx w0
                rw [hd0, ref01_tchar_L0.eq_2] at hl0
                conv => whnf
                refine block_go rfl ?_
                conv => whnf
                refine idx_str rfl (nn _) hx0 ?_
                conv => whnf
                refine eq_int ?_
                conv => whnf
                refine cond_go rfl ?_
                conv => whnf
                refine cond_s (fun w36 => ?_) (fun w36 => ?_)
                · replace hl0 := ift w36 hl0
                  obtain rfl := si hl0
                  replace hm := elr hm
                  obtain rfl := si hm
                  conv => whnf
                  refine EndStep.mk _ lk0 ⟨rfl, rfl⟩ (ConvH.of (.cons r0 .nil))
                · replace hl0 := iff_ w36 hl0
                  conv => whnf
                  refine int_in (cntz hx0 hk0) ?_
                  conv => whnf
                  refine RoundStep.mk (i0 + 1) ⟨rfl, trivial⟩ (by repeat (first | exact trivial | refine And.intro rfl ?_)) (ConvH.of (.cons r0 .nil)) lk0 (ltm hx0) hl0
              · rw [lty w0, ref01_tchar_L0.eq_1] at hl0
                conv => whnf
                refine cond_T ?_
                conv => whnf
                refine MeetStep.mk (()) trivial (by repeat (first | exact trivial | refine And.intro rfl ?_)) (ConvH.of (.cons r0 .nil)) lk0 (si hl0).symm
            · rintro t0 Kt0 lt0 rfl j0
              replace hm := elg hm
              obtain rfl := si hm
              conv => whnf
              refine EndStep.mk _ lt0 ⟨rfl, rfl⟩ (ConvH.of (.cons r0 .nil))
      · conv => whnf
        refine cond_f g14_1 ?_
        conv => whnf
        refine cond_f g11_1 ?_
        conv => whnf
        refine cond_f g14_1 ?_
        conv => whnf
        refine cond_f g11_1 ?_
        replace hm := iff_ (and_f g14_1) hm
        conv => whnf
        refine cond_F ?_
        conv => whnf
        refine cond_F ?_
        conv => whnf
        refine cond_F ?_
        conv => whnf
        refine cond_s (fun g22_1 => ?_) (fun g22_1 => ?_)
        · conv => whnf
          refine cond_t g22_1 ?_
          conv => whnf
          refine cond_F ?_
          conv => whnf
          refine cond_t g22_1 ?_
          conv => whnf
          refine cond_F ?_
          conv => whnf
          refine cond_go rfl ?_
          conv => whnf
          refine cond_s (fun w26 => ?_) (fun w26 => ?_)
          · replace hm := ift (and_t g22_1 w26) hm
            obtain rfl := si hm
            conv => whnf
            refine EndStep.mk _ (Hp.Le.refl _) ⟨rfl, rfl⟩ (ConvH.of (.cons r0 .nil))
          · replace hm := iff_ (and_g g22_1 w26) hm
            conv => whnf
            refine RStep.of (len_str rfl ?_)
            obtain ⟨hk0, hm⟩ := chkb hm
            obtain ⟨s0, hl0, hm⟩ := bnd hm
            conv => whnf
            refine code_cut (σ := (Unit)) [2, 4, 29, 30, 31, 32, 33, 34, 35, 36, 37] (fun t0 => []) (fun t0 => [F]) (fun zz K1 => match zz with | t0 => s0 = Fl.go t0) ?_ ?_
            · refine block_go rfl ?_
              conv => whnf
              refine loop_rule (σ := Nat) [2, 4, 29, 30, 31, 32, 33, 34, 35, 36, 37] (fun i0 => [(29, .int .i64 (i0 : Int))]) (fun i0 => [F]) (fun zz K1 => match zz with | i0 => ref01_tchar_L0 c (([33, 35, 36, 37, 38, 39, 42, 43, 45, 46, 94, 95, 96, 124, 126] : Str).drop i0) i0 = some s0) (fun zz => ([33, 35, 36, 37, 38, 39, 42, 43, 45, 46, 94, 95, 96, 124, 126] : Str).length - zz) (0) rfl ⟨rfl, trivial⟩ (ConvH.of (.cons r0 .nil)) hl0 ?_
              clear hl0
              rintro i0 Kb0 lk0 hl0 j0
              conv at hl0 => whnf
              conv => whnf
              refine cond_go rfl ?_
              conv => whnf
              refine cond_s (fun w0 => ?_) (fun w0 => ?_)
              · obtain ⟨e0, hx0, hd0⟩ := ltx w0
                rw [hd0, ref01_tchar_L0.eq_2] at hl0
                conv => whnf
                refine block_go rfl ?_
                conv => whnf
                refine idx_str rfl (nn _) hx0 ?_
                conv => whnf
                refine eq_int ?_
                conv => whnf
                refine cond_go rfl ?_
                conv => whnf
                refine cond_s (fun w36 => ?_) (fun w36 => ?_)
                · replace hl0 := ift w36 hl0
                  obtain rfl := si hl0
                  replace hm := elr hm
                  obtain rfl := si hm
                  conv => whnf
                  refine EndStep.mk _ lk0 ⟨rfl, rfl⟩ (ConvH.of (.cons r0 .nil))
                · replace hl0 := iff_ w36 hl0
                  conv => whnf
                  refine int_in (cntz hx0 hk0) ?_
                  conv => whnf
                  refine RoundStep.mk (i0 + 1) ⟨rfl, trivial⟩ (by repeat (first | exact trivial | refine And.intro rfl ?_)) (ConvH.of (.cons r0 .nil)) lk0 (ltm hx0) hl0
              · rw [lty w0, ref01_tchar_L0.eq_1] at hl0
                conv => whnf
                refine cond_T ?_
                conv => whnf
                refine MeetStep.mk (()) trivial (by repeat (first | exact trivial | refine And.intro rfl ?_)) (ConvH.of (.cons r0 .nil)) lk0 (si hl0).symm
            · rintro t0 Kt0 lt0 rfl j0
              replace hm := elg hm
              obtain rfl := si hm
              conv => whnf
              refine EndStep.mk _ lt0 ⟨rfl, rfl⟩ (ConvH.of (.cons r0 .nil))
        · conv => whnf
          refine cond_f g22_1 ?_
          conv => whnf
          refine cond_F ?_
          conv => whnf
          refine cond_f g22_1 ?_
          conv => whnf
          refine cond_F ?_
          conv => whnf
          refine cond_go rfl ?_
          conv => whnf
          refine cond_F ?_
          replace hm := iff_ (and_f g22_1) hm
          conv => whnf
          refine RStep.of (len_str rfl ?_)
          obtain ⟨hk0, hm⟩ := chkb hm
          obtain ⟨s0, hl0, hm⟩ := bnd hm
          conv => whnf
          refine code_cut (σ := (Unit)) [2, 4, 29, 30, 31, 32, 33, 34, 35, 36, 37] (fun t0 => []) (fun t0 => [F]) (fun zz K1 => match zz with | t0 => s0 = Fl.go t0) ?_ ?_
          · refine block_go rfl ?_
            conv => whnf
            refine loop_rule (σ := Nat) [2, 4, 29, 30, 31, 32, 33, 34, 35, 36, 37] (fun i0 => [(29, .int .i64 (i0 : Int))]) (fun i0 => [F]) (fun zz K1 => match zz with | i0 => ref01_tchar_L0 c (([33, 35, 36, 37, 38, 39, 42, 43, 45, 46, 94, 95, 96, 124, 126] : Str).drop i0) i0 = some s0) (fun zz => ([33, 35, 36, 37, 38, 39, 42, 43, 45, 46, 94, 95, 96, 124, 126] : Str).length - zz) (0) rfl ⟨rfl, trivial⟩ (ConvH.of (.cons r0 .nil)) hl0 ?_
            clear hl0
            rintro i0 Kb0 lk0 hl0 j0
            conv at hl0 => whnf
            conv => whnf
            refine cond_go rfl ?_
            conv => whnf
            refine cond_s (fun w0 => ?_) (fun w0 => ?_)
            · obtain ⟨e0, hx0, hd0⟩ := ltx w0
              rw [hd0, ref01_tchar_L0.eq_2] at hl0
              conv => whnf
              refine block_go rfl ?_
              conv => whnf
              refine idx_str rfl (nn _) hx0 ?_
              conv => whnf
              refine eq_int ?_
              conv => whnf
              refine cond_go rfl ?_
              conv => whnf
              refine cond_s (fun w36 => ?_) (fun w36 => ?_)
              · replace hl0 := ift w36 hl0
                obtain rfl := si hl0
                replace hm := elr hm
                obtain rfl := si hm
                conv => whnf
                refine EndStep.mk _ lk0 ⟨rfl, rfl⟩ (ConvH.of (.cons r0 .nil))
              · replace hl0 := iff_ w36 hl0
                conv => whnf
                refine int_in (cntz hx0 hk0) ?_
                conv => whnf
                refine RoundStep.mk (i0 + 1) ⟨rfl, trivial⟩ (by repeat (first | exact trivial | refine And.intro rfl ?_)) (ConvH.of (.cons r0 .nil)) lk0 (ltm hx0) hl0
            · rw [lty w0, ref01_tchar_L0.eq_1] at hl0
              conv => whnf
              refine cond_T ?_
              conv => whnf
              refine MeetStep.mk (()) trivial (by repeat (first | exact trivial | refine And.intro rfl ?_)) (ConvH.of (.cons r0 .nil)) lk0 (si hl0).symm
          · rintro t0 Kt0 lt0 rfl j0
            replace hm := elg hm
            obtain rfl := si hm
            conv => whnf
            refine EndStep.mk _ lt0 ⟨rfl, rfl⟩ (ConvH.of (.cons r0 .nil))
  · conv => whnf
    refine cond_f g7_1 ?_
    conv => whnf
    refine cond_f g7_1 ?_
    replace hm := iff_ (and_f g7_1) hm
    conv => whnf
    refine cond_F ?_
    conv => whnf
    refine cond_F ?_
    conv => whnf
    refine cond_F ?_
    conv => whnf
    refine cond_s (fun g14_1 => ?_) (fun g14_1 => ?_)
    · conv => whnf
      refine cond_t g14_1 ?_
      conv => whnf
      refine cond_F ?_
      conv => whnf
      refine cond_t g14_1 ?_
      conv => whnf
      refine cond_F ?_
      conv => whnf
      refine cond_s (fun g19_1 => ?_) (fun g19_1 => ?_)
      · replace hm := ift (and_t g14_1 g19_1) hm
        conv => whnf
        refine cond_t g19_1 ?_
        conv => whnf
        refine cond_t g19_1 ?_
        conv => whnf
        refine cond_t g19_1 ?_
        conv => whnf
        refine cond_t g19_1 ?_
        conv => whnf
        refine cond_go rfl ?_
        conv => whnf
        refine cond_T ?_
        obtain rfl := si hm
        conv => whnf
        refine EndStep.mk _ (Hp.Le.refl _) ⟨rfl, rfl⟩ (ConvH.of (.cons r0 .nil))
      · replace hm := iff_ (and_g g14_1 g19_1) hm
        conv => whnf
        refine cond_f g19_1 ?_
        conv => whnf
        refine cond_f g19_1 ?_
        conv => whnf
        refine cond_s (fun g22_1 => ?_) (fun g22_1 => ?_)
        · conv => whnf
          refine cond_t g22_1 ?_
          conv => whnf
          refine cond_f g19_1 ?_
          conv => whnf
          refine cond_t g22_1 ?_
          conv => whnf
          refine cond_f g19_1 ?_
          conv => whnf
          refine cond_go rfl ?_
          conv => whnf
          refine cond_s (fun w26 => ?_) (fun w26 => ?_)
          · replace hm := ift (and_t g22_1 w26) hm
            obtain rfl := si hm
            conv => whnf
            refine EndStep.mk _ (Hp.Le.refl _) ⟨rfl, rfl⟩ (ConvH.of (.cons r0 .nil))
          · replace hm := iff_ (and_g g22_1 w26) hm
            conv => whnf
            refine RStep.of (len_str rfl ?_)
            obtain ⟨hk0, hm⟩ := chkb hm
            obtain ⟨s0, hl0, hm⟩ := bnd hm
            conv => whnf
            refine code_cut (σ := (Unit)) [2, 4, 29, 30, 31, 32, 33, 34, 35, 36, 37] (fun t0 => []) (fun t0 => [F]) (fun zz K1 => match zz with | t0 => s0 = Fl.go t0) ?_ ?_
            · refine block_go rfl ?_
              conv => whnf
              refine loop_rule (σ := Nat) [2, 4, 29, 30, 31, 32, 33, 34, 35, 36, 37] (fun i0 => [(29, .int .i64 (i0 : Int))]) (fun i0 => [F]) (fun zz K1 => match zz with | i0 => ref01_tchar_L0 c (([33, 35, 36, 37, 38, 39, 42, 43, 45, 46, 94, 95, 96, 124, 126] : Str).drop i0) i0 = some s0) (fun zz => ([33, 35, 36, 37, 38, 39, 42, 43, 45, 46, 94, 95, 96, 124, 126] : Str).length - zz) (0) rfl ⟨rfl, trivial⟩ (ConvH.of (.cons r0 .nil)) hl0 ?_
              clear hl0
              rintro i0 Kb0 lk0 hl0 j0
              conv at hl0 => whnf
              conv => whnf
              refine cond_go rfl ?_
              conv => whnf
              refine cond_s (fun w0 => ?_) (fun w0 => ?_)
              · obtain ⟨e0, hx0, hd0⟩ := ltx w0
                rw [hd0, ref01_tchar_L0.eq_2] at hl0
                conv => whnf
                refine block_go rfl ?_
                conv => whnf
                refine idx_str rfl (nn _) hx0 ?_
                conv => whnf
                refine eq_int ?_
                conv => whnf
                refine cond_go rfl ?_
                conv => whnf
                refine cond_s (fun w36 => ?_) (fun w36 => ?_)
                · replace hl0 := ift w36 hl0
                  obtain rfl := si hl0
                  replace hm := elr hm
                  obtain rfl := si hm
                  conv => whnf
                  refine EndStep.mk _ lk0 ⟨rfl, rfl⟩ (ConvH.of (.cons r0 .nil))
                · replace hl0 := iff_ w36 hl0
                  conv => whnf
                  refine int_in (cntz hx0 hk0) ?_
                  conv => whnf
                  refine RoundStep.mk (i0 + 1) ⟨rfl, trivial⟩ (by repeat (first | exact trivial | refine And.intro rfl ?_)) (ConvH.of (.cons r0 .nil)) lk0 (ltm hx0) hl0
              · rw [lty w0, ref01_tchar_L0.eq_1] at hl0
                conv => whnf
                refine cond_T ?_
                conv => whnf
                refine MeetStep.mk (()) trivial (by repeat (first | exact trivial | refine And.intro rfl ?_)) (ConvH.of (.cons r0 .nil)) lk0 (si hl0).symm
            · rintro t0 Kt0 lt0 rfl j0
              replace hm := elg hm
              obtain rfl := si hm
              conv => whnf
              refine EndStep.mk _ lt0 ⟨rfl, rfl⟩ (ConvH.of (.cons r0 .nil))
        · conv => whnf
          refine cond_f g22_1 ?_
          conv => whnf
          refine cond_f g19_1 ?_
          conv => whnf
          refine cond_f g22_1 ?_
          conv => whnf
          refine cond_f g19_1 ?_
          conv => whnf
          refine cond_go rfl ?_
          conv => whnf
          refine cond_F ?_
          replace hm := iff_ (and_f g22_1) hm
          conv => whnf
          refine RStep.of (len_str rfl ?_)
          obtain ⟨hk0, hm⟩ := chkb hm
          obtain ⟨s0, hl0, hm⟩ := bnd hm
          conv => whnf
          refine code_cut (σ := (Unit)) [2, 4, 29, 30, 31, 32, 33, 34, 35, 36, 37] (fun t0 => []) (fun t0 => [F]) (fun zz K1 => match zz with | t0 => s0 = Fl.go t0) ?_ ?_
          · refine block_go rfl ?_
            conv => whnf
            refine loop_rule (σ := Nat) [2, 4, 29, 30, 31, 32, 33, 34, 35, 36, 37] (fun i0 => [(29, .int .i64 (i0 : Int))]) (fun i0 => [F]) (fun zz K1 => match zz with | i0 => ref01_tchar_L0 c (([33, 35, 36, 37, 38, 39, 42, 43, 45, 46, 94, 95, 96, 124, 126] : Str).drop i0) i0 = some s0) (fun zz => ([33, 35, 36, 37, 38, 39, 42, 43, 45, 46, 94, 95, 96, 124, 126] : Str).length - zz) (0) rfl ⟨rfl, trivial⟩ (ConvH.of (.cons r0 .nil)) hl0 ?_
            clear hl0
            rintro i0 Kb0 lk0 hl0 j0
            conv at hl0 => whnf
            conv => whnf
            refine cond_go rfl ?_
            conv => whnf
            refine cond_s (fun w0 => ?_) (fun w0 => ?_)
            · obtain ⟨e0, hx0, hd0⟩ := ltx w0
              rw [hd0, ref01_tchar_L0.eq_2] at hl0
              conv => whnf
              refine block_go rfl ?_
              conv => whnf
              refine idx_str rfl (nn _) hx0 ?_
              conv => whnf
              refine eq_int ?_
              conv => whnf
              refine cond_go rfl ?_
              conv => whnf
              refine cond_s (fun w36 => ?_) (fun w36 => ?_)
              · replace hl0 := ift w36 hl0
                obtain rfl := si hl0
                replace hm := elr hm
                obtain rfl := si hm
                conv => whnf
                refine EndStep.mk _ lk0 ⟨rfl, rfl⟩ (ConvH.of (.cons r0 .nil))
              · replace hl0 := iff_ w36 hl0
                conv => whnf
                refine int_in (cntz hx0 hk0) ?_
                conv => whnf
                refine RoundStep.mk (i0 + 1) ⟨rfl, trivial⟩ (by repeat (first | exact trivial | refine And.intro rfl ?_)) (ConvH.of (.cons r0 .nil)) lk0 (ltm hx0) hl0
            · rw [lty w0, ref01_tchar_L0.eq_1] at hl0
              conv => whnf
              refine cond_T ?_
              conv => whnf
              refine MeetStep.mk (()) trivial (by repeat (first | exact trivial | refine And.intro rfl ?_)) (ConvH.of (.cons r0 .nil)) lk0 (si hl0).symm
          · rintro t0 Kt0 lt0 rfl j0
            replace hm := elg hm
            obtain rfl := si hm
            conv => whnf
            refine EndStep.mk _ lt0 ⟨rfl, rfl⟩ (ConvH.of (.cons r0 .nil))
    · conv => whnf
      refine cond_f g14_1 ?_
      conv => whnf
      refine cond_F ?_
      conv => whnf
      refine cond_f g14_1 ?_
      conv => whnf
      refine cond_F ?_
      replace hm := iff_ (and_f g14_1) hm
      conv => whnf
      refine cond_F ?_
      conv => whnf
      refine cond_F ?_
      conv => whnf
      refine cond_F ?_
      conv => whnf
      refine cond_s (fun g22_1 => ?_) (fun g22_1 => ?_)
      · conv => whnf
        refine cond_t g22_1 ?_
        conv => whnf
        refine cond_F ?_
        conv => whnf
        refine cond_t g22_1 ?_
        conv => whnf
        refine cond_F ?_
        conv => whnf
        refine cond_go rfl ?_
        conv => whnf
        refine cond_s (fun w26 => ?_) (fun w26 => ?_)
        · replace hm := ift (and_t g22_1 w26) hm
          obtain rfl := si hm
          conv => whnf
          refine EndStep.mk _ (Hp.Le.refl _) ⟨rfl, rfl⟩ (ConvH.of (.cons r0 .nil))
        · replace hm := iff_ (and_g g22_1 w26) hm
          conv => whnf
          refine RStep.of (len_str rfl ?_)
          obtain ⟨hk0, hm⟩ := chkb hm
          obtain ⟨s0, hl0, hm⟩ := bnd hm
          conv => whnf
          refine code_cut (σ := (Unit)) [2, 4, 29, 30, 31, 32, 33, 34, 35, 36, 37] (fun t0 => []) (fun t0 => [F]) (fun zz K1 => match zz with | t0 => s0 = Fl.go t0) ?_ ?_
          · refine block_go rfl ?_
            conv => whnf
            refine loop_rule (σ := Nat) [2, 4, 29, 30, 31, 32, 33, 34, 35, 36, 37] (fun i0 => [(29, .int .i64 (i0 : Int))]) (fun i0 => [F]) (fun zz K1 => match zz with | i0 => ref01_tchar_L0 c (([33, 35, 36, 37, 38, 39, 42, 43, 45, 46, 94, 95, 96, 124, 126] : Str).drop i0) i0 = some s0) (fun zz => ([33, 35, 36, 37, 38, 39, 42, 43, 45, 46, 94, 95, 96, 124, 126] : Str).length - zz) (0) rfl ⟨rfl, trivial⟩ (ConvH.of (.cons r0 .nil)) hl0 ?_
            clear hl0
            rintro i0 Kb0 lk0 hl0 j0
            conv at hl0 => whnf
            conv => whnf
            refine cond_go rfl ?_
            conv => whnf
            refine cond_s (fun w0 => ?_) (fun w0 => ?_)
            · obtain ⟨e0, hx0, hd0⟩ := ltx w0
              rw [hd0, ref01_tchar_L0.eq_2] at hl0
              conv => whnf
              refine block_go rfl ?_
              conv => whnf
              refine idx_str rfl (nn _) hx0 ?_
              conv => whnf
              refine eq_int ?_
              conv => whnf
              refine cond_go rfl ?_
              conv => whnf
              refine cond_s (fun w36 => ?_) (fun w36 => ?_)
              · replace hl0 := ift w36 hl0
                obtain rfl := si hl0
                replace hm := elr hm
                obtain rfl := si hm
                conv => whnf
                refine EndStep.mk _ lk0 ⟨rfl, rfl⟩ (ConvH.of (.cons r0 .nil))
              · replace hl0 := iff_ w36 hl0
                conv => whnf
                refine int_in (cntz hx0 hk0) ?_
                conv => whnf
                refine RoundStep.mk (i0 + 1) ⟨rfl, trivial⟩ (by repeat (first | exact trivial | refine And.intro rfl ?_)) (ConvH.of (.cons r0 .nil)) lk0 (ltm hx0) hl0
            · rw [lty w0, ref01_tchar_L0.eq_1] at hl0
              conv => whnf
              refine cond_T ?_
              conv => whnf
              refine MeetStep.mk (()) trivial (by repeat (first | exact trivial | refine And.intro rfl ?_)) (ConvH.of (.cons r0 .nil)) lk0 (si hl0).symm
          · rintro t0 Kt0 lt0 rfl j0
            replace hm := elg hm
            obtain rfl := si hm
            conv => whnf
            refine EndStep.mk _ lt0 ⟨rfl, rfl⟩ (ConvH.of (.cons r0 .nil))
      · conv => whnf
        refine cond_f g22_1 ?_
        conv => whnf
        refine cond_F ?_
        conv => whnf
        refine cond_f g22_1 ?_
        conv => whnf
        refine cond_F ?_
        conv => whnf
        refine cond_go rfl ?_
        conv => whnf
        refine cond_F ?_
        replace hm := iff_ (and_f g22_1) hm
        conv => whnf
        refine RStep.of (len_str rfl ?_)
        obtain ⟨hk0, hm⟩ := chkb hm
        obtain ⟨s0, hl0, hm⟩ := bnd hm
        conv => whnf
        refine code_cut (σ := (Unit)) [2, 4, 29, 30, 31, 32, 33, 34, 35, 36, 37] (fun t0 => []) (fun t0 => [F]) (fun zz K1 => match zz with | t0 => s0 = Fl.go t0) ?_ ?_
        · refine block_go rfl ?_
          conv => whnf
          refine loop_rule (σ := Nat) [2, 4, 29, 30, 31, 32, 33, 34, 35, 36, 37] (fun i0 => [(29, .int .i64 (i0 : Int))]) (fun i0 => [F]) (fun zz K1 => match zz with | i0 => ref01_tchar_L0 c (([33, 35, 36, 37, 38, 39, 42, 43, 45, 46, 94, 95, 96, 124, 126] : Str).drop i0) i0 = some s0) (fun zz => ([33, 35, 36, 37, 38, 39, 42, 43, 45, 46, 94, 95, 96, 124, 126] : Str).length - zz) (0) rfl ⟨rfl, trivial⟩ (ConvH.of (.cons r0 .nil)) hl0 ?_
          clear hl0
          rintro i0 Kb0 lk0 hl0 j0
          conv at hl0 => whnf
          conv => whnf
          refine cond_go rfl ?_
          conv => whnf
          refine cond_s (fun w0 => ?_) (fun w0 => ?_)
          · obtain ⟨e0, hx0, hd0⟩ := ltx w0
            rw [hd0, ref01_tchar_L0.eq_2] at hl0
            conv => whnf
            refine block_go rfl ?_
            conv => whnf
            refine idx_str rfl (nn _) hx0 ?_
            conv => whnf
            refine eq_int ?_
            conv => whnf
            refine cond_go rfl ?_
            conv => whnf
            refine cond_s (fun w36 => ?_) (fun w36 => ?_)
            · replace hl0 := ift w36 hl0
              obtain rfl := si hl0
              replace hm := elr hm
              obtain rfl := si hm
              conv => whnf
              refine EndStep.mk _ lk0 ⟨rfl, rfl⟩ (ConvH.of (.cons r0 .nil))
            · replace hl0 := iff_ w36 hl0
              conv => whnf
              refine int_in (cntz hx0 hk0) ?_
              conv => whnf
              refine RoundStep.mk (i0 + 1) ⟨rfl, trivial⟩ (by repeat (first | exact trivial | refine And.intro rfl ?_)) (ConvH.of (.cons r0 .nil)) lk0 (ltm hx0) hl0
          · rw [lty w0, ref01_tchar_L0.eq_1] at hl0
            conv => whnf
            refine cond_T ?_
            conv => whnf
            refine MeetStep.mk (()) trivial (by repeat (first | exact trivial | refine And.intro rfl ?_)) (ConvH.of (.cons r0 .nil)) lk0 (si hl0).symm
        · rintro t0 Kt0 lt0 rfl j0
          replace hm := elg hm
          obtain rfl := si hm
          conv => whnf
          refine EndStep.mk _ lt0 ⟨rfl, rfl⟩ (ConvH.of (.cons r0 .nil))

noncomputable def ref01_Token_L0 : List UInt8 → Nat → Option (Fl (Bool) (Unit))
  | [], _ => some (Fl.go ())
  | e0 :: xs0, i0 =>
    (ref01_tchar e0).bind fun x12 =>
    if (!x12) then
    some (Fl.ret false)
    else
    ref01_Token_L0 xs0 (i0 + 1)
noncomputable def ref01_Token (s : Str) : Option (Bool) :=
  (chk (s.length ≤ szMax)).bind fun _ =>
  (ref01_Token_L0 s 0).bind fun s0 => s0.el some fun t0 =>
  some (decide ((s.length : Int) > 0))
set_option maxHeartbeats 8000000 in
theorem ref01_Token_ok {s : Str} {K : Hp} {r : Bool}
    (hm : ref01_Token s = some r)  :
    Fn Tryd.prog 35 [str s] K [] (fun v K' H' => v = .bool r ∧ H' = []) := by
  refine Fn.enter Tryd.func35 Tryd.call35 rfl fun F => ?_
  unfold ref01_Token at hm
  conv => whnf
  refine RStep.of (len_str rfl ?_)
  obtain ⟨hk0, hm⟩ := chkb hm
  obtain ⟨s0, hl0, hm⟩ := bnd hm
  conv => whnf
  refine code_cut (σ := (Unit)) [2, 3, 6, 7, 8, 9, 10, 11, 12, 13, 14] (fun t0 => []) (fun t0 => [F]) (fun zz K1 => match zz with | t0 => s0 = Fl.go t0) ?_ ?_
  · refine block_go rfl ?_
    conv => whnf
    refine loop_rule (σ := Nat) [2, 3, 6, 7, 8, 9, 10, 11, 12, 13, 14] (fun i0 => [(6, .int .i64 (i0 : Int))]) (fun i0 => [F]) (fun zz K1 => match zz with | i0 => ref01_Token_L0 (s.drop i0) i0 = some s0) (fun zz => s.length - zz) (0) rfl ⟨rfl, trivial⟩ (ConvH.of (.cons r0 .nil)) hl0 ?_
    clear hl0
    rintro i0 Kb0 lk0 hl0 j0
    conv at hl0 => whnf
    conv => whnf
    refine cond_go rfl ?_
    conv => whnf
    refine cond_s (fun w0 => ?_) (fun w0 => ?_)
    · obtain ⟨e0, hx0, hd0⟩ := ltx w0
      rw [hd0, ref01_Token_L0.eq_2] at hl0
      conv => whnf
      refine block_go rfl ?_
      conv => whnf
      refine idx_str rfl (nn _) hx0 ?_
      obtain ⟨x12, q12, hl0⟩ := bnd hl0
      conv => whnf
      refine call_fn (ref01_tchar_ok (c := e0) q12) .nil ?_
      rintro _ K12 _ l12 ⟨rfl, rfl⟩
      conv => whnf
      refine un_not ?_
      conv => whnf
      refine cond_go rfl ?_
      conv => whnf
      refine cond_s (fun w13 => ?_) (fun w13 => ?_)
      · replace hl0 := ift (not_t (ni_t w13)) hl0
        obtain rfl := si hl0
        replace hm := elr hm
        obtain rfl := si hm
        conv => whnf
        refine EndStep.mk _ (lk0.trans l12) ⟨rfl, rfl⟩ (ConvH.of (.cons r0 .nil))
      · replace hl0 := iff_ (not_f (ni_f w13)) hl0
        conv => whnf
        refine int_in (cntz hx0 hk0) ?_
        conv => whnf
        refine RoundStep.mk (i0 + 1) ⟨rfl, trivial⟩ (by repeat (first | exact trivial | refine And.intro rfl ?_)) (ConvH.of (.cons r0 .nil)) (lk0.trans l12) (ltm hx0) hl0
    · rw [lty w0, ref01_Token_L0.eq_1] at hl0
      conv => whnf
      refine cond_T ?_
      conv => whnf
      refine MeetStep.mk (()) trivial (by repeat (first | exact trivial | refine And.intro rfl ?_)) (ConvH.of (.cons r0 .nil)) lk0 (si hl0).symm
  · rintro t0 Kt0 lt0 rfl j0
    replace hm := elg hm
    conv => whnf
    refine RStep.of (len_str rfl ?_)
    obtain rfl := si hm
    conv => whnf
    refine EndStep.mk _ lt0 ⟨rfl, rfl⟩ (ConvH.of (.cons r0 .nil))

noncomputable def ref02_Name (s : Str) : Option (Str × Int) :=
  (ref01_Token s).bind fun x5 =>
  if (!x5) then
  some (([] : Str), 8)
  else
  if decide ((s.length : Int) > 64) then
  some (([] : Str), 5)
  else
  (ref01_Lower s).bind fun x11 =>
  some (x11, 0)
set_option maxHeartbeats 8000000 in
theorem ref02_Name_ok {s : Str} {K : Hp} {r : Str × Int}
    (hm : ref02_Name s = some r)  :
    Fn Tryd.prog 22 [str s] K [] (fun v K' H' => v = .tuple #[str r.1, .int .i64 r.2] ∧ H' = []) := by
  refine Fn.enter Tryd.func22 Tryd.call22 rfl fun F => ?_
  unfold ref02_Name at hm
  obtain ⟨x5, q5, hm⟩ := bnd hm
  conv => whnf
  refine call_fn (ref01_Token_ok (s := s) q5) .nil ?_
  rintro _ K5 _ l5 ⟨rfl, rfl⟩
  conv => whnf
  refine un_not ?_
  conv => whnf
  refine cond_go rfl ?_
  conv => whnf
  refine cond_s (fun w6 => ?_) (fun w6 => ?_)
  · replace hm := ift (not_t (ni_t w6)) hm
    obtain rfl := si hm
    conv => whnf
    refine EndStep.mk _ l5 ⟨rfl, rfl⟩ (ConvH.of (.cons r0 .nil))
  · replace hm := iff_ (not_f (ni_f w6)) hm
    conv => whnf
    refine RStep.of (len_str rfl ?_)
    conv => whnf
    refine cond_go rfl ?_
    conv => whnf
    refine cond_s (fun w9 => ?_) (fun w9 => ?_)
    · replace hm := ift w9 hm
      obtain rfl := si hm
      conv => whnf
      refine EndStep.mk _ l5 ⟨rfl, rfl⟩ (ConvH.of (.cons r0 .nil))
    · replace hm := iff_ w9 hm
      obtain ⟨x11, q11, hm⟩ := bnd hm
      conv => whnf
      refine call_fn (ref01_Lower_ok (s := s) q11) .nil ?_
      rintro _ K11 _ l11 ⟨rfl, rfl⟩
      obtain rfl := si hm
      conv => whnf
      refine EndStep.mk _ (l5.trans l11) ⟨rfl, rfl⟩ (ConvH.of (.cons r0 .nil))

noncomputable def ref16_Names_L4 (y2_0 : (List Str)) (x36 : Str × Int) : Nat → Int → Option (Int)
  | 0, _ => none
  | xs4 + 1, y4_0 =>
    (if decide (y4_0 < (y2_0.length : Int)) then (ix y2_0 y4_0).bind fun x52 =>
    some (Op.bytesLess x52 x36.1) else some false).bind fun x56 =>
    if x56 then
    (chk (InI (y4_0 + 1))).bind fun _ =>
    ref16_Names_L4 y2_0 x36 xs4 (y4_0 + 1)
    else
    some y4_0
noncomputable def ref16_Names_L2 (n : Nat) : List Str → Nat → (List Str) → Option (Fl ((List Str) × Bool) ((List Str)))
  | [], _, y2_0 => some (Fl.go y2_0)
  | e2 :: xs2, i2, y2_0 =>
    (ref02_Name e2).bind fun x36 =>
    if (decide (x36.2 ≠ 0) || decide (e2 = ([42] : Str))) then
    some (Fl.ret ([], true))
    else
    (ref16_Names_L4 y2_0 x36 n 0).bind fun t4 =>
    (if decide (t4 = (y2_0.length : Int)) then some true else (ix y2_0 t4).bind fun x66 =>
    some (decide (x66 ≠ x36.1))).bind fun x70 =>
    if x70 then
    (chk (0 ≤ (0 : Int) ∧ (0 : Int) ≤ t4 ∧ t4 ≤ (y2_0.length : Int))).bind fun _ =>
    (chk (0 ≤ t4 ∧ t4 ≤ (y2_0.length : Int) ∧ (y2_0.length : Int) ≤ (y2_0.length : Int))).bind fun _ =>
    (chk ([x36.1].length + (subL y2_0 t4 (y2_0.length : Int)).length ≤ lim)).bind fun _ =>
    (chk ((subL y2_0 (0 : Int) t4).length + ([x36.1] ++ (subL y2_0 t4 (y2_0.length : Int))).length ≤ lim)).bind fun _ =>
    ref16_Names_L2 n xs2 (i2 + 1) ((subL y2_0 (0 : Int) t4) ++ ([x36.1] ++ (subL y2_0 t4 (y2_0.length : Int))))
    else
    ref16_Names_L2 n xs2 (i2 + 1) y2_0
noncomputable def ref16_Names_L0 (n : Nat) : List Str → Nat → (List Str) → Option (Fl ((List Str) × Bool) ((List Str)))
  | [], _, y0_0 => some (Fl.go y0_0)
  | e0 :: xs0, i0, y0_0 =>
    (ref01_List n e0).bind fun x23 =>
    if (!x23.2) then
    some (Fl.ret ([], true))
    else
    (chk (x23.1.length ≤ szMax)).bind fun _ =>
    (ref16_Names_L2 n x23.1 0 y0_0).bind fun s2 => s2.el (fun r => some (Fl.ret r)) fun t2 =>
    ref16_Names_L0 n xs0 (i0 + 1) t2
noncomputable def ref16_Names (n : Nat) (f : (List S_ref02_Field)) : Option ((List Str) × Bool) :=
  (ref02_All f ([118, 97, 114, 121] : Str)).bind fun x15 =>
  (chk (x15.length ≤ szMax)).bind fun _ =>
  (ref16_Names_L0 n x15 0 []).bind fun s0 => s0.el some fun t0 =>
  some (t0, false)
set_option maxHeartbeats 8000000 in
theorem ref16_Names_ok {n : Nat} {f : (List S_ref02_Field)} {ap0_0 : Option Addr} {cp0_0 : Nat} {n0 : Nat} {K : Hp} {r : (List Str) × Bool}
    (hm : ref16_Names n f = some r) (hp0_0 : RdC S_ref02_Field.enc K ap0_0 cp0_0 2 f) (en0 : n0 = f.length) :
    Fn Tryd.prog 8 [.slice ap0_0 n0 cp0_0] K [] (fun v K' H' => ∃ ar_0 : Option Addr, ∃ cr_0 : Nat, v = .tuple #[.slice ar_0 r.1.length cr_0, .bool r.2] ∧ (0 < r.1.length → Has ar_0) ∧ H' = [OwnL eS ar_0 9 1 cr_0 r.1]) := by
  subst en0
  refine Fn.enter Tryd.func8 Tryd.call8 rfl fun F => ?_
  unfold ref16_Names at hm
  obtain ⟨x15, q15, hm⟩ := bnd hm
  conv => whnf
  refine call_fn (ref02_All_ok (name := ([118, 97, 114, 121] : Str)) q15 hp0_0 rfl) .nil ?_
  rintro _ K15 _ l15 ⟨a15_0, c15_0, rfl, h15_0, rfl⟩
  conv => whnf
  refine RStep.of (len_slice rfl ?_)
  obtain ⟨hk0, hm⟩ := chkb hm
  obtain ⟨s0, hl0, hm⟩ := bnd hm
  conv => whnf
  refine nilC eS 9 1 ?_
  refine code_cut (σ := ((List Str)) × Option Addr × Nat) [2, 3, 4, 6, 7, 8, 10, 11, 12, 13, 17, 18, 19, 20, 21, 22, 23, 24, 25, 26, 27, 28, 29, 30, 31, 32, 33, 34, 35, 36, 37, 38, 39, 40, 41, 42, 43, 44, 45, 46, 47, 48, 49, 50, 51, 52, 53, 54, 55, 56, 57, 58, 59, 60, 61, 62, 63, 64, 65, 66, 67, 68, 69, 70, 71, 72, 73, 74, 75, 76, 77, 78, 79, 80, 81, 82] (fun (t0, t0_a0, t0_c0) => [(4, .slice t0_a0 t0.length t0_c0)]) (fun (t0, t0_a0, t0_c0) => [OwnL eS t0_a0 9 1 t0_c0 t0, OwnL eS a15_0 9 1 c15_0 x15, F]) (fun zz K1 => match zz with | (t0, t0_a0, t0_c0) => (0 < t0.length → Has t0_a0) ∧ s0 = Fl.go t0) ?_ ?_
  · refine block_go rfl ?_
    conv => whnf
    refine loop_rule (σ := Nat × (List Str) × Option Addr × Nat) [2, 3, 4, 6, 7, 8, 10, 11, 12, 13, 17, 18, 19, 20, 21, 22, 23, 24, 25, 26, 27, 28, 29, 30, 31, 32, 33, 34, 35, 36, 37, 38, 39, 40, 41, 42, 43, 44, 45, 46, 47, 48, 49, 50, 51, 52, 53, 54, 55, 56, 57, 58, 59, 60, 61, 62, 63, 64, 65, 66, 67, 68, 69, 70, 71, 72, 73, 74, 75, 76, 77, 78, 79, 80, 81, 82] (fun (i0, y0_0, y0_a0, y0_c0) => [(17, .int .i64 (i0 : Int)), (4, .slice y0_a0 y0_0.length y0_c0)]) (fun (i0, y0_0, y0_a0, y0_c0) => [OwnL eS y0_a0 9 1 y0_c0 y0_0, OwnL eS a15_0 9 1 c15_0 x15, F]) (fun zz K1 => match zz with | (i0, y0_0, y0_a0, y0_c0) => (0 < y0_0.length → Has y0_a0) ∧ ref16_Names_L0 n (x15.drop i0) i0 y0_0 = some s0) (fun zz => x15.length - zz.1) (0, [], none, 0) rfl ⟨rfl, rfl, trivial⟩ (ConvH.of (.cons r0 (.cons r0 (.cons r0 .nil)))) ⟨(fun h => by simp at h), hl0⟩ ?_
    clear hl0
    rintro ⟨i0, y0_0, y0_a0, y0_c0⟩ Kb0 lk0 ⟨y0_h0, hl0⟩ j0
    conv => whnf
    refine cond_go rfl ?_
    conv => whnf
    refine cond_s (fun w0 => ?_) (fun w0 => ?_)
    · obtain ⟨e0, hx0, hd0⟩ := ltx w0
      rw [hd0, ref16_Names_L0.eq_2] at hl0
      conv => whnf
      refine block_go rfl ?_
      conv => whnf
      refine RStep.ofN (index_addr rfl rfl (hasO h15_0 hx0) (nn _) (lt_ofNE rfl hx0) ?_)
      conv => whnf
      refine RStep.of (ld_own (i := i0) (o := 0) r1 rfl hx0 rfl rfl ?_)
      obtain ⟨x23, q23, hl0⟩ := bnd hl0
      conv => whnf
      refine call_fn (ref01_List_ok (s := e0) q23) .nil ?_
      rintro _ K23 _ l23 ⟨a23_0, c23_0, rfl, h23_0, rfl⟩
      conv => whnf
      refine un_not ?_
      conv => whnf
      refine cond_go rfl ?_
      conv => whnf
      refine cond_s (fun w27 => ?_) (fun w27 => ?_)
      · replace hl0 := ift (not_t (ni_t w27)) hl0
        obtain rfl := si hl0
        replace hm := elr hm
        obtain rfl := si hm
        conv => whnf
        refine nilE eS 9 1 ?_
        refine EndStep.mk _ ((l15.trans lk0).trans l23) ⟨none, 0, rfl, (fun h => by simp at h), rfl⟩ (ConvH.of (.cons r0 (.cons r3 .nil)))
      · replace hl0 := iff_ (not_f (ni_f w27)) hl0
        conv => whnf
        refine RStep.of (len_slice rfl ?_)
        obtain ⟨hk2, hl0⟩ := chkb hl0
        obtain ⟨s2, hl2, hl0⟩ := bnd hl0
        conv => whnf
        refine code_cut (σ := ((List Str)) × Option Addr × Nat) [2, 3, 4, 10, 11, 12, 13, 30, 31, 32, 33, 34, 35, 36, 37, 38, 39, 40, 41, 42, 43, 44, 45, 46, 47, 48, 49, 50, 51, 52, 53, 54, 55, 56, 57, 58, 59, 60, 61, 62, 63, 64, 65, 66, 67, 68, 69, 70, 71, 72, 73, 74, 75, 76, 77, 78, 79, 80, 81] (fun (t2, t2_a0, t2_c0) => [(4, .slice t2_a0 t2.length t2_c0)]) (fun (t2, t2_a0, t2_c0) => [OwnL eS t2_a0 9 1 t2_c0 t2, OwnL eS a23_0 9 1 c23_0 x23.1, OwnL eS a15_0 9 1 c15_0 x15, F]) (fun zz K1 => match zz with | (t2, t2_a0, t2_c0) => (0 < t2.length → Has t2_a0) ∧ s2 = Fl.go t2) ?_ ?_
        · refine block_go rfl ?_
          conv => whnf
          refine loop_rule (σ := Nat × (List Str) × Option Addr × Nat) [2, 3, 4, 10, 11, 12, 13, 30, 31, 32, 33, 34, 35, 36, 37, 38, 39, 40, 41, 42, 43, 44, 45, 46, 47, 48, 49, 50, 51, 52, 53, 54, 55, 56, 57, 58, 59, 60, 61, 62, 63, 64, 65, 66, 67, 68, 69, 70, 71, 72, 73, 74, 75, 76, 77, 78, 79, 80, 81] (fun (i2, y2_0, y2_a0, y2_c0) => [(30, .int .i64 (i2 : Int)), (4, .slice y2_a0 y2_0.length y2_c0)]) (fun (i2, y2_0, y2_a0, y2_c0) => [OwnL eS y2_a0 9 1 y2_c0 y2_0, OwnL eS a23_0 9 1 c23_0 x23.1, OwnL eS a15_0 9 1 c15_0 x15, F]) (fun zz K1 => match zz with | (i2, y2_0, y2_a0, y2_c0) => (0 < y2_0.length → Has y2_a0) ∧ ref16_Names_L2 n (x23.1.drop i2) i2 y2_0 = some s2) (fun zz => x23.1.length - zz.1) (0, y0_0, y0_a0, y0_c0) rfl ⟨rfl, rfl, trivial⟩ (ConvH.of (.cons r1 (.cons r0 (.cons r0 (.cons r0 .nil))))) ⟨y0_h0, hl2⟩ ?_
          clear hl2
          rintro ⟨i2, y2_0, y2_a0, y2_c0⟩ Kb2 lk2 ⟨y2_h0, hl2⟩ j2
          conv => whnf
          refine cond_go rfl ?_
          conv => whnf
          refine cond_s (fun w2 => ?_) (fun w2 => ?_)
          · obtain ⟨e2, hx2, hd2⟩ := ltx w2
            rw [hd2, ref16_Names_L2.eq_2] at hl2
            conv => whnf
            refine block_go rfl ?_
            conv => whnf
            refine RStep.ofN (index_addr rfl rfl (hasO h23_0 hx2) (nn _) (lt_ofNE rfl hx2) ?_)
            conv => whnf
            refine RStep.of (ld_own (i := i2) (o := 0) r1 rfl hx2 rfl rfl ?_)
            obtain ⟨x36, q36, hl2⟩ := bnd hl2
            conv => whnf
            refine call_fn (ref02_Name_ok (s := e2) q36) .nil ?_
            rintro _ K36 _ l36 ⟨rfl, rfl⟩
            conv => whnf
            refine neq_int ?_
            conv => whnf
            refine cond_s (fun g41_12 => ?_) (fun g41_12 => ?_)
            · conv => whnf
              refine cond_t g41_12 ?_
              conv => whnf
              refine cond_t g41_12 ?_
              conv => whnf
              refine cond_go rfl ?_
              conv => whnf
              refine cond_T ?_
              replace hl2 := ift (or_t g41_12) hl2
              obtain rfl := si hl2
              replace hl0 := elr hl0
              obtain rfl := si hl0
              replace hm := elr hm
              obtain rfl := si hm
              conv => whnf
              refine nilE eS 9 1 ?_
              refine EndStep.mk _ ((((l15.trans lk0).trans l23).trans lk2).trans l36) ⟨none, 0, rfl, (fun h => by simp at h), rfl⟩ (ConvH.of (.cons r0 (.cons r3 .nil)))
            · conv => whnf
              refine cond_f g41_12 ?_
              conv => whnf
              refine eq_str ?_
              conv => whnf
              refine cond_f g41_12 ?_
              conv => whnf
              refine cond_go rfl ?_
              conv => whnf
              refine cond_s (fun w44 => ?_) (fun w44 => ?_)
              · replace hl2 := ift (or_u g41_12 w44) hl2
                obtain rfl := si hl2
                replace hl0 := elr hl0
                obtain rfl := si hl0
                replace hm := elr hm
                obtain rfl := si hm
                conv => whnf
                refine nilE eS 9 1 ?_
                refine EndStep.mk _ ((((l15.trans lk0).trans l23).trans lk2).trans l36) ⟨none, 0, rfl, (fun h => by simp at h), rfl⟩ (ConvH.of (.cons r0 (.cons r3 .nil)))
              · replace hl2 := iff_ (or_f g41_12 w44) hl2
                obtain ⟨s4, hl4, hl2⟩ := bnd hl2
                conv => whnf
                refine code_cut (σ := (Int)) [13, 45, 46, 47, 48, 49, 50, 51, 52, 53, 54, 55, 56, 57, 58] (fun t4 => [(13, .int .i64 t4)]) (fun t4 => [OwnL eS y2_a0 9 1 y2_c0 y2_0, OwnL eS a23_0 9 1 c23_0 x23.1, OwnL eS a15_0 9 1 c15_0 x15, F]) (fun zz K1 => match zz with | t4 => t4 = s4) ?_ ?_
                · refine block_go rfl ?_
                  conv => whnf
                  refine loop_rule (σ := Nat × Int) [13, 45, 46, 47, 48, 49, 50, 51, 52, 53, 54, 55, 56, 57, 58] (fun (i4, y4_0) => [(13, .int .i64 y4_0)]) (fun (i4, y4_0) => [OwnL eS y2_a0 9 1 y2_c0 y2_0, OwnL eS a23_0 9 1 c23_0 x23.1, OwnL eS a15_0 9 1 c15_0 x15, F]) (fun zz K1 => match zz with | (i4, y4_0) => ref16_Names_L4 y2_0 x36 i4 y4_0 = some s4) (fun zz => zz.1) (n, 0) rfl ⟨rfl, trivial⟩ (ConvH.of (.cons r0 (.cons r0 (.cons r0 (.cons r0 .nil))))) hl4 ?_
                  clear hl4
                  rintro ⟨i4, y4_0⟩ Kb4 lk4 hl4 j4
                  conv at hl4 => whnf
                  cases i4 with
                  | zero => rw [ref16_Names_L4.eq_1] at hl4; cases hl4
                  | succ i4 =>
                    rw [ref16_Names_L4.eq_2] at hl4
                    conv => whnf
                    refine RStep.of (len_slice rfl ?_)
                    obtain ⟨x56, e56, hl4⟩ := bnd hl4
                    conv => whnf
                    refine cond_s (fun g49_15 => ?_) (fun g49_15 => ?_)
                    · replace e56 := ift g49_15 e56
                      conv => whnf
                      refine cond_t g49_15 ?_
                      conv => whnf
                      refine cond_t g49_15 ?_
                      obtain ⟨x52, l52, k52, e56⟩ := ixb e56
                      conv => whnf
                      refine RStep.ofN (index_addr rfl rfl (hasO y2_h0 k52) l52 (lt_ofE rfl l52 k52) ?_)
                      conv => whnf
                      refine cond_t g49_15 ?_
                      conv => whnf
                      refine RStep.of (ld_own (i := (y4_0).toNat) (o := 0) r0 rfl k52 rfl rfl ?_)
                      conv => whnf
                      refine cond_t g49_15 ?_
                      conv => whnf
                      refine cond_t g49_15 ?_
                      conv => whnf
                      refine lss_str ?_
                      conv => whnf
                      refine cond_t g49_15 ?_
                      conv => whnf
                      refine cond_go rfl ?_
                      conv => whnf
                      refine cond_s (fun w56 => ?_) (fun w56 => ?_)
                      · replace hl4 := ift ((si e56).symm.trans w56) hl4
                        conv => whnf
                        refine block_go rfl ?_
                        obtain ⟨h58, hl4⟩ := chkb hl4
                        conv => whnf
                        refine int_in h58 ?_
                        conv => whnf
                        refine RoundStep.mk (i4, (y4_0 + 1)) ⟨rfl, trivial⟩ (by repeat (first | exact trivial | refine And.intro rfl ?_)) (ConvH.of (.cons r0 (.cons r0 (.cons r0 (.cons r0 .nil))))) lk4 (Nat.lt_succ_self _) hl4
                      · replace hl4 := iff_ ((si e56).symm.trans w56) hl4
                        conv => whnf
                        refine cond_T ?_
                        conv => whnf
                        refine MeetStep.mk (y4_0) ⟨rfl, trivial⟩ (by repeat (first | exact trivial | refine And.intro rfl ?_)) (ConvH.of (.cons r0 (.cons r0 (.cons r0 (.cons r0 .nil))))) lk4 (si hl4)
                    · replace e56 := iff_ g49_15 e56
                      conv => whnf
                      refine cond_f g49_15 ?_
                      conv => whnf
                      refine cond_f g49_15 ?_
                      conv => whnf
                      refine cond_f g49_15 ?_
                      conv => whnf
                      refine cond_f g49_15 ?_
                      conv => whnf
                      refine cond_f g49_15 ?_
                      conv => whnf
                      refine cond_f g49_15 ?_
                      conv => whnf
                      refine cond_go rfl ?_
                      conv => whnf
                      refine cond_F ?_
                      replace hl4 := iff_ (si e56).symm hl4
                      conv => whnf
                      refine cond_T ?_
                      conv => whnf
                      refine MeetStep.mk (y4_0) ⟨rfl, trivial⟩ (by repeat (first | exact trivial | refine And.intro rfl ?_)) (ConvH.of (.cons r0 (.cons r0 (.cons r0 (.cons r0 .nil))))) lk4 (si hl4)
                · rintro t4 Kt4 lt4 rfl j4
                  conv => whnf
                  refine RStep.of (len_slice rfl ?_)
                  conv => whnf
                  refine eq_int ?_
                  obtain ⟨x70, e70, hl2⟩ := bnd hl2
                  conv => whnf
                  refine cond_s (fun g63_17 => ?_) (fun g63_17 => ?_)
                  · replace e70 := ift g63_17 e70
                    conv => whnf
                    refine cond_t g63_17 ?_
                    conv => whnf
                    refine cond_t g63_17 ?_
                    conv => whnf
                    refine cond_t g63_17 ?_
                    conv => whnf
                    refine cond_t g63_17 ?_
                    conv => whnf
                    refine cond_t g63_17 ?_
                    conv => whnf
                    refine cond_t g63_17 ?_
                    conv => whnf
                    refine CStep.ownLe r0 fun hc4 => ?_
                    conv => whnf
                    refine CStep.ownLe r1 fun hc5 => ?_
                    conv => whnf
                    refine CStep.ownLe r2 fun hc6 => ?_
                    conv => whnf
                    refine cond_go rfl ?_
                    conv => whnf
                    refine cond_T ?_
                    replace hl2 := ift (si e70).symm hl2
                    conv => whnf
                    refine draw_go ⟨⟨[], false⟩, _, []⟩ (by kernel_rfl) ⟨Hp.Le.refl _, (ConvH.of .nil)⟩ ?_
                    obtain ⟨h73, hl2⟩ := chkb hl2
                    conv => whnf
                    refine sl_head (l := y2_0) (hi := (some t4)) rfl rfl rfl hc4 h73 ?_
                    conv => whnf
                    refine bsO (len := 1) (enc := eS) (l := [x36.1]) (cl := [str x36.1]) elT25 rfl rfl (fun _ _ => rfl) rfl rfl rfl ?_ fun b75 => ?_
                    · conv => whnf
                      refine cond_T ?_
                      conv => whnf
                      first | done | rfl
                    conv => whnf
                    refine ⟨⟨(Hp.Le.refl _), (ConvH.of .nil)⟩, ?_⟩
                    obtain ⟨h78, hl2⟩ := chkb hl2
                    conv => whnf
                    refine sl_part (l := y2_0) (lo := (some t4)) (hi := none) rfl rfl rfl hc4 h78 ?_
                    obtain ⟨h79, hl2⟩ := chkb hl2
                    conv => whnf
                    refine apE rfl r0 elT25 (src_part rfl r0 h78 rfl (fun _ => rfl) (fun _ => rfl)) h79 ?_
                    intro a79 c79 o79
                    conv => whnf
                    refine ⟨⟨(Hp.Le.refl _), (ConvH.of .nil)⟩, ?_⟩
                    obtain ⟨h80, hl2⟩ := chkb hl2
                    conv => whnf
                    refine tkW t4 r1 ?_
                    refine apE rfl r0 elT25 (src_own' rfl r0 rfl (fun _ => rfl) (fun _ => rfl)) h80 ?_
                    intro a80 c80 o80
                    conv => whnf
                    refine ⟨⟨(Hp.Le.refl _), (ConvH.of .nil)⟩, ?_⟩
                    conv => whnf
                    refine int_in (cntz hx2 hk2) ?_
                    conv => whnf
                    refine RoundStep.mk (i2 + 1, ((subL y2_0 (0 : Int) t4) ++ ([x36.1] ++ (subL y2_0 t4 (y2_0.length : Int)))), a80, c80) ⟨rfl, rfl, trivial⟩ (by repeat (first | exact trivial | refine And.intro rfl ?_)) (ConvH.of (.cons r0 (.cons r1 (.cons r1 (.cons r1 .nil))))) ((lk2.trans l36).trans lt4) (ltm hx2) ⟨o80, hl2⟩
                  · replace e70 := iff_ g63_17 e70
                    conv => whnf
                    refine cond_f g63_17 ?_
                    conv => whnf
                    refine cond_f g63_17 ?_
                    obtain ⟨x66, l66, k66, e70⟩ := ixb e70
                    conv => whnf
                    refine RStep.ofN (index_addr rfl rfl (hasO y2_h0 k66) l66 (lt_ofE rfl l66 k66) ?_)
                    conv => whnf
                    refine cond_f g63_17 ?_
                    conv => whnf
                    refine RStep.of (ld_own (i := (t4).toNat) (o := 0) r0 rfl k66 rfl rfl ?_)
                    conv => whnf
                    refine cond_f g63_17 ?_
                    conv => whnf
                    refine cond_f g63_17 ?_
                    conv => whnf
                    refine neq_str ?_
                    conv => whnf
                    refine cond_f g63_17 ?_
                    conv => whnf
                    refine CStep.ownLe r0 fun hc7 => ?_
                    conv => whnf
                    refine CStep.ownLe r1 fun hc8 => ?_
                    conv => whnf
                    refine CStep.ownLe r2 fun hc9 => ?_
                    conv => whnf
                    refine cond_go rfl ?_
                    conv => whnf
                    refine cond_s (fun w70 => ?_) (fun w70 => ?_)
                    · replace hl2 := ift ((si e70).symm.trans w70) hl2
                      conv => whnf
                      refine draw_go ⟨⟨[], false⟩, _, []⟩ (by kernel_rfl) ⟨Hp.Le.refl _, (ConvH.of .nil)⟩ ?_
                      obtain ⟨h73, hl2⟩ := chkb hl2
                      conv => whnf
                      refine sl_head (l := y2_0) (hi := (some t4)) rfl rfl rfl hc7 h73 ?_
                      conv => whnf
                      refine bsO (len := 1) (enc := eS) (l := [x36.1]) (cl := [str x36.1]) elT25 rfl rfl (fun _ _ => rfl) rfl rfl rfl ?_ fun b75 => ?_
                      · conv => whnf
                        refine cond_T ?_
                        conv => whnf
                        first | done | rfl
                      conv => whnf
                      refine ⟨⟨(Hp.Le.refl _), (ConvH.of .nil)⟩, ?_⟩
                      obtain ⟨h78, hl2⟩ := chkb hl2
                      conv => whnf
                      refine sl_part (l := y2_0) (lo := (some t4)) (hi := none) rfl rfl rfl hc7 h78 ?_
                      obtain ⟨h79, hl2⟩ := chkb hl2
                      conv => whnf
                      refine apE rfl r0 elT25 (src_part rfl r0 h78 rfl (fun _ => rfl) (fun _ => rfl)) h79 ?_
                      intro a79 c79 o79
                      conv => whnf
                      refine ⟨⟨(Hp.Le.refl _), (ConvH.of .nil)⟩, ?_⟩
                      obtain ⟨h80, hl2⟩ := chkb hl2
                      conv => whnf
                      refine tkW t4 r1 ?_
                      refine apE rfl r0 elT25 (src_own' rfl r0 rfl (fun _ => rfl) (fun _ => rfl)) h80 ?_
                      intro a80 c80 o80
                      conv => whnf
                      refine ⟨⟨(Hp.Le.refl _), (ConvH.of .nil)⟩, ?_⟩
                      conv => whnf
                      refine int_in (cntz hx2 hk2) ?_
                      conv => whnf
                      refine RoundStep.mk (i2 + 1, ((subL y2_0 (0 : Int) t4) ++ ([x36.1] ++ (subL y2_0 t4 (y2_0.length : Int)))), a80, c80) ⟨rfl, rfl, trivial⟩ (by repeat (first | exact trivial | refine And.intro rfl ?_)) (ConvH.of (.cons r0 (.cons r1 (.cons r1 (.cons r1 .nil))))) ((lk2.trans l36).trans lt4) (ltm hx2) ⟨o80, hl2⟩
                    · replace hl2 := iff_ ((si e70).symm.trans w70) hl2
                      conv => whnf
                      refine int_in (cntz hx2 hk2) ?_
                      conv => whnf
                      refine RoundStep.mk (i2 + 1, y2_0, y2_a0, y2_c0) ⟨rfl, rfl, trivial⟩ (by repeat (first | exact trivial | refine And.intro rfl ?_)) (ConvH.of (.cons r0 (.cons r0 (.cons r0 (.cons r0 .nil))))) ((lk2.trans l36).trans lt4) (ltm hx2) ⟨y2_h0, hl2⟩
          · rw [lty w2, ref16_Names_L2.eq_1] at hl2
            conv => whnf
            refine cond_T ?_
            conv => whnf
            refine MeetStep.mk (y2_0, y2_a0, y2_c0) ⟨rfl, trivial⟩ (by repeat (first | exact trivial | refine And.intro rfl ?_)) (ConvH.of (.cons r0 (.cons r0 (.cons r0 (.cons r0 .nil))))) lk2 ⟨y2_h0, (si hl2).symm⟩
        · rintro ⟨t2, t2_a0, t2_c0⟩ Kt2 lt2 ⟨t2_h0, rfl⟩ j2
          replace hl0 := elg hl0
          conv => whnf
          refine int_in (cntz hx0 hk0) ?_
          conv => whnf
          refine RoundStep.mk (i0 + 1, t2, t2_a0, t2_c0) ⟨rfl, rfl, trivial⟩ (by repeat (first | exact trivial | refine And.intro rfl ?_)) (ConvH.of (.cons r0 (.cons r1 (.cons r1 .nil)))) ((lk0.trans l23).trans lt2) (ltm hx0) ⟨t2_h0, hl0⟩
    · rw [lty w0, ref16_Names_L0.eq_1] at hl0
      conv => whnf
      refine cond_T ?_
      conv => whnf
      refine MeetStep.mk (y0_0, y0_a0, y0_c0) ⟨rfl, trivial⟩ (by repeat (first | exact trivial | refine And.intro rfl ?_)) (ConvH.of (.cons r0 (.cons r0 (.cons r0 .nil)))) lk0 ⟨y0_h0, (si hl0).symm⟩
  · rintro ⟨t0, t0_a0, t0_c0⟩ Kt0 lt0 ⟨t0_h0, rfl⟩ j0
    replace hm := elg hm
    obtain rfl := si hm
    conv => whnf
    refine EndStep.mk _ (l15.trans lt0) ⟨t0_a0, t0_c0, rfl, t0_h0, rfl⟩ (ConvH.of (.cons r0 (.cons r1 .nil)))

noncomputable def base_Texts_L0 (b : (List Str)) : List Str → Nat → Option (Fl (Bool) (Unit))
  | [], _ => some (Fl.go ())
  | e0 :: xs0, i0 =>
    (ix b (i0 : Int)).bind fun x22 =>
    if decide (e0 ≠ x22) then
    some (Fl.ret false)
    else
    base_Texts_L0 b xs0 (i0 + 1)
noncomputable def base_Texts (a : (List Str)) (b : (List Str)) : Option (Bool) :=
  if decide ((a.length : Int) ≠ (b.length : Int)) then
  some false
  else
  (chk (a.length ≤ szMax)).bind fun _ =>
  (base_Texts_L0 b a 0).bind fun s0 => s0.el some fun t0 =>
  some true
set_option maxHeartbeats 8000000 in
theorem base_Texts_ok {a : (List Str)} {b : (List Str)} {ap0_0 : Option Addr} {cp0_0 : Nat} {n0 : Nat} {ap1_0 : Option Addr} {cp1_0 : Nat} {n1 : Nat} {K : Hp} {r : Bool}
    (hm : base_Texts a b = some r) (hp0_0 : RdC eS K ap0_0 cp0_0 1 a) (en0 : n0 = a.length) (hp1_0 : RdC eS K ap1_0 cp1_0 1 b) (en1 : n1 = b.length) :
    Fn Tryd.prog 9 [.slice ap0_0 n0 cp0_0, .slice ap1_0 n1 cp1_0] K [] (fun v K' H' => v = .bool r ∧ H' = []) := by
  subst en0
  subst en1
  refine Fn.enter Tryd.func9 Tryd.call9 rfl fun F => ?_
  unfold base_Texts at hm
  conv => whnf
  refine RStep.of (len_slice rfl ?_)
  conv => whnf
  refine RStep.of (len_slice rfl ?_)
  conv => whnf
  refine neq_int ?_
  conv => whnf
  refine cond_go rfl ?_
  conv => whnf
  refine cond_s (fun w10 => ?_) (fun w10 => ?_)
  · replace hm := ift w10 hm
    obtain rfl := si hm
    conv => whnf
    refine EndStep.mk _ (Hp.Le.refl _) ⟨rfl, rfl⟩ (ConvH.of (.cons r0 .nil))
  · replace hm := iff_ w10 hm
    conv => whnf
    refine RStep.of (len_slice rfl ?_)
    obtain ⟨hk0, hm⟩ := chkb hm
    obtain ⟨s0, hl0, hm⟩ := bnd hm
    conv => whnf
    refine code_cut (σ := (Unit)) [4, 5, 13, 14, 15, 16, 17, 18, 19, 20, 21, 22, 23, 24, 25] (fun t0 => []) (fun t0 => [F]) (fun zz K1 => match zz with | t0 => s0 = Fl.go t0) ?_ ?_
    · refine block_go rfl ?_
      conv => whnf
      refine loop_rule (σ := Nat) [4, 5, 13, 14, 15, 16, 17, 18, 19, 20, 21, 22, 23, 24, 25] (fun i0 => [(13, .int .i64 (i0 : Int))]) (fun i0 => [F]) (fun zz K1 => match zz with | i0 => base_Texts_L0 b (a.drop i0) i0 = some s0) (fun zz => a.length - zz) (0) rfl ⟨rfl, trivial⟩ (ConvH.of (.cons r0 .nil)) hl0 ?_
      clear hl0
      rintro i0 Kb0 lk0 hl0 j0
      conv at hl0 => whnf
      conv => whnf
      refine cond_go rfl ?_
      conv => whnf
      refine cond_s (fun w0 => ?_) (fun w0 => ?_)
      · obtain ⟨e0, hx0, hd0⟩ := ltx w0
        rw [hd0, base_Texts_L0.eq_2] at hl0
        conv => whnf
        refine block_go rfl ?_
        conv => whnf
        refine draw_go ⟨⟨[], false⟩, _, []⟩ (by kernel_rfl) ⟨Hp.Le.refl _, (ConvH.of .nil)⟩ ?_
        conv => whnf
        refine index_addr rfl rfl (hasK (hp0_0.mono lk0).rd hx0) (nn _) (lt_ofN hx0) ?_
        conv => whnf
        refine load_rd_l i0 0 _ _ (hp0_0.mono lk0).rd rfl (mp hx0) rfl rfl ?_
        obtain ⟨x22, l22, k22, hl0⟩ := ixb hl0
        conv => whnf
        refine index_addr rfl rfl (hasK (hp1_0.mono lk0).rd k22) l22 (lt_ofE rfl l22 k22) ?_
        conv => whnf
        refine load_rd_l (((i0 : Int)).toNat) 0 _ _ (hp1_0.mono lk0).rd rfl (mp k22) rfl rfl ?_
        conv => whnf
        refine neq_str ?_
        conv => whnf
        refine cond_go rfl ?_
        conv => whnf
        refine cond_s (fun w24 => ?_) (fun w24 => ?_)
        · replace hl0 := ift w24 hl0
          obtain rfl := si hl0
          replace hm := elr hm
          obtain rfl := si hm
          conv => whnf
          refine EndStep.mk _ lk0 ⟨rfl, rfl⟩ (ConvH.of (.cons r0 .nil))
        · replace hl0 := iff_ w24 hl0
          conv => whnf
          refine int_in (cntz hx0 hk0) ?_
          conv => whnf
          refine RoundStep.mk (i0 + 1) ⟨rfl, trivial⟩ (by repeat (first | exact trivial | refine And.intro rfl ?_)) (ConvH.of (.cons r0 .nil)) lk0 (ltm hx0) hl0
      · rw [lty w0, base_Texts_L0.eq_1] at hl0
        conv => whnf
        refine cond_T ?_
        conv => whnf
        refine MeetStep.mk (()) trivial (by repeat (first | exact trivial | refine And.intro rfl ?_)) (ConvH.of (.cons r0 .nil)) lk0 (si hl0).symm
    · rintro t0 Kt0 lt0 rfl j0
      replace hm := elg hm
      obtain rfl := si hm
      conv => whnf
      refine EndStep.mk _ lt0 ⟨rfl, rfl⟩ (ConvH.of (.cons r0 .nil))

noncomputable def law16_VaryNames (n : Nat) (f : (List S_ref02_Field)) : Option (Bool) :=
  (law16_large [f]).bind fun x9 =>
  (if x9 then some true else (law16_awake n).bind fun x11 =>
  some (!x11)).bind fun x13 =>
  if x13 then
  (law16_large [f]).bind fun x16 =>
  some x16
  else
  (law02_Fields f).bind fun x19 =>
  (vary_Names n x19).bind fun x20 =>
  (ref16_Names n f).bind fun x25 =>
  (if (x20.2 == x25.2) then (base_Texts x20.1 x25.1).bind fun x34 =>
  some x34 else some false).bind fun x35 =>
  some x35
set_option maxHeartbeats 8000000 in
theorem law16_VaryNames_ok {n : Nat} {f : (List S_ref02_Field)} {ap0_0 : Option Addr} {cp0_0 : Nat} {n0 : Nat} {K : Hp} {r : Bool}
    (hm : law16_VaryNames n f = some r) (hp0_0 : RdC S_ref02_Field.enc K ap0_0 cp0_0 2 f) (en0 : n0 = f.length) :
    Fn Tryd.prog 3 [.slice ap0_0 n0 cp0_0] K [] (fun v K' H' => v = .bool r ∧ H' = []) := by
  subst en0
  refine Fn.enter Tryd.func3 Tryd.call3 rfl fun F => ?_
  unfold law16_VaryNames at hm
  conv => whnf
  refine bsOR (len := 1) (l := [f]) (css := [[.slice ap0_0 f.length cp0_0]]) (cl := [.slice ap0_0 f.length cp0_0]) sliL_ok elT34 rfl rfl (LR.snoc LR.nil ⟨ap0_0, cp0_0, rfl, hp0_0⟩) rfl rfl rfl ?_ fun b8 => ?_
  · conv => whnf
    refine cond_T ?_
    conv => whnf
    first | done | rfl
  obtain ⟨x9, q9, hm⟩ := bnd hm
  conv => whnf
  refine call_fn (Fn.lendR sliL_ok (show LR (sliL S_ref02_Field.enc 2) _ [[.slice ap0_0 f.length cp0_0]] [f] from (LR.snoc LR.nil ⟨ap0_0, cp0_0, rfl, hp0_0⟩)) Tryd.call4 (fun K9_0 l9_0 f9_0 => (law16_large_ok q9 f9_0 rfl)) (by exact fun _ _ _ _ h => h)) (.cons r0 .nil) ?_
  rintro _ K9 _ l9 ⟨_, rfl, rfl, rfl⟩
  obtain ⟨x13, e13, hm⟩ := bnd hm
  conv => whnf
  refine cond_s (fun g10_1 => ?_) (fun g10_1 => ?_)
  · replace e13 := ift g10_1 e13
    conv => whnf
    refine cond_t g10_1 ?_
    conv => whnf
    refine cond_t g10_1 ?_
    conv => whnf
    refine cond_go rfl ?_
    conv => whnf
    refine cond_T ?_
    replace hm := ift (si e13).symm hm
    conv => whnf
    refine bsOR (len := 1) (l := [f]) (css := [[.slice ap0_0 f.length cp0_0]]) (cl := [.slice ap0_0 f.length cp0_0]) sliL_ok elT34 rfl rfl (LR.snoc LR.nil ⟨ap0_0, cp0_0, rfl, (hp0_0.mono l9)⟩) rfl rfl rfl ?_ fun b15 => ?_
    · conv => whnf
      refine cond_T ?_
      conv => whnf
      first | done | rfl
    obtain ⟨x16, q16, hm⟩ := bnd hm
    conv => whnf
    refine call_fn (Fn.lendR sliL_ok (show LR (sliL S_ref02_Field.enc 2) _ [[.slice ap0_0 f.length cp0_0]] [f] from (LR.snoc LR.nil ⟨ap0_0, cp0_0, rfl, (hp0_0.mono l9)⟩)) Tryd.call4 (fun K16_0 l16_0 f16_0 => (law16_large_ok q16 f16_0 rfl)) (by exact fun _ _ _ _ h => h)) (.cons r0 .nil) ?_
    rintro _ K16 _ l16 ⟨_, rfl, rfl, rfl⟩
    obtain rfl := si hm
    conv => whnf
    refine EndStep.mk _ (l9.trans l16) ⟨rfl, rfl⟩ (ConvH.of (.cons r2 .nil))
  · replace e13 := iff_ g10_1 e13
    obtain ⟨x11, q11, e13⟩ := bnd e13
    conv => whnf
    refine call_fn (law16_awake_ok q11) .nil ?_
    rintro _ K11 _ l11 ⟨rfl, rfl⟩
    conv => whnf
    refine cond_f g10_1 ?_
    conv => whnf
    refine un_not ?_
    conv => whnf
    refine cond_f g10_1 ?_
    conv => whnf
    refine cond_go rfl ?_
    conv => whnf
    refine cond_s (fun w13 => ?_) (fun w13 => ?_)
    · replace hm := ift ((si e13).symm.trans (not_t (ni_t w13))) hm
      conv => whnf
      refine bsOR (len := 1) (l := [f]) (css := [[.slice ap0_0 f.length cp0_0]]) (cl := [.slice ap0_0 f.length cp0_0]) sliL_ok elT34 rfl rfl (LR.snoc LR.nil ⟨ap0_0, cp0_0, rfl, (hp0_0.mono (l9.trans l11))⟩) rfl rfl rfl ?_ fun b15 => ?_
      · conv => whnf
        refine cond_T ?_
        conv => whnf
        first | done | rfl
      obtain ⟨x16, q16, hm⟩ := bnd hm
      conv => whnf
      refine call_fn (Fn.lendR sliL_ok (show LR (sliL S_ref02_Field.enc 2) _ [[.slice ap0_0 f.length cp0_0]] [f] from (LR.snoc LR.nil ⟨ap0_0, cp0_0, rfl, (hp0_0.mono (l9.trans l11))⟩)) Tryd.call4 (fun K16_0 l16_0 f16_0 => (law16_large_ok q16 f16_0 rfl)) (by exact fun _ _ _ _ h => h)) (.cons r0 .nil) ?_
      rintro _ K16 _ l16 ⟨_, rfl, rfl, rfl⟩
      obtain rfl := si hm
      conv => whnf
      refine EndStep.mk _ ((l9.trans l11).trans l16) ⟨rfl, rfl⟩ (ConvH.of (.cons r2 .nil))
    · replace hm := iff_ ((si e13).symm.trans (not_f (ni_f w13))) hm
      obtain ⟨x19, q19, hm⟩ := bnd hm
      conv => whnf
      refine call_fn (law02_Fields_ok q19 (hp0_0.mono (l9.trans l11)) rfl) .nil ?_
      rintro _ K19 _ l19 ⟨a19_0, c19_0, rfl, h19_0, rfl⟩
      obtain ⟨x20, q20, hm⟩ := bnd hm
      conv => whnf
      refine call_fn (Fn.lend Tryd.call6 (fun K20_0 l20_0 f20_0 => (vary_Names_ok q20 f20_0 rfl)) (by exact fun _ _ _ _ h => h)) (.cons r0 .nil) ?_
      rintro _ K20 _ l20 ⟨_, rfl, a20_0, c20_0, rfl, h20_0, rfl⟩
      obtain ⟨x25, q25, hm⟩ := bnd hm
      conv => whnf
      refine call_fn (ref16_Names_ok q25 (hp0_0.mono (((l9.trans l11).trans l19).trans l20)) rfl) .nil ?_
      rintro _ K25 _ l25 ⟨a25_0, c25_0, rfl, h25_0, rfl⟩
      conv => whnf
      refine eq_bool rfl ?_
      obtain ⟨x35, e35, hm⟩ := bnd hm
      conv => whnf
      refine cond_s (fun g31_5 => ?_) (fun g31_5 => ?_)
      · replace e35 := ift g31_5 e35
        conv => whnf
        refine cond_t g31_5 ?_
        conv => whnf
        refine cond_t g31_5 ?_
        obtain ⟨x34, q34, e35⟩ := bnd e35
        conv => whnf
        refine call_fn (Fn.lend Tryd.call9 (fun K34_0 l34_0 f34_0 => (Fn.lend Tryd.call9 (fun K34_1 l34_1 f34_1 => (base_Texts_ok q34 (f34_0.mono l34_1) rfl f34_1 rfl)) (by exact fun _ _ _ _ h => h))) (by exact fun _ _ _ _ h => h)) (.cons r2 (.cons r0 .nil)) ?_
        rintro _ K34 _ l34 ⟨_, rfl, _, rfl, rfl, rfl⟩
        conv => whnf
        refine cond_t g31_5 ?_
        obtain rfl := si hm
        conv => whnf
        refine EndStep.mk _ (((((l9.trans l11).trans l19).trans l20).trans l25).trans l34) ⟨(by rw [← (si e35)] <;> rfl), rfl⟩ (ConvH.of (.cons r4 .nil))
      · replace e35 := iff_ g31_5 e35
        conv => whnf
        refine cond_f g31_5 ?_
        conv => whnf
        refine cond_f g31_5 ?_
        conv => whnf
        refine cond_f g31_5 ?_
        obtain rfl := si hm
        conv => whnf
        refine EndStep.mk _ ((((l9.trans l11).trans l19).trans l20).trans l25) ⟨(by rw [← ((si e35).symm).symm] <;> rfl), rfl⟩ (ConvH.of (.cons r4 .nil))
