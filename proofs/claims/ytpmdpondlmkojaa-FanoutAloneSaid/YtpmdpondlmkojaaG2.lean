/- Functions of the program: mirrors, and that a call returns what the mirror says. Printed by gen.py. -/
import Derived.Test.YtpmdpondlmkojaaG1
set_option linter.unusedVariables false
set_option linter.unusedSimpArgs false
open Go Go.SL Go.Proofs
set_option maxRecDepth 30000
noncomputable def law28_FanoutAlone_L0 (id : Int) : List S_law28_Step → Nat → Option (Fl (Bool) (Unit))
  | [], _ => some (Fl.go ())
  | e0 :: xs0, i0 =>
    (if decide (e0.ID ≠ id) then some (decide (((e0.What % (12 : UInt8)).toNat : Int) ≥ 3)) else some false).bind fun x55 =>
    (if x55 then some (decide (((e0.What % (12 : UInt8)).toNat : Int) ≤ 9)) else some false).bind fun x61 =>
    if x61 then
    (law28_play_nil e0).bind fun x65 =>
    law28_FanoutAlone_L0 id xs0 (i0 + 1)
    else
    (if decide (((e0.What % (12 : UInt8)).toNat : Int) ≥ 5) then some (decide (((e0.What % (12 : UInt8)).toNat : Int) ≤ 8)) else some false).bind fun x75 =>
    if x75 then
    (fanout_Stream_Read_nil e0.ID e0.N).bind fun x82 =>
    (fanout_Stream_Read_nil e0.ID e0.N).bind fun x92 =>
    (if decide (x82.2.1 ≠ x92.2.1) then some true else (base_Num x82.2.2).bind fun x101 =>
    (base_Num x92.2.2).bind fun x103 =>
    some (decide (x101 ≠ x103))).bind fun x105 =>
    (if x105 then some true else (base_Bytes x82.1 x92.1).bind fun x109 =>
    some (!x109)).bind fun x111 =>
    if x111 then
    some (Fl.ret false)
    else
    law28_FanoutAlone_L0 id xs0 (i0 + 1)
    else
    (law28_play_nil e0).bind fun x114 =>
    (law28_play_nil e0).bind fun x117 =>
    law28_FanoutAlone_L0 id xs0 (i0 + 1)
noncomputable def law28_FanoutAlone_L0b (id : Int) : List S_law28_Step → Nat → S_fanout_Stream → Option (Fl (Bool) (S_fanout_Stream))
  | [], _, y0_0 => some (Fl.go y0_0)
  | e0 :: xs0, i0, y0_0 =>
    (if decide (e0.ID ≠ id) then some (decide (((e0.What % (12 : UInt8)).toNat : Int) ≥ 3)) else some false).bind fun x55 =>
    (if x55 then some (decide (((e0.What % (12 : UInt8)).toNat : Int) ≤ 9)) else some false).bind fun x61 =>
    if x61 then
    (law28_play_nil e0).bind fun x65 =>
    law28_FanoutAlone_L0b id xs0 (i0 + 1) y0_0
    else
    (if decide (((e0.What % (12 : UInt8)).toNat : Int) ≥ 5) then some (decide (((e0.What % (12 : UInt8)).toNat : Int) ≤ 8)) else some false).bind fun x75 =>
    if x75 then
    (fanout_Stream_Read_nil e0.ID e0.N).bind fun x82 =>
    (fanout_Stream_Read y0_0 e0.ID e0.N).bind fun x92 =>
    (if decide (x82.2.1 ≠ x92.2.1) then some true else (base_Num x82.2.2).bind fun x101 =>
    (base_Num x92.2.2.1).bind fun x103 =>
    some (decide (x101 ≠ x103))).bind fun x105 =>
    (if x105 then some true else (base_Bytes x82.1 x92.1).bind fun x109 =>
    some (!x109)).bind fun x111 =>
    if x111 then
    some (Fl.ret false)
    else
    law28_FanoutAlone_L0b id xs0 (i0 + 1) x92.2.2.2
    else
    (law28_play_nil e0).bind fun x114 =>
    (law28_play y0_0 e0).bind fun x117 =>
    law28_FanoutAlone_L0b id xs0 (i0 + 1) x117
noncomputable def law28_FanoutAlone_L0c (id : Int) : List S_law28_Step → Nat → S_fanout_Stream → Option (Fl (Bool) (S_fanout_Stream))
  | [], _, y0_0 => some (Fl.go y0_0)
  | e0 :: xs0, i0, y0_0 =>
    (if decide (e0.ID ≠ id) then some (decide (((e0.What % (12 : UInt8)).toNat : Int) ≥ 3)) else some false).bind fun x55 =>
    (if x55 then some (decide (((e0.What % (12 : UInt8)).toNat : Int) ≤ 9)) else some false).bind fun x61 =>
    if x61 then
    (law28_play y0_0 e0).bind fun x65 =>
    law28_FanoutAlone_L0c id xs0 (i0 + 1) x65
    else
    (if decide (((e0.What % (12 : UInt8)).toNat : Int) ≥ 5) then some (decide (((e0.What % (12 : UInt8)).toNat : Int) ≤ 8)) else some false).bind fun x75 =>
    if x75 then
    (fanout_Stream_Read y0_0 e0.ID e0.N).bind fun x82 =>
    (fanout_Stream_Read_nil e0.ID e0.N).bind fun x92 =>
    (if decide (x82.2.1 ≠ x92.2.1) then some true else (base_Num x82.2.2.1).bind fun x101 =>
    (base_Num x92.2.2).bind fun x103 =>
    some (decide (x101 ≠ x103))).bind fun x105 =>
    (if x105 then some true else (base_Bytes x82.1 x92.1).bind fun x109 =>
    some (!x109)).bind fun x111 =>
    if x111 then
    some (Fl.ret false)
    else
    law28_FanoutAlone_L0c id xs0 (i0 + 1) x82.2.2.2
    else
    (law28_play y0_0 e0).bind fun x114 =>
    (law28_play_nil e0).bind fun x117 =>
    law28_FanoutAlone_L0c id xs0 (i0 + 1) x114
noncomputable def law28_FanoutAlone_L0d (id : Int) : List S_law28_Step → Nat → S_fanout_Stream → S_fanout_Stream → Option (Fl (Bool) (S_fanout_Stream × S_fanout_Stream))
  | [], _, y0_0, y0_1 => some (Fl.go (y0_0, y0_1))
  | e0 :: xs0, i0, y0_0, y0_1 =>
    (if decide (e0.ID ≠ id) then some (decide (((e0.What % (12 : UInt8)).toNat : Int) ≥ 3)) else some false).bind fun x55 =>
    (if x55 then some (decide (((e0.What % (12 : UInt8)).toNat : Int) ≤ 9)) else some false).bind fun x61 =>
    if x61 then
    (law28_play y0_0 e0).bind fun x65 =>
    law28_FanoutAlone_L0d id xs0 (i0 + 1) x65 y0_1
    else
    (if decide (((e0.What % (12 : UInt8)).toNat : Int) ≥ 5) then some (decide (((e0.What % (12 : UInt8)).toNat : Int) ≤ 8)) else some false).bind fun x75 =>
    if x75 then
    (fanout_Stream_Read y0_0 e0.ID e0.N).bind fun x82 =>
    (fanout_Stream_Read y0_1 e0.ID e0.N).bind fun x92 =>
    (if decide (x82.2.1 ≠ x92.2.1) then some true else (base_Num x82.2.2.1).bind fun x101 =>
    (base_Num x92.2.2.1).bind fun x103 =>
    some (decide (x101 ≠ x103))).bind fun x105 =>
    (if x105 then some true else (base_Bytes x82.1 x92.1).bind fun x109 =>
    some (!x109)).bind fun x111 =>
    if x111 then
    some (Fl.ret false)
    else
    law28_FanoutAlone_L0d id xs0 (i0 + 1) x82.2.2.2 x92.2.2.2
    else
    (law28_play y0_0 e0).bind fun x114 =>
    (law28_play y0_1 e0).bind fun x117 =>
    law28_FanoutAlone_L0d id xs0 (i0 + 1) x114 x117
noncomputable def law28_FanoutAlone (script : (List S_law28_Step)) (id : Int) : Option (Bool) :=
  (law28_large script).bind fun x19 =>
  (if x19 then some true else (law28_awake).bind fun x21 =>
  some (!x21)).bind fun x23 =>
  if x23 then
  (law28_large script).bind fun x25 =>
  some x25
  else
  (fanout_New 65536).bind fun x27 =>
  Option.elim x27.1 (
  (fanout_New 65536).bind fun x31 =>
  Option.elim x31.1 (
  if (x27.2.isSome || x31.2.isSome) then
  some false
  else
  (chk (script.length ≤ szMax)).bind fun _ =>
  (law28_FanoutAlone_L0 id script 0).bind fun s0 => s0.el some fun t0 =>
  (fanout_Stream_Written_nil).bind fun x120 =>
  (fanout_Stream_Written_nil).bind fun x122 =>
  some (decide (x120 = x122)))
   fun o31 =>
  if (x27.2.isSome || x31.2.isSome) then
  some false
  else
  (chk (script.length ≤ szMax)).bind fun _ =>
  (law28_FanoutAlone_L0b id script 0 o31).bind fun s0 => s0.el some fun t0 =>
  (fanout_Stream_Written_nil).bind fun x120 =>
  (fanout_Stream_Written t0).bind fun x122 =>
  some (decide (x120 = x122)))
   fun o27 =>
  (fanout_New 65536).bind fun x31 =>
  Option.elim x31.1 (
  if (x27.2.isSome || x31.2.isSome) then
  some false
  else
  (chk (script.length ≤ szMax)).bind fun _ =>
  (law28_FanoutAlone_L0c id script 0 o27).bind fun s0 => s0.el some fun t0 =>
  (fanout_Stream_Written t0).bind fun x120 =>
  (fanout_Stream_Written_nil).bind fun x122 =>
  some (decide (x120 = x122)))
   fun o31 =>
  if (x27.2.isSome || x31.2.isSome) then
  some false
  else
  (chk (script.length ≤ szMax)).bind fun _ =>
  (law28_FanoutAlone_L0d id script 0 o27 o31).bind fun s0 => s0.el some fun t0 =>
  (fanout_Stream_Written t0.1).bind fun x120 =>
  (fanout_Stream_Written t0.2).bind fun x122 =>
  some (decide (x120 = x122))
set_option maxHeartbeats 8000000 in
theorem law28_FanoutAlone_ok {script : (List S_law28_Step)} {id : Int} {ap0_0 : Option Addr} {cp0_0 : Nat} {n0 : Nat} {K : Hp} {r : Bool}
    (hm : law28_FanoutAlone script id = some r) (hp0_0 : LiC S_law28_Step.R K ap0_0 cp0_0 4 script) (en0 : n0 = script.length) :
    Fn Try.prog 6 [.slice ap0_0 n0 cp0_0, .int .i64 id] K [] (fun v K' H' => v = .bool r ∧ H' = []) := by
  subst en0
  refine Fn.enter Try.func6 Try.call6 rfl fun F => ?_
  unfold law28_FanoutAlone at hm
  obtain ⟨x19, q19, hm⟩ := bnd hm
  conv => whnf
  refine call_fn (law28_large_ok q19 hp0_0 rfl) .nil ?_
  rintro _ K19 _ l19 ⟨rfl, rfl⟩
  obtain ⟨x23, e23, hm⟩ := bnd hm
  conv => whnf
  refine cond_s (fun g20_1 => ?_) (fun g20_1 => ?_)
  · replace e23 := ift g20_1 e23
    conv => whnf
    refine cond_t g20_1 ?_
    conv => whnf
    refine cond_t g20_1 ?_
    conv => whnf
    refine cond_go rfl ?_
    conv => whnf
    refine cond_T ?_
    replace hm := ift (si e23).symm hm
    obtain ⟨x25, q25, hm⟩ := bnd hm
    conv => whnf
    refine call_fn (law28_large_ok q25 (LiC.mono S_law28_Step.R_ok l19 hp0_0) rfl) .nil ?_
    rintro _ K25 _ l25 ⟨rfl, rfl⟩
    obtain rfl := si hm
    conv => whnf
    refine EndStep.mk _ (l19.trans l25) ⟨rfl, rfl⟩ (ConvH.of (.cons r0 .nil))
  · replace e23 := iff_ g20_1 e23
    obtain ⟨x21, q21, e23⟩ := bnd e23
    conv => whnf
    refine call_fn (law28_awake_ok q21) .nil ?_
    rintro _ K21 _ l21 ⟨rfl, rfl⟩
    conv => whnf
    refine cond_f g20_1 ?_
    conv => whnf
    refine un_not ?_
    conv => whnf
    refine cond_f g20_1 ?_
    conv => whnf
    refine cond_go rfl ?_
    conv => whnf
    refine cond_s (fun w23 => ?_) (fun w23 => ?_)
    · replace hm := ift ((si e23).symm.trans (not_t (ni_t w23))) hm
      obtain ⟨x25, q25, hm⟩ := bnd hm
      conv => whnf
      refine call_fn (law28_large_ok q25 (LiC.mono S_law28_Step.R_ok (l19.trans l21) hp0_0) rfl) .nil ?_
      rintro _ K25 _ l25 ⟨rfl, rfl⟩
      obtain rfl := si hm
      conv => whnf
      refine EndStep.mk _ ((l19.trans l21).trans l25) ⟨rfl, rfl⟩ (ConvH.of (.cons r0 .nil))
    · replace hm := iff_ ((si e23).symm.trans (not_f (ni_f w23))) hm
      obtain ⟨x27, q27, hm⟩ := bnd hm
      conv => whnf
      refine call_fn (fanout_New_ok q27) .nil ?_
      rintro v27 K27 H27 l27 p27
      rcases hq27 : x27.1 with _ | o27
      · rw [hq27] at p27 hm
        obtain ⟨rfl, rfl⟩ := p27
        replace hm := oe_n hm
        obtain ⟨x31, q31, hm⟩ := bnd hm
        conv => whnf
        refine call_fn (fanout_New_ok q31) .nil ?_
        rintro v31 K31 H31 l31 p31
        rcases hq31 : x31.1 with _ | o31
        · rw [hq31] at p31 hm
          obtain ⟨rfl, rfl⟩ := p31
          replace hm := oe_n hm
          conv => whnf
          refine neq_err rfl ?_
          conv => whnf
          refine cond_s (fun g36_5 => ?_) (fun g36_5 => ?_)
          · conv => whnf
            refine cond_t g36_5 ?_
            conv => whnf
            refine cond_t g36_5 ?_
            conv => whnf
            refine cond_go rfl ?_
            conv => whnf
            refine cond_T ?_
            replace hm := ift (or_t g36_5) hm
            obtain rfl := si hm
            conv => whnf
            refine EndStep.mk _ (((l19.trans l21).trans l27).trans l31) ⟨rfl, rfl⟩ (ConvH.of (.cons r0 .nil))
          · conv => whnf
            refine cond_f g36_5 ?_
            conv => whnf
            refine neq_err rfl ?_
            conv => whnf
            refine cond_f g36_5 ?_
            conv => whnf
            refine cond_go rfl ?_
            conv => whnf
            refine cond_s (fun w39 => ?_) (fun w39 => ?_)
            · replace hm := ift (or_u g36_5 w39) hm
              obtain rfl := si hm
              conv => whnf
              refine EndStep.mk _ (((l19.trans l21).trans l27).trans l31) ⟨rfl, rfl⟩ (ConvH.of (.cons r0 .nil))
            · replace hm := iff_ (or_f g36_5 w39) hm
              conv => whnf
              refine RStep.of (len_slice rfl ?_)
              obtain ⟨hk0, hm⟩ := chkb hm
              obtain ⟨s0, hl0, hm⟩ := bnd hm
              conv => whnf
              refine code_cut (σ := (Unit)) [4, 10, 11, 12, 13, 14, 15, 16, 17, 42, 43, 44, 45, 46, 47, 48, 49, 50, 51, 52, 53, 54, 55, 56, 57, 58, 59, 60, 61, 62, 63, 64, 65, 66, 67, 68, 69, 70, 71, 72, 73, 74, 75, 76, 77, 78, 79, 80, 81, 82, 83, 84, 85, 86, 87, 88, 89, 90, 91, 92, 93, 94, 95, 96, 97, 98, 99, 100, 101, 102, 103, 104, 105, 106, 107, 108, 109, 110, 111, 112, 113, 114, 115, 116, 117, 118] (fun t0 => []) (fun t0 => [F]) (fun zz K1 => match zz with | t0 => s0 = Fl.go t0) ?_ ?_
              · refine block_go rfl ?_
                conv => whnf
                refine loop_rule (σ := Nat) [4, 10, 11, 12, 13, 14, 15, 16, 17, 42, 43, 44, 45, 46, 47, 48, 49, 50, 51, 52, 53, 54, 55, 56, 57, 58, 59, 60, 61, 62, 63, 64, 65, 66, 67, 68, 69, 70, 71, 72, 73, 74, 75, 76, 77, 78, 79, 80, 81, 82, 83, 84, 85, 86, 87, 88, 89, 90, 91, 92, 93, 94, 95, 96, 97, 98, 99, 100, 101, 102, 103, 104, 105, 106, 107, 108, 109, 110, 111, 112, 113, 114, 115, 116, 117, 118] (fun i0 => [(42, .int .i64 (i0 : Int))]) (fun i0 => [F]) (fun zz K1 => match zz with | i0 => law28_FanoutAlone_L0 id (script.drop i0) i0 = some s0) (fun zz => script.length - zz) (0) rfl ⟨rfl, trivial⟩ (ConvH.of (.cons r0 .nil)) hl0 ?_
                clear hl0
                rintro i0 Kb0 lk0 hl0 j0
                conv at hl0 => whnf
                conv => whnf
                refine cond_go rfl ?_
                conv => whnf
                refine cond_s (fun w0 => ?_) (fun w0 => ?_)
                · obtain ⟨e0, hx0, hd0⟩ := ltx w0
                  rw [hd0, law28_FanoutAlone_L0.eq_2] at hl0
                  conv => whnf
                  refine block_go rfl ?_
                  conv => whnf
                  refine RStep.ofN (index_addr rfl rfl (hasR (LiC.mono S_law28_Step.R_ok ((((l19.trans l21).trans l27).trans l31).trans lk0) hp0_0).rd hx0) (nn _) (lt_ofN hx0) ?_)
                  obtain ⟨ss45, cc45, hr45, hc45, hR45⟩ := LiR.get (LiC.mono S_law28_Step.R_ok ((((l19.trans l21).trans l27).trans l31).trans lk0) hp0_0).rd hx0
                  obtain ⟨a45_0, c45_0, rfl, h45_0⟩ := hR45
                  conv => whnf
                  refine RStep.of (load_rd_agg i0 _ hr45 rfl hc45 rfl ?_)
                  conv => whnf
                  refine alloc_rule rfl ?_
                  intro b10
                  conv => whnf
                  refine store_rule r0 rfl ?_
                  conv => whnf
                  refine ⟨rfl, rfl, (Nat.le_of_ble_eq_true rfl), ?_⟩
                  conv => whnf
                  refine field_addr rfl ?_
                  conv => whnf
                  refine RStep.of (load1_s r0 rfl rfl ?_)
                  conv => whnf
                  refine neq_int ?_
                  obtain ⟨x55, e55, hl0⟩ := bnd hl0
                  conv => whnf
                  refine cond_s (fun g50_10 => ?_) (fun g50_10 => ?_)
                  · replace e55 := ift g50_10 e55
                    conv => whnf
                    refine field_addr rfl ?_
                    conv => whnf
                    refine cond_t g50_10 ?_
                    conv => whnf
                    refine RStep.of (load1_s r0 rfl rfl ?_)
                    conv => whnf
                    refine cond_t g50_10 ?_
                    conv => whnf
                    refine u8_rem (x := e0.What) (y := (12 : UInt8)) rfl rfl (by decide) ?_
                    conv => whnf
                    refine cond_t g50_10 ?_
                    conv => whnf
                    refine cond_t g50_10 ?_
                    obtain ⟨x61, e61, hl0⟩ := bnd hl0
                    conv => whnf
                    refine cond_s (fun g56_10 => ?_) (fun g56_10 => ?_)
                    · replace e61 := ift ((si e55).symm.trans g56_10) e61
                      conv => whnf
                      refine field_addr rfl ?_
                      conv => whnf
                      refine cond_t g56_10 ?_
                      conv => whnf
                      refine RStep.of (load1_s r0 rfl rfl ?_)
                      conv => whnf
                      refine cond_t g56_10 ?_
                      conv => whnf
                      refine u8_rem (x := e0.What) (y := (12 : UInt8)) rfl rfl (by decide) ?_
                      conv => whnf
                      refine cond_t g56_10 ?_
                      conv => whnf
                      refine cond_t g56_10 ?_
                      conv => whnf
                      refine cond_go rfl ?_
                      conv => whnf
                      refine cond_s (fun w62 => ?_) (fun w62 => ?_)
                      · replace hl0 := ift ((si e61).symm.trans w62) hl0
                        conv => whnf
                        refine RStep.of (loadn_s r0 rfl (Nat.le_of_ble_eq_true rfl) ?_)
                        obtain ⟨x65, q65, hl0⟩ := bnd hl0
                        conv => whnf
                        refine call_fn (law28_play_nil_ok q65 h45_0) .nil ?_
                        rintro _ K65 _ l65 ⟨rfl, rfl⟩
                        conv => whnf
                        refine cond_T ?_
                        conv => whnf
                        refine int_in (cntz hx0 hk0) ?_
                        conv => whnf
                        refine RoundStep.mk (i0 + 1) ⟨rfl, trivial⟩ (by repeat (first | exact trivial | refine And.intro rfl ?_)) (ConvH.of (.cons r1 .nil)) (lk0.trans l65) (ltm hx0) hl0
                      · replace hl0 := iff_ ((si e61).symm.trans w62) hl0
                        conv => whnf
                        refine field_addr rfl ?_
                        conv => whnf
                        refine RStep.of (load1_s r0 rfl rfl ?_)
                        conv => whnf
                        refine u8_rem (x := e0.What) (y := (12 : UInt8)) rfl rfl (by decide) ?_
                        obtain ⟨x75, e75, hl0⟩ := bnd hl0
                        conv => whnf
                        refine cond_s (fun g70_13 => ?_) (fun g70_13 => ?_)
                        · replace e75 := ift g70_13 e75
                          conv => whnf
                          refine field_addr rfl ?_
                          conv => whnf
                          refine cond_t g70_13 ?_
                          conv => whnf
                          refine RStep.of (load1_s r0 rfl rfl ?_)
                          conv => whnf
                          refine cond_t g70_13 ?_
                          conv => whnf
                          refine u8_rem (x := e0.What) (y := (12 : UInt8)) rfl rfl (by decide) ?_
                          conv => whnf
                          refine cond_t g70_13 ?_
                          conv => whnf
                          refine cond_t g70_13 ?_
                          conv => whnf
                          refine cond_go rfl ?_
                          conv => whnf
                          refine cond_s (fun w75 => ?_) (fun w75 => ?_)
                          · replace hl0 := ift ((si e75).symm.trans w75) hl0
                            conv => whnf
                            refine field_addr rfl ?_
                            conv => whnf
                            refine RStep.of (load1_s r0 rfl rfl ?_)
                            conv => whnf
                            refine field_addr rfl ?_
                            conv => whnf
                            refine RStep.of (load1_s r0 rfl rfl ?_)
                            obtain ⟨x82, q82, hl0⟩ := bnd hl0
                            conv => whnf
                            refine call_fn (fanout_Stream_Read_nil_ok q82) .nil ?_
                            rintro _ K82 _ l82 ⟨a82_0, c82_0, rfl, h82_0, rfl⟩
                            conv => whnf
                            refine field_addr rfl ?_
                            conv => whnf
                            refine RStep.of (load1_s r1 rfl rfl ?_)
                            conv => whnf
                            refine field_addr rfl ?_
                            conv => whnf
                            refine RStep.of (load1_s r1 rfl rfl ?_)
                            obtain ⟨x92, q92, hl0⟩ := bnd hl0
                            conv => whnf
                            refine call_fn (fanout_Stream_Read_nil_ok q92) .nil ?_
                            rintro _ K92 _ l92 ⟨a92_0, c92_0, rfl, h92_0, rfl⟩
                            conv => whnf
                            refine neq_int ?_
                            obtain ⟨x105, e105, hl0⟩ := bnd hl0
                            conv => whnf
                            refine cond_s (fun g99_16 => ?_) (fun g99_16 => ?_)
                            · replace e105 := ift g99_16 e105
                              conv => whnf
                              refine cond_t g99_16 ?_
                              conv => whnf
                              refine cond_t g99_16 ?_
                              conv => whnf
                              refine cond_t g99_16 ?_
                              conv => whnf
                              refine cond_t g99_16 ?_
                              conv => whnf
                              refine cond_t g99_16 ?_
                              obtain ⟨x111, e111, hl0⟩ := bnd hl0
                              replace e111 := ift (si e105).symm e111
                              conv => whnf
                              refine cond_T ?_
                              conv => whnf
                              refine cond_T ?_
                              conv => whnf
                              refine cond_T ?_
                              conv => whnf
                              refine cond_T ?_
                              conv => whnf
                              refine cond_T ?_
                              conv => whnf
                              refine cond_go rfl ?_
                              conv => whnf
                              refine cond_T ?_
                              replace hl0 := ift (si e111).symm hl0
                              obtain rfl := si hl0
                              replace hm := elr hm
                              obtain rfl := si hm
                              conv => whnf
                              refine EndStep.mk _ ((((((l19.trans l21).trans l27).trans l31).trans lk0).trans l82).trans l92) ⟨rfl, rfl⟩ (ConvH.of (.cons r3 .nil))
                            · replace e105 := iff_ g99_16 e105
                              conv => whnf
                              refine cond_f g99_16 ?_
                              obtain ⟨x101, q101, e105⟩ := bnd e105
                              conv => whnf
                              refine call_fn (base_Num_ok q101) .nil ?_
                              rintro _ K101 _ l101 ⟨rfl, rfl⟩
                              conv => whnf
                              refine cond_f g99_16 ?_
                              conv => whnf
                              refine cond_f g99_16 ?_
                              obtain ⟨x103, q103, e105⟩ := bnd e105
                              conv => whnf
                              refine call_fn (base_Num_ok q103) .nil ?_
                              rintro _ K103 _ l103 ⟨rfl, rfl⟩
                              conv => whnf
                              refine cond_f g99_16 ?_
                              conv => whnf
                              refine neq_int ?_
                              conv => whnf
                              refine cond_f g99_16 ?_
                              obtain ⟨x111, e111, hl0⟩ := bnd hl0
                              conv => whnf
                              refine cond_s (fun g106_16 => ?_) (fun g106_16 => ?_)
                              · replace e111 := ift ((si e105).symm.trans g106_16) e111
                                conv => whnf
                                refine cond_t g106_16 ?_
                                conv => whnf
                                refine cond_t g106_16 ?_
                                conv => whnf
                                refine cond_t g106_16 ?_
                                conv => whnf
                                refine cond_t g106_16 ?_
                                conv => whnf
                                refine cond_go rfl ?_
                                conv => whnf
                                refine cond_T ?_
                                replace hl0 := ift (si e111).symm hl0
                                obtain rfl := si hl0
                                replace hm := elr hm
                                obtain rfl := si hm
                                conv => whnf
                                refine EndStep.mk _ ((((((((l19.trans l21).trans l27).trans l31).trans lk0).trans l82).trans l92).trans l101).trans l103) ⟨rfl, rfl⟩ (ConvH.of (.cons r3 .nil))
                              · replace e111 := iff_ ((si e105).symm.trans g106_16) e111
                                conv => whnf
                                refine cond_f g106_16 ?_
                                conv => whnf
                                refine cond_f g106_16 ?_
                                obtain ⟨x109, q109, e111⟩ := bnd e111
                                conv => whnf
                                refine call_fn (Fn.lend Try.call15 (fun K109_0 l109_0 f109_0 => (Fn.lend Try.call15 (fun K109_1 l109_1 f109_1 => (base_Bytes_ok q109 (f109_0.mono l109_1) rfl f109_1 rfl)) (by exact fun _ _ _ _ h => h))) (by exact fun _ _ _ _ h => h)) (.cons r1 (.cons r0 .nil)) ?_
                                rintro _ K109 _ l109 ⟨_, rfl, _, rfl, rfl, rfl⟩
                                conv => whnf
                                refine cond_f g106_16 ?_
                                conv => whnf
                                refine un_not ?_
                                conv => whnf
                                refine cond_f g106_16 ?_
                                conv => whnf
                                refine cond_go rfl ?_
                                conv => whnf
                                refine cond_s (fun w111 => ?_) (fun w111 => ?_)
                                · replace hl0 := ift ((si e111).symm.trans (not_t (ni_t w111))) hl0
                                  obtain rfl := si hl0
                                  replace hm := elr hm
                                  obtain rfl := si hm
                                  conv => whnf
                                  refine EndStep.mk _ (((((((((l19.trans l21).trans l27).trans l31).trans lk0).trans l82).trans l92).trans l101).trans l103).trans l109) ⟨rfl, rfl⟩ (ConvH.of (.cons r3 .nil))
                                · replace hl0 := iff_ ((si e111).symm.trans (not_f (ni_f w111))) hl0
                                  conv => whnf
                                  refine cond_T ?_
                                  conv => whnf
                                  refine int_in (cntz hx0 hk0) ?_
                                  conv => whnf
                                  refine RoundStep.mk (i0 + 1) ⟨rfl, trivial⟩ (by repeat (first | exact trivial | refine And.intro rfl ?_)) (ConvH.of (.cons r3 .nil)) (((((lk0.trans l82).trans l92).trans l101).trans l103).trans l109) (ltm hx0) hl0
                          · replace hl0 := iff_ ((si e75).symm.trans w75) hl0
                            conv => whnf
                            refine RStep.of (loadn_s r0 rfl (Nat.le_of_ble_eq_true rfl) ?_)
                            obtain ⟨x114, q114, hl0⟩ := bnd hl0
                            conv => whnf
                            refine call_fn (law28_play_nil_ok q114 h45_0) .nil ?_
                            rintro _ K114 _ l114 ⟨rfl, rfl⟩
                            conv => whnf
                            refine RStep.of (loadn_s r0 rfl (Nat.le_of_ble_eq_true rfl) ?_)
                            obtain ⟨x117, q117, hl0⟩ := bnd hl0
                            conv => whnf
                            refine call_fn (law28_play_nil_ok q117 (h45_0.mono l114)) .nil ?_
                            rintro _ K117 _ l117 ⟨rfl, rfl⟩
                            conv => whnf
                            refine int_in (cntz hx0 hk0) ?_
                            conv => whnf
                            refine RoundStep.mk (i0 + 1) ⟨rfl, trivial⟩ (by repeat (first | exact trivial | refine And.intro rfl ?_)) (ConvH.of (.cons r1 .nil)) ((lk0.trans l114).trans l117) (ltm hx0) hl0
                        · replace e75 := iff_ g70_13 e75
                          conv => whnf
                          refine cond_f g70_13 ?_
                          conv => whnf
                          refine cond_f g70_13 ?_
                          conv => whnf
                          refine cond_f g70_13 ?_
                          conv => whnf
                          refine cond_f g70_13 ?_
                          conv => whnf
                          refine cond_go rfl ?_
                          conv => whnf
                          refine cond_F ?_
                          replace hl0 := iff_ (si e75).symm hl0
                          conv => whnf
                          refine RStep.of (loadn_s r0 rfl (Nat.le_of_ble_eq_true rfl) ?_)
                          obtain ⟨x114, q114, hl0⟩ := bnd hl0
                          conv => whnf
                          refine call_fn (law28_play_nil_ok q114 h45_0) .nil ?_
                          rintro _ K114 _ l114 ⟨rfl, rfl⟩
                          conv => whnf
                          refine RStep.of (loadn_s r0 rfl (Nat.le_of_ble_eq_true rfl) ?_)
                          obtain ⟨x117, q117, hl0⟩ := bnd hl0
                          conv => whnf
                          refine call_fn (law28_play_nil_ok q117 (h45_0.mono l114)) .nil ?_
                          rintro _ K117 _ l117 ⟨rfl, rfl⟩
                          conv => whnf
                          refine int_in (cntz hx0 hk0) ?_
                          conv => whnf
                          refine RoundStep.mk (i0 + 1) ⟨rfl, trivial⟩ (by repeat (first | exact trivial | refine And.intro rfl ?_)) (ConvH.of (.cons r1 .nil)) ((lk0.trans l114).trans l117) (ltm hx0) hl0
                    · replace e61 := iff_ ((si e55).symm.trans g56_10) e61
                      conv => whnf
                      refine cond_f g56_10 ?_
                      conv => whnf
                      refine cond_f g56_10 ?_
                      conv => whnf
                      refine cond_f g56_10 ?_
                      conv => whnf
                      refine cond_f g56_10 ?_
                      conv => whnf
                      refine cond_go rfl ?_
                      conv => whnf
                      refine cond_F ?_
                      replace hl0 := iff_ (si e61).symm hl0
                      conv => whnf
                      refine field_addr rfl ?_
                      conv => whnf
                      refine RStep.of (load1_s r0 rfl rfl ?_)
                      conv => whnf
                      refine u8_rem (x := e0.What) (y := (12 : UInt8)) rfl rfl (by decide) ?_
                      obtain ⟨x75, e75, hl0⟩ := bnd hl0
                      conv => whnf
                      refine cond_s (fun g70_13 => ?_) (fun g70_13 => ?_)
                      · replace e75 := ift g70_13 e75
                        conv => whnf
                        refine field_addr rfl ?_
                        conv => whnf
                        refine cond_t g70_13 ?_
                        conv => whnf
                        refine RStep.of (load1_s r0 rfl rfl ?_)
                        conv => whnf
                        refine cond_t g70_13 ?_
                        conv => whnf
                        refine u8_rem (x := e0.What) (y := (12 : UInt8)) rfl rfl (by decide) ?_
                        conv => whnf
                        refine cond_t g70_13 ?_
                        conv => whnf
                        refine cond_t g70_13 ?_
                        conv => whnf
                        refine cond_go rfl ?_
                        conv => whnf
                        refine cond_s (fun w75 => ?_) (fun w75 => ?_)
                        · replace hl0 := ift ((si e75).symm.trans w75) hl0
                          conv => whnf
                          refine field_addr rfl ?_
                          conv => whnf
                          refine RStep.of (load1_s r0 rfl rfl ?_)
                          conv => whnf
                          refine field_addr rfl ?_
                          conv => whnf
                          refine RStep.of (load1_s r0 rfl rfl ?_)
                          obtain ⟨x82, q82, hl0⟩ := bnd hl0
                          conv => whnf
                          refine call_fn (fanout_Stream_Read_nil_ok q82) .nil ?_
                          rintro _ K82 _ l82 ⟨a82_0, c82_0, rfl, h82_0, rfl⟩
                          conv => whnf
                          refine field_addr rfl ?_
                          conv => whnf
                          refine RStep.of (load1_s r1 rfl rfl ?_)
                          conv => whnf
                          refine field_addr rfl ?_
                          conv => whnf
                          refine RStep.of (load1_s r1 rfl rfl ?_)
                          obtain ⟨x92, q92, hl0⟩ := bnd hl0
                          conv => whnf
                          refine call_fn (fanout_Stream_Read_nil_ok q92) .nil ?_
                          rintro _ K92 _ l92 ⟨a92_0, c92_0, rfl, h92_0, rfl⟩
                          conv => whnf
                          refine neq_int ?_
                          obtain ⟨x105, e105, hl0⟩ := bnd hl0
                          conv => whnf
                          refine cond_s (fun g99_16 => ?_) (fun g99_16 => ?_)
                          · replace e105 := ift g99_16 e105
                            conv => whnf
                            refine cond_t g99_16 ?_
                            conv => whnf
                            refine cond_t g99_16 ?_
                            conv => whnf
                            refine cond_t g99_16 ?_
                            conv => whnf
                            refine cond_t g99_16 ?_
                            conv => whnf
                            refine cond_t g99_16 ?_
                            obtain ⟨x111, e111, hl0⟩ := bnd hl0
                            replace e111 := ift (si e105).symm e111
                            conv => whnf
                            refine cond_T ?_
                            conv => whnf
                            refine cond_T ?_
                            conv => whnf
                            refine cond_T ?_
                            conv => whnf
                            refine cond_T ?_
                            conv => whnf
                            refine cond_T ?_
                            conv => whnf
                            refine cond_go rfl ?_
                            conv => whnf
                            refine cond_T ?_
                            replace hl0 := ift (si e111).symm hl0
                            obtain rfl := si hl0
                            replace hm := elr hm
                            obtain rfl := si hm
                            conv => whnf
                            refine EndStep.mk _ ((((((l19.trans l21).trans l27).trans l31).trans lk0).trans l82).trans l92) ⟨rfl, rfl⟩ (ConvH.of (.cons r3 .nil))
                          · replace e105 := iff_ g99_16 e105
                            conv => whnf
                            refine cond_f g99_16 ?_
                            obtain ⟨x101, q101, e105⟩ := bnd e105
                            conv => whnf
                            refine call_fn (base_Num_ok q101) .nil ?_
                            rintro _ K101 _ l101 ⟨rfl, rfl⟩
                            conv => whnf
                            refine cond_f g99_16 ?_
                            conv => whnf
                            refine cond_f g99_16 ?_
                            obtain ⟨x103, q103, e105⟩ := bnd e105
                            conv => whnf
                            refine call_fn (base_Num_ok q103) .nil ?_
                            rintro _ K103 _ l103 ⟨rfl, rfl⟩
                            conv => whnf
                            refine cond_f g99_16 ?_
                            conv => whnf
                            refine neq_int ?_
                            conv => whnf
                            refine cond_f g99_16 ?_
                            obtain ⟨x111, e111, hl0⟩ := bnd hl0
                            conv => whnf
                            refine cond_s (fun g106_16 => ?_) (fun g106_16 => ?_)
                            · replace e111 := ift ((si e105).symm.trans g106_16) e111
                              conv => whnf
                              refine cond_t g106_16 ?_
                              conv => whnf
                              refine cond_t g106_16 ?_
                              conv => whnf
                              refine cond_t g106_16 ?_
                              conv => whnf
                              refine cond_t g106_16 ?_
                              conv => whnf
                              refine cond_go rfl ?_
                              conv => whnf
                              refine cond_T ?_
                              replace hl0 := ift (si e111).symm hl0
                              obtain rfl := si hl0
                              replace hm := elr hm
                              obtain rfl := si hm
                              conv => whnf
                              refine EndStep.mk _ ((((((((l19.trans l21).trans l27).trans l31).trans lk0).trans l82).trans l92).trans l101).trans l103) ⟨rfl, rfl⟩ (ConvH.of (.cons r3 .nil))
                            · replace e111 := iff_ ((si e105).symm.trans g106_16) e111
                              conv => whnf
                              refine cond_f g106_16 ?_
                              conv => whnf
                              refine cond_f g106_16 ?_
                              obtain ⟨x109, q109, e111⟩ := bnd e111
                              conv => whnf
                              refine call_fn (Fn.lend Try.call15 (fun K109_0 l109_0 f109_0 => (Fn.lend Try.call15 (fun K109_1 l109_1 f109_1 => (base_Bytes_ok q109 (f109_0.mono l109_1) rfl f109_1 rfl)) (by exact fun _ _ _ _ h => h))) (by exact fun _ _ _ _ h => h)) (.cons r1 (.cons r0 .nil)) ?_
                              rintro _ K109 _ l109 ⟨_, rfl, _, rfl, rfl, rfl⟩
                              conv => whnf
                              refine cond_f g106_16 ?_
                              conv => whnf
                              refine un_not ?_
                              conv => whnf
                              refine cond_f g106_16 ?_
                              conv => whnf
                              refine cond_go rfl ?_
                              conv => whnf
                              refine cond_s (fun w111 => ?_) (fun w111 => ?_)
                              · replace hl0 := ift ((si e111).symm.trans (not_t (ni_t w111))) hl0
                                obtain rfl := si hl0
                                replace hm := elr hm
                                obtain rfl := si hm
                                conv => whnf
                                refine EndStep.mk _ (((((((((l19.trans l21).trans l27).trans l31).trans lk0).trans l82).trans l92).trans l101).trans l103).trans l109) ⟨rfl, rfl⟩ (ConvH.of (.cons r3 .nil))
                              · replace hl0 := iff_ ((si e111).symm.trans (not_f (ni_f w111))) hl0
                                conv => whnf
                                refine cond_T ?_
                                conv => whnf
                                refine int_in (cntz hx0 hk0) ?_
                                conv => whnf
                                refine RoundStep.mk (i0 + 1) ⟨rfl, trivial⟩ (by repeat (first | exact trivial | refine And.intro rfl ?_)) (ConvH.of (.cons r3 .nil)) (((((lk0.trans l82).trans l92).trans l101).trans l103).trans l109) (ltm hx0) hl0
                        · replace hl0 := iff_ ((si e75).symm.trans w75) hl0
                          conv => whnf
                          refine RStep.of (loadn_s r0 rfl (Nat.le_of_ble_eq_true rfl) ?_)
                          obtain ⟨x114, q114, hl0⟩ := bnd hl0
                          conv => whnf
                          refine call_fn (law28_play_nil_ok q114 h45_0) .nil ?_
                          rintro _ K114 _ l114 ⟨rfl, rfl⟩
                          conv => whnf
                          refine RStep.of (loadn_s r0 rfl (Nat.le_of_ble_eq_true rfl) ?_)
                          obtain ⟨x117, q117, hl0⟩ := bnd hl0
                          conv => whnf
                          refine call_fn (law28_play_nil_ok q117 (h45_0.mono l114)) .nil ?_
                          rintro _ K117 _ l117 ⟨rfl, rfl⟩
                          conv => whnf
                          refine int_in (cntz hx0 hk0) ?_
                          conv => whnf
                          refine RoundStep.mk (i0 + 1) ⟨rfl, trivial⟩ (by repeat (first | exact trivial | refine And.intro rfl ?_)) (ConvH.of (.cons r1 .nil)) ((lk0.trans l114).trans l117) (ltm hx0) hl0
                      · replace e75 := iff_ g70_13 e75
                        conv => whnf
                        refine cond_f g70_13 ?_
                        conv => whnf
                        refine cond_f g70_13 ?_
                        conv => whnf
                        refine cond_f g70_13 ?_
                        conv => whnf
                        refine cond_f g70_13 ?_
                        conv => whnf
                        refine cond_go rfl ?_
                        conv => whnf
                        refine cond_F ?_
                        replace hl0 := iff_ (si e75).symm hl0
                        conv => whnf
                        refine RStep.of (loadn_s r0 rfl (Nat.le_of_ble_eq_true rfl) ?_)
                        obtain ⟨x114, q114, hl0⟩ := bnd hl0
                        conv => whnf
                        refine call_fn (law28_play_nil_ok q114 h45_0) .nil ?_
                        rintro _ K114 _ l114 ⟨rfl, rfl⟩
                        conv => whnf
                        refine RStep.of (loadn_s r0 rfl (Nat.le_of_ble_eq_true rfl) ?_)
                        obtain ⟨x117, q117, hl0⟩ := bnd hl0
                        conv => whnf
                        refine call_fn (law28_play_nil_ok q117 (h45_0.mono l114)) .nil ?_
                        rintro _ K117 _ l117 ⟨rfl, rfl⟩
                        conv => whnf
                        refine int_in (cntz hx0 hk0) ?_
                        conv => whnf
                        refine RoundStep.mk (i0 + 1) ⟨rfl, trivial⟩ (by repeat (first | exact trivial | refine And.intro rfl ?_)) (ConvH.of (.cons r1 .nil)) ((lk0.trans l114).trans l117) (ltm hx0) hl0
                  · replace e55 := iff_ g50_10 e55
                    conv => whnf
                    refine cond_f g50_10 ?_
                    conv => whnf
                    refine cond_f g50_10 ?_
                    conv => whnf
                    refine cond_f g50_10 ?_
                    conv => whnf
                    refine cond_f g50_10 ?_
                    obtain ⟨x61, e61, hl0⟩ := bnd hl0
                    replace e61 := iff_ (si e55).symm e61
                    conv => whnf
                    refine cond_F ?_
                    conv => whnf
                    refine cond_F ?_
                    conv => whnf
                    refine cond_F ?_
                    conv => whnf
                    refine cond_F ?_
                    conv => whnf
                    refine cond_F ?_
                    conv => whnf
                    refine cond_go rfl ?_
                    conv => whnf
                    refine cond_F ?_
                    replace hl0 := iff_ (si e61).symm hl0
                    conv => whnf
                    refine field_addr rfl ?_
                    conv => whnf
                    refine RStep.of (load1_s r0 rfl rfl ?_)
                    conv => whnf
                    refine u8_rem (x := e0.What) (y := (12 : UInt8)) rfl rfl (by decide) ?_
                    obtain ⟨x75, e75, hl0⟩ := bnd hl0
                    conv => whnf
                    refine cond_s (fun g70_13 => ?_) (fun g70_13 => ?_)
                    · replace e75 := ift g70_13 e75
                      conv => whnf
                      refine field_addr rfl ?_
                      conv => whnf
                      refine cond_t g70_13 ?_
                      conv => whnf
                      refine RStep.of (load1_s r0 rfl rfl ?_)
                      conv => whnf
                      refine cond_t g70_13 ?_
                      conv => whnf
                      refine u8_rem (x := e0.What) (y := (12 : UInt8)) rfl rfl (by decide) ?_
                      conv => whnf
                      refine cond_t g70_13 ?_
                      conv => whnf
                      refine cond_t g70_13 ?_
                      conv => whnf
                      refine cond_go rfl ?_
                      conv => whnf
                      refine cond_s (fun w75 => ?_) (fun w75 => ?_)
                      · replace hl0 := ift ((si e75).symm.trans w75) hl0
                        conv => whnf
                        refine field_addr rfl ?_
                        conv => whnf
                        refine RStep.of (load1_s r0 rfl rfl ?_)
                        conv => whnf
                        refine field_addr rfl ?_
                        conv => whnf
                        refine RStep.of (load1_s r0 rfl rfl ?_)
                        obtain ⟨x82, q82, hl0⟩ := bnd hl0
                        conv => whnf
                        refine call_fn (fanout_Stream_Read_nil_ok q82) .nil ?_
                        rintro _ K82 _ l82 ⟨a82_0, c82_0, rfl, h82_0, rfl⟩
                        conv => whnf
                        refine field_addr rfl ?_
                        conv => whnf
                        refine RStep.of (load1_s r1 rfl rfl ?_)
                        conv => whnf
                        refine field_addr rfl ?_
                        conv => whnf
                        refine RStep.of (load1_s r1 rfl rfl ?_)
                        obtain ⟨x92, q92, hl0⟩ := bnd hl0
                        conv => whnf
                        refine call_fn (fanout_Stream_Read_nil_ok q92) .nil ?_
                        rintro _ K92 _ l92 ⟨a92_0, c92_0, rfl, h92_0, rfl⟩
                        conv => whnf
                        refine neq_int ?_
                        obtain ⟨x105, e105, hl0⟩ := bnd hl0
                        conv => whnf
                        refine cond_s (fun g99_16 => ?_) (fun g99_16 => ?_)
                        · replace e105 := ift g99_16 e105
                          conv => whnf
                          refine cond_t g99_16 ?_
                          conv => whnf
                          refine cond_t g99_16 ?_
                          conv => whnf
                          refine cond_t g99_16 ?_
                          conv => whnf
                          refine cond_t g99_16 ?_
                          conv => whnf
                          refine cond_t g99_16 ?_
                          obtain ⟨x111, e111, hl0⟩ := bnd hl0
                          replace e111 := ift (si e105).symm e111
                          conv => whnf
                          refine cond_T ?_
                          conv => whnf
                          refine cond_T ?_
                          conv => whnf
                          refine cond_T ?_
                          conv => whnf
                          refine cond_T ?_
                          conv => whnf
                          refine cond_T ?_
                          conv => whnf
                          refine cond_go rfl ?_
                          conv => whnf
                          refine cond_T ?_
                          replace hl0 := ift (si e111).symm hl0
                          obtain rfl := si hl0
                          replace hm := elr hm
                          obtain rfl := si hm
                          conv => whnf
                          refine EndStep.mk _ ((((((l19.trans l21).trans l27).trans l31).trans lk0).trans l82).trans l92) ⟨rfl, rfl⟩ (ConvH.of (.cons r3 .nil))
                        · replace e105 := iff_ g99_16 e105
                          conv => whnf
                          refine cond_f g99_16 ?_
                          obtain ⟨x101, q101, e105⟩ := bnd e105
                          conv => whnf
                          refine call_fn (base_Num_ok q101) .nil ?_
                          rintro _ K101 _ l101 ⟨rfl, rfl⟩
                          conv => whnf
                          refine cond_f g99_16 ?_
                          conv => whnf
                          refine cond_f g99_16 ?_
                          obtain ⟨x103, q103, e105⟩ := bnd e105
                          conv => whnf
                          refine call_fn (base_Num_ok q103) .nil ?_
                          rintro _ K103 _ l103 ⟨rfl, rfl⟩
                          conv => whnf
                          refine cond_f g99_16 ?_
                          conv => whnf
                          refine neq_int ?_
                          conv => whnf
                          refine cond_f g99_16 ?_
                          obtain ⟨x111, e111, hl0⟩ := bnd hl0
                          conv => whnf
                          refine cond_s (fun g106_16 => ?_) (fun g106_16 => ?_)
                          · replace e111 := ift ((si e105).symm.trans g106_16) e111
                            conv => whnf
                            refine cond_t g106_16 ?_
                            conv => whnf
                            refine cond_t g106_16 ?_
                            conv => whnf
                            refine cond_t g106_16 ?_
                            conv => whnf
                            refine cond_t g106_16 ?_
                            conv => whnf
                            refine cond_go rfl ?_
                            conv => whnf
                            refine cond_T ?_
                            replace hl0 := ift (si e111).symm hl0
                            obtain rfl := si hl0
                            replace hm := elr hm
                            obtain rfl := si hm
                            conv => whnf
                            refine EndStep.mk _ ((((((((l19.trans l21).trans l27).trans l31).trans lk0).trans l82).trans l92).trans l101).trans l103) ⟨rfl, rfl⟩ (ConvH.of (.cons r3 .nil))
                          · replace e111 := iff_ ((si e105).symm.trans g106_16) e111
                            conv => whnf
                            refine cond_f g106_16 ?_
                            conv => whnf
                            refine cond_f g106_16 ?_
                            obtain ⟨x109, q109, e111⟩ := bnd e111
                            conv => whnf
                            refine call_fn (Fn.lend Try.call15 (fun K109_0 l109_0 f109_0 => (Fn.lend Try.call15 (fun K109_1 l109_1 f109_1 => (base_Bytes_ok q109 (f109_0.mono l109_1) rfl f109_1 rfl)) (by exact fun _ _ _ _ h => h))) (by exact fun _ _ _ _ h => h)) (.cons r1 (.cons r0 .nil)) ?_
                            rintro _ K109 _ l109 ⟨_, rfl, _, rfl, rfl, rfl⟩
                            conv => whnf
                            refine cond_f g106_16 ?_
                            conv => whnf
                            refine un_not ?_
                            conv => whnf
                            refine cond_f g106_16 ?_
                            conv => whnf
                            refine cond_go rfl ?_
                            conv => whnf
                            refine cond_s (fun w111 => ?_) (fun w111 => ?_)
                            · replace hl0 := ift ((si e111).symm.trans (not_t (ni_t w111))) hl0
                              obtain rfl := si hl0
                              replace hm := elr hm
                              obtain rfl := si hm
                              conv => whnf
                              refine EndStep.mk _ (((((((((l19.trans l21).trans l27).trans l31).trans lk0).trans l82).trans l92).trans l101).trans l103).trans l109) ⟨rfl, rfl⟩ (ConvH.of (.cons r3 .nil))
                            · replace hl0 := iff_ ((si e111).symm.trans (not_f (ni_f w111))) hl0
                              conv => whnf
                              refine cond_T ?_
                              conv => whnf
                              refine int_in (cntz hx0 hk0) ?_
                              conv => whnf
                              refine RoundStep.mk (i0 + 1) ⟨rfl, trivial⟩ (by repeat (first | exact trivial | refine And.intro rfl ?_)) (ConvH.of (.cons r3 .nil)) (((((lk0.trans l82).trans l92).trans l101).trans l103).trans l109) (ltm hx0) hl0
                      · replace hl0 := iff_ ((si e75).symm.trans w75) hl0
                        conv => whnf
                        refine RStep.of (loadn_s r0 rfl (Nat.le_of_ble_eq_true rfl) ?_)
                        obtain ⟨x114, q114, hl0⟩ := bnd hl0
                        conv => whnf
                        refine call_fn (law28_play_nil_ok q114 h45_0) .nil ?_
                        rintro _ K114 _ l114 ⟨rfl, rfl⟩
                        conv => whnf
                        refine RStep.of (loadn_s r0 rfl (Nat.le_of_ble_eq_true rfl) ?_)
                        obtain ⟨x117, q117, hl0⟩ := bnd hl0
                        conv => whnf
                        refine call_fn (law28_play_nil_ok q117 (h45_0.mono l114)) .nil ?_
                        rintro _ K117 _ l117 ⟨rfl, rfl⟩
                        conv => whnf
                        refine int_in (cntz hx0 hk0) ?_
                        conv => whnf
                        refine RoundStep.mk (i0 + 1) ⟨rfl, trivial⟩ (by repeat (first | exact trivial | refine And.intro rfl ?_)) (ConvH.of (.cons r1 .nil)) ((lk0.trans l114).trans l117) (ltm hx0) hl0
                    · replace e75 := iff_ g70_13 e75
                      conv => whnf
                      refine cond_f g70_13 ?_
                      conv => whnf
                      refine cond_f g70_13 ?_
                      conv => whnf
                      refine cond_f g70_13 ?_
                      conv => whnf
                      refine cond_f g70_13 ?_
                      conv => whnf
                      refine cond_go rfl ?_
                      conv => whnf
                      refine cond_F ?_
                      replace hl0 := iff_ (si e75).symm hl0
                      conv => whnf
                      refine RStep.of (loadn_s r0 rfl (Nat.le_of_ble_eq_true rfl) ?_)
                      obtain ⟨x114, q114, hl0⟩ := bnd hl0
                      conv => whnf
                      refine call_fn (law28_play_nil_ok q114 h45_0) .nil ?_
                      rintro _ K114 _ l114 ⟨rfl, rfl⟩
                      conv => whnf
                      refine RStep.of (loadn_s r0 rfl (Nat.le_of_ble_eq_true rfl) ?_)
                      obtain ⟨x117, q117, hl0⟩ := bnd hl0
                      conv => whnf
                      refine call_fn (law28_play_nil_ok q117 (h45_0.mono l114)) .nil ?_
                      rintro _ K117 _ l117 ⟨rfl, rfl⟩
                      conv => whnf
                      refine int_in (cntz hx0 hk0) ?_
                      conv => whnf
                      refine RoundStep.mk (i0 + 1) ⟨rfl, trivial⟩ (by repeat (first | exact trivial | refine And.intro rfl ?_)) (ConvH.of (.cons r1 .nil)) ((lk0.trans l114).trans l117) (ltm hx0) hl0
                · rw [lty w0, law28_FanoutAlone_L0.eq_1] at hl0
                  conv => whnf
                  refine cond_T ?_
                  conv => whnf
                  refine MeetStep.mk (()) trivial (by repeat (first | exact trivial | refine And.intro rfl ?_)) (ConvH.of (.cons r0 .nil)) lk0 (si hl0).symm
              · rintro t0 Kt0 lt0 rfl j0
                replace hm := elg hm
                obtain ⟨x120, q120, hm⟩ := bnd hm
                conv => whnf
                refine call_fn (fanout_Stream_Written_nil_ok q120) .nil ?_
                rintro _ K120 _ l120 ⟨rfl, rfl⟩
                obtain ⟨x122, q122, hm⟩ := bnd hm
                conv => whnf
                refine call_fn (fanout_Stream_Written_nil_ok q122) .nil ?_
                rintro _ K122 _ l122 ⟨rfl, rfl⟩
                conv => whnf
                refine eq_int ?_
                obtain rfl := si hm
                conv => whnf
                refine EndStep.mk _ ((((((l19.trans l21).trans l27).trans l31).trans lt0).trans l120).trans l122) ⟨rfl, rfl⟩ (ConvH.of (.cons r0 .nil))
        · rw [hq31] at p31 hm
          obtain ⟨b31_0, a31_1, c31_1, m31_2, rfl, h31_1, rfl⟩ := p31
          replace hm := oe_s hm
          conv => whnf
          refine neq_err rfl ?_
          conv => whnf
          refine cond_s (fun g36_5 => ?_) (fun g36_5 => ?_)
          · conv => whnf
            refine cond_t g36_5 ?_
            conv => whnf
            refine cond_t g36_5 ?_
            conv => whnf
            refine cond_go rfl ?_
            conv => whnf
            refine cond_T ?_
            replace hm := ift (or_t g36_5) hm
            obtain rfl := si hm
            conv => whnf
            refine EndStep.mk _ (((l19.trans l21).trans l27).trans l31) ⟨rfl, rfl⟩ (ConvH.of (.cons r3 .nil))
          · conv => whnf
            refine cond_f g36_5 ?_
            conv => whnf
            refine neq_err rfl ?_
            conv => whnf
            refine cond_f g36_5 ?_
            conv => whnf
            refine cond_go rfl ?_
            conv => whnf
            refine cond_s (fun w39 => ?_) (fun w39 => ?_)
            · replace hm := ift (or_u g36_5 w39) hm
              obtain rfl := si hm
              conv => whnf
              refine EndStep.mk _ (((l19.trans l21).trans l27).trans l31) ⟨rfl, rfl⟩ (ConvH.of (.cons r3 .nil))
            · replace hm := iff_ (or_f g36_5 w39) hm
              conv => whnf
              refine RStep.of (len_slice rfl ?_)
              obtain ⟨hk0, hm⟩ := chkb hm
              obtain ⟨s0, hl0, hm⟩ := bnd hm
              conv => whnf
              refine code_cut (σ := (S_fanout_Stream) × Option Addr × Nat × Nat) [4, 10, 11, 12, 13, 14, 15, 16, 17, 42, 43, 44, 45, 46, 47, 48, 49, 50, 51, 52, 53, 54, 55, 56, 57, 58, 59, 60, 61, 62, 63, 64, 65, 66, 67, 68, 69, 70, 71, 72, 73, 74, 75, 76, 77, 78, 79, 80, 81, 82, 83, 84, 85, 86, 87, 88, 89, 90, 91, 92, 93, 94, 95, 96, 97, 98, 99, 100, 101, 102, 103, 104, 105, 106, 107, 108, 109, 110, 111, 112, 113, 114, 115, 116, 117, 118] (fun (t0, at0_0_0, ct0_0_0, mt0_0_1) => []) (fun (t0, at0_0_0, ct0_0_0, mt0_0_1) => [Cells b31_0 77 [.int .i64 t0.limit, .int .i64 t0.state, .slice at0_0_0 t0.data.length ct0_0_0, .map (some mt0_0_1)], OwnL eU at0_0_0 5 1 ct0_0_0 t0.data, MapE intK (fun x => .int .i64 x) mt0_0_1 t0.offsets, F]) (fun zz K1 => match zz with | (t0, at0_0_0, ct0_0_0, mt0_0_1) => (0 < t0.data.length → Has at0_0_0) ∧ s0 = Fl.go t0) ?_ ?_
              · refine block_go rfl ?_
                conv => whnf
                refine loop_rule (σ := Nat × S_fanout_Stream × Option Addr × Nat × Nat) [4, 10, 11, 12, 13, 14, 15, 16, 17, 42, 43, 44, 45, 46, 47, 48, 49, 50, 51, 52, 53, 54, 55, 56, 57, 58, 59, 60, 61, 62, 63, 64, 65, 66, 67, 68, 69, 70, 71, 72, 73, 74, 75, 76, 77, 78, 79, 80, 81, 82, 83, 84, 85, 86, 87, 88, 89, 90, 91, 92, 93, 94, 95, 96, 97, 98, 99, 100, 101, 102, 103, 104, 105, 106, 107, 108, 109, 110, 111, 112, 113, 114, 115, 116, 117, 118] (fun (i0, y0_0, ay0_0_0, cy0_0_0, my0_0_1) => [(42, .int .i64 (i0 : Int))]) (fun (i0, y0_0, ay0_0_0, cy0_0_0, my0_0_1) => [Cells b31_0 77 [.int .i64 y0_0.limit, .int .i64 y0_0.state, .slice ay0_0_0 y0_0.data.length cy0_0_0, .map (some my0_0_1)], OwnL eU ay0_0_0 5 1 cy0_0_0 y0_0.data, MapE intK (fun x => .int .i64 x) my0_0_1 y0_0.offsets, F]) (fun zz K1 => match zz with | (i0, y0_0, ay0_0_0, cy0_0_0, my0_0_1) => (0 < y0_0.data.length → Has ay0_0_0) ∧ law28_FanoutAlone_L0b id (script.drop i0) i0 y0_0 = some s0) (fun zz => script.length - zz.1) (0, o31, a31_1, c31_1, m31_2) rfl ⟨rfl, trivial⟩ (ConvH.of (.cons r0 (.cons r0 (.cons r0 (.cons r0 .nil))))) ⟨h31_1, hl0⟩ ?_
                clear hl0
                rintro ⟨i0, y0_0, ay0_0_0, cy0_0_0, my0_0_1⟩ Kb0 lk0 ⟨hy0_0_0, hl0⟩ j0
                conv => whnf
                refine cond_go rfl ?_
                conv => whnf
                refine cond_s (fun w0 => ?_) (fun w0 => ?_)
                · obtain ⟨e0, hx0, hd0⟩ := ltx w0
                  rw [hd0, law28_FanoutAlone_L0b.eq_2] at hl0
                  conv => whnf
                  refine block_go rfl ?_
                  conv => whnf
                  refine RStep.ofN (index_addr rfl rfl (hasR (LiC.mono S_law28_Step.R_ok ((((l19.trans l21).trans l27).trans l31).trans lk0) hp0_0).rd hx0) (nn _) (lt_ofN hx0) ?_)
                  obtain ⟨ss45, cc45, hr45, hc45, hR45⟩ := LiR.get (LiC.mono S_law28_Step.R_ok ((((l19.trans l21).trans l27).trans l31).trans lk0) hp0_0).rd hx0
                  obtain ⟨a45_0, c45_0, rfl, h45_0⟩ := hR45
                  conv => whnf
                  refine RStep.of (load_rd_agg i0 _ hr45 rfl hc45 rfl ?_)
                  conv => whnf
                  refine alloc_rule rfl ?_
                  intro b10
                  conv => whnf
                  refine store_rule r0 rfl ?_
                  conv => whnf
                  refine ⟨rfl, rfl, (Nat.le_of_ble_eq_true rfl), ?_⟩
                  conv => whnf
                  refine field_addr rfl ?_
                  conv => whnf
                  refine RStep.of (load1_s r0 rfl rfl ?_)
                  conv => whnf
                  refine neq_int ?_
                  obtain ⟨x55, e55, hl0⟩ := bnd hl0
                  conv => whnf
                  refine cond_s (fun g50_10 => ?_) (fun g50_10 => ?_)
                  · replace e55 := ift g50_10 e55
                    conv => whnf
                    refine field_addr rfl ?_
                    conv => whnf
                    refine cond_t g50_10 ?_
                    conv => whnf
                    refine RStep.of (load1_s r0 rfl rfl ?_)
                    conv => whnf
                    refine cond_t g50_10 ?_
                    conv => whnf
                    refine u8_rem (x := e0.What) (y := (12 : UInt8)) rfl rfl (by decide) ?_
                    conv => whnf
                    refine cond_t g50_10 ?_
                    conv => whnf
                    refine cond_t g50_10 ?_
                    obtain ⟨x61, e61, hl0⟩ := bnd hl0
                    conv => whnf
                    refine cond_s (fun g56_10 => ?_) (fun g56_10 => ?_)
                    · replace e61 := ift ((si e55).symm.trans g56_10) e61
                      conv => whnf
                      refine field_addr rfl ?_
                      conv => whnf
                      refine cond_t g56_10 ?_
                      conv => whnf
                      refine RStep.of (load1_s r0 rfl rfl ?_)
                      conv => whnf
                      refine cond_t g56_10 ?_
                      conv => whnf
                      refine u8_rem (x := e0.What) (y := (12 : UInt8)) rfl rfl (by decide) ?_
                      conv => whnf
                      refine cond_t g56_10 ?_
                      conv => whnf
                      refine cond_t g56_10 ?_
                      conv => whnf
                      refine cond_go rfl ?_
                      conv => whnf
                      refine cond_s (fun w62 => ?_) (fun w62 => ?_)
                      · replace hl0 := ift ((si e61).symm.trans w62) hl0
                        conv => whnf
                        refine RStep.of (loadn_s r0 rfl (Nat.le_of_ble_eq_true rfl) ?_)
                        obtain ⟨x65, q65, hl0⟩ := bnd hl0
                        conv => whnf
                        refine call_fn (law28_play_nil_ok q65 h45_0) .nil ?_
                        rintro _ K65 _ l65 ⟨rfl, rfl⟩
                        conv => whnf
                        refine cond_T ?_
                        conv => whnf
                        refine int_in (cntz hx0 hk0) ?_
                        conv => whnf
                        refine RoundStep.mk (i0 + 1, y0_0, ay0_0_0, cy0_0_0, my0_0_1) ⟨rfl, trivial⟩ (by repeat (first | exact trivial | refine And.intro rfl ?_)) (ConvH.of (.cons r1 (.cons r1 (.cons r1 (.cons r1 .nil))))) (lk0.trans l65) (ltm hx0) ⟨hy0_0_0, hl0⟩
                      · replace hl0 := iff_ ((si e61).symm.trans w62) hl0
                        conv => whnf
                        refine field_addr rfl ?_
                        conv => whnf
                        refine RStep.of (load1_s r0 rfl rfl ?_)
                        conv => whnf
                        refine u8_rem (x := e0.What) (y := (12 : UInt8)) rfl rfl (by decide) ?_
                        obtain ⟨x75, e75, hl0⟩ := bnd hl0
                        conv => whnf
                        refine cond_s (fun g70_13 => ?_) (fun g70_13 => ?_)
                        · replace e75 := ift g70_13 e75
                          conv => whnf
                          refine field_addr rfl ?_
                          conv => whnf
                          refine cond_t g70_13 ?_
                          conv => whnf
                          refine RStep.of (load1_s r0 rfl rfl ?_)
                          conv => whnf
                          refine cond_t g70_13 ?_
                          conv => whnf
                          refine u8_rem (x := e0.What) (y := (12 : UInt8)) rfl rfl (by decide) ?_
                          conv => whnf
                          refine cond_t g70_13 ?_
                          conv => whnf
                          refine cond_t g70_13 ?_
                          conv => whnf
                          refine cond_go rfl ?_
                          conv => whnf
                          refine cond_s (fun w75 => ?_) (fun w75 => ?_)
                          · replace hl0 := ift ((si e75).symm.trans w75) hl0
                            conv => whnf
                            refine field_addr rfl ?_
                            conv => whnf
                            refine RStep.of (load1_s r0 rfl rfl ?_)
                            conv => whnf
                            refine field_addr rfl ?_
                            conv => whnf
                            refine RStep.of (load1_s r0 rfl rfl ?_)
                            obtain ⟨x82, q82, hl0⟩ := bnd hl0
                            conv => whnf
                            refine call_fn (fanout_Stream_Read_nil_ok q82) .nil ?_
                            rintro _ K82 _ l82 ⟨a82_0, c82_0, rfl, h82_0, rfl⟩
                            conv => whnf
                            refine field_addr rfl ?_
                            conv => whnf
                            refine RStep.of (load1_s r1 rfl rfl ?_)
                            conv => whnf
                            refine field_addr rfl ?_
                            conv => whnf
                            refine RStep.of (load1_s r1 rfl rfl ?_)
                            obtain ⟨x92, q92, hl0⟩ := bnd hl0
                            conv => whnf
                            refine call_fn (fanout_Stream_Read_ok q92 hy0_0_0) (.cons r2 (.cons r2 (.cons r2 .nil))) ?_
                            rintro _ K92 _ l92 ⟨a92_0, c92_0, a92_1, c92_1, m92_2, rfl, h92_0, h92_1, rfl⟩
                            conv => whnf
                            refine neq_int ?_
                            obtain ⟨x105, e105, hl0⟩ := bnd hl0
                            conv => whnf
                            refine cond_s (fun g99_16 => ?_) (fun g99_16 => ?_)
                            · replace e105 := ift g99_16 e105
                              conv => whnf
                              refine cond_t g99_16 ?_
                              conv => whnf
                              refine cond_t g99_16 ?_
                              conv => whnf
                              refine cond_t g99_16 ?_
                              conv => whnf
                              refine cond_t g99_16 ?_
                              conv => whnf
                              refine cond_t g99_16 ?_
                              obtain ⟨x111, e111, hl0⟩ := bnd hl0
                              replace e111 := ift (si e105).symm e111
                              conv => whnf
                              refine cond_T ?_
                              conv => whnf
                              refine cond_T ?_
                              conv => whnf
                              refine cond_T ?_
                              conv => whnf
                              refine cond_T ?_
                              conv => whnf
                              refine cond_T ?_
                              conv => whnf
                              refine cond_go rfl ?_
                              conv => whnf
                              refine cond_T ?_
                              replace hl0 := ift (si e111).symm hl0
                              obtain rfl := si hl0
                              replace hm := elr hm
                              obtain rfl := si hm
                              conv => whnf
                              refine EndStep.mk _ ((((((l19.trans l21).trans l27).trans l31).trans lk0).trans l82).trans l92) ⟨rfl, rfl⟩ (ConvH.of (.cons r6 .nil))
                            · replace e105 := iff_ g99_16 e105
                              conv => whnf
                              refine cond_f g99_16 ?_
                              obtain ⟨x101, q101, e105⟩ := bnd e105
                              conv => whnf
                              refine call_fn (base_Num_ok q101) .nil ?_
                              rintro _ K101 _ l101 ⟨rfl, rfl⟩
                              conv => whnf
                              refine cond_f g99_16 ?_
                              conv => whnf
                              refine cond_f g99_16 ?_
                              obtain ⟨x103, q103, e105⟩ := bnd e105
                              conv => whnf
                              refine call_fn (base_Num_ok q103) .nil ?_
                              rintro _ K103 _ l103 ⟨rfl, rfl⟩
                              conv => whnf
                              refine cond_f g99_16 ?_
                              conv => whnf
                              refine neq_int ?_
                              conv => whnf
                              refine cond_f g99_16 ?_
                              obtain ⟨x111, e111, hl0⟩ := bnd hl0
                              conv => whnf
                              refine cond_s (fun g106_16 => ?_) (fun g106_16 => ?_)
                              · replace e111 := ift ((si e105).symm.trans g106_16) e111
                                conv => whnf
                                refine cond_t g106_16 ?_
                                conv => whnf
                                refine cond_t g106_16 ?_
                                conv => whnf
                                refine cond_t g106_16 ?_
                                conv => whnf
                                refine cond_t g106_16 ?_
                                conv => whnf
                                refine cond_go rfl ?_
                                conv => whnf
                                refine cond_T ?_
                                replace hl0 := ift (si e111).symm hl0
                                obtain rfl := si hl0
                                replace hm := elr hm
                                obtain rfl := si hm
                                conv => whnf
                                refine EndStep.mk _ ((((((((l19.trans l21).trans l27).trans l31).trans lk0).trans l82).trans l92).trans l101).trans l103) ⟨rfl, rfl⟩ (ConvH.of (.cons r6 .nil))
                              · replace e111 := iff_ ((si e105).symm.trans g106_16) e111
                                conv => whnf
                                refine cond_f g106_16 ?_
                                conv => whnf
                                refine cond_f g106_16 ?_
                                obtain ⟨x109, q109, e111⟩ := bnd e111
                                conv => whnf
                                refine call_fn (Fn.lend Try.call15 (fun K109_0 l109_0 f109_0 => (Fn.lend Try.call15 (fun K109_1 l109_1 f109_1 => (base_Bytes_ok q109 (f109_0.mono l109_1) rfl f109_1 rfl)) (by exact fun _ _ _ _ h => h))) (by exact fun _ _ _ _ h => h)) (.cons r4 (.cons r0 .nil)) ?_
                                rintro _ K109 _ l109 ⟨_, rfl, _, rfl, rfl, rfl⟩
                                conv => whnf
                                refine cond_f g106_16 ?_
                                conv => whnf
                                refine un_not ?_
                                conv => whnf
                                refine cond_f g106_16 ?_
                                conv => whnf
                                refine cond_go rfl ?_
                                conv => whnf
                                refine cond_s (fun w111 => ?_) (fun w111 => ?_)
                                · replace hl0 := ift ((si e111).symm.trans (not_t (ni_t w111))) hl0
                                  obtain rfl := si hl0
                                  replace hm := elr hm
                                  obtain rfl := si hm
                                  conv => whnf
                                  refine EndStep.mk _ (((((((((l19.trans l21).trans l27).trans l31).trans lk0).trans l82).trans l92).trans l101).trans l103).trans l109) ⟨rfl, rfl⟩ (ConvH.of (.cons r6 .nil))
                                · replace hl0 := iff_ ((si e111).symm.trans (not_f (ni_f w111))) hl0
                                  conv => whnf
                                  refine cond_T ?_
                                  conv => whnf
                                  refine int_in (cntz hx0 hk0) ?_
                                  conv => whnf
                                  refine RoundStep.mk (i0 + 1, x92.2.2.2, a92_1, c92_1, m92_2) ⟨rfl, trivial⟩ (by repeat (first | exact trivial | refine And.intro rfl ?_)) (ConvH.of (.cons r2 (.cons r2 (.cons r2 (.cons r3 .nil))))) (((((lk0.trans l82).trans l92).trans l101).trans l103).trans l109) (ltm hx0) ⟨h92_1, hl0⟩
                          · replace hl0 := iff_ ((si e75).symm.trans w75) hl0
                            conv => whnf
                            refine RStep.of (loadn_s r0 rfl (Nat.le_of_ble_eq_true rfl) ?_)
                            obtain ⟨x114, q114, hl0⟩ := bnd hl0
                            conv => whnf
                            refine call_fn (law28_play_nil_ok q114 h45_0) .nil ?_
                            rintro _ K114 _ l114 ⟨rfl, rfl⟩
                            conv => whnf
                            refine RStep.of (loadn_s r0 rfl (Nat.le_of_ble_eq_true rfl) ?_)
                            obtain ⟨x117, q117, hl0⟩ := bnd hl0
                            conv => whnf
                            refine call_fn (law28_play_ok q117 hy0_0_0 (h45_0.mono l114)) (.cons r1 (.cons r1 (.cons r1 .nil))) ?_
                            rintro _ K117 _ l117 ⟨a117_0, c117_0, m117_1, rfl, h117_0, rfl⟩
                            conv => whnf
                            refine int_in (cntz hx0 hk0) ?_
                            conv => whnf
                            refine RoundStep.mk (i0 + 1, x117, a117_0, c117_0, m117_1) ⟨rfl, trivial⟩ (by repeat (first | exact trivial | refine And.intro rfl ?_)) (ConvH.of (.cons r0 (.cons r0 (.cons r0 (.cons r1 .nil))))) ((lk0.trans l114).trans l117) (ltm hx0) ⟨h117_0, hl0⟩
                        · replace e75 := iff_ g70_13 e75
                          conv => whnf
                          refine cond_f g70_13 ?_
                          conv => whnf
                          refine cond_f g70_13 ?_
                          conv => whnf
                          refine cond_f g70_13 ?_
                          conv => whnf
                          refine cond_f g70_13 ?_
                          conv => whnf
                          refine cond_go rfl ?_
                          conv => whnf
                          refine cond_F ?_
                          replace hl0 := iff_ (si e75).symm hl0
                          conv => whnf
                          refine RStep.of (loadn_s r0 rfl (Nat.le_of_ble_eq_true rfl) ?_)
                          obtain ⟨x114, q114, hl0⟩ := bnd hl0
                          conv => whnf
                          refine call_fn (law28_play_nil_ok q114 h45_0) .nil ?_
                          rintro _ K114 _ l114 ⟨rfl, rfl⟩
                          conv => whnf
                          refine RStep.of (loadn_s r0 rfl (Nat.le_of_ble_eq_true rfl) ?_)
                          obtain ⟨x117, q117, hl0⟩ := bnd hl0
                          conv => whnf
                          refine call_fn (law28_play_ok q117 hy0_0_0 (h45_0.mono l114)) (.cons r1 (.cons r1 (.cons r1 .nil))) ?_
                          rintro _ K117 _ l117 ⟨a117_0, c117_0, m117_1, rfl, h117_0, rfl⟩
                          conv => whnf
                          refine int_in (cntz hx0 hk0) ?_
                          conv => whnf
                          refine RoundStep.mk (i0 + 1, x117, a117_0, c117_0, m117_1) ⟨rfl, trivial⟩ (by repeat (first | exact trivial | refine And.intro rfl ?_)) (ConvH.of (.cons r0 (.cons r0 (.cons r0 (.cons r1 .nil))))) ((lk0.trans l114).trans l117) (ltm hx0) ⟨h117_0, hl0⟩
                    · replace e61 := iff_ ((si e55).symm.trans g56_10) e61
                      conv => whnf
                      refine cond_f g56_10 ?_
                      conv => whnf
                      refine cond_f g56_10 ?_
                      conv => whnf
                      refine cond_f g56_10 ?_
                      conv => whnf
                      refine cond_f g56_10 ?_
                      conv => whnf
                      refine cond_go rfl ?_
                      conv => whnf
                      refine cond_F ?_
                      replace hl0 := iff_ (si e61).symm hl0
                      conv => whnf
                      refine field_addr rfl ?_
                      conv => whnf
                      refine RStep.of (load1_s r0 rfl rfl ?_)
                      conv => whnf
                      refine u8_rem (x := e0.What) (y := (12 : UInt8)) rfl rfl (by decide) ?_
                      obtain ⟨x75, e75, hl0⟩ := bnd hl0
                      conv => whnf
                      refine cond_s (fun g70_13 => ?_) (fun g70_13 => ?_)
                      · replace e75 := ift g70_13 e75
                        conv => whnf
                        refine field_addr rfl ?_
                        conv => whnf
                        refine cond_t g70_13 ?_
                        conv => whnf
                        refine RStep.of (load1_s r0 rfl rfl ?_)
                        conv => whnf
                        refine cond_t g70_13 ?_
                        conv => whnf
                        refine u8_rem (x := e0.What) (y := (12 : UInt8)) rfl rfl (by decide) ?_
                        conv => whnf
                        refine cond_t g70_13 ?_
                        conv => whnf
                        refine cond_t g70_13 ?_
                        conv => whnf
                        refine cond_go rfl ?_
                        conv => whnf
                        refine cond_s (fun w75 => ?_) (fun w75 => ?_)
                        · replace hl0 := ift ((si e75).symm.trans w75) hl0
                          conv => whnf
                          refine field_addr rfl ?_
                          conv => whnf
                          refine RStep.of (load1_s r0 rfl rfl ?_)
                          conv => whnf
                          refine field_addr rfl ?_
                          conv => whnf
                          refine RStep.of (load1_s r0 rfl rfl ?_)
                          obtain ⟨x82, q82, hl0⟩ := bnd hl0
                          conv => whnf
                          refine call_fn (fanout_Stream_Read_nil_ok q82) .nil ?_
                          rintro _ K82 _ l82 ⟨a82_0, c82_0, rfl, h82_0, rfl⟩
                          conv => whnf
                          refine field_addr rfl ?_
                          conv => whnf
                          refine RStep.of (load1_s r1 rfl rfl ?_)
                          conv => whnf
                          refine field_addr rfl ?_
                          conv => whnf
                          refine RStep.of (load1_s r1 rfl rfl ?_)
                          obtain ⟨x92, q92, hl0⟩ := bnd hl0
                          conv => whnf
                          refine call_fn (fanout_Stream_Read_ok q92 hy0_0_0) (.cons r2 (.cons r2 (.cons r2 .nil))) ?_
                          rintro _ K92 _ l92 ⟨a92_0, c92_0, a92_1, c92_1, m92_2, rfl, h92_0, h92_1, rfl⟩
                          conv => whnf
                          refine neq_int ?_
                          obtain ⟨x105, e105, hl0⟩ := bnd hl0
                          conv => whnf
                          refine cond_s (fun g99_16 => ?_) (fun g99_16 => ?_)
                          · replace e105 := ift g99_16 e105
                            conv => whnf
                            refine cond_t g99_16 ?_
                            conv => whnf
                            refine cond_t g99_16 ?_
                            conv => whnf
                            refine cond_t g99_16 ?_
                            conv => whnf
                            refine cond_t g99_16 ?_
                            conv => whnf
                            refine cond_t g99_16 ?_
                            obtain ⟨x111, e111, hl0⟩ := bnd hl0
                            replace e111 := ift (si e105).symm e111
                            conv => whnf
                            refine cond_T ?_
                            conv => whnf
                            refine cond_T ?_
                            conv => whnf
                            refine cond_T ?_
                            conv => whnf
                            refine cond_T ?_
                            conv => whnf
                            refine cond_T ?_
                            conv => whnf
                            refine cond_go rfl ?_
                            conv => whnf
                            refine cond_T ?_
                            replace hl0 := ift (si e111).symm hl0
                            obtain rfl := si hl0
                            replace hm := elr hm
                            obtain rfl := si hm
                            conv => whnf
                            refine EndStep.mk _ ((((((l19.trans l21).trans l27).trans l31).trans lk0).trans l82).trans l92) ⟨rfl, rfl⟩ (ConvH.of (.cons r6 .nil))
                          · replace e105 := iff_ g99_16 e105
                            conv => whnf
                            refine cond_f g99_16 ?_
                            obtain ⟨x101, q101, e105⟩ := bnd e105
                            conv => whnf
                            refine call_fn (base_Num_ok q101) .nil ?_
                            rintro _ K101 _ l101 ⟨rfl, rfl⟩
                            conv => whnf
                            refine cond_f g99_16 ?_
                            conv => whnf
                            refine cond_f g99_16 ?_
                            obtain ⟨x103, q103, e105⟩ := bnd e105
                            conv => whnf
                            refine call_fn (base_Num_ok q103) .nil ?_
                            rintro _ K103 _ l103 ⟨rfl, rfl⟩
                            conv => whnf
                            refine cond_f g99_16 ?_
                            conv => whnf
                            refine neq_int ?_
                            conv => whnf
                            refine cond_f g99_16 ?_
                            obtain ⟨x111, e111, hl0⟩ := bnd hl0
                            conv => whnf
                            refine cond_s (fun g106_16 => ?_) (fun g106_16 => ?_)
                            · replace e111 := ift ((si e105).symm.trans g106_16) e111
                              conv => whnf
                              refine cond_t g106_16 ?_
                              conv => whnf
                              refine cond_t g106_16 ?_
                              conv => whnf
                              refine cond_t g106_16 ?_
                              conv => whnf
                              refine cond_t g106_16 ?_
                              conv => whnf
                              refine cond_go rfl ?_
                              conv => whnf
                              refine cond_T ?_
                              replace hl0 := ift (si e111).symm hl0
                              obtain rfl := si hl0
                              replace hm := elr hm
                              obtain rfl := si hm
                              conv => whnf
                              refine EndStep.mk _ ((((((((l19.trans l21).trans l27).trans l31).trans lk0).trans l82).trans l92).trans l101).trans l103) ⟨rfl, rfl⟩ (ConvH.of (.cons r6 .nil))
                            · replace e111 := iff_ ((si e105).symm.trans g106_16) e111
                              conv => whnf
                              refine cond_f g106_16 ?_
                              conv => whnf
                              refine cond_f g106_16 ?_
                              obtain ⟨x109, q109, e111⟩ := bnd e111
                              conv => whnf
                              refine call_fn (Fn.lend Try.call15 (fun K109_0 l109_0 f109_0 => (Fn.lend Try.call15 (fun K109_1 l109_1 f109_1 => (base_Bytes_ok q109 (f109_0.mono l109_1) rfl f109_1 rfl)) (by exact fun _ _ _ _ h => h))) (by exact fun _ _ _ _ h => h)) (.cons r4 (.cons r0 .nil)) ?_
                              rintro _ K109 _ l109 ⟨_, rfl, _, rfl, rfl, rfl⟩
                              conv => whnf
                              refine cond_f g106_16 ?_
                              conv => whnf
                              refine un_not ?_
                              conv => whnf
                              refine cond_f g106_16 ?_
                              conv => whnf
                              refine cond_go rfl ?_
                              conv => whnf
                              refine cond_s (fun w111 => ?_) (fun w111 => ?_)
                              · replace hl0 := ift ((si e111).symm.trans (not_t (ni_t w111))) hl0
                                obtain rfl := si hl0
                                replace hm := elr hm
                                obtain rfl := si hm
                                conv => whnf
                                refine EndStep.mk _ (((((((((l19.trans l21).trans l27).trans l31).trans lk0).trans l82).trans l92).trans l101).trans l103).trans l109) ⟨rfl, rfl⟩ (ConvH.of (.cons r6 .nil))
                              · replace hl0 := iff_ ((si e111).symm.trans (not_f (ni_f w111))) hl0
                                conv => whnf
                                refine cond_T ?_
                                conv => whnf
                                refine int_in (cntz hx0 hk0) ?_
                                conv => whnf
                                refine RoundStep.mk (i0 + 1, x92.2.2.2, a92_1, c92_1, m92_2) ⟨rfl, trivial⟩ (by repeat (first | exact trivial | refine And.intro rfl ?_)) (ConvH.of (.cons r2 (.cons r2 (.cons r2 (.cons r3 .nil))))) (((((lk0.trans l82).trans l92).trans l101).trans l103).trans l109) (ltm hx0) ⟨h92_1, hl0⟩
                        · replace hl0 := iff_ ((si e75).symm.trans w75) hl0
                          conv => whnf
                          refine RStep.of (loadn_s r0 rfl (Nat.le_of_ble_eq_true rfl) ?_)
                          obtain ⟨x114, q114, hl0⟩ := bnd hl0
                          conv => whnf
                          refine call_fn (law28_play_nil_ok q114 h45_0) .nil ?_
                          rintro _ K114 _ l114 ⟨rfl, rfl⟩
                          conv => whnf
                          refine RStep.of (loadn_s r0 rfl (Nat.le_of_ble_eq_true rfl) ?_)
                          obtain ⟨x117, q117, hl0⟩ := bnd hl0
                          conv => whnf
                          refine call_fn (law28_play_ok q117 hy0_0_0 (h45_0.mono l114)) (.cons r1 (.cons r1 (.cons r1 .nil))) ?_
                          rintro _ K117 _ l117 ⟨a117_0, c117_0, m117_1, rfl, h117_0, rfl⟩
                          conv => whnf
                          refine int_in (cntz hx0 hk0) ?_
                          conv => whnf
                          refine RoundStep.mk (i0 + 1, x117, a117_0, c117_0, m117_1) ⟨rfl, trivial⟩ (by repeat (first | exact trivial | refine And.intro rfl ?_)) (ConvH.of (.cons r0 (.cons r0 (.cons r0 (.cons r1 .nil))))) ((lk0.trans l114).trans l117) (ltm hx0) ⟨h117_0, hl0⟩
                      · replace e75 := iff_ g70_13 e75
                        conv => whnf
                        refine cond_f g70_13 ?_
                        conv => whnf
                        refine cond_f g70_13 ?_
                        conv => whnf
                        refine cond_f g70_13 ?_
                        conv => whnf
                        refine cond_f g70_13 ?_
                        conv => whnf
                        refine cond_go rfl ?_
                        conv => whnf
                        refine cond_F ?_
                        replace hl0 := iff_ (si e75).symm hl0
                        conv => whnf
                        refine RStep.of (loadn_s r0 rfl (Nat.le_of_ble_eq_true rfl) ?_)
                        obtain ⟨x114, q114, hl0⟩ := bnd hl0
                        conv => whnf
                        refine call_fn (law28_play_nil_ok q114 h45_0) .nil ?_
                        rintro _ K114 _ l114 ⟨rfl, rfl⟩
                        conv => whnf
                        refine RStep.of (loadn_s r0 rfl (Nat.le_of_ble_eq_true rfl) ?_)
                        obtain ⟨x117, q117, hl0⟩ := bnd hl0
                        conv => whnf
                        refine call_fn (law28_play_ok q117 hy0_0_0 (h45_0.mono l114)) (.cons r1 (.cons r1 (.cons r1 .nil))) ?_
                        rintro _ K117 _ l117 ⟨a117_0, c117_0, m117_1, rfl, h117_0, rfl⟩
                        conv => whnf
                        refine int_in (cntz hx0 hk0) ?_
                        conv => whnf
                        refine RoundStep.mk (i0 + 1, x117, a117_0, c117_0, m117_1) ⟨rfl, trivial⟩ (by repeat (first | exact trivial | refine And.intro rfl ?_)) (ConvH.of (.cons r0 (.cons r0 (.cons r0 (.cons r1 .nil))))) ((lk0.trans l114).trans l117) (ltm hx0) ⟨h117_0, hl0⟩
                  · replace e55 := iff_ g50_10 e55
                    conv => whnf
                    refine cond_f g50_10 ?_
                    conv => whnf
                    refine cond_f g50_10 ?_
                    conv => whnf
                    refine cond_f g50_10 ?_
                    conv => whnf
                    refine cond_f g50_10 ?_
                    obtain ⟨x61, e61, hl0⟩ := bnd hl0
                    replace e61 := iff_ (si e55).symm e61
                    conv => whnf
                    refine cond_F ?_
                    conv => whnf
                    refine cond_F ?_
                    conv => whnf
                    refine cond_F ?_
                    conv => whnf
                    refine cond_F ?_
                    conv => whnf
                    refine cond_F ?_
                    conv => whnf
                    refine cond_go rfl ?_
                    conv => whnf
                    refine cond_F ?_
                    replace hl0 := iff_ (si e61).symm hl0
                    conv => whnf
                    refine field_addr rfl ?_
                    conv => whnf
                    refine RStep.of (load1_s r0 rfl rfl ?_)
                    conv => whnf
                    refine u8_rem (x := e0.What) (y := (12 : UInt8)) rfl rfl (by decide) ?_
                    obtain ⟨x75, e75, hl0⟩ := bnd hl0
                    conv => whnf
                    refine cond_s (fun g70_13 => ?_) (fun g70_13 => ?_)
                    · replace e75 := ift g70_13 e75
                      conv => whnf
                      refine field_addr rfl ?_
                      conv => whnf
                      refine cond_t g70_13 ?_
                      conv => whnf
                      refine RStep.of (load1_s r0 rfl rfl ?_)
                      conv => whnf
                      refine cond_t g70_13 ?_
                      conv => whnf
                      refine u8_rem (x := e0.What) (y := (12 : UInt8)) rfl rfl (by decide) ?_
                      conv => whnf
                      refine cond_t g70_13 ?_
                      conv => whnf
                      refine cond_t g70_13 ?_
                      conv => whnf
                      refine cond_go rfl ?_
                      conv => whnf
                      refine cond_s (fun w75 => ?_) (fun w75 => ?_)
                      · replace hl0 := ift ((si e75).symm.trans w75) hl0
                        conv => whnf
                        refine field_addr rfl ?_
                        conv => whnf
                        refine RStep.of (load1_s r0 rfl rfl ?_)
                        conv => whnf
                        refine field_addr rfl ?_
                        conv => whnf
                        refine RStep.of (load1_s r0 rfl rfl ?_)
                        obtain ⟨x82, q82, hl0⟩ := bnd hl0
                        conv => whnf
                        refine call_fn (fanout_Stream_Read_nil_ok q82) .nil ?_
                        rintro _ K82 _ l82 ⟨a82_0, c82_0, rfl, h82_0, rfl⟩
                        conv => whnf
                        refine field_addr rfl ?_
                        conv => whnf
                        refine RStep.of (load1_s r1 rfl rfl ?_)
                        conv => whnf
                        refine field_addr rfl ?_
                        conv => whnf
                        refine RStep.of (load1_s r1 rfl rfl ?_)
                        obtain ⟨x92, q92, hl0⟩ := bnd hl0
                        conv => whnf
                        refine call_fn (fanout_Stream_Read_ok q92 hy0_0_0) (.cons r2 (.cons r2 (.cons r2 .nil))) ?_
                        rintro _ K92 _ l92 ⟨a92_0, c92_0, a92_1, c92_1, m92_2, rfl, h92_0, h92_1, rfl⟩
                        conv => whnf
                        refine neq_int ?_
                        obtain ⟨x105, e105, hl0⟩ := bnd hl0
                        conv => whnf
                        refine cond_s (fun g99_16 => ?_) (fun g99_16 => ?_)
                        · replace e105 := ift g99_16 e105
                          conv => whnf
                          refine cond_t g99_16 ?_
                          conv => whnf
                          refine cond_t g99_16 ?_
                          conv => whnf
                          refine cond_t g99_16 ?_
                          conv => whnf
                          refine cond_t g99_16 ?_
                          conv => whnf
                          refine cond_t g99_16 ?_
                          obtain ⟨x111, e111, hl0⟩ := bnd hl0
                          replace e111 := ift (si e105).symm e111
                          conv => whnf
                          refine cond_T ?_
                          conv => whnf
                          refine cond_T ?_
                          conv => whnf
                          refine cond_T ?_
                          conv => whnf
                          refine cond_T ?_
                          conv => whnf
                          refine cond_T ?_
                          conv => whnf
                          refine cond_go rfl ?_
                          conv => whnf
                          refine cond_T ?_
                          replace hl0 := ift (si e111).symm hl0
                          obtain rfl := si hl0
                          replace hm := elr hm
                          obtain rfl := si hm
                          conv => whnf
                          refine EndStep.mk _ ((((((l19.trans l21).trans l27).trans l31).trans lk0).trans l82).trans l92) ⟨rfl, rfl⟩ (ConvH.of (.cons r6 .nil))
                        · replace e105 := iff_ g99_16 e105
                          conv => whnf
                          refine cond_f g99_16 ?_
                          obtain ⟨x101, q101, e105⟩ := bnd e105
                          conv => whnf
                          refine call_fn (base_Num_ok q101) .nil ?_
                          rintro _ K101 _ l101 ⟨rfl, rfl⟩
                          conv => whnf
                          refine cond_f g99_16 ?_
                          conv => whnf
                          refine cond_f g99_16 ?_
                          obtain ⟨x103, q103, e105⟩ := bnd e105
                          conv => whnf
                          refine call_fn (base_Num_ok q103) .nil ?_
                          rintro _ K103 _ l103 ⟨rfl, rfl⟩
                          conv => whnf
                          refine cond_f g99_16 ?_
                          conv => whnf
                          refine neq_int ?_
                          conv => whnf
                          refine cond_f g99_16 ?_
                          obtain ⟨x111, e111, hl0⟩ := bnd hl0
                          conv => whnf
                          refine cond_s (fun g106_16 => ?_) (fun g106_16 => ?_)
                          · replace e111 := ift ((si e105).symm.trans g106_16) e111
                            conv => whnf
                            refine cond_t g106_16 ?_
                            conv => whnf
                            refine cond_t g106_16 ?_
                            conv => whnf
                            refine cond_t g106_16 ?_
                            conv => whnf
                            refine cond_t g106_16 ?_
                            conv => whnf
                            refine cond_go rfl ?_
                            conv => whnf
                            refine cond_T ?_
                            replace hl0 := ift (si e111).symm hl0
                            obtain rfl := si hl0
                            replace hm := elr hm
                            obtain rfl := si hm
                            conv => whnf
                            refine EndStep.mk _ ((((((((l19.trans l21).trans l27).trans l31).trans lk0).trans l82).trans l92).trans l101).trans l103) ⟨rfl, rfl⟩ (ConvH.of (.cons r6 .nil))
                          · replace e111 := iff_ ((si e105).symm.trans g106_16) e111
                            conv => whnf
                            refine cond_f g106_16 ?_
                            conv => whnf
                            refine cond_f g106_16 ?_
                            obtain ⟨x109, q109, e111⟩ := bnd e111
                            conv => whnf
                            refine call_fn (Fn.lend Try.call15 (fun K109_0 l109_0 f109_0 => (Fn.lend Try.call15 (fun K109_1 l109_1 f109_1 => (base_Bytes_ok q109 (f109_0.mono l109_1) rfl f109_1 rfl)) (by exact fun _ _ _ _ h => h))) (by exact fun _ _ _ _ h => h)) (.cons r4 (.cons r0 .nil)) ?_
                            rintro _ K109 _ l109 ⟨_, rfl, _, rfl, rfl, rfl⟩
                            conv => whnf
                            refine cond_f g106_16 ?_
                            conv => whnf
                            refine un_not ?_
                            conv => whnf
                            refine cond_f g106_16 ?_
                            conv => whnf
                            refine cond_go rfl ?_
                            conv => whnf
                            refine cond_s (fun w111 => ?_) (fun w111 => ?_)
                            · replace hl0 := ift ((si e111).symm.trans (not_t (ni_t w111))) hl0
                              obtain rfl := si hl0
                              replace hm := elr hm
                              obtain rfl := si hm
                              conv => whnf
                              refine EndStep.mk _ (((((((((l19.trans l21).trans l27).trans l31).trans lk0).trans l82).trans l92).trans l101).trans l103).trans l109) ⟨rfl, rfl⟩ (ConvH.of (.cons r6 .nil))
                            · replace hl0 := iff_ ((si e111).symm.trans (not_f (ni_f w111))) hl0
                              conv => whnf
                              refine cond_T ?_
                              conv => whnf
                              refine int_in (cntz hx0 hk0) ?_
                              conv => whnf
                              refine RoundStep.mk (i0 + 1, x92.2.2.2, a92_1, c92_1, m92_2) ⟨rfl, trivial⟩ (by repeat (first | exact trivial | refine And.intro rfl ?_)) (ConvH.of (.cons r2 (.cons r2 (.cons r2 (.cons r3 .nil))))) (((((lk0.trans l82).trans l92).trans l101).trans l103).trans l109) (ltm hx0) ⟨h92_1, hl0⟩
                      · replace hl0 := iff_ ((si e75).symm.trans w75) hl0
                        conv => whnf
                        refine RStep.of (loadn_s r0 rfl (Nat.le_of_ble_eq_true rfl) ?_)
                        obtain ⟨x114, q114, hl0⟩ := bnd hl0
                        conv => whnf
                        refine call_fn (law28_play_nil_ok q114 h45_0) .nil ?_
                        rintro _ K114 _ l114 ⟨rfl, rfl⟩
                        conv => whnf
                        refine RStep.of (loadn_s r0 rfl (Nat.le_of_ble_eq_true rfl) ?_)
                        obtain ⟨x117, q117, hl0⟩ := bnd hl0
                        conv => whnf
                        refine call_fn (law28_play_ok q117 hy0_0_0 (h45_0.mono l114)) (.cons r1 (.cons r1 (.cons r1 .nil))) ?_
                        rintro _ K117 _ l117 ⟨a117_0, c117_0, m117_1, rfl, h117_0, rfl⟩
                        conv => whnf
                        refine int_in (cntz hx0 hk0) ?_
                        conv => whnf
                        refine RoundStep.mk (i0 + 1, x117, a117_0, c117_0, m117_1) ⟨rfl, trivial⟩ (by repeat (first | exact trivial | refine And.intro rfl ?_)) (ConvH.of (.cons r0 (.cons r0 (.cons r0 (.cons r1 .nil))))) ((lk0.trans l114).trans l117) (ltm hx0) ⟨h117_0, hl0⟩
                    · replace e75 := iff_ g70_13 e75
                      conv => whnf
                      refine cond_f g70_13 ?_
                      conv => whnf
                      refine cond_f g70_13 ?_
                      conv => whnf
                      refine cond_f g70_13 ?_
                      conv => whnf
                      refine cond_f g70_13 ?_
                      conv => whnf
                      refine cond_go rfl ?_
                      conv => whnf
                      refine cond_F ?_
                      replace hl0 := iff_ (si e75).symm hl0
                      conv => whnf
                      refine RStep.of (loadn_s r0 rfl (Nat.le_of_ble_eq_true rfl) ?_)
                      obtain ⟨x114, q114, hl0⟩ := bnd hl0
                      conv => whnf
                      refine call_fn (law28_play_nil_ok q114 h45_0) .nil ?_
                      rintro _ K114 _ l114 ⟨rfl, rfl⟩
                      conv => whnf
                      refine RStep.of (loadn_s r0 rfl (Nat.le_of_ble_eq_true rfl) ?_)
                      obtain ⟨x117, q117, hl0⟩ := bnd hl0
                      conv => whnf
                      refine call_fn (law28_play_ok q117 hy0_0_0 (h45_0.mono l114)) (.cons r1 (.cons r1 (.cons r1 .nil))) ?_
                      rintro _ K117 _ l117 ⟨a117_0, c117_0, m117_1, rfl, h117_0, rfl⟩
                      conv => whnf
                      refine int_in (cntz hx0 hk0) ?_
                      conv => whnf
                      refine RoundStep.mk (i0 + 1, x117, a117_0, c117_0, m117_1) ⟨rfl, trivial⟩ (by repeat (first | exact trivial | refine And.intro rfl ?_)) (ConvH.of (.cons r0 (.cons r0 (.cons r0 (.cons r1 .nil))))) ((lk0.trans l114).trans l117) (ltm hx0) ⟨h117_0, hl0⟩
                · rw [lty w0, law28_FanoutAlone_L0b.eq_1] at hl0
                  conv => whnf
                  refine cond_T ?_
                  conv => whnf
                  refine MeetStep.mk (y0_0, ay0_0_0, cy0_0_0, my0_0_1) trivial (by repeat (first | exact trivial | refine And.intro rfl ?_)) (ConvH.of (.cons r0 (.cons r0 (.cons r0 (.cons r0 .nil))))) lk0 ⟨hy0_0_0, (si hl0).symm⟩
              · rintro ⟨t0, at0_0_0, ct0_0_0, mt0_0_1⟩ Kt0 lt0 ⟨ht0_0_0, rfl⟩ j0
                replace hm := elg hm
                obtain ⟨x120, q120, hm⟩ := bnd hm
                conv => whnf
                refine call_fn (fanout_Stream_Written_nil_ok q120) .nil ?_
                rintro _ K120 _ l120 ⟨rfl, rfl⟩
                obtain ⟨x122, q122, hm⟩ := bnd hm
                conv => whnf
                refine call_fn (fanout_Stream_Written_ok q122 ht0_0_0) (.cons r0 (.cons r0 (.cons r0 .nil))) ?_
                rintro _ K122 _ l122 ⟨rfl, rfl⟩
                conv => whnf
                refine eq_int ?_
                obtain rfl := si hm
                conv => whnf
                refine EndStep.mk _ ((((((l19.trans l21).trans l27).trans l31).trans lt0).trans l120).trans l122) ⟨rfl, rfl⟩ (ConvH.of (.cons r3 .nil))
      · rw [hq27] at p27 hm
        obtain ⟨b27_0, a27_1, c27_1, m27_2, rfl, h27_1, rfl⟩ := p27
        replace hm := oe_s hm
        obtain ⟨x31, q31, hm⟩ := bnd hm
        conv => whnf
        refine call_fn (fanout_New_ok q31) .nil ?_
        rintro v31 K31 H31 l31 p31
        rcases hq31 : x31.1 with _ | o31
        · rw [hq31] at p31 hm
          obtain ⟨rfl, rfl⟩ := p31
          replace hm := oe_n hm
          conv => whnf
          refine neq_err rfl ?_
          conv => whnf
          refine cond_s (fun g36_5 => ?_) (fun g36_5 => ?_)
          · conv => whnf
            refine cond_t g36_5 ?_
            conv => whnf
            refine cond_t g36_5 ?_
            conv => whnf
            refine cond_go rfl ?_
            conv => whnf
            refine cond_T ?_
            replace hm := ift (or_t g36_5) hm
            obtain rfl := si hm
            conv => whnf
            refine EndStep.mk _ (((l19.trans l21).trans l27).trans l31) ⟨rfl, rfl⟩ (ConvH.of (.cons r3 .nil))
          · conv => whnf
            refine cond_f g36_5 ?_
            conv => whnf
            refine neq_err rfl ?_
            conv => whnf
            refine cond_f g36_5 ?_
            conv => whnf
            refine cond_go rfl ?_
            conv => whnf
            refine cond_s (fun w39 => ?_) (fun w39 => ?_)
            · replace hm := ift (or_u g36_5 w39) hm
              obtain rfl := si hm
              conv => whnf
              refine EndStep.mk _ (((l19.trans l21).trans l27).trans l31) ⟨rfl, rfl⟩ (ConvH.of (.cons r3 .nil))
            · replace hm := iff_ (or_f g36_5 w39) hm
              conv => whnf
              refine RStep.of (len_slice rfl ?_)
              obtain ⟨hk0, hm⟩ := chkb hm
              obtain ⟨s0, hl0, hm⟩ := bnd hm
              conv => whnf
              refine code_cut (σ := (S_fanout_Stream) × Option Addr × Nat × Nat) [4, 10, 11, 12, 13, 14, 15, 16, 17, 42, 43, 44, 45, 46, 47, 48, 49, 50, 51, 52, 53, 54, 55, 56, 57, 58, 59, 60, 61, 62, 63, 64, 65, 66, 67, 68, 69, 70, 71, 72, 73, 74, 75, 76, 77, 78, 79, 80, 81, 82, 83, 84, 85, 86, 87, 88, 89, 90, 91, 92, 93, 94, 95, 96, 97, 98, 99, 100, 101, 102, 103, 104, 105, 106, 107, 108, 109, 110, 111, 112, 113, 114, 115, 116, 117, 118] (fun (t0, at0_0_0, ct0_0_0, mt0_0_1) => []) (fun (t0, at0_0_0, ct0_0_0, mt0_0_1) => [Cells b27_0 77 [.int .i64 t0.limit, .int .i64 t0.state, .slice at0_0_0 t0.data.length ct0_0_0, .map (some mt0_0_1)], OwnL eU at0_0_0 5 1 ct0_0_0 t0.data, MapE intK (fun x => .int .i64 x) mt0_0_1 t0.offsets, F]) (fun zz K1 => match zz with | (t0, at0_0_0, ct0_0_0, mt0_0_1) => (0 < t0.data.length → Has at0_0_0) ∧ s0 = Fl.go t0) ?_ ?_
              · refine block_go rfl ?_
                conv => whnf
                refine loop_rule (σ := Nat × S_fanout_Stream × Option Addr × Nat × Nat) [4, 10, 11, 12, 13, 14, 15, 16, 17, 42, 43, 44, 45, 46, 47, 48, 49, 50, 51, 52, 53, 54, 55, 56, 57, 58, 59, 60, 61, 62, 63, 64, 65, 66, 67, 68, 69, 70, 71, 72, 73, 74, 75, 76, 77, 78, 79, 80, 81, 82, 83, 84, 85, 86, 87, 88, 89, 90, 91, 92, 93, 94, 95, 96, 97, 98, 99, 100, 101, 102, 103, 104, 105, 106, 107, 108, 109, 110, 111, 112, 113, 114, 115, 116, 117, 118] (fun (i0, y0_0, ay0_0_0, cy0_0_0, my0_0_1) => [(42, .int .i64 (i0 : Int))]) (fun (i0, y0_0, ay0_0_0, cy0_0_0, my0_0_1) => [Cells b27_0 77 [.int .i64 y0_0.limit, .int .i64 y0_0.state, .slice ay0_0_0 y0_0.data.length cy0_0_0, .map (some my0_0_1)], OwnL eU ay0_0_0 5 1 cy0_0_0 y0_0.data, MapE intK (fun x => .int .i64 x) my0_0_1 y0_0.offsets, F]) (fun zz K1 => match zz with | (i0, y0_0, ay0_0_0, cy0_0_0, my0_0_1) => (0 < y0_0.data.length → Has ay0_0_0) ∧ law28_FanoutAlone_L0c id (script.drop i0) i0 y0_0 = some s0) (fun zz => script.length - zz.1) (0, o27, a27_1, c27_1, m27_2) rfl ⟨rfl, trivial⟩ (ConvH.of (.cons r0 (.cons r0 (.cons r0 (.cons r0 .nil))))) ⟨h27_1, hl0⟩ ?_
                clear hl0
                rintro ⟨i0, y0_0, ay0_0_0, cy0_0_0, my0_0_1⟩ Kb0 lk0 ⟨hy0_0_0, hl0⟩ j0
                conv => whnf
                refine cond_go rfl ?_
                conv => whnf
                refine cond_s (fun w0 => ?_) (fun w0 => ?_)
                · obtain ⟨e0, hx0, hd0⟩ := ltx w0
                  rw [hd0, law28_FanoutAlone_L0c.eq_2] at hl0
                  conv => whnf
                  refine block_go rfl ?_
                  conv => whnf
                  refine RStep.ofN (index_addr rfl rfl (hasR (LiC.mono S_law28_Step.R_ok ((((l19.trans l21).trans l27).trans l31).trans lk0) hp0_0).rd hx0) (nn _) (lt_ofN hx0) ?_)
                  obtain ⟨ss45, cc45, hr45, hc45, hR45⟩ := LiR.get (LiC.mono S_law28_Step.R_ok ((((l19.trans l21).trans l27).trans l31).trans lk0) hp0_0).rd hx0
                  obtain ⟨a45_0, c45_0, rfl, h45_0⟩ := hR45
                  conv => whnf
                  refine RStep.of (load_rd_agg i0 _ hr45 rfl hc45 rfl ?_)
                  conv => whnf
                  refine alloc_rule rfl ?_
                  intro b10
                  conv => whnf
                  refine store_rule r0 rfl ?_
                  conv => whnf
                  refine ⟨rfl, rfl, (Nat.le_of_ble_eq_true rfl), ?_⟩
                  conv => whnf
                  refine field_addr rfl ?_
                  conv => whnf
                  refine RStep.of (load1_s r0 rfl rfl ?_)
                  conv => whnf
                  refine neq_int ?_
                  obtain ⟨x55, e55, hl0⟩ := bnd hl0
                  conv => whnf
                  refine cond_s (fun g50_10 => ?_) (fun g50_10 => ?_)
                  · replace e55 := ift g50_10 e55
                    conv => whnf
                    refine field_addr rfl ?_
                    conv => whnf
                    refine cond_t g50_10 ?_
                    conv => whnf
                    refine RStep.of (load1_s r0 rfl rfl ?_)
                    conv => whnf
                    refine cond_t g50_10 ?_
                    conv => whnf
                    refine u8_rem (x := e0.What) (y := (12 : UInt8)) rfl rfl (by decide) ?_
                    conv => whnf
                    refine cond_t g50_10 ?_
                    conv => whnf
                    refine cond_t g50_10 ?_
                    obtain ⟨x61, e61, hl0⟩ := bnd hl0
                    conv => whnf
                    refine cond_s (fun g56_10 => ?_) (fun g56_10 => ?_)
                    · replace e61 := ift ((si e55).symm.trans g56_10) e61
                      conv => whnf
                      refine field_addr rfl ?_
                      conv => whnf
                      refine cond_t g56_10 ?_
                      conv => whnf
                      refine RStep.of (load1_s r0 rfl rfl ?_)
                      conv => whnf
                      refine cond_t g56_10 ?_
                      conv => whnf
                      refine u8_rem (x := e0.What) (y := (12 : UInt8)) rfl rfl (by decide) ?_
                      conv => whnf
                      refine cond_t g56_10 ?_
                      conv => whnf
                      refine cond_t g56_10 ?_
                      conv => whnf
                      refine cond_go rfl ?_
                      conv => whnf
                      refine cond_s (fun w62 => ?_) (fun w62 => ?_)
                      · replace hl0 := ift ((si e61).symm.trans w62) hl0
                        conv => whnf
                        refine RStep.of (loadn_s r0 rfl (Nat.le_of_ble_eq_true rfl) ?_)
                        obtain ⟨x65, q65, hl0⟩ := bnd hl0
                        conv => whnf
                        refine call_fn (law28_play_ok q65 hy0_0_0 h45_0) (.cons r1 (.cons r1 (.cons r1 .nil))) ?_
                        rintro _ K65 _ l65 ⟨a65_0, c65_0, m65_1, rfl, h65_0, rfl⟩
                        conv => whnf
                        refine cond_T ?_
                        conv => whnf
                        refine int_in (cntz hx0 hk0) ?_
                        conv => whnf
                        refine RoundStep.mk (i0 + 1, x65, a65_0, c65_0, m65_1) ⟨rfl, trivial⟩ (by repeat (first | exact trivial | refine And.intro rfl ?_)) (ConvH.of (.cons r0 (.cons r0 (.cons r0 (.cons r1 .nil))))) (lk0.trans l65) (ltm hx0) ⟨h65_0, hl0⟩
                      · replace hl0 := iff_ ((si e61).symm.trans w62) hl0
                        conv => whnf
                        refine field_addr rfl ?_
                        conv => whnf
                        refine RStep.of (load1_s r0 rfl rfl ?_)
                        conv => whnf
                        refine u8_rem (x := e0.What) (y := (12 : UInt8)) rfl rfl (by decide) ?_
                        obtain ⟨x75, e75, hl0⟩ := bnd hl0
                        conv => whnf
                        refine cond_s (fun g70_13 => ?_) (fun g70_13 => ?_)
                        · replace e75 := ift g70_13 e75
                          conv => whnf
                          refine field_addr rfl ?_
                          conv => whnf
                          refine cond_t g70_13 ?_
                          conv => whnf
                          refine RStep.of (load1_s r0 rfl rfl ?_)
                          conv => whnf
                          refine cond_t g70_13 ?_
                          conv => whnf
                          refine u8_rem (x := e0.What) (y := (12 : UInt8)) rfl rfl (by decide) ?_
                          conv => whnf
                          refine cond_t g70_13 ?_
                          conv => whnf
                          refine cond_t g70_13 ?_
                          conv => whnf
                          refine cond_go rfl ?_
                          conv => whnf
                          refine cond_s (fun w75 => ?_) (fun w75 => ?_)
                          · replace hl0 := ift ((si e75).symm.trans w75) hl0
                            conv => whnf
                            refine field_addr rfl ?_
                            conv => whnf
                            refine RStep.of (load1_s r0 rfl rfl ?_)
                            conv => whnf
                            refine field_addr rfl ?_
                            conv => whnf
                            refine RStep.of (load1_s r0 rfl rfl ?_)
                            obtain ⟨x82, q82, hl0⟩ := bnd hl0
                            conv => whnf
                            refine call_fn (fanout_Stream_Read_ok q82 hy0_0_0) (.cons r1 (.cons r1 (.cons r1 .nil))) ?_
                            rintro _ K82 _ l82 ⟨a82_0, c82_0, a82_1, c82_1, m82_2, rfl, h82_0, h82_1, rfl⟩
                            conv => whnf
                            refine field_addr rfl ?_
                            conv => whnf
                            refine RStep.of (load1_s r4 rfl rfl ?_)
                            conv => whnf
                            refine field_addr rfl ?_
                            conv => whnf
                            refine RStep.of (load1_s r4 rfl rfl ?_)
                            obtain ⟨x92, q92, hl0⟩ := bnd hl0
                            conv => whnf
                            refine call_fn (fanout_Stream_Read_nil_ok q92) .nil ?_
                            rintro _ K92 _ l92 ⟨a92_0, c92_0, rfl, h92_0, rfl⟩
                            conv => whnf
                            refine neq_int ?_
                            obtain ⟨x105, e105, hl0⟩ := bnd hl0
                            conv => whnf
                            refine cond_s (fun g99_16 => ?_) (fun g99_16 => ?_)
                            · replace e105 := ift g99_16 e105
                              conv => whnf
                              refine cond_t g99_16 ?_
                              conv => whnf
                              refine cond_t g99_16 ?_
                              conv => whnf
                              refine cond_t g99_16 ?_
                              conv => whnf
                              refine cond_t g99_16 ?_
                              conv => whnf
                              refine cond_t g99_16 ?_
                              obtain ⟨x111, e111, hl0⟩ := bnd hl0
                              replace e111 := ift (si e105).symm e111
                              conv => whnf
                              refine cond_T ?_
                              conv => whnf
                              refine cond_T ?_
                              conv => whnf
                              refine cond_T ?_
                              conv => whnf
                              refine cond_T ?_
                              conv => whnf
                              refine cond_T ?_
                              conv => whnf
                              refine cond_go rfl ?_
                              conv => whnf
                              refine cond_T ?_
                              replace hl0 := ift (si e111).symm hl0
                              obtain rfl := si hl0
                              replace hm := elr hm
                              obtain rfl := si hm
                              conv => whnf
                              refine EndStep.mk _ ((((((l19.trans l21).trans l27).trans l31).trans lk0).trans l82).trans l92) ⟨rfl, rfl⟩ (ConvH.of (.cons r6 .nil))
                            · replace e105 := iff_ g99_16 e105
                              conv => whnf
                              refine cond_f g99_16 ?_
                              obtain ⟨x101, q101, e105⟩ := bnd e105
                              conv => whnf
                              refine call_fn (base_Num_ok q101) .nil ?_
                              rintro _ K101 _ l101 ⟨rfl, rfl⟩
                              conv => whnf
                              refine cond_f g99_16 ?_
                              conv => whnf
                              refine cond_f g99_16 ?_
                              obtain ⟨x103, q103, e105⟩ := bnd e105
                              conv => whnf
                              refine call_fn (base_Num_ok q103) .nil ?_
                              rintro _ K103 _ l103 ⟨rfl, rfl⟩
                              conv => whnf
                              refine cond_f g99_16 ?_
                              conv => whnf
                              refine neq_int ?_
                              conv => whnf
                              refine cond_f g99_16 ?_
                              obtain ⟨x111, e111, hl0⟩ := bnd hl0
                              conv => whnf
                              refine cond_s (fun g106_16 => ?_) (fun g106_16 => ?_)
                              · replace e111 := ift ((si e105).symm.trans g106_16) e111
                                conv => whnf
                                refine cond_t g106_16 ?_
                                conv => whnf
                                refine cond_t g106_16 ?_
                                conv => whnf
                                refine cond_t g106_16 ?_
                                conv => whnf
                                refine cond_t g106_16 ?_
                                conv => whnf
                                refine cond_go rfl ?_
                                conv => whnf
                                refine cond_T ?_
                                replace hl0 := ift (si e111).symm hl0
                                obtain rfl := si hl0
                                replace hm := elr hm
                                obtain rfl := si hm
                                conv => whnf
                                refine EndStep.mk _ ((((((((l19.trans l21).trans l27).trans l31).trans lk0).trans l82).trans l92).trans l101).trans l103) ⟨rfl, rfl⟩ (ConvH.of (.cons r6 .nil))
                              · replace e111 := iff_ ((si e105).symm.trans g106_16) e111
                                conv => whnf
                                refine cond_f g106_16 ?_
                                conv => whnf
                                refine cond_f g106_16 ?_
                                obtain ⟨x109, q109, e111⟩ := bnd e111
                                conv => whnf
                                refine call_fn (Fn.lend Try.call15 (fun K109_0 l109_0 f109_0 => (Fn.lend Try.call15 (fun K109_1 l109_1 f109_1 => (base_Bytes_ok q109 (f109_0.mono l109_1) rfl f109_1 rfl)) (by exact fun _ _ _ _ h => h))) (by exact fun _ _ _ _ h => h)) (.cons r1 (.cons r0 .nil)) ?_
                                rintro _ K109 _ l109 ⟨_, rfl, _, rfl, rfl, rfl⟩
                                conv => whnf
                                refine cond_f g106_16 ?_
                                conv => whnf
                                refine un_not ?_
                                conv => whnf
                                refine cond_f g106_16 ?_
                                conv => whnf
                                refine cond_go rfl ?_
                                conv => whnf
                                refine cond_s (fun w111 => ?_) (fun w111 => ?_)
                                · replace hl0 := ift ((si e111).symm.trans (not_t (ni_t w111))) hl0
                                  obtain rfl := si hl0
                                  replace hm := elr hm
                                  obtain rfl := si hm
                                  conv => whnf
                                  refine EndStep.mk _ (((((((((l19.trans l21).trans l27).trans l31).trans lk0).trans l82).trans l92).trans l101).trans l103).trans l109) ⟨rfl, rfl⟩ (ConvH.of (.cons r6 .nil))
                                · replace hl0 := iff_ ((si e111).symm.trans (not_f (ni_f w111))) hl0
                                  conv => whnf
                                  refine cond_T ?_
                                  conv => whnf
                                  refine int_in (cntz hx0 hk0) ?_
                                  conv => whnf
                                  refine RoundStep.mk (i0 + 1, x82.2.2.2, a82_1, c82_1, m82_2) ⟨rfl, trivial⟩ (by repeat (first | exact trivial | refine And.intro rfl ?_)) (ConvH.of (.cons r2 (.cons r2 (.cons r2 (.cons r3 .nil))))) (((((lk0.trans l82).trans l92).trans l101).trans l103).trans l109) (ltm hx0) ⟨h82_1, hl0⟩
                          · replace hl0 := iff_ ((si e75).symm.trans w75) hl0
                            conv => whnf
                            refine RStep.of (loadn_s r0 rfl (Nat.le_of_ble_eq_true rfl) ?_)
                            obtain ⟨x114, q114, hl0⟩ := bnd hl0
                            conv => whnf
                            refine call_fn (law28_play_ok q114 hy0_0_0 h45_0) (.cons r1 (.cons r1 (.cons r1 .nil))) ?_
                            rintro _ K114 _ l114 ⟨a114_0, c114_0, m114_1, rfl, h114_0, rfl⟩
                            conv => whnf
                            refine RStep.of (loadn_s r3 rfl (Nat.le_of_ble_eq_true rfl) ?_)
                            obtain ⟨x117, q117, hl0⟩ := bnd hl0
                            conv => whnf
                            refine call_fn (law28_play_nil_ok q117 (h45_0.mono l114)) .nil ?_
                            rintro _ K117 _ l117 ⟨rfl, rfl⟩
                            conv => whnf
                            refine int_in (cntz hx0 hk0) ?_
                            conv => whnf
                            refine RoundStep.mk (i0 + 1, x114, a114_0, c114_0, m114_1) ⟨rfl, trivial⟩ (by repeat (first | exact trivial | refine And.intro rfl ?_)) (ConvH.of (.cons r0 (.cons r0 (.cons r0 (.cons r1 .nil))))) ((lk0.trans l114).trans l117) (ltm hx0) ⟨h114_0, hl0⟩
                        · replace e75 := iff_ g70_13 e75
                          conv => whnf
                          refine cond_f g70_13 ?_
                          conv => whnf
                          refine cond_f g70_13 ?_
                          conv => whnf
                          refine cond_f g70_13 ?_
                          conv => whnf
                          refine cond_f g70_13 ?_
                          conv => whnf
                          refine cond_go rfl ?_
                          conv => whnf
                          refine cond_F ?_
                          replace hl0 := iff_ (si e75).symm hl0
                          conv => whnf
                          refine RStep.of (loadn_s r0 rfl (Nat.le_of_ble_eq_true rfl) ?_)
                          obtain ⟨x114, q114, hl0⟩ := bnd hl0
                          conv => whnf
                          refine call_fn (law28_play_ok q114 hy0_0_0 h45_0) (.cons r1 (.cons r1 (.cons r1 .nil))) ?_
                          rintro _ K114 _ l114 ⟨a114_0, c114_0, m114_1, rfl, h114_0, rfl⟩
                          conv => whnf
                          refine RStep.of (loadn_s r3 rfl (Nat.le_of_ble_eq_true rfl) ?_)
                          obtain ⟨x117, q117, hl0⟩ := bnd hl0
                          conv => whnf
                          refine call_fn (law28_play_nil_ok q117 (h45_0.mono l114)) .nil ?_
                          rintro _ K117 _ l117 ⟨rfl, rfl⟩
                          conv => whnf
                          refine int_in (cntz hx0 hk0) ?_
                          conv => whnf
                          refine RoundStep.mk (i0 + 1, x114, a114_0, c114_0, m114_1) ⟨rfl, trivial⟩ (by repeat (first | exact trivial | refine And.intro rfl ?_)) (ConvH.of (.cons r0 (.cons r0 (.cons r0 (.cons r1 .nil))))) ((lk0.trans l114).trans l117) (ltm hx0) ⟨h114_0, hl0⟩
                    · replace e61 := iff_ ((si e55).symm.trans g56_10) e61
                      conv => whnf
                      refine cond_f g56_10 ?_
                      conv => whnf
                      refine cond_f g56_10 ?_
                      conv => whnf
                      refine cond_f g56_10 ?_
                      conv => whnf
                      refine cond_f g56_10 ?_
                      conv => whnf
                      refine cond_go rfl ?_
                      conv => whnf
                      refine cond_F ?_
                      replace hl0 := iff_ (si e61).symm hl0
                      conv => whnf
                      refine field_addr rfl ?_
                      conv => whnf
                      refine RStep.of (load1_s r0 rfl rfl ?_)
                      conv => whnf
                      refine u8_rem (x := e0.What) (y := (12 : UInt8)) rfl rfl (by decide) ?_
                      obtain ⟨x75, e75, hl0⟩ := bnd hl0
                      conv => whnf
                      refine cond_s (fun g70_13 => ?_) (fun g70_13 => ?_)
                      · replace e75 := ift g70_13 e75
                        conv => whnf
                        refine field_addr rfl ?_
                        conv => whnf
                        refine cond_t g70_13 ?_
                        conv => whnf
                        refine RStep.of (load1_s r0 rfl rfl ?_)
                        conv => whnf
                        refine cond_t g70_13 ?_
                        conv => whnf
                        refine u8_rem (x := e0.What) (y := (12 : UInt8)) rfl rfl (by decide) ?_
                        conv => whnf
                        refine cond_t g70_13 ?_
                        conv => whnf
                        refine cond_t g70_13 ?_
                        conv => whnf
                        refine cond_go rfl ?_
                        conv => whnf
                        refine cond_s (fun w75 => ?_) (fun w75 => ?_)
                        · replace hl0 := ift ((si e75).symm.trans w75) hl0
                          conv => whnf
                          refine field_addr rfl ?_
                          conv => whnf
                          refine RStep.of (load1_s r0 rfl rfl ?_)
                          conv => whnf
                          refine field_addr rfl ?_
                          conv => whnf
                          refine RStep.of (load1_s r0 rfl rfl ?_)
                          obtain ⟨x82, q82, hl0⟩ := bnd hl0
                          conv => whnf
                          refine call_fn (fanout_Stream_Read_ok q82 hy0_0_0) (.cons r1 (.cons r1 (.cons r1 .nil))) ?_
                          rintro _ K82 _ l82 ⟨a82_0, c82_0, a82_1, c82_1, m82_2, rfl, h82_0, h82_1, rfl⟩
                          conv => whnf
                          refine field_addr rfl ?_
                          conv => whnf
                          refine RStep.of (load1_s r4 rfl rfl ?_)
                          conv => whnf
                          refine field_addr rfl ?_
                          conv => whnf
                          refine RStep.of (load1_s r4 rfl rfl ?_)
                          obtain ⟨x92, q92, hl0⟩ := bnd hl0
                          conv => whnf
                          refine call_fn (fanout_Stream_Read_nil_ok q92) .nil ?_
                          rintro _ K92 _ l92 ⟨a92_0, c92_0, rfl, h92_0, rfl⟩
                          conv => whnf
                          refine neq_int ?_
                          obtain ⟨x105, e105, hl0⟩ := bnd hl0
                          conv => whnf
                          refine cond_s (fun g99_16 => ?_) (fun g99_16 => ?_)
                          · replace e105 := ift g99_16 e105
                            conv => whnf
                            refine cond_t g99_16 ?_
                            conv => whnf
                            refine cond_t g99_16 ?_
                            conv => whnf
                            refine cond_t g99_16 ?_
                            conv => whnf
                            refine cond_t g99_16 ?_
                            conv => whnf
                            refine cond_t g99_16 ?_
                            obtain ⟨x111, e111, hl0⟩ := bnd hl0
                            replace e111 := ift (si e105).symm e111
                            conv => whnf
                            refine cond_T ?_
                            conv => whnf
                            refine cond_T ?_
                            conv => whnf
                            refine cond_T ?_
                            conv => whnf
                            refine cond_T ?_
                            conv => whnf
                            refine cond_T ?_
                            conv => whnf
                            refine cond_go rfl ?_
                            conv => whnf
                            refine cond_T ?_
                            replace hl0 := ift (si e111).symm hl0
                            obtain rfl := si hl0
                            replace hm := elr hm
                            obtain rfl := si hm
                            conv => whnf
                            refine EndStep.mk _ ((((((l19.trans l21).trans l27).trans l31).trans lk0).trans l82).trans l92) ⟨rfl, rfl⟩ (ConvH.of (.cons r6 .nil))
                          · replace e105 := iff_ g99_16 e105
                            conv => whnf
                            refine cond_f g99_16 ?_
                            obtain ⟨x101, q101, e105⟩ := bnd e105
                            conv => whnf
                            refine call_fn (base_Num_ok q101) .nil ?_
                            rintro _ K101 _ l101 ⟨rfl, rfl⟩
                            conv => whnf
                            refine cond_f g99_16 ?_
                            conv => whnf
                            refine cond_f g99_16 ?_
                            obtain ⟨x103, q103, e105⟩ := bnd e105
                            conv => whnf
                            refine call_fn (base_Num_ok q103) .nil ?_
                            rintro _ K103 _ l103 ⟨rfl, rfl⟩
                            conv => whnf
                            refine cond_f g99_16 ?_
                            conv => whnf
                            refine neq_int ?_
                            conv => whnf
                            refine cond_f g99_16 ?_
                            obtain ⟨x111, e111, hl0⟩ := bnd hl0
                            conv => whnf
                            refine cond_s (fun g106_16 => ?_) (fun g106_16 => ?_)
                            · replace e111 := ift ((si e105).symm.trans g106_16) e111
                              conv => whnf
                              refine cond_t g106_16 ?_
                              conv => whnf
                              refine cond_t g106_16 ?_
                              conv => whnf
                              refine cond_t g106_16 ?_
                              conv => whnf
                              refine cond_t g106_16 ?_
                              conv => whnf
                              refine cond_go rfl ?_
                              conv => whnf
                              refine cond_T ?_
                              replace hl0 := ift (si e111).symm hl0
                              obtain rfl := si hl0
                              replace hm := elr hm
                              obtain rfl := si hm
                              conv => whnf
                              refine EndStep.mk _ ((((((((l19.trans l21).trans l27).trans l31).trans lk0).trans l82).trans l92).trans l101).trans l103) ⟨rfl, rfl⟩ (ConvH.of (.cons r6 .nil))
                            · replace e111 := iff_ ((si e105).symm.trans g106_16) e111
                              conv => whnf
                              refine cond_f g106_16 ?_
                              conv => whnf
                              refine cond_f g106_16 ?_
                              obtain ⟨x109, q109, e111⟩ := bnd e111
                              conv => whnf
                              refine call_fn (Fn.lend Try.call15 (fun K109_0 l109_0 f109_0 => (Fn.lend Try.call15 (fun K109_1 l109_1 f109_1 => (base_Bytes_ok q109 (f109_0.mono l109_1) rfl f109_1 rfl)) (by exact fun _ _ _ _ h => h))) (by exact fun _ _ _ _ h => h)) (.cons r1 (.cons r0 .nil)) ?_
                              rintro _ K109 _ l109 ⟨_, rfl, _, rfl, rfl, rfl⟩
                              conv => whnf
                              refine cond_f g106_16 ?_
                              conv => whnf
                              refine un_not ?_
                              conv => whnf
                              refine cond_f g106_16 ?_
                              conv => whnf
                              refine cond_go rfl ?_
                              conv => whnf
                              refine cond_s (fun w111 => ?_) (fun w111 => ?_)
                              · replace hl0 := ift ((si e111).symm.trans (not_t (ni_t w111))) hl0
                                obtain rfl := si hl0
                                replace hm := elr hm
                                obtain rfl := si hm
                                conv => whnf
                                refine EndStep.mk _ (((((((((l19.trans l21).trans l27).trans l31).trans lk0).trans l82).trans l92).trans l101).trans l103).trans l109) ⟨rfl, rfl⟩ (ConvH.of (.cons r6 .nil))
                              · replace hl0 := iff_ ((si e111).symm.trans (not_f (ni_f w111))) hl0
                                conv => whnf
                                refine cond_T ?_
                                conv => whnf
                                refine int_in (cntz hx0 hk0) ?_
                                conv => whnf
                                refine RoundStep.mk (i0 + 1, x82.2.2.2, a82_1, c82_1, m82_2) ⟨rfl, trivial⟩ (by repeat (first | exact trivial | refine And.intro rfl ?_)) (ConvH.of (.cons r2 (.cons r2 (.cons r2 (.cons r3 .nil))))) (((((lk0.trans l82).trans l92).trans l101).trans l103).trans l109) (ltm hx0) ⟨h82_1, hl0⟩
                        · replace hl0 := iff_ ((si e75).symm.trans w75) hl0
                          conv => whnf
                          refine RStep.of (loadn_s r0 rfl (Nat.le_of_ble_eq_true rfl) ?_)
                          obtain ⟨x114, q114, hl0⟩ := bnd hl0
                          conv => whnf
                          refine call_fn (law28_play_ok q114 hy0_0_0 h45_0) (.cons r1 (.cons r1 (.cons r1 .nil))) ?_
                          rintro _ K114 _ l114 ⟨a114_0, c114_0, m114_1, rfl, h114_0, rfl⟩
                          conv => whnf
                          refine RStep.of (loadn_s r3 rfl (Nat.le_of_ble_eq_true rfl) ?_)
                          obtain ⟨x117, q117, hl0⟩ := bnd hl0
                          conv => whnf
                          refine call_fn (law28_play_nil_ok q117 (h45_0.mono l114)) .nil ?_
                          rintro _ K117 _ l117 ⟨rfl, rfl⟩
                          conv => whnf
                          refine int_in (cntz hx0 hk0) ?_
                          conv => whnf
                          refine RoundStep.mk (i0 + 1, x114, a114_0, c114_0, m114_1) ⟨rfl, trivial⟩ (by repeat (first | exact trivial | refine And.intro rfl ?_)) (ConvH.of (.cons r0 (.cons r0 (.cons r0 (.cons r1 .nil))))) ((lk0.trans l114).trans l117) (ltm hx0) ⟨h114_0, hl0⟩
                      · replace e75 := iff_ g70_13 e75
                        conv => whnf
                        refine cond_f g70_13 ?_
                        conv => whnf
                        refine cond_f g70_13 ?_
                        conv => whnf
                        refine cond_f g70_13 ?_
                        conv => whnf
                        refine cond_f g70_13 ?_
                        conv => whnf
                        refine cond_go rfl ?_
                        conv => whnf
                        refine cond_F ?_
                        replace hl0 := iff_ (si e75).symm hl0
                        conv => whnf
                        refine RStep.of (loadn_s r0 rfl (Nat.le_of_ble_eq_true rfl) ?_)
                        obtain ⟨x114, q114, hl0⟩ := bnd hl0
                        conv => whnf
                        refine call_fn (law28_play_ok q114 hy0_0_0 h45_0) (.cons r1 (.cons r1 (.cons r1 .nil))) ?_
                        rintro _ K114 _ l114 ⟨a114_0, c114_0, m114_1, rfl, h114_0, rfl⟩
                        conv => whnf
                        refine RStep.of (loadn_s r3 rfl (Nat.le_of_ble_eq_true rfl) ?_)
                        obtain ⟨x117, q117, hl0⟩ := bnd hl0
                        conv => whnf
                        refine call_fn (law28_play_nil_ok q117 (h45_0.mono l114)) .nil ?_
                        rintro _ K117 _ l117 ⟨rfl, rfl⟩
                        conv => whnf
                        refine int_in (cntz hx0 hk0) ?_
                        conv => whnf
                        refine RoundStep.mk (i0 + 1, x114, a114_0, c114_0, m114_1) ⟨rfl, trivial⟩ (by repeat (first | exact trivial | refine And.intro rfl ?_)) (ConvH.of (.cons r0 (.cons r0 (.cons r0 (.cons r1 .nil))))) ((lk0.trans l114).trans l117) (ltm hx0) ⟨h114_0, hl0⟩
                  · replace e55 := iff_ g50_10 e55
                    conv => whnf
                    refine cond_f g50_10 ?_
                    conv => whnf
                    refine cond_f g50_10 ?_
                    conv => whnf
                    refine cond_f g50_10 ?_
                    conv => whnf
                    refine cond_f g50_10 ?_
                    obtain ⟨x61, e61, hl0⟩ := bnd hl0
                    replace e61 := iff_ (si e55).symm e61
                    conv => whnf
                    refine cond_F ?_
                    conv => whnf
                    refine cond_F ?_
                    conv => whnf
                    refine cond_F ?_
                    conv => whnf
                    refine cond_F ?_
                    conv => whnf
                    refine cond_F ?_
                    conv => whnf
                    refine cond_go rfl ?_
                    conv => whnf
                    refine cond_F ?_
                    replace hl0 := iff_ (si e61).symm hl0
                    conv => whnf
                    refine field_addr rfl ?_
                    conv => whnf
                    refine RStep.of (load1_s r0 rfl rfl ?_)
                    conv => whnf
                    refine u8_rem (x := e0.What) (y := (12 : UInt8)) rfl rfl (by decide) ?_
                    obtain ⟨x75, e75, hl0⟩ := bnd hl0
                    conv => whnf
                    refine cond_s (fun g70_13 => ?_) (fun g70_13 => ?_)
                    · replace e75 := ift g70_13 e75
                      conv => whnf
                      refine field_addr rfl ?_
                      conv => whnf
                      refine cond_t g70_13 ?_
                      conv => whnf
                      refine RStep.of (load1_s r0 rfl rfl ?_)
                      conv => whnf
                      refine cond_t g70_13 ?_
                      conv => whnf
                      refine u8_rem (x := e0.What) (y := (12 : UInt8)) rfl rfl (by decide) ?_
                      conv => whnf
                      refine cond_t g70_13 ?_
                      conv => whnf
                      refine cond_t g70_13 ?_
                      conv => whnf
                      refine cond_go rfl ?_
                      conv => whnf
                      refine cond_s (fun w75 => ?_) (fun w75 => ?_)
                      · replace hl0 := ift ((si e75).symm.trans w75) hl0
                        conv => whnf
                        refine field_addr rfl ?_
                        conv => whnf
                        refine RStep.of (load1_s r0 rfl rfl ?_)
                        conv => whnf
                        refine field_addr rfl ?_
                        conv => whnf
                        refine RStep.of (load1_s r0 rfl rfl ?_)
                        obtain ⟨x82, q82, hl0⟩ := bnd hl0
                        conv => whnf
                        refine call_fn (fanout_Stream_Read_ok q82 hy0_0_0) (.cons r1 (.cons r1 (.cons r1 .nil))) ?_
                        rintro _ K82 _ l82 ⟨a82_0, c82_0, a82_1, c82_1, m82_2, rfl, h82_0, h82_1, rfl⟩
                        conv => whnf
                        refine field_addr rfl ?_
                        conv => whnf
                        refine RStep.of (load1_s r4 rfl rfl ?_)
                        conv => whnf
                        refine field_addr rfl ?_
                        conv => whnf
                        refine RStep.of (load1_s r4 rfl rfl ?_)
                        obtain ⟨x92, q92, hl0⟩ := bnd hl0
                        conv => whnf
                        refine call_fn (fanout_Stream_Read_nil_ok q92) .nil ?_
                        rintro _ K92 _ l92 ⟨a92_0, c92_0, rfl, h92_0, rfl⟩
                        conv => whnf
                        refine neq_int ?_
                        obtain ⟨x105, e105, hl0⟩ := bnd hl0
                        conv => whnf
                        refine cond_s (fun g99_16 => ?_) (fun g99_16 => ?_)
                        · replace e105 := ift g99_16 e105
                          conv => whnf
                          refine cond_t g99_16 ?_
                          conv => whnf
                          refine cond_t g99_16 ?_
                          conv => whnf
                          refine cond_t g99_16 ?_
                          conv => whnf
                          refine cond_t g99_16 ?_
                          conv => whnf
                          refine cond_t g99_16 ?_
                          obtain ⟨x111, e111, hl0⟩ := bnd hl0
                          replace e111 := ift (si e105).symm e111
                          conv => whnf
                          refine cond_T ?_
                          conv => whnf
                          refine cond_T ?_
                          conv => whnf
                          refine cond_T ?_
                          conv => whnf
                          refine cond_T ?_
                          conv => whnf
                          refine cond_T ?_
                          conv => whnf
                          refine cond_go rfl ?_
                          conv => whnf
                          refine cond_T ?_
                          replace hl0 := ift (si e111).symm hl0
                          obtain rfl := si hl0
                          replace hm := elr hm
                          obtain rfl := si hm
                          conv => whnf
                          refine EndStep.mk _ ((((((l19.trans l21).trans l27).trans l31).trans lk0).trans l82).trans l92) ⟨rfl, rfl⟩ (ConvH.of (.cons r6 .nil))
                        · replace e105 := iff_ g99_16 e105
                          conv => whnf
                          refine cond_f g99_16 ?_
                          obtain ⟨x101, q101, e105⟩ := bnd e105
                          conv => whnf
                          refine call_fn (base_Num_ok q101) .nil ?_
                          rintro _ K101 _ l101 ⟨rfl, rfl⟩
                          conv => whnf
                          refine cond_f g99_16 ?_
                          conv => whnf
                          refine cond_f g99_16 ?_
                          obtain ⟨x103, q103, e105⟩ := bnd e105
                          conv => whnf
                          refine call_fn (base_Num_ok q103) .nil ?_
                          rintro _ K103 _ l103 ⟨rfl, rfl⟩
                          conv => whnf
                          refine cond_f g99_16 ?_
                          conv => whnf
                          refine neq_int ?_
                          conv => whnf
                          refine cond_f g99_16 ?_
                          obtain ⟨x111, e111, hl0⟩ := bnd hl0
                          conv => whnf
                          refine cond_s (fun g106_16 => ?_) (fun g106_16 => ?_)
                          · replace e111 := ift ((si e105).symm.trans g106_16) e111
                            conv => whnf
                            refine cond_t g106_16 ?_
                            conv => whnf
                            refine cond_t g106_16 ?_
                            conv => whnf
                            refine cond_t g106_16 ?_
                            conv => whnf
                            refine cond_t g106_16 ?_
                            conv => whnf
                            refine cond_go rfl ?_
                            conv => whnf
                            refine cond_T ?_
                            replace hl0 := ift (si e111).symm hl0
                            obtain rfl := si hl0
                            replace hm := elr hm
                            obtain rfl := si hm
                            conv => whnf
                            refine EndStep.mk _ ((((((((l19.trans l21).trans l27).trans l31).trans lk0).trans l82).trans l92).trans l101).trans l103) ⟨rfl, rfl⟩ (ConvH.of (.cons r6 .nil))
                          · replace e111 := iff_ ((si e105).symm.trans g106_16) e111
                            conv => whnf
                            refine cond_f g106_16 ?_
                            conv => whnf
                            refine cond_f g106_16 ?_
                            obtain ⟨x109, q109, e111⟩ := bnd e111
                            conv => whnf
                            refine call_fn (Fn.lend Try.call15 (fun K109_0 l109_0 f109_0 => (Fn.lend Try.call15 (fun K109_1 l109_1 f109_1 => (base_Bytes_ok q109 (f109_0.mono l109_1) rfl f109_1 rfl)) (by exact fun _ _ _ _ h => h))) (by exact fun _ _ _ _ h => h)) (.cons r1 (.cons r0 .nil)) ?_
                            rintro _ K109 _ l109 ⟨_, rfl, _, rfl, rfl, rfl⟩
                            conv => whnf
                            refine cond_f g106_16 ?_
                            conv => whnf
                            refine un_not ?_
                            conv => whnf
                            refine cond_f g106_16 ?_
                            conv => whnf
                            refine cond_go rfl ?_
                            conv => whnf
                            refine cond_s (fun w111 => ?_) (fun w111 => ?_)
                            · replace hl0 := ift ((si e111).symm.trans (not_t (ni_t w111))) hl0
                              obtain rfl := si hl0
                              replace hm := elr hm
                              obtain rfl := si hm
                              conv => whnf
                              refine EndStep.mk _ (((((((((l19.trans l21).trans l27).trans l31).trans lk0).trans l82).trans l92).trans l101).trans l103).trans l109) ⟨rfl, rfl⟩ (ConvH.of (.cons r6 .nil))
                            · replace hl0 := iff_ ((si e111).symm.trans (not_f (ni_f w111))) hl0
                              conv => whnf
                              refine cond_T ?_
                              conv => whnf
                              refine int_in (cntz hx0 hk0) ?_
                              conv => whnf
                              refine RoundStep.mk (i0 + 1, x82.2.2.2, a82_1, c82_1, m82_2) ⟨rfl, trivial⟩ (by repeat (first | exact trivial | refine And.intro rfl ?_)) (ConvH.of (.cons r2 (.cons r2 (.cons r2 (.cons r3 .nil))))) (((((lk0.trans l82).trans l92).trans l101).trans l103).trans l109) (ltm hx0) ⟨h82_1, hl0⟩
                      · replace hl0 := iff_ ((si e75).symm.trans w75) hl0
                        conv => whnf
                        refine RStep.of (loadn_s r0 rfl (Nat.le_of_ble_eq_true rfl) ?_)
                        obtain ⟨x114, q114, hl0⟩ := bnd hl0
                        conv => whnf
                        refine call_fn (law28_play_ok q114 hy0_0_0 h45_0) (.cons r1 (.cons r1 (.cons r1 .nil))) ?_
                        rintro _ K114 _ l114 ⟨a114_0, c114_0, m114_1, rfl, h114_0, rfl⟩
                        conv => whnf
                        refine RStep.of (loadn_s r3 rfl (Nat.le_of_ble_eq_true rfl) ?_)
                        obtain ⟨x117, q117, hl0⟩ := bnd hl0
                        conv => whnf
                        refine call_fn (law28_play_nil_ok q117 (h45_0.mono l114)) .nil ?_
                        rintro _ K117 _ l117 ⟨rfl, rfl⟩
                        conv => whnf
                        refine int_in (cntz hx0 hk0) ?_
                        conv => whnf
                        refine RoundStep.mk (i0 + 1, x114, a114_0, c114_0, m114_1) ⟨rfl, trivial⟩ (by repeat (first | exact trivial | refine And.intro rfl ?_)) (ConvH.of (.cons r0 (.cons r0 (.cons r0 (.cons r1 .nil))))) ((lk0.trans l114).trans l117) (ltm hx0) ⟨h114_0, hl0⟩
                    · replace e75 := iff_ g70_13 e75
                      conv => whnf
                      refine cond_f g70_13 ?_
                      conv => whnf
                      refine cond_f g70_13 ?_
                      conv => whnf
                      refine cond_f g70_13 ?_
                      conv => whnf
                      refine cond_f g70_13 ?_
                      conv => whnf
                      refine cond_go rfl ?_
                      conv => whnf
                      refine cond_F ?_
                      replace hl0 := iff_ (si e75).symm hl0
                      conv => whnf
                      refine RStep.of (loadn_s r0 rfl (Nat.le_of_ble_eq_true rfl) ?_)
                      obtain ⟨x114, q114, hl0⟩ := bnd hl0
                      conv => whnf
                      refine call_fn (law28_play_ok q114 hy0_0_0 h45_0) (.cons r1 (.cons r1 (.cons r1 .nil))) ?_
                      rintro _ K114 _ l114 ⟨a114_0, c114_0, m114_1, rfl, h114_0, rfl⟩
                      conv => whnf
                      refine RStep.of (loadn_s r3 rfl (Nat.le_of_ble_eq_true rfl) ?_)
                      obtain ⟨x117, q117, hl0⟩ := bnd hl0
                      conv => whnf
                      refine call_fn (law28_play_nil_ok q117 (h45_0.mono l114)) .nil ?_
                      rintro _ K117 _ l117 ⟨rfl, rfl⟩
                      conv => whnf
                      refine int_in (cntz hx0 hk0) ?_
                      conv => whnf
                      refine RoundStep.mk (i0 + 1, x114, a114_0, c114_0, m114_1) ⟨rfl, trivial⟩ (by repeat (first | exact trivial | refine And.intro rfl ?_)) (ConvH.of (.cons r0 (.cons r0 (.cons r0 (.cons r1 .nil))))) ((lk0.trans l114).trans l117) (ltm hx0) ⟨h114_0, hl0⟩
                · rw [lty w0, law28_FanoutAlone_L0c.eq_1] at hl0
                  conv => whnf
                  refine cond_T ?_
                  conv => whnf
                  refine MeetStep.mk (y0_0, ay0_0_0, cy0_0_0, my0_0_1) trivial (by repeat (first | exact trivial | refine And.intro rfl ?_)) (ConvH.of (.cons r0 (.cons r0 (.cons r0 (.cons r0 .nil))))) lk0 ⟨hy0_0_0, (si hl0).symm⟩
              · rintro ⟨t0, at0_0_0, ct0_0_0, mt0_0_1⟩ Kt0 lt0 ⟨ht0_0_0, rfl⟩ j0
                replace hm := elg hm
                obtain ⟨x120, q120, hm⟩ := bnd hm
                conv => whnf
                refine call_fn (fanout_Stream_Written_ok q120 ht0_0_0) (.cons r0 (.cons r0 (.cons r0 .nil))) ?_
                rintro _ K120 _ l120 ⟨rfl, rfl⟩
                obtain ⟨x122, q122, hm⟩ := bnd hm
                conv => whnf
                refine call_fn (fanout_Stream_Written_nil_ok q122) .nil ?_
                rintro _ K122 _ l122 ⟨rfl, rfl⟩
                conv => whnf
                refine eq_int ?_
                obtain rfl := si hm
                conv => whnf
                refine EndStep.mk _ ((((((l19.trans l21).trans l27).trans l31).trans lt0).trans l120).trans l122) ⟨rfl, rfl⟩ (ConvH.of (.cons r3 .nil))
        · rw [hq31] at p31 hm
          obtain ⟨b31_0, a31_1, c31_1, m31_2, rfl, h31_1, rfl⟩ := p31
          replace hm := oe_s hm
          conv => whnf
          refine neq_err rfl ?_
          conv => whnf
          refine cond_s (fun g36_5 => ?_) (fun g36_5 => ?_)
          · conv => whnf
            refine cond_t g36_5 ?_
            conv => whnf
            refine cond_t g36_5 ?_
            conv => whnf
            refine cond_go rfl ?_
            conv => whnf
            refine cond_T ?_
            replace hm := ift (or_t g36_5) hm
            obtain rfl := si hm
            conv => whnf
            refine EndStep.mk _ (((l19.trans l21).trans l27).trans l31) ⟨rfl, rfl⟩ (ConvH.of (.cons r6 .nil))
          · conv => whnf
            refine cond_f g36_5 ?_
            conv => whnf
            refine neq_err rfl ?_
            conv => whnf
            refine cond_f g36_5 ?_
            conv => whnf
            refine cond_go rfl ?_
            conv => whnf
            refine cond_s (fun w39 => ?_) (fun w39 => ?_)
            · replace hm := ift (or_u g36_5 w39) hm
              obtain rfl := si hm
              conv => whnf
              refine EndStep.mk _ (((l19.trans l21).trans l27).trans l31) ⟨rfl, rfl⟩ (ConvH.of (.cons r6 .nil))
            · replace hm := iff_ (or_f g36_5 w39) hm
              conv => whnf
              refine RStep.of (len_slice rfl ?_)
              obtain ⟨hk0, hm⟩ := chkb hm
              obtain ⟨s0, hl0, hm⟩ := bnd hm
              conv => whnf
              refine code_cut (σ := (S_fanout_Stream × S_fanout_Stream) × Option Addr × Nat × Nat × Option Addr × Nat × Nat) [4, 10, 11, 12, 13, 14, 15, 16, 17, 42, 43, 44, 45, 46, 47, 48, 49, 50, 51, 52, 53, 54, 55, 56, 57, 58, 59, 60, 61, 62, 63, 64, 65, 66, 67, 68, 69, 70, 71, 72, 73, 74, 75, 76, 77, 78, 79, 80, 81, 82, 83, 84, 85, 86, 87, 88, 89, 90, 91, 92, 93, 94, 95, 96, 97, 98, 99, 100, 101, 102, 103, 104, 105, 106, 107, 108, 109, 110, 111, 112, 113, 114, 115, 116, 117, 118] (fun (t0, at0_0_0, ct0_0_0, mt0_0_1, at0_1_0, ct0_1_0, mt0_1_1) => []) (fun (t0, at0_0_0, ct0_0_0, mt0_0_1, at0_1_0, ct0_1_0, mt0_1_1) => [Cells b27_0 77 [.int .i64 t0.1.limit, .int .i64 t0.1.state, .slice at0_0_0 t0.1.data.length ct0_0_0, .map (some mt0_0_1)], OwnL eU at0_0_0 5 1 ct0_0_0 t0.1.data, MapE intK (fun x => .int .i64 x) mt0_0_1 t0.1.offsets, Cells b31_0 77 [.int .i64 t0.2.limit, .int .i64 t0.2.state, .slice at0_1_0 t0.2.data.length ct0_1_0, .map (some mt0_1_1)], OwnL eU at0_1_0 5 1 ct0_1_0 t0.2.data, MapE intK (fun x => .int .i64 x) mt0_1_1 t0.2.offsets, F]) (fun zz K1 => match zz with | (t0, at0_0_0, ct0_0_0, mt0_0_1, at0_1_0, ct0_1_0, mt0_1_1) => (0 < t0.1.data.length → Has at0_0_0) ∧ (0 < t0.2.data.length → Has at0_1_0) ∧ s0 = Fl.go t0) ?_ ?_
              · refine block_go rfl ?_
                conv => whnf
                refine loop_rule (σ := Nat × S_fanout_Stream × S_fanout_Stream × Option Addr × Nat × Nat × Option Addr × Nat × Nat) [4, 10, 11, 12, 13, 14, 15, 16, 17, 42, 43, 44, 45, 46, 47, 48, 49, 50, 51, 52, 53, 54, 55, 56, 57, 58, 59, 60, 61, 62, 63, 64, 65, 66, 67, 68, 69, 70, 71, 72, 73, 74, 75, 76, 77, 78, 79, 80, 81, 82, 83, 84, 85, 86, 87, 88, 89, 90, 91, 92, 93, 94, 95, 96, 97, 98, 99, 100, 101, 102, 103, 104, 105, 106, 107, 108, 109, 110, 111, 112, 113, 114, 115, 116, 117, 118] (fun (i0, y0_0, y0_1, ay0_0_0, cy0_0_0, my0_0_1, ay0_1_0, cy0_1_0, my0_1_1) => [(42, .int .i64 (i0 : Int))]) (fun (i0, y0_0, y0_1, ay0_0_0, cy0_0_0, my0_0_1, ay0_1_0, cy0_1_0, my0_1_1) => [Cells b27_0 77 [.int .i64 y0_0.limit, .int .i64 y0_0.state, .slice ay0_0_0 y0_0.data.length cy0_0_0, .map (some my0_0_1)], OwnL eU ay0_0_0 5 1 cy0_0_0 y0_0.data, MapE intK (fun x => .int .i64 x) my0_0_1 y0_0.offsets, Cells b31_0 77 [.int .i64 y0_1.limit, .int .i64 y0_1.state, .slice ay0_1_0 y0_1.data.length cy0_1_0, .map (some my0_1_1)], OwnL eU ay0_1_0 5 1 cy0_1_0 y0_1.data, MapE intK (fun x => .int .i64 x) my0_1_1 y0_1.offsets, F]) (fun zz K1 => match zz with | (i0, y0_0, y0_1, ay0_0_0, cy0_0_0, my0_0_1, ay0_1_0, cy0_1_0, my0_1_1) => (0 < y0_0.data.length → Has ay0_0_0) ∧ (0 < y0_1.data.length → Has ay0_1_0) ∧ law28_FanoutAlone_L0d id (script.drop i0) i0 y0_0 y0_1 = some s0) (fun zz => script.length - zz.1) (0, o27, o31, a27_1, c27_1, m27_2, a31_1, c31_1, m31_2) rfl ⟨rfl, trivial⟩ (ConvH.of (.cons r3 (.cons r3 (.cons r3 (.cons r0 (.cons r0 (.cons r0 (.cons r0 .nil)))))))) ⟨h27_1, h31_1, hl0⟩ ?_
                clear hl0
                rintro ⟨i0, y0_0, y0_1, ay0_0_0, cy0_0_0, my0_0_1, ay0_1_0, cy0_1_0, my0_1_1⟩ Kb0 lk0 ⟨hy0_0_0, hy0_1_0, hl0⟩ j0
                conv => whnf
                refine cond_go rfl ?_
                conv => whnf
                refine cond_s (fun w0 => ?_) (fun w0 => ?_)
                · obtain ⟨e0, hx0, hd0⟩ := ltx w0
                  rw [hd0, law28_FanoutAlone_L0d.eq_2] at hl0
                  conv => whnf
                  refine block_go rfl ?_
                  conv => whnf
                  refine RStep.ofN (index_addr rfl rfl (hasR (LiC.mono S_law28_Step.R_ok ((((l19.trans l21).trans l27).trans l31).trans lk0) hp0_0).rd hx0) (nn _) (lt_ofN hx0) ?_)
                  obtain ⟨ss45, cc45, hr45, hc45, hR45⟩ := LiR.get (LiC.mono S_law28_Step.R_ok ((((l19.trans l21).trans l27).trans l31).trans lk0) hp0_0).rd hx0
                  obtain ⟨a45_0, c45_0, rfl, h45_0⟩ := hR45
                  conv => whnf
                  refine RStep.of (load_rd_agg i0 _ hr45 rfl hc45 rfl ?_)
                  conv => whnf
                  refine alloc_rule rfl ?_
                  intro b10
                  conv => whnf
                  refine store_rule r0 rfl ?_
                  conv => whnf
                  refine ⟨rfl, rfl, (Nat.le_of_ble_eq_true rfl), ?_⟩
                  conv => whnf
                  refine field_addr rfl ?_
                  conv => whnf
                  refine RStep.of (load1_s r0 rfl rfl ?_)
                  conv => whnf
                  refine neq_int ?_
                  obtain ⟨x55, e55, hl0⟩ := bnd hl0
                  conv => whnf
                  refine cond_s (fun g50_10 => ?_) (fun g50_10 => ?_)
                  · replace e55 := ift g50_10 e55
                    conv => whnf
                    refine field_addr rfl ?_
                    conv => whnf
                    refine cond_t g50_10 ?_
                    conv => whnf
                    refine RStep.of (load1_s r0 rfl rfl ?_)
                    conv => whnf
                    refine cond_t g50_10 ?_
                    conv => whnf
                    refine u8_rem (x := e0.What) (y := (12 : UInt8)) rfl rfl (by decide) ?_
                    conv => whnf
                    refine cond_t g50_10 ?_
                    conv => whnf
                    refine cond_t g50_10 ?_
                    obtain ⟨x61, e61, hl0⟩ := bnd hl0
                    conv => whnf
                    refine cond_s (fun g56_10 => ?_) (fun g56_10 => ?_)
                    · replace e61 := ift ((si e55).symm.trans g56_10) e61
                      conv => whnf
                      refine field_addr rfl ?_
                      conv => whnf
                      refine cond_t g56_10 ?_
                      conv => whnf
                      refine RStep.of (load1_s r0 rfl rfl ?_)
                      conv => whnf
                      refine cond_t g56_10 ?_
                      conv => whnf
                      refine u8_rem (x := e0.What) (y := (12 : UInt8)) rfl rfl (by decide) ?_
                      conv => whnf
                      refine cond_t g56_10 ?_
                      conv => whnf
                      refine cond_t g56_10 ?_
                      conv => whnf
                      refine cond_go rfl ?_
                      conv => whnf
                      refine cond_s (fun w62 => ?_) (fun w62 => ?_)
                      · replace hl0 := ift ((si e61).symm.trans w62) hl0
                        conv => whnf
                        refine RStep.of (loadn_s r0 rfl (Nat.le_of_ble_eq_true rfl) ?_)
                        obtain ⟨x65, q65, hl0⟩ := bnd hl0
                        conv => whnf
                        refine call_fn (law28_play_ok q65 hy0_0_0 h45_0) (.cons r1 (.cons r1 (.cons r1 .nil))) ?_
                        rintro _ K65 _ l65 ⟨a65_0, c65_0, m65_1, rfl, h65_0, rfl⟩
                        conv => whnf
                        refine cond_T ?_
                        conv => whnf
                        refine int_in (cntz hx0 hk0) ?_
                        conv => whnf
                        refine RoundStep.mk (i0 + 1, x65, y0_1, a65_0, c65_0, m65_1, ay0_1_0, cy0_1_0, my0_1_1) ⟨rfl, trivial⟩ (by repeat (first | exact trivial | refine And.intro rfl ?_)) (ConvH.of (.cons r0 (.cons r0 (.cons r0 (.cons r1 (.cons r1 (.cons r1 (.cons r1 .nil)))))))) (lk0.trans l65) (ltm hx0) ⟨h65_0, hy0_1_0, hl0⟩
                      · replace hl0 := iff_ ((si e61).symm.trans w62) hl0
                        conv => whnf
                        refine field_addr rfl ?_
                        conv => whnf
                        refine RStep.of (load1_s r0 rfl rfl ?_)
                        conv => whnf
                        refine u8_rem (x := e0.What) (y := (12 : UInt8)) rfl rfl (by decide) ?_
                        obtain ⟨x75, e75, hl0⟩ := bnd hl0
                        conv => whnf
                        refine cond_s (fun g70_13 => ?_) (fun g70_13 => ?_)
                        · replace e75 := ift g70_13 e75
                          conv => whnf
                          refine field_addr rfl ?_
                          conv => whnf
                          refine cond_t g70_13 ?_
                          conv => whnf
                          refine RStep.of (load1_s r0 rfl rfl ?_)
                          conv => whnf
                          refine cond_t g70_13 ?_
                          conv => whnf
                          refine u8_rem (x := e0.What) (y := (12 : UInt8)) rfl rfl (by decide) ?_
                          conv => whnf
                          refine cond_t g70_13 ?_
                          conv => whnf
                          refine cond_t g70_13 ?_
                          conv => whnf
                          refine cond_go rfl ?_
                          conv => whnf
                          refine cond_s (fun w75 => ?_) (fun w75 => ?_)
                          · replace hl0 := ift ((si e75).symm.trans w75) hl0
                            conv => whnf
                            refine field_addr rfl ?_
                            conv => whnf
                            refine RStep.of (load1_s r0 rfl rfl ?_)
                            conv => whnf
                            refine field_addr rfl ?_
                            conv => whnf
                            refine RStep.of (load1_s r0 rfl rfl ?_)
                            obtain ⟨x82, q82, hl0⟩ := bnd hl0
                            conv => whnf
                            refine call_fn (fanout_Stream_Read_ok q82 hy0_0_0) (.cons r1 (.cons r1 (.cons r1 .nil))) ?_
                            rintro _ K82 _ l82 ⟨a82_0, c82_0, a82_1, c82_1, m82_2, rfl, h82_0, h82_1, rfl⟩
                            conv => whnf
                            refine field_addr rfl ?_
                            conv => whnf
                            refine RStep.of (load1_s r4 rfl rfl ?_)
                            conv => whnf
                            refine field_addr rfl ?_
                            conv => whnf
                            refine RStep.of (load1_s r4 rfl rfl ?_)
                            obtain ⟨x92, q92, hl0⟩ := bnd hl0
                            conv => whnf
                            refine call_fn (fanout_Stream_Read_ok q92 hy0_1_0) (.cons r5 (.cons r5 (.cons r5 .nil))) ?_
                            rintro _ K92 _ l92 ⟨a92_0, c92_0, a92_1, c92_1, m92_2, rfl, h92_0, h92_1, rfl⟩
                            conv => whnf
                            refine neq_int ?_
                            obtain ⟨x105, e105, hl0⟩ := bnd hl0
                            conv => whnf
                            refine cond_s (fun g99_16 => ?_) (fun g99_16 => ?_)
                            · replace e105 := ift g99_16 e105
                              conv => whnf
                              refine cond_t g99_16 ?_
                              conv => whnf
                              refine cond_t g99_16 ?_
                              conv => whnf
                              refine cond_t g99_16 ?_
                              conv => whnf
                              refine cond_t g99_16 ?_
                              conv => whnf
                              refine cond_t g99_16 ?_
                              obtain ⟨x111, e111, hl0⟩ := bnd hl0
                              replace e111 := ift (si e105).symm e111
                              conv => whnf
                              refine cond_T ?_
                              conv => whnf
                              refine cond_T ?_
                              conv => whnf
                              refine cond_T ?_
                              conv => whnf
                              refine cond_T ?_
                              conv => whnf
                              refine cond_T ?_
                              conv => whnf
                              refine cond_go rfl ?_
                              conv => whnf
                              refine cond_T ?_
                              replace hl0 := ift (si e111).symm hl0
                              obtain rfl := si hl0
                              replace hm := elr hm
                              obtain rfl := si hm
                              conv => whnf
                              refine EndStep.mk _ ((((((l19.trans l21).trans l27).trans l31).trans lk0).trans l82).trans l92) ⟨rfl, rfl⟩ (ConvH.of (.cons r9 .nil))
                            · replace e105 := iff_ g99_16 e105
                              conv => whnf
                              refine cond_f g99_16 ?_
                              obtain ⟨x101, q101, e105⟩ := bnd e105
                              conv => whnf
                              refine call_fn (base_Num_ok q101) .nil ?_
                              rintro _ K101 _ l101 ⟨rfl, rfl⟩
                              conv => whnf
                              refine cond_f g99_16 ?_
                              conv => whnf
                              refine cond_f g99_16 ?_
                              obtain ⟨x103, q103, e105⟩ := bnd e105
                              conv => whnf
                              refine call_fn (base_Num_ok q103) .nil ?_
                              rintro _ K103 _ l103 ⟨rfl, rfl⟩
                              conv => whnf
                              refine cond_f g99_16 ?_
                              conv => whnf
                              refine neq_int ?_
                              conv => whnf
                              refine cond_f g99_16 ?_
                              obtain ⟨x111, e111, hl0⟩ := bnd hl0
                              conv => whnf
                              refine cond_s (fun g106_16 => ?_) (fun g106_16 => ?_)
                              · replace e111 := ift ((si e105).symm.trans g106_16) e111
                                conv => whnf
                                refine cond_t g106_16 ?_
                                conv => whnf
                                refine cond_t g106_16 ?_
                                conv => whnf
                                refine cond_t g106_16 ?_
                                conv => whnf
                                refine cond_t g106_16 ?_
                                conv => whnf
                                refine cond_go rfl ?_
                                conv => whnf
                                refine cond_T ?_
                                replace hl0 := ift (si e111).symm hl0
                                obtain rfl := si hl0
                                replace hm := elr hm
                                obtain rfl := si hm
                                conv => whnf
                                refine EndStep.mk _ ((((((((l19.trans l21).trans l27).trans l31).trans lk0).trans l82).trans l92).trans l101).trans l103) ⟨rfl, rfl⟩ (ConvH.of (.cons r9 .nil))
                              · replace e111 := iff_ ((si e105).symm.trans g106_16) e111
                                conv => whnf
                                refine cond_f g106_16 ?_
                                conv => whnf
                                refine cond_f g106_16 ?_
                                obtain ⟨x109, q109, e111⟩ := bnd e111
                                conv => whnf
                                refine call_fn (Fn.lend Try.call15 (fun K109_0 l109_0 f109_0 => (Fn.lend Try.call15 (fun K109_1 l109_1 f109_1 => (base_Bytes_ok q109 (f109_0.mono l109_1) rfl f109_1 rfl)) (by exact fun _ _ _ _ h => h))) (by exact fun _ _ _ _ h => h)) (.cons r4 (.cons r0 .nil)) ?_
                                rintro _ K109 _ l109 ⟨_, rfl, _, rfl, rfl, rfl⟩
                                conv => whnf
                                refine cond_f g106_16 ?_
                                conv => whnf
                                refine un_not ?_
                                conv => whnf
                                refine cond_f g106_16 ?_
                                conv => whnf
                                refine cond_go rfl ?_
                                conv => whnf
                                refine cond_s (fun w111 => ?_) (fun w111 => ?_)
                                · replace hl0 := ift ((si e111).symm.trans (not_t (ni_t w111))) hl0
                                  obtain rfl := si hl0
                                  replace hm := elr hm
                                  obtain rfl := si hm
                                  conv => whnf
                                  refine EndStep.mk _ (((((((((l19.trans l21).trans l27).trans l31).trans lk0).trans l82).trans l92).trans l101).trans l103).trans l109) ⟨rfl, rfl⟩ (ConvH.of (.cons r9 .nil))
                                · replace hl0 := iff_ ((si e111).symm.trans (not_f (ni_f w111))) hl0
                                  conv => whnf
                                  refine cond_T ?_
                                  conv => whnf
                                  refine int_in (cntz hx0 hk0) ?_
                                  conv => whnf
                                  refine RoundStep.mk (i0 + 1, x82.2.2.2, x92.2.2.2, a82_1, c82_1, m82_2, a92_1, c92_1, m92_2) ⟨rfl, trivial⟩ (by repeat (first | exact trivial | refine And.intro rfl ?_)) (ConvH.of (.cons r5 (.cons r5 (.cons r5 (.cons r2 (.cons r2 (.cons r2 (.cons r3 .nil)))))))) (((((lk0.trans l82).trans l92).trans l101).trans l103).trans l109) (ltm hx0) ⟨h82_1, h92_1, hl0⟩
                          · replace hl0 := iff_ ((si e75).symm.trans w75) hl0
                            conv => whnf
                            refine RStep.of (loadn_s r0 rfl (Nat.le_of_ble_eq_true rfl) ?_)
                            obtain ⟨x114, q114, hl0⟩ := bnd hl0
                            conv => whnf
                            refine call_fn (law28_play_ok q114 hy0_0_0 h45_0) (.cons r1 (.cons r1 (.cons r1 .nil))) ?_
                            rintro _ K114 _ l114 ⟨a114_0, c114_0, m114_1, rfl, h114_0, rfl⟩
                            conv => whnf
                            refine RStep.of (loadn_s r3 rfl (Nat.le_of_ble_eq_true rfl) ?_)
                            obtain ⟨x117, q117, hl0⟩ := bnd hl0
                            conv => whnf
                            refine call_fn (law28_play_ok q117 hy0_1_0 (h45_0.mono l114)) (.cons r4 (.cons r4 (.cons r4 .nil))) ?_
                            rintro _ K117 _ l117 ⟨a117_0, c117_0, m117_1, rfl, h117_0, rfl⟩
                            conv => whnf
                            refine int_in (cntz hx0 hk0) ?_
                            conv => whnf
                            refine RoundStep.mk (i0 + 1, x114, x117, a114_0, c114_0, m114_1, a117_0, c117_0, m117_1) ⟨rfl, trivial⟩ (by repeat (first | exact trivial | refine And.intro rfl ?_)) (ConvH.of (.cons r3 (.cons r3 (.cons r3 (.cons r0 (.cons r0 (.cons r0 (.cons r1 .nil)))))))) ((lk0.trans l114).trans l117) (ltm hx0) ⟨h114_0, h117_0, hl0⟩
                        · replace e75 := iff_ g70_13 e75
                          conv => whnf
                          refine cond_f g70_13 ?_
                          conv => whnf
                          refine cond_f g70_13 ?_
                          conv => whnf
                          refine cond_f g70_13 ?_
                          conv => whnf
                          refine cond_f g70_13 ?_
                          conv => whnf
                          refine cond_go rfl ?_
                          conv => whnf
                          refine cond_F ?_
                          replace hl0 := iff_ (si e75).symm hl0
                          conv => whnf
                          refine RStep.of (loadn_s r0 rfl (Nat.le_of_ble_eq_true rfl) ?_)
                          obtain ⟨x114, q114, hl0⟩ := bnd hl0
                          conv => whnf
                          refine call_fn (law28_play_ok q114 hy0_0_0 h45_0) (.cons r1 (.cons r1 (.cons r1 .nil))) ?_
                          rintro _ K114 _ l114 ⟨a114_0, c114_0, m114_1, rfl, h114_0, rfl⟩
                          conv => whnf
                          refine RStep.of (loadn_s r3 rfl (Nat.le_of_ble_eq_true rfl) ?_)
                          obtain ⟨x117, q117, hl0⟩ := bnd hl0
                          conv => whnf
                          refine call_fn (law28_play_ok q117 hy0_1_0 (h45_0.mono l114)) (.cons r4 (.cons r4 (.cons r4 .nil))) ?_
                          rintro _ K117 _ l117 ⟨a117_0, c117_0, m117_1, rfl, h117_0, rfl⟩
                          conv => whnf
                          refine int_in (cntz hx0 hk0) ?_
                          conv => whnf
                          refine RoundStep.mk (i0 + 1, x114, x117, a114_0, c114_0, m114_1, a117_0, c117_0, m117_1) ⟨rfl, trivial⟩ (by repeat (first | exact trivial | refine And.intro rfl ?_)) (ConvH.of (.cons r3 (.cons r3 (.cons r3 (.cons r0 (.cons r0 (.cons r0 (.cons r1 .nil)))))))) ((lk0.trans l114).trans l117) (ltm hx0) ⟨h114_0, h117_0, hl0⟩
                    · replace e61 := iff_ ((si e55).symm.trans g56_10) e61
                      conv => whnf
                      refine cond_f g56_10 ?_
                      conv => whnf
                      refine cond_f g56_10 ?_
                      conv => whnf
                      refine cond_f g56_10 ?_
                      conv => whnf
                      refine cond_f g56_10 ?_
                      conv => whnf
                      refine cond_go rfl ?_
                      conv => whnf
                      refine cond_F ?_
                      replace hl0 := iff_ (si e61).symm hl0
                      conv => whnf
                      refine field_addr rfl ?_
                      conv => whnf
                      refine RStep.of (load1_s r0 rfl rfl ?_)
                      conv => whnf
                      refine u8_rem (x := e0.What) (y := (12 : UInt8)) rfl rfl (by decide) ?_
                      obtain ⟨x75, e75, hl0⟩ := bnd hl0
                      conv => whnf
                      refine cond_s (fun g70_13 => ?_) (fun g70_13 => ?_)
                      · replace e75 := ift g70_13 e75
                        conv => whnf
                        refine field_addr rfl ?_
                        conv => whnf
                        refine cond_t g70_13 ?_
                        conv => whnf
                        refine RStep.of (load1_s r0 rfl rfl ?_)
                        conv => whnf
                        refine cond_t g70_13 ?_
                        conv => whnf
                        refine u8_rem (x := e0.What) (y := (12 : UInt8)) rfl rfl (by decide) ?_
                        conv => whnf
                        refine cond_t g70_13 ?_
                        conv => whnf
                        refine cond_t g70_13 ?_
                        conv => whnf
                        refine cond_go rfl ?_
                        conv => whnf
                        refine cond_s (fun w75 => ?_) (fun w75 => ?_)
                        · replace hl0 := ift ((si e75).symm.trans w75) hl0
                          conv => whnf
                          refine field_addr rfl ?_
                          conv => whnf
                          refine RStep.of (load1_s r0 rfl rfl ?_)
                          conv => whnf
                          refine field_addr rfl ?_
                          conv => whnf
                          refine RStep.of (load1_s r0 rfl rfl ?_)
                          obtain ⟨x82, q82, hl0⟩ := bnd hl0
                          conv => whnf
                          refine call_fn (fanout_Stream_Read_ok q82 hy0_0_0) (.cons r1 (.cons r1 (.cons r1 .nil))) ?_
                          rintro _ K82 _ l82 ⟨a82_0, c82_0, a82_1, c82_1, m82_2, rfl, h82_0, h82_1, rfl⟩
                          conv => whnf
                          refine field_addr rfl ?_
                          conv => whnf
                          refine RStep.of (load1_s r4 rfl rfl ?_)
                          conv => whnf
                          refine field_addr rfl ?_
                          conv => whnf
                          refine RStep.of (load1_s r4 rfl rfl ?_)
                          obtain ⟨x92, q92, hl0⟩ := bnd hl0
                          conv => whnf
                          refine call_fn (fanout_Stream_Read_ok q92 hy0_1_0) (.cons r5 (.cons r5 (.cons r5 .nil))) ?_
                          rintro _ K92 _ l92 ⟨a92_0, c92_0, a92_1, c92_1, m92_2, rfl, h92_0, h92_1, rfl⟩
                          conv => whnf
                          refine neq_int ?_
                          obtain ⟨x105, e105, hl0⟩ := bnd hl0
                          conv => whnf
                          refine cond_s (fun g99_16 => ?_) (fun g99_16 => ?_)
                          · replace e105 := ift g99_16 e105
                            conv => whnf
                            refine cond_t g99_16 ?_
                            conv => whnf
                            refine cond_t g99_16 ?_
                            conv => whnf
                            refine cond_t g99_16 ?_
                            conv => whnf
                            refine cond_t g99_16 ?_
                            conv => whnf
                            refine cond_t g99_16 ?_
                            obtain ⟨x111, e111, hl0⟩ := bnd hl0
                            replace e111 := ift (si e105).symm e111
                            conv => whnf
                            refine cond_T ?_
                            conv => whnf
                            refine cond_T ?_
                            conv => whnf
                            refine cond_T ?_
                            conv => whnf
                            refine cond_T ?_
                            conv => whnf
                            refine cond_T ?_
                            conv => whnf
                            refine cond_go rfl ?_
                            conv => whnf
                            refine cond_T ?_
                            replace hl0 := ift (si e111).symm hl0
                            obtain rfl := si hl0
                            replace hm := elr hm
                            obtain rfl := si hm
                            conv => whnf
                            refine EndStep.mk _ ((((((l19.trans l21).trans l27).trans l31).trans lk0).trans l82).trans l92) ⟨rfl, rfl⟩ (ConvH.of (.cons r9 .nil))
                          · replace e105 := iff_ g99_16 e105
                            conv => whnf
                            refine cond_f g99_16 ?_
                            obtain ⟨x101, q101, e105⟩ := bnd e105
                            conv => whnf
                            refine call_fn (base_Num_ok q101) .nil ?_
                            rintro _ K101 _ l101 ⟨rfl, rfl⟩
                            conv => whnf
                            refine cond_f g99_16 ?_
                            conv => whnf
                            refine cond_f g99_16 ?_
                            obtain ⟨x103, q103, e105⟩ := bnd e105
                            conv => whnf
                            refine call_fn (base_Num_ok q103) .nil ?_
                            rintro _ K103 _ l103 ⟨rfl, rfl⟩
                            conv => whnf
                            refine cond_f g99_16 ?_
                            conv => whnf
                            refine neq_int ?_
                            conv => whnf
                            refine cond_f g99_16 ?_
                            obtain ⟨x111, e111, hl0⟩ := bnd hl0
                            conv => whnf
                            refine cond_s (fun g106_16 => ?_) (fun g106_16 => ?_)
                            · replace e111 := ift ((si e105).symm.trans g106_16) e111
                              conv => whnf
                              refine cond_t g106_16 ?_
                              conv => whnf
                              refine cond_t g106_16 ?_
                              conv => whnf
                              refine cond_t g106_16 ?_
                              conv => whnf
                              refine cond_t g106_16 ?_
                              conv => whnf
                              refine cond_go rfl ?_
                              conv => whnf
                              refine cond_T ?_
                              replace hl0 := ift (si e111).symm hl0
                              obtain rfl := si hl0
                              replace hm := elr hm
                              obtain rfl := si hm
                              conv => whnf
                              refine EndStep.mk _ ((((((((l19.trans l21).trans l27).trans l31).trans lk0).trans l82).trans l92).trans l101).trans l103) ⟨rfl, rfl⟩ (ConvH.of (.cons r9 .nil))
                            · replace e111 := iff_ ((si e105).symm.trans g106_16) e111
                              conv => whnf
                              refine cond_f g106_16 ?_
                              conv => whnf
                              refine cond_f g106_16 ?_
                              obtain ⟨x109, q109, e111⟩ := bnd e111
                              conv => whnf
                              refine call_fn (Fn.lend Try.call15 (fun K109_0 l109_0 f109_0 => (Fn.lend Try.call15 (fun K109_1 l109_1 f109_1 => (base_Bytes_ok q109 (f109_0.mono l109_1) rfl f109_1 rfl)) (by exact fun _ _ _ _ h => h))) (by exact fun _ _ _ _ h => h)) (.cons r4 (.cons r0 .nil)) ?_
                              rintro _ K109 _ l109 ⟨_, rfl, _, rfl, rfl, rfl⟩
                              conv => whnf
                              refine cond_f g106_16 ?_
                              conv => whnf
                              refine un_not ?_
                              conv => whnf
                              refine cond_f g106_16 ?_
                              conv => whnf
                              refine cond_go rfl ?_
                              conv => whnf
                              refine cond_s (fun w111 => ?_) (fun w111 => ?_)
                              · replace hl0 := ift ((si e111).symm.trans (not_t (ni_t w111))) hl0
                                obtain rfl := si hl0
                                replace hm := elr hm
                                obtain rfl := si hm
                                conv => whnf
                                refine EndStep.mk _ (((((((((l19.trans l21).trans l27).trans l31).trans lk0).trans l82).trans l92).trans l101).trans l103).trans l109) ⟨rfl, rfl⟩ (ConvH.of (.cons r9 .nil))
                              · replace hl0 := iff_ ((si e111).symm.trans (not_f (ni_f w111))) hl0
                                conv => whnf
                                refine cond_T ?_
                                conv => whnf
                                refine int_in (cntz hx0 hk0) ?_
                                conv => whnf
                                refine RoundStep.mk (i0 + 1, x82.2.2.2, x92.2.2.2, a82_1, c82_1, m82_2, a92_1, c92_1, m92_2) ⟨rfl, trivial⟩ (by repeat (first | exact trivial | refine And.intro rfl ?_)) (ConvH.of (.cons r5 (.cons r5 (.cons r5 (.cons r2 (.cons r2 (.cons r2 (.cons r3 .nil)))))))) (((((lk0.trans l82).trans l92).trans l101).trans l103).trans l109) (ltm hx0) ⟨h82_1, h92_1, hl0⟩
                        · replace hl0 := iff_ ((si e75).symm.trans w75) hl0
                          conv => whnf
                          refine RStep.of (loadn_s r0 rfl (Nat.le_of_ble_eq_true rfl) ?_)
                          obtain ⟨x114, q114, hl0⟩ := bnd hl0
                          conv => whnf
                          refine call_fn (law28_play_ok q114 hy0_0_0 h45_0) (.cons r1 (.cons r1 (.cons r1 .nil))) ?_
                          rintro _ K114 _ l114 ⟨a114_0, c114_0, m114_1, rfl, h114_0, rfl⟩
                          conv => whnf
                          refine RStep.of (loadn_s r3 rfl (Nat.le_of_ble_eq_true rfl) ?_)
                          obtain ⟨x117, q117, hl0⟩ := bnd hl0
                          conv => whnf
                          refine call_fn (law28_play_ok q117 hy0_1_0 (h45_0.mono l114)) (.cons r4 (.cons r4 (.cons r4 .nil))) ?_
                          rintro _ K117 _ l117 ⟨a117_0, c117_0, m117_1, rfl, h117_0, rfl⟩
                          conv => whnf
                          refine int_in (cntz hx0 hk0) ?_
                          conv => whnf
                          refine RoundStep.mk (i0 + 1, x114, x117, a114_0, c114_0, m114_1, a117_0, c117_0, m117_1) ⟨rfl, trivial⟩ (by repeat (first | exact trivial | refine And.intro rfl ?_)) (ConvH.of (.cons r3 (.cons r3 (.cons r3 (.cons r0 (.cons r0 (.cons r0 (.cons r1 .nil)))))))) ((lk0.trans l114).trans l117) (ltm hx0) ⟨h114_0, h117_0, hl0⟩
                      · replace e75 := iff_ g70_13 e75
                        conv => whnf
                        refine cond_f g70_13 ?_
                        conv => whnf
                        refine cond_f g70_13 ?_
                        conv => whnf
                        refine cond_f g70_13 ?_
                        conv => whnf
                        refine cond_f g70_13 ?_
                        conv => whnf
                        refine cond_go rfl ?_
                        conv => whnf
                        refine cond_F ?_
                        replace hl0 := iff_ (si e75).symm hl0
                        conv => whnf
                        refine RStep.of (loadn_s r0 rfl (Nat.le_of_ble_eq_true rfl) ?_)
                        obtain ⟨x114, q114, hl0⟩ := bnd hl0
                        conv => whnf
                        refine call_fn (law28_play_ok q114 hy0_0_0 h45_0) (.cons r1 (.cons r1 (.cons r1 .nil))) ?_
                        rintro _ K114 _ l114 ⟨a114_0, c114_0, m114_1, rfl, h114_0, rfl⟩
                        conv => whnf
                        refine RStep.of (loadn_s r3 rfl (Nat.le_of_ble_eq_true rfl) ?_)
                        obtain ⟨x117, q117, hl0⟩ := bnd hl0
                        conv => whnf
                        refine call_fn (law28_play_ok q117 hy0_1_0 (h45_0.mono l114)) (.cons r4 (.cons r4 (.cons r4 .nil))) ?_
                        rintro _ K117 _ l117 ⟨a117_0, c117_0, m117_1, rfl, h117_0, rfl⟩
                        conv => whnf
                        refine int_in (cntz hx0 hk0) ?_
                        conv => whnf
                        refine RoundStep.mk (i0 + 1, x114, x117, a114_0, c114_0, m114_1, a117_0, c117_0, m117_1) ⟨rfl, trivial⟩ (by repeat (first | exact trivial | refine And.intro rfl ?_)) (ConvH.of (.cons r3 (.cons r3 (.cons r3 (.cons r0 (.cons r0 (.cons r0 (.cons r1 .nil)))))))) ((lk0.trans l114).trans l117) (ltm hx0) ⟨h114_0, h117_0, hl0⟩
                  · replace e55 := iff_ g50_10 e55
                    conv => whnf
                    refine cond_f g50_10 ?_
                    conv => whnf
                    refine cond_f g50_10 ?_
                    conv => whnf
                    refine cond_f g50_10 ?_
                    conv => whnf
                    refine cond_f g50_10 ?_
                    obtain ⟨x61, e61, hl0⟩ := bnd hl0
                    replace e61 := iff_ (si e55).symm e61
                    conv => whnf
                    refine cond_F ?_
                    conv => whnf
                    refine cond_F ?_
                    conv => whnf
                    refine cond_F ?_
                    conv => whnf
                    refine cond_F ?_
                    conv => whnf
                    refine cond_F ?_
                    conv => whnf
                    refine cond_go rfl ?_
                    conv => whnf
                    refine cond_F ?_
                    replace hl0 := iff_ (si e61).symm hl0
                    conv => whnf
                    refine field_addr rfl ?_
                    conv => whnf
                    refine RStep.of (load1_s r0 rfl rfl ?_)
                    conv => whnf
                    refine u8_rem (x := e0.What) (y := (12 : UInt8)) rfl rfl (by decide) ?_
                    obtain ⟨x75, e75, hl0⟩ := bnd hl0
                    conv => whnf
                    refine cond_s (fun g70_13 => ?_) (fun g70_13 => ?_)
                    · replace e75 := ift g70_13 e75
                      conv => whnf
                      refine field_addr rfl ?_
                      conv => whnf
                      refine cond_t g70_13 ?_
                      conv => whnf
                      refine RStep.of (load1_s r0 rfl rfl ?_)
                      conv => whnf
                      refine cond_t g70_13 ?_
                      conv => whnf
                      refine u8_rem (x := e0.What) (y := (12 : UInt8)) rfl rfl (by decide) ?_
                      conv => whnf
                      refine cond_t g70_13 ?_
                      conv => whnf
                      refine cond_t g70_13 ?_
                      conv => whnf
                      refine cond_go rfl ?_
                      conv => whnf
                      refine cond_s (fun w75 => ?_) (fun w75 => ?_)
                      · replace hl0 := ift ((si e75).symm.trans w75) hl0
                        conv => whnf
                        refine field_addr rfl ?_
                        conv => whnf
                        refine RStep.of (load1_s r0 rfl rfl ?_)
                        conv => whnf
                        refine field_addr rfl ?_
                        conv => whnf
                        refine RStep.of (load1_s r0 rfl rfl ?_)
                        obtain ⟨x82, q82, hl0⟩ := bnd hl0
                        conv => whnf
                        refine call_fn (fanout_Stream_Read_ok q82 hy0_0_0) (.cons r1 (.cons r1 (.cons r1 .nil))) ?_
                        rintro _ K82 _ l82 ⟨a82_0, c82_0, a82_1, c82_1, m82_2, rfl, h82_0, h82_1, rfl⟩
                        conv => whnf
                        refine field_addr rfl ?_
                        conv => whnf
                        refine RStep.of (load1_s r4 rfl rfl ?_)
                        conv => whnf
                        refine field_addr rfl ?_
                        conv => whnf
                        refine RStep.of (load1_s r4 rfl rfl ?_)
                        obtain ⟨x92, q92, hl0⟩ := bnd hl0
                        conv => whnf
                        refine call_fn (fanout_Stream_Read_ok q92 hy0_1_0) (.cons r5 (.cons r5 (.cons r5 .nil))) ?_
                        rintro _ K92 _ l92 ⟨a92_0, c92_0, a92_1, c92_1, m92_2, rfl, h92_0, h92_1, rfl⟩
                        conv => whnf
                        refine neq_int ?_
                        obtain ⟨x105, e105, hl0⟩ := bnd hl0
                        conv => whnf
                        refine cond_s (fun g99_16 => ?_) (fun g99_16 => ?_)
                        · replace e105 := ift g99_16 e105
                          conv => whnf
                          refine cond_t g99_16 ?_
                          conv => whnf
                          refine cond_t g99_16 ?_
                          conv => whnf
                          refine cond_t g99_16 ?_
                          conv => whnf
                          refine cond_t g99_16 ?_
                          conv => whnf
                          refine cond_t g99_16 ?_
                          obtain ⟨x111, e111, hl0⟩ := bnd hl0
                          replace e111 := ift (si e105).symm e111
                          conv => whnf
                          refine cond_T ?_
                          conv => whnf
                          refine cond_T ?_
                          conv => whnf
                          refine cond_T ?_
                          conv => whnf
                          refine cond_T ?_
                          conv => whnf
                          refine cond_T ?_
                          conv => whnf
                          refine cond_go rfl ?_
                          conv => whnf
                          refine cond_T ?_
                          replace hl0 := ift (si e111).symm hl0
                          obtain rfl := si hl0
                          replace hm := elr hm
                          obtain rfl := si hm
                          conv => whnf
                          refine EndStep.mk _ ((((((l19.trans l21).trans l27).trans l31).trans lk0).trans l82).trans l92) ⟨rfl, rfl⟩ (ConvH.of (.cons r9 .nil))
                        · replace e105 := iff_ g99_16 e105
                          conv => whnf
                          refine cond_f g99_16 ?_
                          obtain ⟨x101, q101, e105⟩ := bnd e105
                          conv => whnf
                          refine call_fn (base_Num_ok q101) .nil ?_
                          rintro _ K101 _ l101 ⟨rfl, rfl⟩
                          conv => whnf
                          refine cond_f g99_16 ?_
                          conv => whnf
                          refine cond_f g99_16 ?_
                          obtain ⟨x103, q103, e105⟩ := bnd e105
                          conv => whnf
                          refine call_fn (base_Num_ok q103) .nil ?_
                          rintro _ K103 _ l103 ⟨rfl, rfl⟩
                          conv => whnf
                          refine cond_f g99_16 ?_
                          conv => whnf
                          refine neq_int ?_
                          conv => whnf
                          refine cond_f g99_16 ?_
                          obtain ⟨x111, e111, hl0⟩ := bnd hl0
                          conv => whnf
                          refine cond_s (fun g106_16 => ?_) (fun g106_16 => ?_)
                          · replace e111 := ift ((si e105).symm.trans g106_16) e111
                            conv => whnf
                            refine cond_t g106_16 ?_
                            conv => whnf
                            refine cond_t g106_16 ?_
                            conv => whnf
                            refine cond_t g106_16 ?_
                            conv => whnf
                            refine cond_t g106_16 ?_
                            conv => whnf
                            refine cond_go rfl ?_
                            conv => whnf
                            refine cond_T ?_
                            replace hl0 := ift (si e111).symm hl0
                            obtain rfl := si hl0
                            replace hm := elr hm
                            obtain rfl := si hm
                            conv => whnf
                            refine EndStep.mk _ ((((((((l19.trans l21).trans l27).trans l31).trans lk0).trans l82).trans l92).trans l101).trans l103) ⟨rfl, rfl⟩ (ConvH.of (.cons r9 .nil))
                          · replace e111 := iff_ ((si e105).symm.trans g106_16) e111
                            conv => whnf
                            refine cond_f g106_16 ?_
                            conv => whnf
                            refine cond_f g106_16 ?_
                            obtain ⟨x109, q109, e111⟩ := bnd e111
                            conv => whnf
                            refine call_fn (Fn.lend Try.call15 (fun K109_0 l109_0 f109_0 => (Fn.lend Try.call15 (fun K109_1 l109_1 f109_1 => (base_Bytes_ok q109 (f109_0.mono l109_1) rfl f109_1 rfl)) (by exact fun _ _ _ _ h => h))) (by exact fun _ _ _ _ h => h)) (.cons r4 (.cons r0 .nil)) ?_
                            rintro _ K109 _ l109 ⟨_, rfl, _, rfl, rfl, rfl⟩
                            conv => whnf
                            refine cond_f g106_16 ?_
                            conv => whnf
                            refine un_not ?_
                            conv => whnf
                            refine cond_f g106_16 ?_
                            conv => whnf
                            refine cond_go rfl ?_
                            conv => whnf
                            refine cond_s (fun w111 => ?_) (fun w111 => ?_)
                            · replace hl0 := ift ((si e111).symm.trans (not_t (ni_t w111))) hl0
                              obtain rfl := si hl0
                              replace hm := elr hm
                              obtain rfl := si hm
                              conv => whnf
                              refine EndStep.mk _ (((((((((l19.trans l21).trans l27).trans l31).trans lk0).trans l82).trans l92).trans l101).trans l103).trans l109) ⟨rfl, rfl⟩ (ConvH.of (.cons r9 .nil))
                            · replace hl0 := iff_ ((si e111).symm.trans (not_f (ni_f w111))) hl0
                              conv => whnf
                              refine cond_T ?_
                              conv => whnf
                              refine int_in (cntz hx0 hk0) ?_
                              conv => whnf
                              refine RoundStep.mk (i0 + 1, x82.2.2.2, x92.2.2.2, a82_1, c82_1, m82_2, a92_1, c92_1, m92_2) ⟨rfl, trivial⟩ (by repeat (first | exact trivial | refine And.intro rfl ?_)) (ConvH.of (.cons r5 (.cons r5 (.cons r5 (.cons r2 (.cons r2 (.cons r2 (.cons r3 .nil)))))))) (((((lk0.trans l82).trans l92).trans l101).trans l103).trans l109) (ltm hx0) ⟨h82_1, h92_1, hl0⟩
                      · replace hl0 := iff_ ((si e75).symm.trans w75) hl0
                        conv => whnf
                        refine RStep.of (loadn_s r0 rfl (Nat.le_of_ble_eq_true rfl) ?_)
                        obtain ⟨x114, q114, hl0⟩ := bnd hl0
                        conv => whnf
                        refine call_fn (law28_play_ok q114 hy0_0_0 h45_0) (.cons r1 (.cons r1 (.cons r1 .nil))) ?_
                        rintro _ K114 _ l114 ⟨a114_0, c114_0, m114_1, rfl, h114_0, rfl⟩
                        conv => whnf
                        refine RStep.of (loadn_s r3 rfl (Nat.le_of_ble_eq_true rfl) ?_)
                        obtain ⟨x117, q117, hl0⟩ := bnd hl0
                        conv => whnf
                        refine call_fn (law28_play_ok q117 hy0_1_0 (h45_0.mono l114)) (.cons r4 (.cons r4 (.cons r4 .nil))) ?_
                        rintro _ K117 _ l117 ⟨a117_0, c117_0, m117_1, rfl, h117_0, rfl⟩
                        conv => whnf
                        refine int_in (cntz hx0 hk0) ?_
                        conv => whnf
                        refine RoundStep.mk (i0 + 1, x114, x117, a114_0, c114_0, m114_1, a117_0, c117_0, m117_1) ⟨rfl, trivial⟩ (by repeat (first | exact trivial | refine And.intro rfl ?_)) (ConvH.of (.cons r3 (.cons r3 (.cons r3 (.cons r0 (.cons r0 (.cons r0 (.cons r1 .nil)))))))) ((lk0.trans l114).trans l117) (ltm hx0) ⟨h114_0, h117_0, hl0⟩
                    · replace e75 := iff_ g70_13 e75
                      conv => whnf
                      refine cond_f g70_13 ?_
                      conv => whnf
                      refine cond_f g70_13 ?_
                      conv => whnf
                      refine cond_f g70_13 ?_
                      conv => whnf
                      refine cond_f g70_13 ?_
                      conv => whnf
                      refine cond_go rfl ?_
                      conv => whnf
                      refine cond_F ?_
                      replace hl0 := iff_ (si e75).symm hl0
                      conv => whnf
                      refine RStep.of (loadn_s r0 rfl (Nat.le_of_ble_eq_true rfl) ?_)
                      obtain ⟨x114, q114, hl0⟩ := bnd hl0
                      conv => whnf
                      refine call_fn (law28_play_ok q114 hy0_0_0 h45_0) (.cons r1 (.cons r1 (.cons r1 .nil))) ?_
                      rintro _ K114 _ l114 ⟨a114_0, c114_0, m114_1, rfl, h114_0, rfl⟩
                      conv => whnf
                      refine RStep.of (loadn_s r3 rfl (Nat.le_of_ble_eq_true rfl) ?_)
                      obtain ⟨x117, q117, hl0⟩ := bnd hl0
                      conv => whnf
                      refine call_fn (law28_play_ok q117 hy0_1_0 (h45_0.mono l114)) (.cons r4 (.cons r4 (.cons r4 .nil))) ?_
                      rintro _ K117 _ l117 ⟨a117_0, c117_0, m117_1, rfl, h117_0, rfl⟩
                      conv => whnf
                      refine int_in (cntz hx0 hk0) ?_
                      conv => whnf
                      refine RoundStep.mk (i0 + 1, x114, x117, a114_0, c114_0, m114_1, a117_0, c117_0, m117_1) ⟨rfl, trivial⟩ (by repeat (first | exact trivial | refine And.intro rfl ?_)) (ConvH.of (.cons r3 (.cons r3 (.cons r3 (.cons r0 (.cons r0 (.cons r0 (.cons r1 .nil)))))))) ((lk0.trans l114).trans l117) (ltm hx0) ⟨h114_0, h117_0, hl0⟩
                · rw [lty w0, law28_FanoutAlone_L0d.eq_1] at hl0
                  conv => whnf
                  refine cond_T ?_
                  conv => whnf
                  refine MeetStep.mk ((y0_0, y0_1), ay0_0_0, cy0_0_0, my0_0_1, ay0_1_0, cy0_1_0, my0_1_1) trivial (by repeat (first | exact trivial | refine And.intro rfl ?_)) (ConvH.of (.cons r0 (.cons r0 (.cons r0 (.cons r0 (.cons r0 (.cons r0 (.cons r0 .nil)))))))) lk0 ⟨hy0_0_0, hy0_1_0, (si hl0).symm⟩
              · rintro ⟨t0, at0_0_0, ct0_0_0, mt0_0_1, at0_1_0, ct0_1_0, mt0_1_1⟩ Kt0 lt0 ⟨ht0_0_0, ht0_1_0, rfl⟩ j0
                replace hm := elg hm
                obtain ⟨x120, q120, hm⟩ := bnd hm
                conv => whnf
                refine call_fn (fanout_Stream_Written_ok q120 ht0_0_0) (.cons r0 (.cons r0 (.cons r0 .nil))) ?_
                rintro _ K120 _ l120 ⟨rfl, rfl⟩
                obtain ⟨x122, q122, hm⟩ := bnd hm
                conv => whnf
                refine call_fn (fanout_Stream_Written_ok q122 ht0_1_0) (.cons r3 (.cons r3 (.cons r3 .nil))) ?_
                rintro _ K122 _ l122 ⟨rfl, rfl⟩
                conv => whnf
                refine eq_int ?_
                obtain rfl := si hm
                conv => whnf
                refine EndStep.mk _ ((((((l19.trans l21).trans l27).trans l31).trans lt0).trans l120).trans l122) ⟨rfl, rfl⟩ (ConvH.of (.cons r6 .nil))
