/- Functions of the program: mirrors, and that a call returns what the mirror says. Printed by gen.py. -/
import Derived.Test.YtagbphlipeepnaaG3
set_option linter.unusedVariables false
set_option linter.unusedSimpArgs false
open Go Go.SL Go.Proofs
set_option maxRecDepth 30000
noncomputable def law32_HealthForgets_L0 : List S_law32_Step → Nat → Option (Unit)
  | [], _ => some ()
  | e0 :: xs0, i0 =>
    (law32_play_nil e0).bind fun x41 =>
    law32_HealthForgets_L0 xs0 (i0 + 1)
noncomputable def law32_HealthForgets_L0b : List S_law32_Step → Nat → S_health_Checks → Option (S_health_Checks)
  | [], _, y0_0 => some y0_0
  | e0 :: xs0, i0, y0_0 =>
    (law32_play y0_0 e0).bind fun x41 =>
    law32_HealthForgets_L0b xs0 (i0 + 1) x41
noncomputable def law32_HealthForgets (x : S_law32_Limits) (script : (List S_law32_Step)) (s : S_law32_Step) : Option (Bool) :=
  (if decide ((script.length : Int) > 100) then some true else (law32_awake).bind fun x20 =>
  some (!x20)).bind fun x22 =>
  if x22 then
  some (decide ((script.length : Int) > 100))
  else
  (law32_made x).bind fun x28 =>
  Option.elim x28.1 (
  if (!x28.2) then
  some false
  else
  (chk (script.length ≤ szMax)).bind fun _ =>
  (law32_HealthForgets_L0 script 0).bind fun t0 =>
  (law32_name s.Node).bind fun x45 =>
  (health_Checks_Drained_nil x45).bind fun x48 =>
  (health_Checks_State_nil x45).bind fun x51 =>
  (health_Checks_Forget_nil x45).bind fun x55 =>
  (if (!(x55 == (decide (x51 ≠ 0)))) then some true else (health_Checks_State_nil x45).bind fun x61 =>
  some (decide (x61 ≠ 0))).bind fun x63 =>
  (if x63 then some true else (health_Checks_Drained_nil x45).bind fun x67 =>
  some (!(x67 == x48))).bind fun x70 =>
  if x70 then
  some false
  else
  (health_Checks_Forget_nil x45).bind fun x74 =>
  if x74 then
  some false
  else
  if decide (((s.What % (2 : UInt8)).toNat : Int) = 0) then
  (health_Checks_Report_nil x45 (decide (((s.What % (2 : UInt8)).toNat : Int) = 0))).bind fun x84 =>
  (if decide (x84 = 1) then (health_Checks_Drained_nil x45).bind fun x90 =>
  some (x90 == x48) else some false).bind fun x93 =>
  (if x93 then (health_Checks_Up_nil).bind fun x96 =>
  (law32_has x96 x45).bind fun x98 =>
  some (x98 == (decide (((s.What % (2 : UInt8)).toNat : Int) = 0) && (!x48))) else some false).bind fun x105 =>
  some x105
  else
  (health_Checks_Report_nil x45 (decide (((s.What % (2 : UInt8)).toNat : Int) = 0))).bind fun x84 =>
  (if decide (x84 = 2) then (health_Checks_Drained_nil x45).bind fun x90 =>
  some (x90 == x48) else some false).bind fun x93 =>
  (if x93 then (health_Checks_Up_nil).bind fun x96 =>
  (law32_has x96 x45).bind fun x98 =>
  some (x98 == (decide (((s.What % (2 : UInt8)).toNat : Int) = 0) && (!x48))) else some false).bind fun x105 =>
  some x105)
   fun o28 =>
  if (!x28.2) then
  some false
  else
  (chk (script.length ≤ szMax)).bind fun _ =>
  (law32_HealthForgets_L0b script 0 o28).bind fun t0 =>
  (law32_name s.Node).bind fun x45 =>
  (health_Checks_Drained t0 x45).bind fun x48 =>
  (health_Checks_State t0 x45).bind fun x51 =>
  (health_Checks_Forget t0 x45).bind fun x55 =>
  (if (!(x55.1 == (decide (x51 ≠ 0)))) then some true else (health_Checks_State x55.2 x45).bind fun x61 =>
  some (decide (x61 ≠ 0))).bind fun x63 =>
  (if x63 then some true else (health_Checks_Drained x55.2 x45).bind fun x67 =>
  some (!(x67 == x48))).bind fun x70 =>
  if x70 then
  some false
  else
  (health_Checks_Forget x55.2 x45).bind fun x74 =>
  if x74.1 then
  some false
  else
  if decide (((s.What % (2 : UInt8)).toNat : Int) = 0) then
  (health_Checks_Report x74.2 x45 (decide (((s.What % (2 : UInt8)).toNat : Int) = 0))).bind fun x84 =>
  (if decide (x84.1 = 1) then (health_Checks_Drained x84.2 x45).bind fun x90 =>
  some (x90 == x48) else some false).bind fun x93 =>
  (if x93 then (health_Checks_Up x84.2).bind fun x96 =>
  (law32_has x96 x45).bind fun x98 =>
  some (x98 == (decide (((s.What % (2 : UInt8)).toNat : Int) = 0) && (!x48))) else some false).bind fun x105 =>
  some x105
  else
  (health_Checks_Report x74.2 x45 (decide (((s.What % (2 : UInt8)).toNat : Int) = 0))).bind fun x84 =>
  (if decide (x84.1 = 2) then (health_Checks_Drained x84.2 x45).bind fun x90 =>
  some (x90 == x48) else some false).bind fun x93 =>
  (if x93 then (health_Checks_Up x84.2).bind fun x96 =>
  (law32_has x96 x45).bind fun x98 =>
  some (x98 == (decide (((s.What % (2 : UInt8)).toNat : Int) = 0) && (!x48))) else some false).bind fun x105 =>
  some x105
set_option maxHeartbeats 8000000 in
theorem law32_HealthForgets_ok {x : S_law32_Limits} {script : (List S_law32_Step)} {s : S_law32_Step} {ap1_0 : Option Addr} {cp1_0 : Nat} {n1 : Nat} {K : Hp} {r : Bool}
    (hm : law32_HealthForgets x script s = some r) (hp1_0 : RdC S_law32_Step.enc K ap1_0 cp1_0 2 script) (en1 : n1 = script.length) :
    Fn Try.prog 8 [.agg #[.int .i64 x.Rise, .int .i64 x.Fall], .slice ap1_0 n1 cp1_0, .agg #[.int .u8 (s.What.toNat : Int), .int .u8 (s.Node.toNat : Int)]] K [] (fun v K' H' => v = .bool r ∧ H' = []) := by
  subst en1
  refine Fn.enter Try.func8 Try.call8 rfl fun F => ?_
  unfold law32_HealthForgets at hm
  conv => whnf
  refine box_rule ?_
  intro b3
  conv => whnf
  refine box_rule ?_
  intro b5
  conv => whnf
  refine RStep.of (len_slice rfl ?_)
  obtain ⟨x22, e22, hm⟩ := bnd hm
  conv => whnf
  refine cond_s (fun g19_1 => ?_) (fun g19_1 => ?_)
  · replace e22 := ift g19_1 e22
    conv => whnf
    refine cond_t g19_1 ?_
    conv => whnf
    refine cond_t g19_1 ?_
    conv => whnf
    refine cond_go rfl ?_
    conv => whnf
    refine cond_T ?_
    replace hm := ift (si e22).symm hm
    conv => whnf
    refine RStep.of (len_slice rfl ?_)
    obtain rfl := si hm
    conv => whnf
    refine EndStep.mk _ (Hp.Le.refl _) ⟨rfl, rfl⟩ (ConvH.of (.cons r2 .nil))
  · replace e22 := iff_ g19_1 e22
    obtain ⟨x20, q20, e22⟩ := bnd e22
    conv => whnf
    refine call_fn (law32_awake_ok q20) .nil ?_
    rintro _ K20 _ l20 ⟨rfl, rfl⟩
    conv => whnf
    refine cond_f g19_1 ?_
    conv => whnf
    refine un_not ?_
    conv => whnf
    refine cond_f g19_1 ?_
    conv => whnf
    refine cond_go rfl ?_
    conv => whnf
    refine cond_s (fun w22 => ?_) (fun w22 => ?_)
    · replace hm := ift ((si e22).symm.trans (not_t (ni_t w22))) hm
      conv => whnf
      refine RStep.of (len_slice rfl ?_)
      obtain rfl := si hm
      conv => whnf
      refine EndStep.mk _ l20 ⟨rfl, rfl⟩ (ConvH.of (.cons r2 .nil))
    · replace hm := iff_ ((si e22).symm.trans (not_f (ni_f w22))) hm
      conv => whnf
      refine RStep.of (loadn_s r1 rfl (Nat.le_of_ble_eq_true rfl) ?_)
      obtain ⟨x28, q28, hm⟩ := bnd hm
      conv => whnf
      refine call_fn (law32_made_ok q28) .nil ?_
      rintro v28 K28 H28 l28 p28
      rcases hq28 : x28.1 with _ | o28
      · rw [hq28] at p28 hm
        obtain ⟨rfl, rfl⟩ := p28
        replace hm := oe_n hm
        conv => whnf
        refine un_not ?_
        conv => whnf
        refine cond_go rfl ?_
        conv => whnf
        refine cond_s (fun w32 => ?_) (fun w32 => ?_)
        · replace hm := ift (not_t (ni_t w32)) hm
          obtain rfl := si hm
          conv => whnf
          refine EndStep.mk _ (l20.trans l28) ⟨rfl, rfl⟩ (ConvH.of (.cons r2 .nil))
        · replace hm := iff_ (not_f (ni_f w32)) hm
          conv => whnf
          refine RStep.of (len_slice rfl ?_)
          obtain ⟨hk0, hm⟩ := chkb hm
          obtain ⟨s0, hl0, hm⟩ := bnd hm
          conv => whnf
          refine code_cut (σ := (Unit)) [10, 35, 36, 37, 38, 39, 40, 41, 42] (fun t0 => []) (fun t0 => [Cells b5 34 [.int .u8 (s.What.toNat : Int), .int .u8 (s.Node.toNat : Int)], Cells b3 31 [.int .i64 x.Rise, .int .i64 x.Fall], F]) (fun zz K1 => match zz with | t0 => t0 = s0) ?_ ?_
          · refine block_go rfl ?_
            conv => whnf
            refine loop_rule (σ := Nat) [10, 35, 36, 37, 38, 39, 40, 41, 42] (fun i0 => [(35, .int .i64 (i0 : Int))]) (fun i0 => [Cells b5 34 [.int .u8 (s.What.toNat : Int), .int .u8 (s.Node.toNat : Int)], Cells b3 31 [.int .i64 x.Rise, .int .i64 x.Fall], F]) (fun zz K1 => match zz with | i0 => law32_HealthForgets_L0 (script.drop i0) i0 = some s0) (fun zz => script.length - zz) (0) rfl ⟨rfl, trivial⟩ (ConvH.of (.cons r0 (.cons r0 (.cons r0 .nil)))) hl0 ?_
            clear hl0
            rintro i0 Kb0 lk0 hl0 j0
            conv at hl0 => whnf
            conv => whnf
            refine cond_go rfl ?_
            conv => whnf
            refine cond_s (fun w0 => ?_) (fun w0 => ?_)
            · obtain ⟨e0, hx0, hd0⟩ := ltx w0
              rw [hd0, law32_HealthForgets_L0.eq_2] at hl0
              conv => whnf
              refine block_go rfl ?_
              conv => whnf
              refine RStep.ofN (index_addr rfl rfl (hasK (hp1_0.mono ((l20.trans l28).trans lk0)).rd hx0) (nn _) (lt_ofN hx0) ?_)
              conv => whnf
              refine RStep.of (load_rd_agg i0 _ (hp1_0.mono ((l20.trans l28).trans lk0)).rd rfl (mp hx0) rfl ?_)
              conv => whnf
              refine alloc_rule rfl ?_
              intro b10
              conv => whnf
              refine store_rule r0 rfl ?_
              conv => whnf
              refine ⟨rfl, rfl, (Nat.le_of_ble_eq_true rfl), ?_⟩
              conv => whnf
              refine RStep.of (loadn_s r0 rfl (Nat.le_of_ble_eq_true rfl) ?_)
              obtain ⟨x41, q41, hl0⟩ := bnd hl0
              conv => whnf
              refine call_fn (law32_play_nil_ok q41) .nil ?_
              rintro _ K41 _ l41 ⟨rfl, rfl⟩
              conv => whnf
              refine int_in (cntz hx0 hk0) ?_
              conv => whnf
              refine RoundStep.mk (i0 + 1) ⟨rfl, trivial⟩ (by repeat (first | exact trivial | refine And.intro rfl ?_)) (ConvH.of (.cons r1 (.cons r1 (.cons r1 .nil)))) (lk0.trans l41) (ltm hx0) hl0
            · rw [lty w0, law32_HealthForgets_L0.eq_1] at hl0
              conv => whnf
              refine cond_T ?_
              conv => whnf
              refine MeetStep.mk (()) trivial (by repeat (first | exact trivial | refine And.intro rfl ?_)) (ConvH.of (.cons r0 (.cons r0 (.cons r0 .nil)))) lk0 (si hl0)
          · rintro t0 Kt0 lt0 rfl j0
            conv => whnf
            refine field_addr rfl ?_
            conv => whnf
            refine RStep.of (load1_s r0 rfl rfl ?_)
            obtain ⟨x45, q45, hm⟩ := bnd hm
            conv => whnf
            refine call_fn (law32_name_ok q45) .nil ?_
            rintro _ K45 _ l45 ⟨rfl, rfl⟩
            obtain ⟨x48, q48, hm⟩ := bnd hm
            conv => whnf
            refine call_fn (health_Checks_Drained_nil_ok q48) .nil ?_
            rintro _ K48 _ l48 ⟨rfl, rfl⟩
            obtain ⟨x51, q51, hm⟩ := bnd hm
            conv => whnf
            refine call_fn (health_Checks_State_nil_ok q51) .nil ?_
            rintro _ K51 _ l51 ⟨rfl, rfl⟩
            conv => whnf
            refine neq_int ?_
            obtain ⟨x55, q55, hm⟩ := bnd hm
            conv => whnf
            refine call_fn (health_Checks_Forget_nil_ok q55) .nil ?_
            rintro _ K55 _ l55 ⟨rfl, rfl⟩
            conv => whnf
            refine neq_bool rfl ?_
            obtain ⟨x63, e63, hm⟩ := bnd hm
            conv => whnf
            refine cond_s (fun g58_13 => ?_) (fun g58_13 => ?_)
            · replace e63 := ift g58_13 e63
              conv => whnf
              refine cond_t g58_13 ?_
              conv => whnf
              refine cond_t g58_13 ?_
              conv => whnf
              refine cond_t g58_13 ?_
              conv => whnf
              refine cond_t g58_13 ?_
              obtain ⟨x70, e70, hm⟩ := bnd hm
              replace e70 := ift (si e63).symm e70
              conv => whnf
              refine cond_T ?_
              conv => whnf
              refine cond_T ?_
              conv => whnf
              refine cond_T ?_
              conv => whnf
              refine cond_T ?_
              conv => whnf
              refine cond_T ?_
              conv => whnf
              refine cond_T ?_
              replace hm := ift (si e70).symm hm
              conv => whnf
              refine cond_T ?_
              conv => whnf
              refine cond_T ?_
              conv => whnf
              refine cond_T ?_
              conv => whnf
              refine cond_T ?_
              conv => whnf
              refine cond_go rfl ?_
              conv => whnf
              refine cond_T ?_
              obtain rfl := si hm
              conv => whnf
              refine EndStep.mk _ ((((((l20.trans l28).trans lt0).trans l45).trans l48).trans l51).trans l55) ⟨rfl, rfl⟩ (ConvH.of (.cons r2 .nil))
            · replace e63 := iff_ g58_13 e63
              conv => whnf
              refine cond_f g58_13 ?_
              conv => whnf
              refine cond_f g58_13 ?_
              obtain ⟨x61, q61, e63⟩ := bnd e63
              conv => whnf
              refine call_fn (health_Checks_State_nil_ok q61) .nil ?_
              rintro _ K61 _ l61 ⟨rfl, rfl⟩
              conv => whnf
              refine cond_f g58_13 ?_
              conv => whnf
              refine neq_int ?_
              conv => whnf
              refine cond_f g58_13 ?_
              obtain ⟨x70, e70, hm⟩ := bnd hm
              conv => whnf
              refine cond_s (fun g64_13 => ?_) (fun g64_13 => ?_)
              · replace e70 := ift ((si e63).symm.trans g64_13) e70
                conv => whnf
                refine cond_t g64_13 ?_
                conv => whnf
                refine cond_t g64_13 ?_
                conv => whnf
                refine cond_t g64_13 ?_
                conv => whnf
                refine cond_t g64_13 ?_
                conv => whnf
                refine cond_t g64_13 ?_
                replace hm := ift (si e70).symm hm
                conv => whnf
                refine cond_T ?_
                conv => whnf
                refine cond_T ?_
                conv => whnf
                refine cond_T ?_
                conv => whnf
                refine cond_T ?_
                conv => whnf
                refine cond_go rfl ?_
                conv => whnf
                refine cond_T ?_
                obtain rfl := si hm
                conv => whnf
                refine EndStep.mk _ (((((((l20.trans l28).trans lt0).trans l45).trans l48).trans l51).trans l55).trans l61) ⟨rfl, rfl⟩ (ConvH.of (.cons r2 .nil))
              · replace e70 := iff_ ((si e63).symm.trans g64_13) e70
                conv => whnf
                refine cond_f g64_13 ?_
                conv => whnf
                refine cond_f g64_13 ?_
                obtain ⟨x67, q67, e70⟩ := bnd e70
                conv => whnf
                refine call_fn (health_Checks_Drained_nil_ok q67) .nil ?_
                rintro _ K67 _ l67 ⟨rfl, rfl⟩
                conv => whnf
                refine cond_f g64_13 ?_
                conv => whnf
                refine cond_f g64_13 ?_
                conv => whnf
                refine neq_bool rfl ?_
                conv => whnf
                refine cond_f g64_13 ?_
                conv => whnf
                refine cond_s (fun g71_13 => ?_) (fun g71_13 => ?_)
                · replace hm := ift ((si e70).symm.trans g71_13) hm
                  conv => whnf
                  refine cond_t g71_13 ?_
                  conv => whnf
                  refine cond_t g71_13 ?_
                  conv => whnf
                  refine cond_t g71_13 ?_
                  conv => whnf
                  refine cond_go rfl ?_
                  conv => whnf
                  refine cond_T ?_
                  obtain rfl := si hm
                  conv => whnf
                  refine EndStep.mk _ ((((((((l20.trans l28).trans lt0).trans l45).trans l48).trans l51).trans l55).trans l61).trans l67) ⟨rfl, rfl⟩ (ConvH.of (.cons r2 .nil))
                · replace hm := iff_ ((si e70).symm.trans g71_13) hm
                  conv => whnf
                  refine cond_f g71_13 ?_
                  conv => whnf
                  refine cond_f g71_13 ?_
                  obtain ⟨x74, q74, hm⟩ := bnd hm
                  conv => whnf
                  refine call_fn (health_Checks_Forget_nil_ok q74) .nil ?_
                  rintro _ K74 _ l74 ⟨rfl, rfl⟩
                  conv => whnf
                  refine cond_f g71_13 ?_
                  conv => whnf
                  refine cond_go rfl ?_
                  conv => whnf
                  refine cond_s (fun w75 => ?_) (fun w75 => ?_)
                  · replace hm := ift w75 hm
                    obtain rfl := si hm
                    conv => whnf
                    refine EndStep.mk _ (((((((((l20.trans l28).trans lt0).trans l45).trans l48).trans l51).trans l55).trans l61).trans l67).trans l74) ⟨rfl, rfl⟩ (ConvH.of (.cons r2 .nil))
                  · replace hm := iff_ w75 hm
                    conv => whnf
                    refine field_addr rfl ?_
                    conv => whnf
                    refine RStep.of (load1_s r0 rfl rfl ?_)
                    conv => whnf
                    refine u8_rem (x := s.What) (y := (2 : UInt8)) rfl rfl (by decide) ?_
                    conv => whnf
                    refine eq_int ?_
                    conv => whnf
                    refine cond_go rfl ?_
                    conv => whnf
                    refine cond_s (fun w80 => ?_) (fun w80 => ?_)
                    · replace hm := ift w80 hm
                      obtain ⟨x84, q84, hm⟩ := bnd hm
                      conv => whnf
                      refine call_fn (health_Checks_Report_nil_ok q84) .nil ?_
                      rintro _ K84 _ l84 ⟨rfl, rfl⟩
                      conv => whnf
                      refine eq_int ?_
                      obtain ⟨x93, e93, hm⟩ := bnd hm
                      conv => whnf
                      refine cond_s (fun g87_19 => ?_) (fun g87_19 => ?_)
                      · replace e93 := ift g87_19 e93
                        conv => whnf
                        refine cond_t g87_19 ?_
                        conv => whnf
                        refine cond_t g87_19 ?_
                        obtain ⟨x90, q90, e93⟩ := bnd e93
                        conv => whnf
                        refine call_fn (health_Checks_Drained_nil_ok q90) .nil ?_
                        rintro _ K90 _ l90 ⟨rfl, rfl⟩
                        conv => whnf
                        refine cond_t g87_19 ?_
                        conv => whnf
                        refine cond_t g87_19 ?_
                        conv => whnf
                        refine eq_bool rfl ?_
                        conv => whnf
                        refine cond_t g87_19 ?_
                        obtain ⟨x105, e105, hm⟩ := bnd hm
                        conv => whnf
                        refine cond_s (fun g94_19 => ?_) (fun g94_19 => ?_)
                        · replace e105 := ift ((si e93).symm.trans g94_19) e105
                          conv => whnf
                          refine cond_t g94_19 ?_
                          obtain ⟨x96, q96, e105⟩ := bnd e105
                          conv => whnf
                          refine call_fn (health_Checks_Up_nil_ok q96) .nil ?_
                          rintro _ K96 _ l96 ⟨a96_0, c96_0, rfl, h96_0, rfl⟩
                          conv => whnf
                          refine cond_t g94_19 ?_
                          conv => whnf
                          refine cond_t g94_19 ?_
                          obtain ⟨x98, q98, e105⟩ := bnd e105
                          conv => whnf
                          refine call_fn (Fn.lend Try.call28 (fun K98_0 l98_0 f98_0 => (law32_has_ok q98 f98_0 rfl)) (by exact fun _ _ _ _ h => h)) (.cons r0 .nil) ?_
                          rintro _ K98 _ l98 ⟨_, rfl, rfl, rfl⟩
                          conv => whnf
                          refine cond_t g94_19 ?_
                          conv => whnf
                          refine cond_t g94_19 ?_
                          conv => whnf
                          refine cond_s (fun g100_19 => ?_) (fun g100_19 => ?_)
                          · conv => whnf
                            refine cond_t g100_19 ?_
                            conv => whnf
                            refine un_not ?_
                            conv => whnf
                            refine cond_t g94_19 ?_
                            conv => whnf
                            refine cond_t g100_19 ?_
                            conv => whnf
                            refine cond_t g94_19 ?_
                            conv => whnf
                            refine eq_bool rfl ?_
                            conv => whnf
                            refine cond_t g94_19 ?_
                            obtain rfl := si hm
                            conv => whnf
                            refine EndStep.mk _ (((((((((((((l20.trans l28).trans lt0).trans l45).trans l48).trans l51).trans l55).trans l61).trans l67).trans l74).trans l84).trans l90).trans l96).trans l98) ⟨(by rw [← ((beq_e rfl (and_e (b := (!x48)) g100_19)).trans (si e105))] <;> rfl), rfl⟩ (ConvH.of (.cons r3 .nil))
                          · conv => whnf
                            refine cond_f g100_19 ?_
                            conv => whnf
                            refine cond_t g94_19 ?_
                            conv => whnf
                            refine cond_f g100_19 ?_
                            conv => whnf
                            refine cond_t g94_19 ?_
                            conv => whnf
                            refine eq_bool rfl ?_
                            conv => whnf
                            refine cond_t g94_19 ?_
                            obtain rfl := si hm
                            conv => whnf
                            refine EndStep.mk _ (((((((((((((l20.trans l28).trans lt0).trans l45).trans l48).trans l51).trans l55).trans l61).trans l67).trans l74).trans l84).trans l90).trans l96).trans l98) ⟨(by rw [← ((beq_e rfl ((and_f g100_19)).symm).trans (si e105))] <;> rfl), rfl⟩ (ConvH.of (.cons r3 .nil))
                        · replace e105 := iff_ ((si e93).symm.trans g94_19) e105
                          conv => whnf
                          refine cond_f g94_19 ?_
                          conv => whnf
                          refine cond_f g94_19 ?_
                          conv => whnf
                          refine cond_f g94_19 ?_
                          conv => whnf
                          refine cond_f g94_19 ?_
                          conv => whnf
                          refine cond_f g94_19 ?_
                          conv => whnf
                          refine cond_f g94_19 ?_
                          conv => whnf
                          refine cond_f g94_19 ?_
                          conv => whnf
                          refine cond_f g94_19 ?_
                          obtain rfl := si hm
                          conv => whnf
                          refine EndStep.mk _ (((((((((((l20.trans l28).trans lt0).trans l45).trans l48).trans l51).trans l55).trans l61).trans l67).trans l74).trans l84).trans l90) ⟨(by rw [← ((si e105).symm).symm] <;> rfl), rfl⟩ (ConvH.of (.cons r2 .nil))
                      · replace e93 := iff_ g87_19 e93
                        conv => whnf
                        refine cond_f g87_19 ?_
                        conv => whnf
                        refine cond_f g87_19 ?_
                        conv => whnf
                        refine cond_f g87_19 ?_
                        conv => whnf
                        refine cond_f g87_19 ?_
                        conv => whnf
                        refine cond_f g87_19 ?_
                        obtain ⟨x105, e105, hm⟩ := bnd hm
                        replace e105 := iff_ (si e93).symm e105
                        conv => whnf
                        refine cond_F ?_
                        conv => whnf
                        refine cond_F ?_
                        conv => whnf
                        refine cond_F ?_
                        conv => whnf
                        refine cond_F ?_
                        conv => whnf
                        refine cond_F ?_
                        conv => whnf
                        refine cond_F ?_
                        conv => whnf
                        refine cond_F ?_
                        conv => whnf
                        refine cond_F ?_
                        conv => whnf
                        refine cond_F ?_
                        obtain rfl := si hm
                        conv => whnf
                        refine EndStep.mk _ ((((((((((l20.trans l28).trans lt0).trans l45).trans l48).trans l51).trans l55).trans l61).trans l67).trans l74).trans l84) ⟨(by rw [← ((si e105).symm).symm] <;> rfl), rfl⟩ (ConvH.of (.cons r2 .nil))
                    · replace hm := iff_ w80 hm
                      obtain ⟨x84, q84, hm⟩ := bnd hm
                      conv => whnf
                      refine call_fn (health_Checks_Report_nil_ok q84) .nil ?_
                      rintro _ K84 _ l84 ⟨rfl, rfl⟩
                      conv => whnf
                      refine eq_int ?_
                      obtain ⟨x93, e93, hm⟩ := bnd hm
                      conv => whnf
                      refine cond_s (fun g87_19 => ?_) (fun g87_19 => ?_)
                      · replace e93 := ift g87_19 e93
                        conv => whnf
                        refine cond_t g87_19 ?_
                        conv => whnf
                        refine cond_t g87_19 ?_
                        obtain ⟨x90, q90, e93⟩ := bnd e93
                        conv => whnf
                        refine call_fn (health_Checks_Drained_nil_ok q90) .nil ?_
                        rintro _ K90 _ l90 ⟨rfl, rfl⟩
                        conv => whnf
                        refine cond_t g87_19 ?_
                        conv => whnf
                        refine cond_t g87_19 ?_
                        conv => whnf
                        refine eq_bool rfl ?_
                        conv => whnf
                        refine cond_t g87_19 ?_
                        obtain ⟨x105, e105, hm⟩ := bnd hm
                        conv => whnf
                        refine cond_s (fun g94_19 => ?_) (fun g94_19 => ?_)
                        · replace e105 := ift ((si e93).symm.trans g94_19) e105
                          conv => whnf
                          refine cond_t g94_19 ?_
                          obtain ⟨x96, q96, e105⟩ := bnd e105
                          conv => whnf
                          refine call_fn (health_Checks_Up_nil_ok q96) .nil ?_
                          rintro _ K96 _ l96 ⟨a96_0, c96_0, rfl, h96_0, rfl⟩
                          conv => whnf
                          refine cond_t g94_19 ?_
                          conv => whnf
                          refine cond_t g94_19 ?_
                          obtain ⟨x98, q98, e105⟩ := bnd e105
                          conv => whnf
                          refine call_fn (Fn.lend Try.call28 (fun K98_0 l98_0 f98_0 => (law32_has_ok q98 f98_0 rfl)) (by exact fun _ _ _ _ h => h)) (.cons r0 .nil) ?_
                          rintro _ K98 _ l98 ⟨_, rfl, rfl, rfl⟩
                          conv => whnf
                          refine cond_t g94_19 ?_
                          conv => whnf
                          refine cond_t g94_19 ?_
                          conv => whnf
                          refine cond_s (fun g100_19 => ?_) (fun g100_19 => ?_)
                          · conv => whnf
                            refine cond_t g100_19 ?_
                            conv => whnf
                            refine un_not ?_
                            conv => whnf
                            refine cond_t g94_19 ?_
                            conv => whnf
                            refine cond_t g100_19 ?_
                            conv => whnf
                            refine cond_t g94_19 ?_
                            conv => whnf
                            refine eq_bool rfl ?_
                            conv => whnf
                            refine cond_t g94_19 ?_
                            obtain rfl := si hm
                            conv => whnf
                            refine EndStep.mk _ (((((((((((((l20.trans l28).trans lt0).trans l45).trans l48).trans l51).trans l55).trans l61).trans l67).trans l74).trans l84).trans l90).trans l96).trans l98) ⟨(by rw [← ((beq_e rfl (and_e (b := (!x48)) g100_19)).trans (si e105))] <;> rfl), rfl⟩ (ConvH.of (.cons r3 .nil))
                          · conv => whnf
                            refine cond_f g100_19 ?_
                            conv => whnf
                            refine cond_t g94_19 ?_
                            conv => whnf
                            refine cond_f g100_19 ?_
                            conv => whnf
                            refine cond_t g94_19 ?_
                            conv => whnf
                            refine eq_bool rfl ?_
                            conv => whnf
                            refine cond_t g94_19 ?_
                            obtain rfl := si hm
                            conv => whnf
                            refine EndStep.mk _ (((((((((((((l20.trans l28).trans lt0).trans l45).trans l48).trans l51).trans l55).trans l61).trans l67).trans l74).trans l84).trans l90).trans l96).trans l98) ⟨(by rw [← ((beq_e rfl ((and_f g100_19)).symm).trans (si e105))] <;> rfl), rfl⟩ (ConvH.of (.cons r3 .nil))
                        · replace e105 := iff_ ((si e93).symm.trans g94_19) e105
                          conv => whnf
                          refine cond_f g94_19 ?_
                          conv => whnf
                          refine cond_f g94_19 ?_
                          conv => whnf
                          refine cond_f g94_19 ?_
                          conv => whnf
                          refine cond_f g94_19 ?_
                          conv => whnf
                          refine cond_f g94_19 ?_
                          conv => whnf
                          refine cond_f g94_19 ?_
                          conv => whnf
                          refine cond_f g94_19 ?_
                          conv => whnf
                          refine cond_f g94_19 ?_
                          obtain rfl := si hm
                          conv => whnf
                          refine EndStep.mk _ (((((((((((l20.trans l28).trans lt0).trans l45).trans l48).trans l51).trans l55).trans l61).trans l67).trans l74).trans l84).trans l90) ⟨(by rw [← ((si e105).symm).symm] <;> rfl), rfl⟩ (ConvH.of (.cons r2 .nil))
                      · replace e93 := iff_ g87_19 e93
                        conv => whnf
                        refine cond_f g87_19 ?_
                        conv => whnf
                        refine cond_f g87_19 ?_
                        conv => whnf
                        refine cond_f g87_19 ?_
                        conv => whnf
                        refine cond_f g87_19 ?_
                        conv => whnf
                        refine cond_f g87_19 ?_
                        obtain ⟨x105, e105, hm⟩ := bnd hm
                        replace e105 := iff_ (si e93).symm e105
                        conv => whnf
                        refine cond_F ?_
                        conv => whnf
                        refine cond_F ?_
                        conv => whnf
                        refine cond_F ?_
                        conv => whnf
                        refine cond_F ?_
                        conv => whnf
                        refine cond_F ?_
                        conv => whnf
                        refine cond_F ?_
                        conv => whnf
                        refine cond_F ?_
                        conv => whnf
                        refine cond_F ?_
                        conv => whnf
                        refine cond_F ?_
                        obtain rfl := si hm
                        conv => whnf
                        refine EndStep.mk _ ((((((((((l20.trans l28).trans lt0).trans l45).trans l48).trans l51).trans l55).trans l61).trans l67).trans l74).trans l84) ⟨(by rw [← ((si e105).symm).symm] <;> rfl), rfl⟩ (ConvH.of (.cons r2 .nil))
      · rw [hq28] at p28 hm
        obtain ⟨b28_0, m28_1, m28_2, rfl, rfl⟩ := p28
        replace hm := oe_s hm
        conv => whnf
        refine un_not ?_
        conv => whnf
        refine cond_go rfl ?_
        conv => whnf
        refine cond_s (fun w32 => ?_) (fun w32 => ?_)
        · replace hm := ift (not_t (ni_t w32)) hm
          obtain rfl := si hm
          conv => whnf
          refine EndStep.mk _ (l20.trans l28) ⟨rfl, rfl⟩ (ConvH.of (.cons r5 .nil))
        · replace hm := iff_ (not_f (ni_f w32)) hm
          conv => whnf
          refine RStep.of (len_slice rfl ?_)
          obtain ⟨hk0, hm⟩ := chkb hm
          obtain ⟨s0, hl0, hm⟩ := bnd hm
          conv => whnf
          refine code_cut (σ := (S_health_Checks) × Nat × Nat) [10, 35, 36, 37, 38, 39, 40, 41, 42] (fun (t0, mt0_0_0, mt0_0_1) => []) (fun (t0, mt0_0_0, mt0_0_1) => [Cells b28_0 64 [.int .i64 t0.rise, .int .i64 t0.fall, .map (some mt0_0_0), .map (some mt0_0_1)], MapE strK (fun x => .agg (S_health_status.enc x).toArray) mt0_0_0 t0.nodes, MapE strK (fun x => .bool x) mt0_0_1 t0.drained, Cells b5 34 [.int .u8 (s.What.toNat : Int), .int .u8 (s.Node.toNat : Int)], Cells b3 31 [.int .i64 x.Rise, .int .i64 x.Fall], F]) (fun zz K1 => match zz with | (t0, mt0_0_0, mt0_0_1) => t0 = s0) ?_ ?_
          · refine block_go rfl ?_
            conv => whnf
            refine loop_rule (σ := Nat × S_health_Checks × Nat × Nat) [10, 35, 36, 37, 38, 39, 40, 41, 42] (fun (i0, y0_0, my0_0_0, my0_0_1) => [(35, .int .i64 (i0 : Int))]) (fun (i0, y0_0, my0_0_0, my0_0_1) => [Cells b28_0 64 [.int .i64 y0_0.rise, .int .i64 y0_0.fall, .map (some my0_0_0), .map (some my0_0_1)], MapE strK (fun x => .agg (S_health_status.enc x).toArray) my0_0_0 y0_0.nodes, MapE strK (fun x => .bool x) my0_0_1 y0_0.drained, Cells b5 34 [.int .u8 (s.What.toNat : Int), .int .u8 (s.Node.toNat : Int)], Cells b3 31 [.int .i64 x.Rise, .int .i64 x.Fall], F]) (fun zz K1 => match zz with | (i0, y0_0, my0_0_0, my0_0_1) => law32_HealthForgets_L0b (script.drop i0) i0 y0_0 = some s0) (fun zz => script.length - zz.1) (0, o28, m28_1, m28_2) rfl ⟨rfl, trivial⟩ (ConvH.of (.cons r0 (.cons r0 (.cons r0 (.cons r0 (.cons r0 (.cons r0 .nil))))))) hl0 ?_
            clear hl0
            rintro ⟨i0, y0_0, my0_0_0, my0_0_1⟩ Kb0 lk0 hl0 j0
            conv at hl0 => whnf
            conv => whnf
            refine cond_go rfl ?_
            conv => whnf
            refine cond_s (fun w0 => ?_) (fun w0 => ?_)
            · obtain ⟨e0, hx0, hd0⟩ := ltx w0
              rw [hd0, law32_HealthForgets_L0b.eq_2] at hl0
              conv => whnf
              refine block_go rfl ?_
              conv => whnf
              refine RStep.ofN (index_addr rfl rfl (hasK (hp1_0.mono ((l20.trans l28).trans lk0)).rd hx0) (nn _) (lt_ofN hx0) ?_)
              conv => whnf
              refine RStep.of (load_rd_agg i0 _ (hp1_0.mono ((l20.trans l28).trans lk0)).rd rfl (mp hx0) rfl ?_)
              conv => whnf
              refine alloc_rule rfl ?_
              intro b10
              conv => whnf
              refine store_rule r0 rfl ?_
              conv => whnf
              refine ⟨rfl, rfl, (Nat.le_of_ble_eq_true rfl), ?_⟩
              conv => whnf
              refine RStep.of (loadn_s r0 rfl (Nat.le_of_ble_eq_true rfl) ?_)
              obtain ⟨x41, q41, hl0⟩ := bnd hl0
              conv => whnf
              refine call_fn (law32_play_ok q41) (.cons r1 (.cons r1 (.cons r1 .nil))) ?_
              rintro _ K41 _ l41 ⟨m41_0, m41_1, rfl, rfl⟩
              conv => whnf
              refine int_in (cntz hx0 hk0) ?_
              conv => whnf
              refine RoundStep.mk (i0 + 1, x41, m41_0, m41_1) ⟨rfl, trivial⟩ (by repeat (first | exact trivial | refine And.intro rfl ?_)) (ConvH.of (.cons r0 (.cons r0 (.cons r0 (.cons r1 (.cons r1 (.cons r1 .nil))))))) (lk0.trans l41) (ltm hx0) hl0
            · rw [lty w0, law32_HealthForgets_L0b.eq_1] at hl0
              conv => whnf
              refine cond_T ?_
              conv => whnf
              refine MeetStep.mk (y0_0, my0_0_0, my0_0_1) trivial (by repeat (first | exact trivial | refine And.intro rfl ?_)) (ConvH.of (.cons r0 (.cons r0 (.cons r0 (.cons r0 (.cons r0 (.cons r0 .nil))))))) lk0 (si hl0)
          · rintro ⟨t0, mt0_0_0, mt0_0_1⟩ Kt0 lt0 rfl j0
            conv => whnf
            refine field_addr rfl ?_
            conv => whnf
            refine RStep.of (load1_s r3 rfl rfl ?_)
            obtain ⟨x45, q45, hm⟩ := bnd hm
            conv => whnf
            refine call_fn (law32_name_ok q45) .nil ?_
            rintro _ K45 _ l45 ⟨rfl, rfl⟩
            obtain ⟨x48, q48, hm⟩ := bnd hm
            conv => whnf
            refine call_fn (health_Checks_Drained_ok q48) (.cons r0 (.cons r0 (.cons r0 .nil))) ?_
            rintro _ K48 _ l48 ⟨rfl, rfl⟩
            obtain ⟨x51, q51, hm⟩ := bnd hm
            conv => whnf
            refine call_fn (health_Checks_State_ok q51) (.cons r0 (.cons r0 (.cons r0 .nil))) ?_
            rintro _ K51 _ l51 ⟨rfl, rfl⟩
            conv => whnf
            refine neq_int ?_
            obtain ⟨x55, q55, hm⟩ := bnd hm
            conv => whnf
            refine call_fn (health_Checks_Forget_ok q55) (.cons r0 (.cons r0 (.cons r0 .nil))) ?_
            rintro _ K55 _ l55 ⟨m55_0, m55_1, rfl, rfl⟩
            conv => whnf
            refine neq_bool rfl ?_
            obtain ⟨x63, e63, hm⟩ := bnd hm
            conv => whnf
            refine cond_s (fun g58_13 => ?_) (fun g58_13 => ?_)
            · replace e63 := ift g58_13 e63
              conv => whnf
              refine cond_t g58_13 ?_
              conv => whnf
              refine cond_t g58_13 ?_
              conv => whnf
              refine cond_t g58_13 ?_
              conv => whnf
              refine cond_t g58_13 ?_
              obtain ⟨x70, e70, hm⟩ := bnd hm
              replace e70 := ift (si e63).symm e70
              conv => whnf
              refine cond_T ?_
              conv => whnf
              refine cond_T ?_
              conv => whnf
              refine cond_T ?_
              conv => whnf
              refine cond_T ?_
              conv => whnf
              refine cond_T ?_
              conv => whnf
              refine cond_T ?_
              replace hm := ift (si e70).symm hm
              conv => whnf
              refine cond_T ?_
              conv => whnf
              refine cond_T ?_
              conv => whnf
              refine cond_T ?_
              conv => whnf
              refine cond_T ?_
              conv => whnf
              refine cond_go rfl ?_
              conv => whnf
              refine cond_T ?_
              obtain rfl := si hm
              conv => whnf
              refine EndStep.mk _ ((((((l20.trans l28).trans lt0).trans l45).trans l48).trans l51).trans l55) ⟨rfl, rfl⟩ (ConvH.of (.cons r5 .nil))
            · replace e63 := iff_ g58_13 e63
              conv => whnf
              refine cond_f g58_13 ?_
              conv => whnf
              refine cond_f g58_13 ?_
              obtain ⟨x61, q61, e63⟩ := bnd e63
              conv => whnf
              refine call_fn (health_Checks_State_ok q61) (.cons r0 (.cons r0 (.cons r0 .nil))) ?_
              rintro _ K61 _ l61 ⟨rfl, rfl⟩
              conv => whnf
              refine cond_f g58_13 ?_
              conv => whnf
              refine neq_int ?_
              conv => whnf
              refine cond_f g58_13 ?_
              obtain ⟨x70, e70, hm⟩ := bnd hm
              conv => whnf
              refine cond_s (fun g64_13 => ?_) (fun g64_13 => ?_)
              · replace e70 := ift ((si e63).symm.trans g64_13) e70
                conv => whnf
                refine cond_t g64_13 ?_
                conv => whnf
                refine cond_t g64_13 ?_
                conv => whnf
                refine cond_t g64_13 ?_
                conv => whnf
                refine cond_t g64_13 ?_
                conv => whnf
                refine cond_t g64_13 ?_
                replace hm := ift (si e70).symm hm
                conv => whnf
                refine cond_T ?_
                conv => whnf
                refine cond_T ?_
                conv => whnf
                refine cond_T ?_
                conv => whnf
                refine cond_T ?_
                conv => whnf
                refine cond_go rfl ?_
                conv => whnf
                refine cond_T ?_
                obtain rfl := si hm
                conv => whnf
                refine EndStep.mk _ (((((((l20.trans l28).trans lt0).trans l45).trans l48).trans l51).trans l55).trans l61) ⟨rfl, rfl⟩ (ConvH.of (.cons r5 .nil))
              · replace e70 := iff_ ((si e63).symm.trans g64_13) e70
                conv => whnf
                refine cond_f g64_13 ?_
                conv => whnf
                refine cond_f g64_13 ?_
                obtain ⟨x67, q67, e70⟩ := bnd e70
                conv => whnf
                refine call_fn (health_Checks_Drained_ok q67) (.cons r0 (.cons r0 (.cons r0 .nil))) ?_
                rintro _ K67 _ l67 ⟨rfl, rfl⟩
                conv => whnf
                refine cond_f g64_13 ?_
                conv => whnf
                refine cond_f g64_13 ?_
                conv => whnf
                refine neq_bool rfl ?_
                conv => whnf
                refine cond_f g64_13 ?_
                conv => whnf
                refine cond_s (fun g71_13 => ?_) (fun g71_13 => ?_)
                · replace hm := ift ((si e70).symm.trans g71_13) hm
                  conv => whnf
                  refine cond_t g71_13 ?_
                  conv => whnf
                  refine cond_t g71_13 ?_
                  conv => whnf
                  refine cond_t g71_13 ?_
                  conv => whnf
                  refine cond_go rfl ?_
                  conv => whnf
                  refine cond_T ?_
                  obtain rfl := si hm
                  conv => whnf
                  refine EndStep.mk _ ((((((((l20.trans l28).trans lt0).trans l45).trans l48).trans l51).trans l55).trans l61).trans l67) ⟨rfl, rfl⟩ (ConvH.of (.cons r5 .nil))
                · replace hm := iff_ ((si e70).symm.trans g71_13) hm
                  conv => whnf
                  refine cond_f g71_13 ?_
                  conv => whnf
                  refine cond_f g71_13 ?_
                  obtain ⟨x74, q74, hm⟩ := bnd hm
                  conv => whnf
                  refine call_fn (health_Checks_Forget_ok q74) (.cons r0 (.cons r0 (.cons r0 .nil))) ?_
                  rintro _ K74 _ l74 ⟨m74_0, m74_1, rfl, rfl⟩
                  conv => whnf
                  refine cond_f g71_13 ?_
                  conv => whnf
                  refine cond_go rfl ?_
                  conv => whnf
                  refine cond_s (fun w75 => ?_) (fun w75 => ?_)
                  · replace hm := ift w75 hm
                    obtain rfl := si hm
                    conv => whnf
                    refine EndStep.mk _ (((((((((l20.trans l28).trans lt0).trans l45).trans l48).trans l51).trans l55).trans l61).trans l67).trans l74) ⟨rfl, rfl⟩ (ConvH.of (.cons r5 .nil))
                  · replace hm := iff_ w75 hm
                    conv => whnf
                    refine field_addr rfl ?_
                    conv => whnf
                    refine RStep.of (load1_s r3 rfl rfl ?_)
                    conv => whnf
                    refine u8_rem (x := s.What) (y := (2 : UInt8)) rfl rfl (by decide) ?_
                    conv => whnf
                    refine eq_int ?_
                    conv => whnf
                    refine cond_go rfl ?_
                    conv => whnf
                    refine cond_s (fun w80 => ?_) (fun w80 => ?_)
                    · replace hm := ift w80 hm
                      obtain ⟨x84, q84, hm⟩ := bnd hm
                      conv => whnf
                      refine call_fn (health_Checks_Report_ok q84) (.cons r0 (.cons r0 (.cons r0 .nil))) ?_
                      rintro _ K84 _ l84 ⟨m84_0, m84_1, rfl, rfl⟩
                      conv => whnf
                      refine eq_int ?_
                      obtain ⟨x93, e93, hm⟩ := bnd hm
                      conv => whnf
                      refine cond_s (fun g87_19 => ?_) (fun g87_19 => ?_)
                      · replace e93 := ift g87_19 e93
                        conv => whnf
                        refine cond_t g87_19 ?_
                        conv => whnf
                        refine cond_t g87_19 ?_
                        obtain ⟨x90, q90, e93⟩ := bnd e93
                        conv => whnf
                        refine call_fn (health_Checks_Drained_ok q90) (.cons r0 (.cons r0 (.cons r0 .nil))) ?_
                        rintro _ K90 _ l90 ⟨rfl, rfl⟩
                        conv => whnf
                        refine cond_t g87_19 ?_
                        conv => whnf
                        refine cond_t g87_19 ?_
                        conv => whnf
                        refine eq_bool rfl ?_
                        conv => whnf
                        refine cond_t g87_19 ?_
                        obtain ⟨x105, e105, hm⟩ := bnd hm
                        conv => whnf
                        refine cond_s (fun g94_19 => ?_) (fun g94_19 => ?_)
                        · replace e105 := ift ((si e93).symm.trans g94_19) e105
                          conv => whnf
                          refine cond_t g94_19 ?_
                          obtain ⟨x96, q96, e105⟩ := bnd e105
                          conv => whnf
                          refine call_fn (health_Checks_Up_ok q96) (.cons r0 (.cons r0 (.cons r0 .nil))) ?_
                          rintro _ K96 _ l96 ⟨a96_0, c96_0, rfl, h96_0, rfl⟩
                          conv => whnf
                          refine cond_t g94_19 ?_
                          conv => whnf
                          refine cond_t g94_19 ?_
                          obtain ⟨x98, q98, e105⟩ := bnd e105
                          conv => whnf
                          refine call_fn (Fn.lend Try.call28 (fun K98_0 l98_0 f98_0 => (law32_has_ok q98 f98_0 rfl)) (by exact fun _ _ _ _ h => h)) (.cons r0 .nil) ?_
                          rintro _ K98 _ l98 ⟨_, rfl, rfl, rfl⟩
                          conv => whnf
                          refine cond_t g94_19 ?_
                          conv => whnf
                          refine cond_t g94_19 ?_
                          conv => whnf
                          refine cond_s (fun g100_19 => ?_) (fun g100_19 => ?_)
                          · conv => whnf
                            refine cond_t g100_19 ?_
                            conv => whnf
                            refine un_not ?_
                            conv => whnf
                            refine cond_t g94_19 ?_
                            conv => whnf
                            refine cond_t g100_19 ?_
                            conv => whnf
                            refine cond_t g94_19 ?_
                            conv => whnf
                            refine eq_bool rfl ?_
                            conv => whnf
                            refine cond_t g94_19 ?_
                            obtain rfl := si hm
                            conv => whnf
                            refine EndStep.mk _ (((((((((((((l20.trans l28).trans lt0).trans l45).trans l48).trans l51).trans l55).trans l61).trans l67).trans l74).trans l84).trans l90).trans l96).trans l98) ⟨(by rw [← ((beq_e rfl (and_e (b := (!x48)) g100_19)).trans (si e105))] <;> rfl), rfl⟩ (ConvH.of (.cons r6 .nil))
                          · conv => whnf
                            refine cond_f g100_19 ?_
                            conv => whnf
                            refine cond_t g94_19 ?_
                            conv => whnf
                            refine cond_f g100_19 ?_
                            conv => whnf
                            refine cond_t g94_19 ?_
                            conv => whnf
                            refine eq_bool rfl ?_
                            conv => whnf
                            refine cond_t g94_19 ?_
                            obtain rfl := si hm
                            conv => whnf
                            refine EndStep.mk _ (((((((((((((l20.trans l28).trans lt0).trans l45).trans l48).trans l51).trans l55).trans l61).trans l67).trans l74).trans l84).trans l90).trans l96).trans l98) ⟨(by rw [← ((beq_e rfl ((and_f g100_19)).symm).trans (si e105))] <;> rfl), rfl⟩ (ConvH.of (.cons r6 .nil))
                        · replace e105 := iff_ ((si e93).symm.trans g94_19) e105
                          conv => whnf
                          refine cond_f g94_19 ?_
                          conv => whnf
                          refine cond_f g94_19 ?_
                          conv => whnf
                          refine cond_f g94_19 ?_
                          conv => whnf
                          refine cond_f g94_19 ?_
                          conv => whnf
                          refine cond_f g94_19 ?_
                          conv => whnf
                          refine cond_f g94_19 ?_
                          conv => whnf
                          refine cond_f g94_19 ?_
                          conv => whnf
                          refine cond_f g94_19 ?_
                          obtain rfl := si hm
                          conv => whnf
                          refine EndStep.mk _ (((((((((((l20.trans l28).trans lt0).trans l45).trans l48).trans l51).trans l55).trans l61).trans l67).trans l74).trans l84).trans l90) ⟨(by rw [← ((si e105).symm).symm] <;> rfl), rfl⟩ (ConvH.of (.cons r5 .nil))
                      · replace e93 := iff_ g87_19 e93
                        conv => whnf
                        refine cond_f g87_19 ?_
                        conv => whnf
                        refine cond_f g87_19 ?_
                        conv => whnf
                        refine cond_f g87_19 ?_
                        conv => whnf
                        refine cond_f g87_19 ?_
                        conv => whnf
                        refine cond_f g87_19 ?_
                        obtain ⟨x105, e105, hm⟩ := bnd hm
                        replace e105 := iff_ (si e93).symm e105
                        conv => whnf
                        refine cond_F ?_
                        conv => whnf
                        refine cond_F ?_
                        conv => whnf
                        refine cond_F ?_
                        conv => whnf
                        refine cond_F ?_
                        conv => whnf
                        refine cond_F ?_
                        conv => whnf
                        refine cond_F ?_
                        conv => whnf
                        refine cond_F ?_
                        conv => whnf
                        refine cond_F ?_
                        conv => whnf
                        refine cond_F ?_
                        obtain rfl := si hm
                        conv => whnf
                        refine EndStep.mk _ ((((((((((l20.trans l28).trans lt0).trans l45).trans l48).trans l51).trans l55).trans l61).trans l67).trans l74).trans l84) ⟨(by rw [← ((si e105).symm).symm] <;> rfl), rfl⟩ (ConvH.of (.cons r5 .nil))
                    · replace hm := iff_ w80 hm
                      obtain ⟨x84, q84, hm⟩ := bnd hm
                      conv => whnf
                      refine call_fn (health_Checks_Report_ok q84) (.cons r0 (.cons r0 (.cons r0 .nil))) ?_
                      rintro _ K84 _ l84 ⟨m84_0, m84_1, rfl, rfl⟩
                      conv => whnf
                      refine eq_int ?_
                      obtain ⟨x93, e93, hm⟩ := bnd hm
                      conv => whnf
                      refine cond_s (fun g87_19 => ?_) (fun g87_19 => ?_)
                      · replace e93 := ift g87_19 e93
                        conv => whnf
                        refine cond_t g87_19 ?_
                        conv => whnf
                        refine cond_t g87_19 ?_
                        obtain ⟨x90, q90, e93⟩ := bnd e93
                        conv => whnf
                        refine call_fn (health_Checks_Drained_ok q90) (.cons r0 (.cons r0 (.cons r0 .nil))) ?_
                        rintro _ K90 _ l90 ⟨rfl, rfl⟩
                        conv => whnf
                        refine cond_t g87_19 ?_
                        conv => whnf
                        refine cond_t g87_19 ?_
                        conv => whnf
                        refine eq_bool rfl ?_
                        conv => whnf
                        refine cond_t g87_19 ?_
                        obtain ⟨x105, e105, hm⟩ := bnd hm
                        conv => whnf
                        refine cond_s (fun g94_19 => ?_) (fun g94_19 => ?_)
                        · replace e105 := ift ((si e93).symm.trans g94_19) e105
                          conv => whnf
                          refine cond_t g94_19 ?_
                          obtain ⟨x96, q96, e105⟩ := bnd e105
                          conv => whnf
                          refine call_fn (health_Checks_Up_ok q96) (.cons r0 (.cons r0 (.cons r0 .nil))) ?_
                          rintro _ K96 _ l96 ⟨a96_0, c96_0, rfl, h96_0, rfl⟩
                          conv => whnf
                          refine cond_t g94_19 ?_
                          conv => whnf
                          refine cond_t g94_19 ?_
                          obtain ⟨x98, q98, e105⟩ := bnd e105
                          conv => whnf
                          refine call_fn (Fn.lend Try.call28 (fun K98_0 l98_0 f98_0 => (law32_has_ok q98 f98_0 rfl)) (by exact fun _ _ _ _ h => h)) (.cons r0 .nil) ?_
                          rintro _ K98 _ l98 ⟨_, rfl, rfl, rfl⟩
                          conv => whnf
                          refine cond_t g94_19 ?_
                          conv => whnf
                          refine cond_t g94_19 ?_
                          conv => whnf
                          refine cond_s (fun g100_19 => ?_) (fun g100_19 => ?_)
                          · conv => whnf
                            refine cond_t g100_19 ?_
                            conv => whnf
                            refine un_not ?_
                            conv => whnf
                            refine cond_t g94_19 ?_
                            conv => whnf
                            refine cond_t g100_19 ?_
                            conv => whnf
                            refine cond_t g94_19 ?_
                            conv => whnf
                            refine eq_bool rfl ?_
                            conv => whnf
                            refine cond_t g94_19 ?_
                            obtain rfl := si hm
                            conv => whnf
                            refine EndStep.mk _ (((((((((((((l20.trans l28).trans lt0).trans l45).trans l48).trans l51).trans l55).trans l61).trans l67).trans l74).trans l84).trans l90).trans l96).trans l98) ⟨(by rw [← ((beq_e rfl (and_e (b := (!x48)) g100_19)).trans (si e105))] <;> rfl), rfl⟩ (ConvH.of (.cons r6 .nil))
                          · conv => whnf
                            refine cond_f g100_19 ?_
                            conv => whnf
                            refine cond_t g94_19 ?_
                            conv => whnf
                            refine cond_f g100_19 ?_
                            conv => whnf
                            refine cond_t g94_19 ?_
                            conv => whnf
                            refine eq_bool rfl ?_
                            conv => whnf
                            refine cond_t g94_19 ?_
                            obtain rfl := si hm
                            conv => whnf
                            refine EndStep.mk _ (((((((((((((l20.trans l28).trans lt0).trans l45).trans l48).trans l51).trans l55).trans l61).trans l67).trans l74).trans l84).trans l90).trans l96).trans l98) ⟨(by rw [← ((beq_e rfl ((and_f g100_19)).symm).trans (si e105))] <;> rfl), rfl⟩ (ConvH.of (.cons r6 .nil))
                        · replace e105 := iff_ ((si e93).symm.trans g94_19) e105
                          conv => whnf
                          refine cond_f g94_19 ?_
                          conv => whnf
                          refine cond_f g94_19 ?_
                          conv => whnf
                          refine cond_f g94_19 ?_
                          conv => whnf
                          refine cond_f g94_19 ?_
                          conv => whnf
                          refine cond_f g94_19 ?_
                          conv => whnf
                          refine cond_f g94_19 ?_
                          conv => whnf
                          refine cond_f g94_19 ?_
                          conv => whnf
                          refine cond_f g94_19 ?_
                          obtain rfl := si hm
                          conv => whnf
                          refine EndStep.mk _ (((((((((((l20.trans l28).trans lt0).trans l45).trans l48).trans l51).trans l55).trans l61).trans l67).trans l74).trans l84).trans l90) ⟨(by rw [← ((si e105).symm).symm] <;> rfl), rfl⟩ (ConvH.of (.cons r5 .nil))
                      · replace e93 := iff_ g87_19 e93
                        conv => whnf
                        refine cond_f g87_19 ?_
                        conv => whnf
                        refine cond_f g87_19 ?_
                        conv => whnf
                        refine cond_f g87_19 ?_
                        conv => whnf
                        refine cond_f g87_19 ?_
                        conv => whnf
                        refine cond_f g87_19 ?_
                        obtain ⟨x105, e105, hm⟩ := bnd hm
                        replace e105 := iff_ (si e93).symm e105
                        conv => whnf
                        refine cond_F ?_
                        conv => whnf
                        refine cond_F ?_
                        conv => whnf
                        refine cond_F ?_
                        conv => whnf
                        refine cond_F ?_
                        conv => whnf
                        refine cond_F ?_
                        conv => whnf
                        refine cond_F ?_
                        conv => whnf
                        refine cond_F ?_
                        conv => whnf
                        refine cond_F ?_
                        conv => whnf
                        refine cond_F ?_
                        obtain rfl := si hm
                        conv => whnf
                        refine EndStep.mk _ ((((((((((l20.trans l28).trans lt0).trans l45).trans l48).trans l51).trans l55).trans l61).trans l67).trans l74).trans l84) ⟨(by rw [← ((si e105).symm).symm] <;> rfl), rfl⟩ (ConvH.of (.cons r5 .nil))

noncomputable def law32_HealthNil (s : S_law32_Step) : Option (Bool) :=
  (law32_awake).bind fun x4 =>
  if (!x4) then
  some false
  else
  (law32_name s.Node).bind fun x9 =>
  (health_Checks_Drain_nil x9 true).bind fun x10 =>
  (law32_name s.Node).bind fun x14 =>
  (health_Checks_Report_nil x14 true).bind fun x15 =>
  (if decide (x15 = 0) then (law32_name s.Node).bind fun x21 =>
  (health_Checks_State_nil x21).bind fun x22 =>
  some (decide (x22 = 0)) else some false).bind fun x24 =>
  (if x24 then (law32_name s.Node).bind fun x29 =>
  (health_Checks_Drained_nil x29).bind fun x30 =>
  some (!x30) else some false).bind fun x32 =>
  (if x32 then (health_Checks_Up_nil).bind fun x35 =>
  some (decide ((x35.length : Int) = 0)) else some false).bind fun x38 =>
  if x38 then
  (law32_name s.Node).bind fun x43 =>
  (health_Checks_Forget_nil x43).bind fun x44 =>
  some (!x44)
  else
  some false
set_option maxHeartbeats 8000000 in
theorem law32_HealthNil_ok {s : S_law32_Step} {K : Hp} {r : Bool}
    (hm : law32_HealthNil s = some r)  :
    Fn Try.prog 9 [.agg #[.int .u8 (s.What.toNat : Int), .int .u8 (s.Node.toNat : Int)]] K [] (fun v K' H' => v = .bool r ∧ H' = []) := by
  refine Fn.enter Try.func9 Try.call9 rfl fun F => ?_
  unfold law32_HealthNil at hm
  conv => whnf
  refine box_rule ?_
  intro b1
  obtain ⟨x4, q4, hm⟩ := bnd hm
  conv => whnf
  refine call_fn (law32_awake_ok q4) .nil ?_
  rintro _ K4 _ l4 ⟨rfl, rfl⟩
  conv => whnf
  refine un_not ?_
  conv => whnf
  refine cond_go rfl ?_
  conv => whnf
  refine cond_s (fun w5 => ?_) (fun w5 => ?_)
  · replace hm := ift (not_t (ni_t w5)) hm
    obtain rfl := si hm
    conv => whnf
    refine EndStep.mk _ l4 ⟨rfl, rfl⟩ (ConvH.of (.cons r1 .nil))
  · replace hm := iff_ (not_f (ni_f w5)) hm
    conv => whnf
    refine field_addr rfl ?_
    conv => whnf
    refine RStep.of (load1_s r0 rfl rfl ?_)
    obtain ⟨x9, q9, hm⟩ := bnd hm
    conv => whnf
    refine call_fn (law32_name_ok q9) .nil ?_
    rintro _ K9 _ l9 ⟨rfl, rfl⟩
    obtain ⟨x10, q10, hm⟩ := bnd hm
    conv => whnf
    refine call_fn (health_Checks_Drain_nil_ok q10) .nil ?_
    rintro _ K10 _ l10 ⟨rfl, rfl⟩
    conv => whnf
    refine field_addr rfl ?_
    conv => whnf
    refine RStep.of (load1_s r0 rfl rfl ?_)
    obtain ⟨x14, q14, hm⟩ := bnd hm
    conv => whnf
    refine call_fn (law32_name_ok q14) .nil ?_
    rintro _ K14 _ l14 ⟨rfl, rfl⟩
    obtain ⟨x15, q15, hm⟩ := bnd hm
    conv => whnf
    refine call_fn (health_Checks_Report_nil_ok q15) .nil ?_
    rintro _ K15 _ l15 ⟨rfl, rfl⟩
    conv => whnf
    refine eq_int ?_
    obtain ⟨x24, e24, hm⟩ := bnd hm
    conv => whnf
    refine cond_s (fun g17_5 => ?_) (fun g17_5 => ?_)
    · replace e24 := ift g17_5 e24
      conv => whnf
      refine cond_t g17_5 ?_
      conv => whnf
      refine field_addr rfl ?_
      conv => whnf
      refine cond_t g17_5 ?_
      conv => whnf
      refine RStep.of (load1_s r0 rfl rfl ?_)
      conv => whnf
      refine cond_t g17_5 ?_
      obtain ⟨x21, q21, e24⟩ := bnd e24
      conv => whnf
      refine call_fn (law32_name_ok q21) .nil ?_
      rintro _ K21 _ l21 ⟨rfl, rfl⟩
      conv => whnf
      refine cond_t g17_5 ?_
      obtain ⟨x22, q22, e24⟩ := bnd e24
      conv => whnf
      refine call_fn (health_Checks_State_nil_ok q22) .nil ?_
      rintro _ K22 _ l22 ⟨rfl, rfl⟩
      conv => whnf
      refine cond_t g17_5 ?_
      conv => whnf
      refine eq_int ?_
      conv => whnf
      refine cond_t g17_5 ?_
      obtain ⟨x32, e32, hm⟩ := bnd hm
      conv => whnf
      refine cond_s (fun g25_5 => ?_) (fun g25_5 => ?_)
      · replace e32 := ift ((si e24).symm.trans g25_5) e32
        conv => whnf
        refine cond_t g25_5 ?_
        conv => whnf
        refine field_addr rfl ?_
        conv => whnf
        refine cond_t g25_5 ?_
        conv => whnf
        refine RStep.of (load1_s r0 rfl rfl ?_)
        conv => whnf
        refine cond_t g25_5 ?_
        obtain ⟨x29, q29, e32⟩ := bnd e32
        conv => whnf
        refine call_fn (law32_name_ok q29) .nil ?_
        rintro _ K29 _ l29 ⟨rfl, rfl⟩
        conv => whnf
        refine cond_t g25_5 ?_
        obtain ⟨x30, q30, e32⟩ := bnd e32
        conv => whnf
        refine call_fn (health_Checks_Drained_nil_ok q30) .nil ?_
        rintro _ K30 _ l30 ⟨rfl, rfl⟩
        conv => whnf
        refine cond_t g25_5 ?_
        conv => whnf
        refine un_not ?_
        conv => whnf
        refine cond_t g25_5 ?_
        obtain ⟨x38, e38, hm⟩ := bnd hm
        conv => whnf
        refine cond_s (fun g33_5 => ?_) (fun g33_5 => ?_)
        · replace e38 := ift ((si e32).symm.trans (not_t (ni_t g33_5))) e38
          conv => whnf
          refine cond_t g33_5 ?_
          obtain ⟨x35, q35, e38⟩ := bnd e38
          conv => whnf
          refine call_fn (health_Checks_Up_nil_ok q35) .nil ?_
          rintro _ K35 _ l35 ⟨a35_0, c35_0, rfl, h35_0, rfl⟩
          conv => whnf
          refine cond_t g33_5 ?_
          conv => whnf
          refine RStep.of (len_slice rfl ?_)
          conv => whnf
          refine cond_t g33_5 ?_
          conv => whnf
          refine eq_int ?_
          conv => whnf
          refine cond_t g33_5 ?_
          conv => whnf
          refine cond_s (fun g39_5 => ?_) (fun g39_5 => ?_)
          · replace hm := ift ((si e38).symm.trans g39_5) hm
            conv => whnf
            refine cond_t g39_5 ?_
            conv => whnf
            refine field_addr rfl ?_
            conv => whnf
            refine cond_t g39_5 ?_
            conv => whnf
            refine RStep.of (load1_s r1 rfl rfl ?_)
            conv => whnf
            refine cond_t g39_5 ?_
            obtain ⟨x43, q43, hm⟩ := bnd hm
            conv => whnf
            refine call_fn (law32_name_ok q43) .nil ?_
            rintro _ K43 _ l43 ⟨rfl, rfl⟩
            conv => whnf
            refine cond_t g39_5 ?_
            obtain ⟨x44, q44, hm⟩ := bnd hm
            conv => whnf
            refine call_fn (health_Checks_Forget_nil_ok q44) .nil ?_
            rintro _ K44 _ l44 ⟨rfl, rfl⟩
            conv => whnf
            refine cond_t g39_5 ?_
            conv => whnf
            refine un_not ?_
            conv => whnf
            refine cond_t g39_5 ?_
            obtain rfl := si hm
            conv => whnf
            refine EndStep.mk _ (((((((((((l4.trans l9).trans l10).trans l14).trans l15).trans l21).trans l22).trans l29).trans l30).trans l35).trans l43).trans l44) ⟨rfl, rfl⟩ (ConvH.of (.cons r2 .nil))
          · replace hm := iff_ ((si e38).symm.trans g39_5) hm
            conv => whnf
            refine cond_f g39_5 ?_
            conv => whnf
            refine cond_f g39_5 ?_
            conv => whnf
            refine cond_f g39_5 ?_
            conv => whnf
            refine cond_f g39_5 ?_
            conv => whnf
            refine cond_f g39_5 ?_
            conv => whnf
            refine cond_f g39_5 ?_
            obtain rfl := si hm
            conv => whnf
            refine EndStep.mk _ (((((((((l4.trans l9).trans l10).trans l14).trans l15).trans l21).trans l22).trans l29).trans l30).trans l35) ⟨rfl, rfl⟩ (ConvH.of (.cons r2 .nil))
        · replace e38 := iff_ ((si e32).symm.trans (not_f (ni_f g33_5))) e38
          conv => whnf
          refine cond_f g33_5 ?_
          conv => whnf
          refine cond_f g33_5 ?_
          conv => whnf
          refine cond_f g33_5 ?_
          conv => whnf
          refine cond_f g33_5 ?_
          replace hm := iff_ (si e38).symm hm
          conv => whnf
          refine cond_F ?_
          conv => whnf
          refine cond_F ?_
          conv => whnf
          refine cond_F ?_
          conv => whnf
          refine cond_F ?_
          conv => whnf
          refine cond_F ?_
          conv => whnf
          refine cond_F ?_
          conv => whnf
          refine cond_F ?_
          obtain rfl := si hm
          conv => whnf
          refine EndStep.mk _ ((((((((l4.trans l9).trans l10).trans l14).trans l15).trans l21).trans l22).trans l29).trans l30) ⟨rfl, rfl⟩ (ConvH.of (.cons r1 .nil))
      · replace e32 := iff_ ((si e24).symm.trans g25_5) e32
        conv => whnf
        refine cond_f g25_5 ?_
        conv => whnf
        refine cond_f g25_5 ?_
        conv => whnf
        refine cond_f g25_5 ?_
        conv => whnf
        refine cond_f g25_5 ?_
        conv => whnf
        refine cond_f g25_5 ?_
        conv => whnf
        refine cond_f g25_5 ?_
        obtain ⟨x38, e38, hm⟩ := bnd hm
        replace e38 := iff_ (si e32).symm e38
        conv => whnf
        refine cond_F ?_
        conv => whnf
        refine cond_F ?_
        conv => whnf
        refine cond_F ?_
        conv => whnf
        refine cond_F ?_
        conv => whnf
        refine cond_F ?_
        replace hm := iff_ (si e38).symm hm
        conv => whnf
        refine cond_F ?_
        conv => whnf
        refine cond_F ?_
        conv => whnf
        refine cond_F ?_
        conv => whnf
        refine cond_F ?_
        conv => whnf
        refine cond_F ?_
        conv => whnf
        refine cond_F ?_
        conv => whnf
        refine cond_F ?_
        obtain rfl := si hm
        conv => whnf
        refine EndStep.mk _ ((((((l4.trans l9).trans l10).trans l14).trans l15).trans l21).trans l22) ⟨rfl, rfl⟩ (ConvH.of (.cons r1 .nil))
    · replace e24 := iff_ g17_5 e24
      conv => whnf
      refine cond_f g17_5 ?_
      conv => whnf
      refine cond_f g17_5 ?_
      conv => whnf
      refine cond_f g17_5 ?_
      conv => whnf
      refine cond_f g17_5 ?_
      conv => whnf
      refine cond_f g17_5 ?_
      conv => whnf
      refine cond_f g17_5 ?_
      obtain ⟨x32, e32, hm⟩ := bnd hm
      replace e32 := iff_ (si e24).symm e32
      conv => whnf
      refine cond_F ?_
      conv => whnf
      refine cond_F ?_
      conv => whnf
      refine cond_F ?_
      conv => whnf
      refine cond_F ?_
      conv => whnf
      refine cond_F ?_
      conv => whnf
      refine cond_F ?_
      conv => whnf
      refine cond_F ?_
      obtain ⟨x38, e38, hm⟩ := bnd hm
      replace e38 := iff_ (si e32).symm e38
      conv => whnf
      refine cond_F ?_
      conv => whnf
      refine cond_F ?_
      conv => whnf
      refine cond_F ?_
      conv => whnf
      refine cond_F ?_
      conv => whnf
      refine cond_F ?_
      replace hm := iff_ (si e38).symm hm
      conv => whnf
      refine cond_F ?_
      conv => whnf
      refine cond_F ?_
      conv => whnf
      refine cond_F ?_
      conv => whnf
      refine cond_F ?_
      conv => whnf
      refine cond_F ?_
      conv => whnf
      refine cond_F ?_
      conv => whnf
      refine cond_F ?_
      obtain rfl := si hm
      conv => whnf
      refine EndStep.mk _ ((((l4.trans l9).trans l10).trans l14).trans l15) ⟨rfl, rfl⟩ (ConvH.of (.cons r1 .nil))
