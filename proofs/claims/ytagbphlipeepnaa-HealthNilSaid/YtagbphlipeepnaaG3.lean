/- Functions of the program: mirrors, and that a call returns what the mirror says. Printed by gen.py. -/
import Derived.Test.YtagbphlipeepnaaG2
set_option linter.unusedVariables false
set_option linter.unusedSimpArgs false
open Go Go.SL Go.Proofs
set_option maxRecDepth 30000
noncomputable def law32_HealthAlone_L0 (x41 : Str) : List S_law32_Step → Nat → Option (Fl (Bool) (Unit))
  | [], _ => some (Fl.go ())
  | e0 :: xs0, i0 =>
    (law32_play_nil e0).bind fun x50 =>
    (law32_name e0.Node).bind fun x53 =>
    if decide (x53 = x41) then
    (law32_play_nil e0).bind fun x58 =>
    (health_Checks_State_nil x41).bind fun x61 =>
    (health_Checks_State_nil x41).bind fun x64 =>
    (if decide (x61 ≠ x64) then some true else (health_Checks_Drained_nil x41).bind fun x69 =>
    (health_Checks_Drained_nil x41).bind fun x72 =>
    some (!(x69 == x72))).bind fun x74 =>
    if x74 then
    some (Fl.ret false)
    else
    law32_HealthAlone_L0 x41 xs0 (i0 + 1)
    else
    (health_Checks_State_nil x41).bind fun x61 =>
    (health_Checks_State_nil x41).bind fun x64 =>
    (if decide (x61 ≠ x64) then some true else (health_Checks_Drained_nil x41).bind fun x69 =>
    (health_Checks_Drained_nil x41).bind fun x72 =>
    some (!(x69 == x72))).bind fun x74 =>
    if x74 then
    some (Fl.ret false)
    else
    law32_HealthAlone_L0 x41 xs0 (i0 + 1)
noncomputable def law32_HealthAlone_L0b (x41 : Str) : List S_law32_Step → Nat → S_health_Checks → Option (Fl (Bool) (S_health_Checks))
  | [], _, y0_0 => some (Fl.go y0_0)
  | e0 :: xs0, i0, y0_0 =>
    (law32_play_nil e0).bind fun x50 =>
    (law32_name e0.Node).bind fun x53 =>
    if decide (x53 = x41) then
    (law32_play y0_0 e0).bind fun x58 =>
    (health_Checks_State_nil x41).bind fun x61 =>
    (health_Checks_State x58 x41).bind fun x64 =>
    (if decide (x61 ≠ x64) then some true else (health_Checks_Drained_nil x41).bind fun x69 =>
    (health_Checks_Drained x58 x41).bind fun x72 =>
    some (!(x69 == x72))).bind fun x74 =>
    if x74 then
    some (Fl.ret false)
    else
    law32_HealthAlone_L0b x41 xs0 (i0 + 1) x58
    else
    (health_Checks_State_nil x41).bind fun x61 =>
    (health_Checks_State y0_0 x41).bind fun x64 =>
    (if decide (x61 ≠ x64) then some true else (health_Checks_Drained_nil x41).bind fun x69 =>
    (health_Checks_Drained y0_0 x41).bind fun x72 =>
    some (!(x69 == x72))).bind fun x74 =>
    if x74 then
    some (Fl.ret false)
    else
    law32_HealthAlone_L0b x41 xs0 (i0 + 1) y0_0
noncomputable def law32_HealthAlone_L0c (x41 : Str) : List S_law32_Step → Nat → S_health_Checks → Option (Fl (Bool) (S_health_Checks))
  | [], _, y0_0 => some (Fl.go y0_0)
  | e0 :: xs0, i0, y0_0 =>
    (law32_play y0_0 e0).bind fun x50 =>
    (law32_name e0.Node).bind fun x53 =>
    if decide (x53 = x41) then
    (law32_play_nil e0).bind fun x58 =>
    (health_Checks_State x50 x41).bind fun x61 =>
    (health_Checks_State_nil x41).bind fun x64 =>
    (if decide (x61 ≠ x64) then some true else (health_Checks_Drained x50 x41).bind fun x69 =>
    (health_Checks_Drained_nil x41).bind fun x72 =>
    some (!(x69 == x72))).bind fun x74 =>
    if x74 then
    some (Fl.ret false)
    else
    law32_HealthAlone_L0c x41 xs0 (i0 + 1) x50
    else
    (health_Checks_State x50 x41).bind fun x61 =>
    (health_Checks_State_nil x41).bind fun x64 =>
    (if decide (x61 ≠ x64) then some true else (health_Checks_Drained x50 x41).bind fun x69 =>
    (health_Checks_Drained_nil x41).bind fun x72 =>
    some (!(x69 == x72))).bind fun x74 =>
    if x74 then
    some (Fl.ret false)
    else
    law32_HealthAlone_L0c x41 xs0 (i0 + 1) x50
noncomputable def law32_HealthAlone_L0d (x41 : Str) : List S_law32_Step → Nat → S_health_Checks → S_health_Checks → Option (Fl (Bool) (S_health_Checks × S_health_Checks))
  | [], _, y0_0, y0_1 => some (Fl.go (y0_0, y0_1))
  | e0 :: xs0, i0, y0_0, y0_1 =>
    (law32_play y0_1 e0).bind fun x50 =>
    (law32_name e0.Node).bind fun x53 =>
    if decide (x53 = x41) then
    (law32_play y0_0 e0).bind fun x58 =>
    (health_Checks_State x50 x41).bind fun x61 =>
    (health_Checks_State x58 x41).bind fun x64 =>
    (if decide (x61 ≠ x64) then some true else (health_Checks_Drained x50 x41).bind fun x69 =>
    (health_Checks_Drained x58 x41).bind fun x72 =>
    some (!(x69 == x72))).bind fun x74 =>
    if x74 then
    some (Fl.ret false)
    else
    law32_HealthAlone_L0d x41 xs0 (i0 + 1) x58 x50
    else
    (health_Checks_State x50 x41).bind fun x61 =>
    (health_Checks_State y0_0 x41).bind fun x64 =>
    (if decide (x61 ≠ x64) then some true else (health_Checks_Drained x50 x41).bind fun x69 =>
    (health_Checks_Drained y0_0 x41).bind fun x72 =>
    some (!(x69 == x72))).bind fun x74 =>
    if x74 then
    some (Fl.ret false)
    else
    law32_HealthAlone_L0d x41 xs0 (i0 + 1) y0_0 x50
noncomputable def law32_HealthAlone (x : S_law32_Limits) (script : (List S_law32_Step)) (node : UInt8) : Option (Bool) :=
  (if decide ((script.length : Int) > 100) then some true else (law32_awake).bind fun x18 =>
  some (!x18)).bind fun x20 =>
  if x20 then
  some (decide ((script.length : Int) > 100))
  else
  (law32_made x).bind fun x26 =>
  Option.elim x26.1 (
  (law32_made x).bind fun x31 =>
  Option.elim x31.1 (
  if ((!x26.2) || (!x31.2)) then
  some false
  else
  (law32_name node).bind fun x41 =>
  (chk (script.length ≤ szMax)).bind fun _ =>
  (law32_HealthAlone_L0 x41 script 0).bind fun s0 => s0.el some fun t0 =>
  (health_Checks_Up_nil).bind fun x77 =>
  (law32_has x77 x41).bind fun x79 =>
  (health_Checks_Up_nil).bind fun x81 =>
  (law32_has x81 x41).bind fun x83 =>
  some (x79 == x83))
   fun o31 =>
  if ((!x26.2) || (!x31.2)) then
  some false
  else
  (law32_name node).bind fun x41 =>
  (chk (script.length ≤ szMax)).bind fun _ =>
  (law32_HealthAlone_L0b x41 script 0 o31).bind fun s0 => s0.el some fun t0 =>
  (health_Checks_Up_nil).bind fun x77 =>
  (law32_has x77 x41).bind fun x79 =>
  (health_Checks_Up t0).bind fun x81 =>
  (law32_has x81 x41).bind fun x83 =>
  some (x79 == x83))
   fun o26 =>
  (law32_made x).bind fun x31 =>
  Option.elim x31.1 (
  if ((!x26.2) || (!x31.2)) then
  some false
  else
  (law32_name node).bind fun x41 =>
  (chk (script.length ≤ szMax)).bind fun _ =>
  (law32_HealthAlone_L0c x41 script 0 o26).bind fun s0 => s0.el some fun t0 =>
  (health_Checks_Up t0).bind fun x77 =>
  (law32_has x77 x41).bind fun x79 =>
  (health_Checks_Up_nil).bind fun x81 =>
  (law32_has x81 x41).bind fun x83 =>
  some (x79 == x83))
   fun o31 =>
  if ((!x26.2) || (!x31.2)) then
  some false
  else
  (law32_name node).bind fun x41 =>
  (chk (script.length ≤ szMax)).bind fun _ =>
  (law32_HealthAlone_L0d x41 script 0 o31 o26).bind fun s0 => s0.el some fun t0 =>
  (health_Checks_Up t0.2).bind fun x77 =>
  (law32_has x77 x41).bind fun x79 =>
  (health_Checks_Up t0.1).bind fun x81 =>
  (law32_has x81 x41).bind fun x83 =>
  some (x79 == x83)
set_option maxHeartbeats 8000000 in
theorem law32_HealthAlone_ok {x : S_law32_Limits} {script : (List S_law32_Step)} {node : UInt8} {ap1_0 : Option Addr} {cp1_0 : Nat} {n1 : Nat} {K : Hp} {r : Bool}
    (hm : law32_HealthAlone x script node = some r) (hp1_0 : RdC S_law32_Step.enc K ap1_0 cp1_0 2 script) (en1 : n1 = script.length) :
    Fn Try.prog 6 [.agg #[.int .i64 x.Rise, .int .i64 x.Fall], .slice ap1_0 n1 cp1_0, .int .u8 (node.toNat : Int)] K [] (fun v K' H' => v = .bool r ∧ H' = []) := by
  subst en1
  refine Fn.enter Try.func6 Try.call6 rfl fun F => ?_
  unfold law32_HealthAlone at hm
  conv => whnf
  refine box_rule ?_
  intro b3
  conv => whnf
  refine RStep.of (len_slice rfl ?_)
  obtain ⟨x20, e20, hm⟩ := bnd hm
  conv => whnf
  refine cond_s (fun g17_1 => ?_) (fun g17_1 => ?_)
  · replace e20 := ift g17_1 e20
    conv => whnf
    refine cond_t g17_1 ?_
    conv => whnf
    refine cond_t g17_1 ?_
    conv => whnf
    refine cond_go rfl ?_
    conv => whnf
    refine cond_T ?_
    replace hm := ift (si e20).symm hm
    conv => whnf
    refine RStep.of (len_slice rfl ?_)
    obtain rfl := si hm
    conv => whnf
    refine EndStep.mk _ (Hp.Le.refl _) ⟨rfl, rfl⟩ (ConvH.of (.cons r1 .nil))
  · replace e20 := iff_ g17_1 e20
    obtain ⟨x18, q18, e20⟩ := bnd e20
    conv => whnf
    refine call_fn (law32_awake_ok q18) .nil ?_
    rintro _ K18 _ l18 ⟨rfl, rfl⟩
    conv => whnf
    refine cond_f g17_1 ?_
    conv => whnf
    refine un_not ?_
    conv => whnf
    refine cond_f g17_1 ?_
    conv => whnf
    refine cond_go rfl ?_
    conv => whnf
    refine cond_s (fun w20 => ?_) (fun w20 => ?_)
    · replace hm := ift ((si e20).symm.trans (not_t (ni_t w20))) hm
      conv => whnf
      refine RStep.of (len_slice rfl ?_)
      obtain rfl := si hm
      conv => whnf
      refine EndStep.mk _ l18 ⟨rfl, rfl⟩ (ConvH.of (.cons r1 .nil))
    · replace hm := iff_ ((si e20).symm.trans (not_f (ni_f w20))) hm
      conv => whnf
      refine RStep.of (loadn_s r0 rfl (Nat.le_of_ble_eq_true rfl) ?_)
      obtain ⟨x26, q26, hm⟩ := bnd hm
      conv => whnf
      refine call_fn (law32_made_ok q26) .nil ?_
      rintro v26 K26 H26 l26 p26
      rcases hq26 : x26.1 with _ | o26
      · rw [hq26] at p26 hm
        obtain ⟨rfl, rfl⟩ := p26
        replace hm := oe_n hm
        conv => whnf
        refine RStep.of (loadn_s r0 rfl (Nat.le_of_ble_eq_true rfl) ?_)
        obtain ⟨x31, q31, hm⟩ := bnd hm
        conv => whnf
        refine call_fn (law32_made_ok q31) .nil ?_
        rintro v31 K31 H31 l31 p31
        rcases hq31 : x31.1 with _ | o31
        · rw [hq31] at p31 hm
          obtain ⟨rfl, rfl⟩ := p31
          replace hm := oe_n hm
          conv => whnf
          refine un_not ?_
          conv => whnf
          refine cond_s (fun g36_5 => ?_) (fun g36_5 => ?_)
          · conv => whnf
            refine cond_t g36_5 ?_
            conv => whnf
            refine cond_t g36_5 ?_
            conv => whnf
            refine cond_go rfl ?_
            conv => whnf
            refine cond_T ?_
            replace hm := ift (or_t (not_t (ni_t g36_5))) hm
            obtain rfl := si hm
            conv => whnf
            refine EndStep.mk _ ((l18.trans l26).trans l31) ⟨rfl, rfl⟩ (ConvH.of (.cons r1 .nil))
          · conv => whnf
            refine cond_f g36_5 ?_
            conv => whnf
            refine un_not ?_
            conv => whnf
            refine cond_f g36_5 ?_
            conv => whnf
            refine cond_go rfl ?_
            conv => whnf
            refine cond_s (fun w39 => ?_) (fun w39 => ?_)
            · replace hm := ift (or_u (not_f (ni_f g36_5)) (not_t (ni_t w39))) hm
              obtain rfl := si hm
              conv => whnf
              refine EndStep.mk _ ((l18.trans l26).trans l31) ⟨rfl, rfl⟩ (ConvH.of (.cons r1 .nil))
            · replace hm := iff_ (or_f (not_f (ni_f g36_5)) (not_f (ni_f w39))) hm
              obtain ⟨x41, q41, hm⟩ := bnd hm
              conv => whnf
              refine call_fn (law32_name_ok q41) .nil ?_
              rintro _ K41 _ l41 ⟨rfl, rfl⟩
              conv => whnf
              refine RStep.of (len_slice rfl ?_)
              obtain ⟨hk0, hm⟩ := chkb hm
              obtain ⟨s0, hl0, hm⟩ := bnd hm
              conv => whnf
              refine code_cut (σ := (Unit)) [6, 13, 44, 45, 46, 47, 48, 49, 50, 51, 52, 53, 54, 55, 56, 57, 58, 59, 60, 61, 62, 63, 64, 65, 66, 67, 68, 69, 70, 71, 72, 73, 74, 75] (fun t0 => []) (fun t0 => [Cells b3 31 [.int .i64 x.Rise, .int .i64 x.Fall], F]) (fun zz K1 => match zz with | t0 => s0 = Fl.go t0) ?_ ?_
              · refine block_go rfl ?_
                conv => whnf
                refine loop_rule (σ := Nat) [6, 13, 44, 45, 46, 47, 48, 49, 50, 51, 52, 53, 54, 55, 56, 57, 58, 59, 60, 61, 62, 63, 64, 65, 66, 67, 68, 69, 70, 71, 72, 73, 74, 75] (fun i0 => [(44, .int .i64 (i0 : Int))]) (fun i0 => [Cells b3 31 [.int .i64 x.Rise, .int .i64 x.Fall], F]) (fun zz K1 => match zz with | i0 => law32_HealthAlone_L0 x41 (script.drop i0) i0 = some s0) (fun zz => script.length - zz) (0) rfl ⟨rfl, trivial⟩ (ConvH.of (.cons r0 (.cons r0 .nil))) hl0 ?_
                clear hl0
                rintro i0 Kb0 lk0 hl0 j0
                conv at hl0 => whnf
                conv => whnf
                refine cond_go rfl ?_
                conv => whnf
                refine cond_s (fun w0 => ?_) (fun w0 => ?_)
                · obtain ⟨e0, hx0, hd0⟩ := ltx w0
                  rw [hd0, law32_HealthAlone_L0.eq_2] at hl0
                  conv => whnf
                  refine block_go rfl ?_
                  conv => whnf
                  refine RStep.ofN (index_addr rfl rfl (hasK (hp1_0.mono ((((l18.trans l26).trans l31).trans l41).trans lk0)).rd hx0) (nn _) (lt_ofN hx0) ?_)
                  conv => whnf
                  refine RStep.of (load_rd_agg i0 _ (hp1_0.mono ((((l18.trans l26).trans l31).trans l41).trans lk0)).rd rfl (mp hx0) rfl ?_)
                  conv => whnf
                  refine alloc_rule rfl ?_
                  intro b13
                  conv => whnf
                  refine store_rule r0 rfl ?_
                  conv => whnf
                  refine ⟨rfl, rfl, (Nat.le_of_ble_eq_true rfl), ?_⟩
                  conv => whnf
                  refine RStep.of (loadn_s r0 rfl (Nat.le_of_ble_eq_true rfl) ?_)
                  obtain ⟨x50, q50, hl0⟩ := bnd hl0
                  conv => whnf
                  refine call_fn (law32_play_nil_ok q50) .nil ?_
                  rintro _ K50 _ l50 ⟨rfl, rfl⟩
                  conv => whnf
                  refine field_addr rfl ?_
                  conv => whnf
                  refine RStep.of (load1_s r0 rfl rfl ?_)
                  obtain ⟨x53, q53, hl0⟩ := bnd hl0
                  conv => whnf
                  refine call_fn (law32_name_ok q53) .nil ?_
                  rintro _ K53 _ l53 ⟨rfl, rfl⟩
                  conv => whnf
                  refine eq_str ?_
                  conv => whnf
                  refine cond_go rfl ?_
                  conv => whnf
                  refine cond_s (fun w55 => ?_) (fun w55 => ?_)
                  · replace hl0 := ift w55 hl0
                    conv => whnf
                    refine RStep.of (loadn_s r0 rfl (Nat.le_of_ble_eq_true rfl) ?_)
                    obtain ⟨x58, q58, hl0⟩ := bnd hl0
                    conv => whnf
                    refine call_fn (law32_play_nil_ok q58) .nil ?_
                    rintro _ K58 _ l58 ⟨rfl, rfl⟩
                    obtain ⟨x61, q61, hl0⟩ := bnd hl0
                    conv => whnf
                    refine call_fn (health_Checks_State_nil_ok q61) .nil ?_
                    rintro _ K61 _ l61 ⟨rfl, rfl⟩
                    obtain ⟨x64, q64, hl0⟩ := bnd hl0
                    conv => whnf
                    refine call_fn (health_Checks_State_nil_ok q64) .nil ?_
                    rintro _ K64 _ l64 ⟨rfl, rfl⟩
                    conv => whnf
                    refine neq_int ?_
                    obtain ⟨x74, e74, hl0⟩ := bnd hl0
                    conv => whnf
                    refine cond_s (fun g66_14 => ?_) (fun g66_14 => ?_)
                    · replace e74 := ift g66_14 e74
                      conv => whnf
                      refine cond_t g66_14 ?_
                      conv => whnf
                      refine cond_t g66_14 ?_
                      conv => whnf
                      refine cond_t g66_14 ?_
                      conv => whnf
                      refine cond_t g66_14 ?_
                      conv => whnf
                      refine cond_t g66_14 ?_
                      conv => whnf
                      refine cond_t g66_14 ?_
                      conv => whnf
                      refine cond_t g66_14 ?_
                      conv => whnf
                      refine cond_go rfl ?_
                      conv => whnf
                      refine cond_T ?_
                      replace hl0 := ift (si e74).symm hl0
                      obtain rfl := si hl0
                      replace hm := elr hm
                      obtain rfl := si hm
                      conv => whnf
                      refine EndStep.mk _ (((((((((l18.trans l26).trans l31).trans l41).trans lk0).trans l50).trans l53).trans l58).trans l61).trans l64) ⟨rfl, rfl⟩ (ConvH.of (.cons r2 .nil))
                    · replace e74 := iff_ g66_14 e74
                      conv => whnf
                      refine cond_f g66_14 ?_
                      conv => whnf
                      refine cond_f g66_14 ?_
                      obtain ⟨x69, q69, e74⟩ := bnd e74
                      conv => whnf
                      refine call_fn (health_Checks_Drained_nil_ok q69) .nil ?_
                      rintro _ K69 _ l69 ⟨rfl, rfl⟩
                      conv => whnf
                      refine cond_f g66_14 ?_
                      conv => whnf
                      refine cond_f g66_14 ?_
                      conv => whnf
                      refine cond_f g66_14 ?_
                      obtain ⟨x72, q72, e74⟩ := bnd e74
                      conv => whnf
                      refine call_fn (health_Checks_Drained_nil_ok q72) .nil ?_
                      rintro _ K72 _ l72 ⟨rfl, rfl⟩
                      conv => whnf
                      refine cond_f g66_14 ?_
                      conv => whnf
                      refine neq_bool rfl ?_
                      conv => whnf
                      refine cond_f g66_14 ?_
                      conv => whnf
                      refine cond_go rfl ?_
                      conv => whnf
                      refine cond_s (fun w74 => ?_) (fun w74 => ?_)
                      · replace hl0 := ift ((si e74).symm.trans w74) hl0
                        obtain rfl := si hl0
                        replace hm := elr hm
                        obtain rfl := si hm
                        conv => whnf
                        refine EndStep.mk _ (((((((((((l18.trans l26).trans l31).trans l41).trans lk0).trans l50).trans l53).trans l58).trans l61).trans l64).trans l69).trans l72) ⟨rfl, rfl⟩ (ConvH.of (.cons r2 .nil))
                      · replace hl0 := iff_ ((si e74).symm.trans w74) hl0
                        conv => whnf
                        refine int_in (cntz hx0 hk0) ?_
                        conv => whnf
                        refine RoundStep.mk (i0 + 1) ⟨rfl, trivial⟩ (by repeat (first | exact trivial | refine And.intro rfl ?_)) (ConvH.of (.cons r1 (.cons r1 .nil))) (((((((lk0.trans l50).trans l53).trans l58).trans l61).trans l64).trans l69).trans l72) (ltm hx0) hl0
                  · replace hl0 := iff_ w55 hl0
                    obtain ⟨x61, q61, hl0⟩ := bnd hl0
                    conv => whnf
                    refine call_fn (health_Checks_State_nil_ok q61) .nil ?_
                    rintro _ K61 _ l61 ⟨rfl, rfl⟩
                    obtain ⟨x64, q64, hl0⟩ := bnd hl0
                    conv => whnf
                    refine call_fn (health_Checks_State_nil_ok q64) .nil ?_
                    rintro _ K64 _ l64 ⟨rfl, rfl⟩
                    conv => whnf
                    refine neq_int ?_
                    obtain ⟨x74, e74, hl0⟩ := bnd hl0
                    conv => whnf
                    refine cond_s (fun g66_14 => ?_) (fun g66_14 => ?_)
                    · replace e74 := ift g66_14 e74
                      conv => whnf
                      refine cond_t g66_14 ?_
                      conv => whnf
                      refine cond_t g66_14 ?_
                      conv => whnf
                      refine cond_t g66_14 ?_
                      conv => whnf
                      refine cond_t g66_14 ?_
                      conv => whnf
                      refine cond_t g66_14 ?_
                      conv => whnf
                      refine cond_t g66_14 ?_
                      conv => whnf
                      refine cond_t g66_14 ?_
                      conv => whnf
                      refine cond_go rfl ?_
                      conv => whnf
                      refine cond_T ?_
                      replace hl0 := ift (si e74).symm hl0
                      obtain rfl := si hl0
                      replace hm := elr hm
                      obtain rfl := si hm
                      conv => whnf
                      refine EndStep.mk _ ((((((((l18.trans l26).trans l31).trans l41).trans lk0).trans l50).trans l53).trans l61).trans l64) ⟨rfl, rfl⟩ (ConvH.of (.cons r2 .nil))
                    · replace e74 := iff_ g66_14 e74
                      conv => whnf
                      refine cond_f g66_14 ?_
                      conv => whnf
                      refine cond_f g66_14 ?_
                      obtain ⟨x69, q69, e74⟩ := bnd e74
                      conv => whnf
                      refine call_fn (health_Checks_Drained_nil_ok q69) .nil ?_
                      rintro _ K69 _ l69 ⟨rfl, rfl⟩
                      conv => whnf
                      refine cond_f g66_14 ?_
                      conv => whnf
                      refine cond_f g66_14 ?_
                      conv => whnf
                      refine cond_f g66_14 ?_
                      obtain ⟨x72, q72, e74⟩ := bnd e74
                      conv => whnf
                      refine call_fn (health_Checks_Drained_nil_ok q72) .nil ?_
                      rintro _ K72 _ l72 ⟨rfl, rfl⟩
                      conv => whnf
                      refine cond_f g66_14 ?_
                      conv => whnf
                      refine neq_bool rfl ?_
                      conv => whnf
                      refine cond_f g66_14 ?_
                      conv => whnf
                      refine cond_go rfl ?_
                      conv => whnf
                      refine cond_s (fun w74 => ?_) (fun w74 => ?_)
                      · replace hl0 := ift ((si e74).symm.trans w74) hl0
                        obtain rfl := si hl0
                        replace hm := elr hm
                        obtain rfl := si hm
                        conv => whnf
                        refine EndStep.mk _ ((((((((((l18.trans l26).trans l31).trans l41).trans lk0).trans l50).trans l53).trans l61).trans l64).trans l69).trans l72) ⟨rfl, rfl⟩ (ConvH.of (.cons r2 .nil))
                      · replace hl0 := iff_ ((si e74).symm.trans w74) hl0
                        conv => whnf
                        refine int_in (cntz hx0 hk0) ?_
                        conv => whnf
                        refine RoundStep.mk (i0 + 1) ⟨rfl, trivial⟩ (by repeat (first | exact trivial | refine And.intro rfl ?_)) (ConvH.of (.cons r1 (.cons r1 .nil))) ((((((lk0.trans l50).trans l53).trans l61).trans l64).trans l69).trans l72) (ltm hx0) hl0
                · rw [lty w0, law32_HealthAlone_L0.eq_1] at hl0
                  conv => whnf
                  refine cond_T ?_
                  conv => whnf
                  refine MeetStep.mk (()) trivial (by repeat (first | exact trivial | refine And.intro rfl ?_)) (ConvH.of (.cons r0 (.cons r0 .nil))) lk0 (si hl0).symm
              · rintro t0 Kt0 lt0 rfl j0
                replace hm := elg hm
                obtain ⟨x77, q77, hm⟩ := bnd hm
                conv => whnf
                refine call_fn (health_Checks_Up_nil_ok q77) .nil ?_
                rintro _ K77 _ l77 ⟨a77_0, c77_0, rfl, h77_0, rfl⟩
                obtain ⟨x79, q79, hm⟩ := bnd hm
                conv => whnf
                refine call_fn (Fn.lend Try.call28 (fun K79_0 l79_0 f79_0 => (law32_has_ok q79 f79_0 rfl)) (by exact fun _ _ _ _ h => h)) (.cons r0 .nil) ?_
                rintro _ K79 _ l79 ⟨_, rfl, rfl, rfl⟩
                obtain ⟨x81, q81, hm⟩ := bnd hm
                conv => whnf
                refine call_fn (health_Checks_Up_nil_ok q81) .nil ?_
                rintro _ K81 _ l81 ⟨a81_0, c81_0, rfl, h81_0, rfl⟩
                obtain ⟨x83, q83, hm⟩ := bnd hm
                conv => whnf
                refine call_fn (Fn.lend Try.call28 (fun K83_0 l83_0 f83_0 => (law32_has_ok q83 f83_0 rfl)) (by exact fun _ _ _ _ h => h)) (.cons r0 .nil) ?_
                rintro _ K83 _ l83 ⟨_, rfl, rfl, rfl⟩
                conv => whnf
                refine eq_bool rfl ?_
                obtain rfl := si hm
                conv => whnf
                refine EndStep.mk _ ((((((((l18.trans l26).trans l31).trans l41).trans lt0).trans l77).trans l79).trans l81).trans l83) ⟨rfl, rfl⟩ (ConvH.of (.cons r3 .nil))
        · rw [hq31] at p31 hm
          obtain ⟨b31_0, m31_1, m31_2, rfl, rfl⟩ := p31
          replace hm := oe_s hm
          conv => whnf
          refine un_not ?_
          conv => whnf
          refine cond_s (fun g36_5 => ?_) (fun g36_5 => ?_)
          · conv => whnf
            refine cond_t g36_5 ?_
            conv => whnf
            refine cond_t g36_5 ?_
            conv => whnf
            refine cond_go rfl ?_
            conv => whnf
            refine cond_T ?_
            replace hm := ift (or_t (not_t (ni_t g36_5))) hm
            obtain rfl := si hm
            conv => whnf
            refine EndStep.mk _ ((l18.trans l26).trans l31) ⟨rfl, rfl⟩ (ConvH.of (.cons r4 .nil))
          · conv => whnf
            refine cond_f g36_5 ?_
            conv => whnf
            refine un_not ?_
            conv => whnf
            refine cond_f g36_5 ?_
            conv => whnf
            refine cond_go rfl ?_
            conv => whnf
            refine cond_s (fun w39 => ?_) (fun w39 => ?_)
            · replace hm := ift (or_u (not_f (ni_f g36_5)) (not_t (ni_t w39))) hm
              obtain rfl := si hm
              conv => whnf
              refine EndStep.mk _ ((l18.trans l26).trans l31) ⟨rfl, rfl⟩ (ConvH.of (.cons r4 .nil))
            · replace hm := iff_ (or_f (not_f (ni_f g36_5)) (not_f (ni_f w39))) hm
              obtain ⟨x41, q41, hm⟩ := bnd hm
              conv => whnf
              refine call_fn (law32_name_ok q41) .nil ?_
              rintro _ K41 _ l41 ⟨rfl, rfl⟩
              conv => whnf
              refine RStep.of (len_slice rfl ?_)
              obtain ⟨hk0, hm⟩ := chkb hm
              obtain ⟨s0, hl0, hm⟩ := bnd hm
              conv => whnf
              refine code_cut (σ := (S_health_Checks) × Nat × Nat) [6, 13, 44, 45, 46, 47, 48, 49, 50, 51, 52, 53, 54, 55, 56, 57, 58, 59, 60, 61, 62, 63, 64, 65, 66, 67, 68, 69, 70, 71, 72, 73, 74, 75] (fun (t0, mt0_0_0, mt0_0_1) => []) (fun (t0, mt0_0_0, mt0_0_1) => [Cells b31_0 64 [.int .i64 t0.rise, .int .i64 t0.fall, .map (some mt0_0_0), .map (some mt0_0_1)], MapE strK (fun x => .agg (S_health_status.enc x).toArray) mt0_0_0 t0.nodes, MapE strK (fun x => .bool x) mt0_0_1 t0.drained, Cells b3 31 [.int .i64 x.Rise, .int .i64 x.Fall], F]) (fun zz K1 => match zz with | (t0, mt0_0_0, mt0_0_1) => s0 = Fl.go t0) ?_ ?_
              · refine block_go rfl ?_
                conv => whnf
                refine loop_rule (σ := Nat × S_health_Checks × Nat × Nat) [6, 13, 44, 45, 46, 47, 48, 49, 50, 51, 52, 53, 54, 55, 56, 57, 58, 59, 60, 61, 62, 63, 64, 65, 66, 67, 68, 69, 70, 71, 72, 73, 74, 75] (fun (i0, y0_0, my0_0_0, my0_0_1) => [(44, .int .i64 (i0 : Int))]) (fun (i0, y0_0, my0_0_0, my0_0_1) => [Cells b31_0 64 [.int .i64 y0_0.rise, .int .i64 y0_0.fall, .map (some my0_0_0), .map (some my0_0_1)], MapE strK (fun x => .agg (S_health_status.enc x).toArray) my0_0_0 y0_0.nodes, MapE strK (fun x => .bool x) my0_0_1 y0_0.drained, Cells b3 31 [.int .i64 x.Rise, .int .i64 x.Fall], F]) (fun zz K1 => match zz with | (i0, y0_0, my0_0_0, my0_0_1) => law32_HealthAlone_L0b x41 (script.drop i0) i0 y0_0 = some s0) (fun zz => script.length - zz.1) (0, o31, m31_1, m31_2) rfl ⟨rfl, trivial⟩ (ConvH.of (.cons r0 (.cons r0 (.cons r0 (.cons r0 (.cons r0 .nil)))))) hl0 ?_
                clear hl0
                rintro ⟨i0, y0_0, my0_0_0, my0_0_1⟩ Kb0 lk0 hl0 j0
                conv at hl0 => whnf
                conv => whnf
                refine cond_go rfl ?_
                conv => whnf
                refine cond_s (fun w0 => ?_) (fun w0 => ?_)
                · obtain ⟨e0, hx0, hd0⟩ := ltx w0
                  rw [hd0, law32_HealthAlone_L0b.eq_2] at hl0
                  conv => whnf
                  refine block_go rfl ?_
                  conv => whnf
                  refine RStep.ofN (index_addr rfl rfl (hasK (hp1_0.mono ((((l18.trans l26).trans l31).trans l41).trans lk0)).rd hx0) (nn _) (lt_ofN hx0) ?_)
                  conv => whnf
                  refine RStep.of (load_rd_agg i0 _ (hp1_0.mono ((((l18.trans l26).trans l31).trans l41).trans lk0)).rd rfl (mp hx0) rfl ?_)
                  conv => whnf
                  refine alloc_rule rfl ?_
                  intro b13
                  conv => whnf
                  refine store_rule r0 rfl ?_
                  conv => whnf
                  refine ⟨rfl, rfl, (Nat.le_of_ble_eq_true rfl), ?_⟩
                  conv => whnf
                  refine RStep.of (loadn_s r0 rfl (Nat.le_of_ble_eq_true rfl) ?_)
                  obtain ⟨x50, q50, hl0⟩ := bnd hl0
                  conv => whnf
                  refine call_fn (law32_play_nil_ok q50) .nil ?_
                  rintro _ K50 _ l50 ⟨rfl, rfl⟩
                  conv => whnf
                  refine field_addr rfl ?_
                  conv => whnf
                  refine RStep.of (load1_s r0 rfl rfl ?_)
                  obtain ⟨x53, q53, hl0⟩ := bnd hl0
                  conv => whnf
                  refine call_fn (law32_name_ok q53) .nil ?_
                  rintro _ K53 _ l53 ⟨rfl, rfl⟩
                  conv => whnf
                  refine eq_str ?_
                  conv => whnf
                  refine cond_go rfl ?_
                  conv => whnf
                  refine cond_s (fun w55 => ?_) (fun w55 => ?_)
                  · replace hl0 := ift w55 hl0
                    conv => whnf
                    refine RStep.of (loadn_s r0 rfl (Nat.le_of_ble_eq_true rfl) ?_)
                    obtain ⟨x58, q58, hl0⟩ := bnd hl0
                    conv => whnf
                    refine call_fn (law32_play_ok q58) (.cons r1 (.cons r1 (.cons r1 .nil))) ?_
                    rintro _ K58 _ l58 ⟨m58_0, m58_1, rfl, rfl⟩
                    obtain ⟨x61, q61, hl0⟩ := bnd hl0
                    conv => whnf
                    refine call_fn (health_Checks_State_nil_ok q61) .nil ?_
                    rintro _ K61 _ l61 ⟨rfl, rfl⟩
                    obtain ⟨x64, q64, hl0⟩ := bnd hl0
                    conv => whnf
                    refine call_fn (health_Checks_State_ok q64) (.cons r0 (.cons r0 (.cons r0 .nil))) ?_
                    rintro _ K64 _ l64 ⟨rfl, rfl⟩
                    conv => whnf
                    refine neq_int ?_
                    obtain ⟨x74, e74, hl0⟩ := bnd hl0
                    conv => whnf
                    refine cond_s (fun g66_14 => ?_) (fun g66_14 => ?_)
                    · replace e74 := ift g66_14 e74
                      conv => whnf
                      refine cond_t g66_14 ?_
                      conv => whnf
                      refine cond_t g66_14 ?_
                      conv => whnf
                      refine cond_t g66_14 ?_
                      conv => whnf
                      refine cond_t g66_14 ?_
                      conv => whnf
                      refine cond_t g66_14 ?_
                      conv => whnf
                      refine cond_t g66_14 ?_
                      conv => whnf
                      refine cond_t g66_14 ?_
                      conv => whnf
                      refine cond_go rfl ?_
                      conv => whnf
                      refine cond_T ?_
                      replace hl0 := ift (si e74).symm hl0
                      obtain rfl := si hl0
                      replace hm := elr hm
                      obtain rfl := si hm
                      conv => whnf
                      refine EndStep.mk _ (((((((((l18.trans l26).trans l31).trans l41).trans lk0).trans l50).trans l53).trans l58).trans l61).trans l64) ⟨rfl, rfl⟩ (ConvH.of (.cons r5 .nil))
                    · replace e74 := iff_ g66_14 e74
                      conv => whnf
                      refine cond_f g66_14 ?_
                      conv => whnf
                      refine cond_f g66_14 ?_
                      obtain ⟨x69, q69, e74⟩ := bnd e74
                      conv => whnf
                      refine call_fn (health_Checks_Drained_nil_ok q69) .nil ?_
                      rintro _ K69 _ l69 ⟨rfl, rfl⟩
                      conv => whnf
                      refine cond_f g66_14 ?_
                      conv => whnf
                      refine cond_f g66_14 ?_
                      conv => whnf
                      refine cond_f g66_14 ?_
                      obtain ⟨x72, q72, e74⟩ := bnd e74
                      conv => whnf
                      refine call_fn (health_Checks_Drained_ok q72) (.cons r0 (.cons r0 (.cons r0 .nil))) ?_
                      rintro _ K72 _ l72 ⟨rfl, rfl⟩
                      conv => whnf
                      refine cond_f g66_14 ?_
                      conv => whnf
                      refine neq_bool rfl ?_
                      conv => whnf
                      refine cond_f g66_14 ?_
                      conv => whnf
                      refine cond_go rfl ?_
                      conv => whnf
                      refine cond_s (fun w74 => ?_) (fun w74 => ?_)
                      · replace hl0 := ift ((si e74).symm.trans w74) hl0
                        obtain rfl := si hl0
                        replace hm := elr hm
                        obtain rfl := si hm
                        conv => whnf
                        refine EndStep.mk _ (((((((((((l18.trans l26).trans l31).trans l41).trans lk0).trans l50).trans l53).trans l58).trans l61).trans l64).trans l69).trans l72) ⟨rfl, rfl⟩ (ConvH.of (.cons r5 .nil))
                      · replace hl0 := iff_ ((si e74).symm.trans w74) hl0
                        conv => whnf
                        refine int_in (cntz hx0 hk0) ?_
                        conv => whnf
                        refine RoundStep.mk (i0 + 1, x58, m58_0, m58_1) ⟨rfl, trivial⟩ (by repeat (first | exact trivial | refine And.intro rfl ?_)) (ConvH.of (.cons r0 (.cons r0 (.cons r0 (.cons r1 (.cons r1 .nil)))))) (((((((lk0.trans l50).trans l53).trans l58).trans l61).trans l64).trans l69).trans l72) (ltm hx0) hl0
                  · replace hl0 := iff_ w55 hl0
                    obtain ⟨x61, q61, hl0⟩ := bnd hl0
                    conv => whnf
                    refine call_fn (health_Checks_State_nil_ok q61) .nil ?_
                    rintro _ K61 _ l61 ⟨rfl, rfl⟩
                    obtain ⟨x64, q64, hl0⟩ := bnd hl0
                    conv => whnf
                    refine call_fn (health_Checks_State_ok q64) (.cons r1 (.cons r1 (.cons r1 .nil))) ?_
                    rintro _ K64 _ l64 ⟨rfl, rfl⟩
                    conv => whnf
                    refine neq_int ?_
                    obtain ⟨x74, e74, hl0⟩ := bnd hl0
                    conv => whnf
                    refine cond_s (fun g66_14 => ?_) (fun g66_14 => ?_)
                    · replace e74 := ift g66_14 e74
                      conv => whnf
                      refine cond_t g66_14 ?_
                      conv => whnf
                      refine cond_t g66_14 ?_
                      conv => whnf
                      refine cond_t g66_14 ?_
                      conv => whnf
                      refine cond_t g66_14 ?_
                      conv => whnf
                      refine cond_t g66_14 ?_
                      conv => whnf
                      refine cond_t g66_14 ?_
                      conv => whnf
                      refine cond_t g66_14 ?_
                      conv => whnf
                      refine cond_go rfl ?_
                      conv => whnf
                      refine cond_T ?_
                      replace hl0 := ift (si e74).symm hl0
                      obtain rfl := si hl0
                      replace hm := elr hm
                      obtain rfl := si hm
                      conv => whnf
                      refine EndStep.mk _ ((((((((l18.trans l26).trans l31).trans l41).trans lk0).trans l50).trans l53).trans l61).trans l64) ⟨rfl, rfl⟩ (ConvH.of (.cons r5 .nil))
                    · replace e74 := iff_ g66_14 e74
                      conv => whnf
                      refine cond_f g66_14 ?_
                      conv => whnf
                      refine cond_f g66_14 ?_
                      obtain ⟨x69, q69, e74⟩ := bnd e74
                      conv => whnf
                      refine call_fn (health_Checks_Drained_nil_ok q69) .nil ?_
                      rintro _ K69 _ l69 ⟨rfl, rfl⟩
                      conv => whnf
                      refine cond_f g66_14 ?_
                      conv => whnf
                      refine cond_f g66_14 ?_
                      conv => whnf
                      refine cond_f g66_14 ?_
                      obtain ⟨x72, q72, e74⟩ := bnd e74
                      conv => whnf
                      refine call_fn (health_Checks_Drained_ok q72) (.cons r0 (.cons r0 (.cons r0 .nil))) ?_
                      rintro _ K72 _ l72 ⟨rfl, rfl⟩
                      conv => whnf
                      refine cond_f g66_14 ?_
                      conv => whnf
                      refine neq_bool rfl ?_
                      conv => whnf
                      refine cond_f g66_14 ?_
                      conv => whnf
                      refine cond_go rfl ?_
                      conv => whnf
                      refine cond_s (fun w74 => ?_) (fun w74 => ?_)
                      · replace hl0 := ift ((si e74).symm.trans w74) hl0
                        obtain rfl := si hl0
                        replace hm := elr hm
                        obtain rfl := si hm
                        conv => whnf
                        refine EndStep.mk _ ((((((((((l18.trans l26).trans l31).trans l41).trans lk0).trans l50).trans l53).trans l61).trans l64).trans l69).trans l72) ⟨rfl, rfl⟩ (ConvH.of (.cons r5 .nil))
                      · replace hl0 := iff_ ((si e74).symm.trans w74) hl0
                        conv => whnf
                        refine int_in (cntz hx0 hk0) ?_
                        conv => whnf
                        refine RoundStep.mk (i0 + 1, y0_0, my0_0_0, my0_0_1) ⟨rfl, trivial⟩ (by repeat (first | exact trivial | refine And.intro rfl ?_)) (ConvH.of (.cons r0 (.cons r0 (.cons r0 (.cons r1 (.cons r1 .nil)))))) ((((((lk0.trans l50).trans l53).trans l61).trans l64).trans l69).trans l72) (ltm hx0) hl0
                · rw [lty w0, law32_HealthAlone_L0b.eq_1] at hl0
                  conv => whnf
                  refine cond_T ?_
                  conv => whnf
                  refine MeetStep.mk (y0_0, my0_0_0, my0_0_1) trivial (by repeat (first | exact trivial | refine And.intro rfl ?_)) (ConvH.of (.cons r0 (.cons r0 (.cons r0 (.cons r0 (.cons r0 .nil)))))) lk0 (si hl0).symm
              · rintro ⟨t0, mt0_0_0, mt0_0_1⟩ Kt0 lt0 rfl j0
                replace hm := elg hm
                obtain ⟨x77, q77, hm⟩ := bnd hm
                conv => whnf
                refine call_fn (health_Checks_Up_nil_ok q77) .nil ?_
                rintro _ K77 _ l77 ⟨a77_0, c77_0, rfl, h77_0, rfl⟩
                obtain ⟨x79, q79, hm⟩ := bnd hm
                conv => whnf
                refine call_fn (Fn.lend Try.call28 (fun K79_0 l79_0 f79_0 => (law32_has_ok q79 f79_0 rfl)) (by exact fun _ _ _ _ h => h)) (.cons r0 .nil) ?_
                rintro _ K79 _ l79 ⟨_, rfl, rfl, rfl⟩
                obtain ⟨x81, q81, hm⟩ := bnd hm
                conv => whnf
                refine call_fn (health_Checks_Up_ok q81) (.cons r1 (.cons r1 (.cons r1 .nil))) ?_
                rintro _ K81 _ l81 ⟨a81_0, c81_0, rfl, h81_0, rfl⟩
                obtain ⟨x83, q83, hm⟩ := bnd hm
                conv => whnf
                refine call_fn (Fn.lend Try.call28 (fun K83_0 l83_0 f83_0 => (law32_has_ok q83 f83_0 rfl)) (by exact fun _ _ _ _ h => h)) (.cons r0 .nil) ?_
                rintro _ K83 _ l83 ⟨_, rfl, rfl, rfl⟩
                conv => whnf
                refine eq_bool rfl ?_
                obtain rfl := si hm
                conv => whnf
                refine EndStep.mk _ ((((((((l18.trans l26).trans l31).trans l41).trans lt0).trans l77).trans l79).trans l81).trans l83) ⟨rfl, rfl⟩ (ConvH.of (.cons r6 .nil))
      · rw [hq26] at p26 hm
        obtain ⟨b26_0, m26_1, m26_2, rfl, rfl⟩ := p26
        replace hm := oe_s hm
        conv => whnf
        refine RStep.of (loadn_s r3 rfl (Nat.le_of_ble_eq_true rfl) ?_)
        obtain ⟨x31, q31, hm⟩ := bnd hm
        conv => whnf
        refine call_fn (law32_made_ok q31) .nil ?_
        rintro v31 K31 H31 l31 p31
        rcases hq31 : x31.1 with _ | o31
        · rw [hq31] at p31 hm
          obtain ⟨rfl, rfl⟩ := p31
          replace hm := oe_n hm
          conv => whnf
          refine un_not ?_
          conv => whnf
          refine cond_s (fun g36_5 => ?_) (fun g36_5 => ?_)
          · conv => whnf
            refine cond_t g36_5 ?_
            conv => whnf
            refine cond_t g36_5 ?_
            conv => whnf
            refine cond_go rfl ?_
            conv => whnf
            refine cond_T ?_
            replace hm := ift (or_t (not_t (ni_t g36_5))) hm
            obtain rfl := si hm
            conv => whnf
            refine EndStep.mk _ ((l18.trans l26).trans l31) ⟨rfl, rfl⟩ (ConvH.of (.cons r4 .nil))
          · conv => whnf
            refine cond_f g36_5 ?_
            conv => whnf
            refine un_not ?_
            conv => whnf
            refine cond_f g36_5 ?_
            conv => whnf
            refine cond_go rfl ?_
            conv => whnf
            refine cond_s (fun w39 => ?_) (fun w39 => ?_)
            · replace hm := ift (or_u (not_f (ni_f g36_5)) (not_t (ni_t w39))) hm
              obtain rfl := si hm
              conv => whnf
              refine EndStep.mk _ ((l18.trans l26).trans l31) ⟨rfl, rfl⟩ (ConvH.of (.cons r4 .nil))
            · replace hm := iff_ (or_f (not_f (ni_f g36_5)) (not_f (ni_f w39))) hm
              obtain ⟨x41, q41, hm⟩ := bnd hm
              conv => whnf
              refine call_fn (law32_name_ok q41) .nil ?_
              rintro _ K41 _ l41 ⟨rfl, rfl⟩
              conv => whnf
              refine RStep.of (len_slice rfl ?_)
              obtain ⟨hk0, hm⟩ := chkb hm
              obtain ⟨s0, hl0, hm⟩ := bnd hm
              conv => whnf
              refine code_cut (σ := (S_health_Checks) × Nat × Nat) [6, 13, 44, 45, 46, 47, 48, 49, 50, 51, 52, 53, 54, 55, 56, 57, 58, 59, 60, 61, 62, 63, 64, 65, 66, 67, 68, 69, 70, 71, 72, 73, 74, 75] (fun (t0, mt0_0_0, mt0_0_1) => []) (fun (t0, mt0_0_0, mt0_0_1) => [Cells b26_0 64 [.int .i64 t0.rise, .int .i64 t0.fall, .map (some mt0_0_0), .map (some mt0_0_1)], MapE strK (fun x => .agg (S_health_status.enc x).toArray) mt0_0_0 t0.nodes, MapE strK (fun x => .bool x) mt0_0_1 t0.drained, Cells b3 31 [.int .i64 x.Rise, .int .i64 x.Fall], F]) (fun zz K1 => match zz with | (t0, mt0_0_0, mt0_0_1) => s0 = Fl.go t0) ?_ ?_
              · refine block_go rfl ?_
                conv => whnf
                refine loop_rule (σ := Nat × S_health_Checks × Nat × Nat) [6, 13, 44, 45, 46, 47, 48, 49, 50, 51, 52, 53, 54, 55, 56, 57, 58, 59, 60, 61, 62, 63, 64, 65, 66, 67, 68, 69, 70, 71, 72, 73, 74, 75] (fun (i0, y0_0, my0_0_0, my0_0_1) => [(44, .int .i64 (i0 : Int))]) (fun (i0, y0_0, my0_0_0, my0_0_1) => [Cells b26_0 64 [.int .i64 y0_0.rise, .int .i64 y0_0.fall, .map (some my0_0_0), .map (some my0_0_1)], MapE strK (fun x => .agg (S_health_status.enc x).toArray) my0_0_0 y0_0.nodes, MapE strK (fun x => .bool x) my0_0_1 y0_0.drained, Cells b3 31 [.int .i64 x.Rise, .int .i64 x.Fall], F]) (fun zz K1 => match zz with | (i0, y0_0, my0_0_0, my0_0_1) => law32_HealthAlone_L0c x41 (script.drop i0) i0 y0_0 = some s0) (fun zz => script.length - zz.1) (0, o26, m26_1, m26_2) rfl ⟨rfl, trivial⟩ (ConvH.of (.cons r0 (.cons r0 (.cons r0 (.cons r0 (.cons r0 .nil)))))) hl0 ?_
                clear hl0
                rintro ⟨i0, y0_0, my0_0_0, my0_0_1⟩ Kb0 lk0 hl0 j0
                conv at hl0 => whnf
                conv => whnf
                refine cond_go rfl ?_
                conv => whnf
                refine cond_s (fun w0 => ?_) (fun w0 => ?_)
                · obtain ⟨e0, hx0, hd0⟩ := ltx w0
                  rw [hd0, law32_HealthAlone_L0c.eq_2] at hl0
                  conv => whnf
                  refine block_go rfl ?_
                  conv => whnf
                  refine RStep.ofN (index_addr rfl rfl (hasK (hp1_0.mono ((((l18.trans l26).trans l31).trans l41).trans lk0)).rd hx0) (nn _) (lt_ofN hx0) ?_)
                  conv => whnf
                  refine RStep.of (load_rd_agg i0 _ (hp1_0.mono ((((l18.trans l26).trans l31).trans l41).trans lk0)).rd rfl (mp hx0) rfl ?_)
                  conv => whnf
                  refine alloc_rule rfl ?_
                  intro b13
                  conv => whnf
                  refine store_rule r0 rfl ?_
                  conv => whnf
                  refine ⟨rfl, rfl, (Nat.le_of_ble_eq_true rfl), ?_⟩
                  conv => whnf
                  refine RStep.of (loadn_s r0 rfl (Nat.le_of_ble_eq_true rfl) ?_)
                  obtain ⟨x50, q50, hl0⟩ := bnd hl0
                  conv => whnf
                  refine call_fn (law32_play_ok q50) (.cons r1 (.cons r1 (.cons r1 .nil))) ?_
                  rintro _ K50 _ l50 ⟨m50_0, m50_1, rfl, rfl⟩
                  conv => whnf
                  refine field_addr rfl ?_
                  conv => whnf
                  refine RStep.of (load1_s r3 rfl rfl ?_)
                  obtain ⟨x53, q53, hl0⟩ := bnd hl0
                  conv => whnf
                  refine call_fn (law32_name_ok q53) .nil ?_
                  rintro _ K53 _ l53 ⟨rfl, rfl⟩
                  conv => whnf
                  refine eq_str ?_
                  conv => whnf
                  refine cond_go rfl ?_
                  conv => whnf
                  refine cond_s (fun w55 => ?_) (fun w55 => ?_)
                  · replace hl0 := ift w55 hl0
                    conv => whnf
                    refine RStep.of (loadn_s r3 rfl (Nat.le_of_ble_eq_true rfl) ?_)
                    obtain ⟨x58, q58, hl0⟩ := bnd hl0
                    conv => whnf
                    refine call_fn (law32_play_nil_ok q58) .nil ?_
                    rintro _ K58 _ l58 ⟨rfl, rfl⟩
                    obtain ⟨x61, q61, hl0⟩ := bnd hl0
                    conv => whnf
                    refine call_fn (health_Checks_State_ok q61) (.cons r0 (.cons r0 (.cons r0 .nil))) ?_
                    rintro _ K61 _ l61 ⟨rfl, rfl⟩
                    obtain ⟨x64, q64, hl0⟩ := bnd hl0
                    conv => whnf
                    refine call_fn (health_Checks_State_nil_ok q64) .nil ?_
                    rintro _ K64 _ l64 ⟨rfl, rfl⟩
                    conv => whnf
                    refine neq_int ?_
                    obtain ⟨x74, e74, hl0⟩ := bnd hl0
                    conv => whnf
                    refine cond_s (fun g66_14 => ?_) (fun g66_14 => ?_)
                    · replace e74 := ift g66_14 e74
                      conv => whnf
                      refine cond_t g66_14 ?_
                      conv => whnf
                      refine cond_t g66_14 ?_
                      conv => whnf
                      refine cond_t g66_14 ?_
                      conv => whnf
                      refine cond_t g66_14 ?_
                      conv => whnf
                      refine cond_t g66_14 ?_
                      conv => whnf
                      refine cond_t g66_14 ?_
                      conv => whnf
                      refine cond_t g66_14 ?_
                      conv => whnf
                      refine cond_go rfl ?_
                      conv => whnf
                      refine cond_T ?_
                      replace hl0 := ift (si e74).symm hl0
                      obtain rfl := si hl0
                      replace hm := elr hm
                      obtain rfl := si hm
                      conv => whnf
                      refine EndStep.mk _ (((((((((l18.trans l26).trans l31).trans l41).trans lk0).trans l50).trans l53).trans l58).trans l61).trans l64) ⟨rfl, rfl⟩ (ConvH.of (.cons r5 .nil))
                    · replace e74 := iff_ g66_14 e74
                      conv => whnf
                      refine cond_f g66_14 ?_
                      conv => whnf
                      refine cond_f g66_14 ?_
                      obtain ⟨x69, q69, e74⟩ := bnd e74
                      conv => whnf
                      refine call_fn (health_Checks_Drained_ok q69) (.cons r0 (.cons r0 (.cons r0 .nil))) ?_
                      rintro _ K69 _ l69 ⟨rfl, rfl⟩
                      conv => whnf
                      refine cond_f g66_14 ?_
                      conv => whnf
                      refine cond_f g66_14 ?_
                      conv => whnf
                      refine cond_f g66_14 ?_
                      obtain ⟨x72, q72, e74⟩ := bnd e74
                      conv => whnf
                      refine call_fn (health_Checks_Drained_nil_ok q72) .nil ?_
                      rintro _ K72 _ l72 ⟨rfl, rfl⟩
                      conv => whnf
                      refine cond_f g66_14 ?_
                      conv => whnf
                      refine neq_bool rfl ?_
                      conv => whnf
                      refine cond_f g66_14 ?_
                      conv => whnf
                      refine cond_go rfl ?_
                      conv => whnf
                      refine cond_s (fun w74 => ?_) (fun w74 => ?_)
                      · replace hl0 := ift ((si e74).symm.trans w74) hl0
                        obtain rfl := si hl0
                        replace hm := elr hm
                        obtain rfl := si hm
                        conv => whnf
                        refine EndStep.mk _ (((((((((((l18.trans l26).trans l31).trans l41).trans lk0).trans l50).trans l53).trans l58).trans l61).trans l64).trans l69).trans l72) ⟨rfl, rfl⟩ (ConvH.of (.cons r5 .nil))
                      · replace hl0 := iff_ ((si e74).symm.trans w74) hl0
                        conv => whnf
                        refine int_in (cntz hx0 hk0) ?_
                        conv => whnf
                        refine RoundStep.mk (i0 + 1, x50, m50_0, m50_1) ⟨rfl, trivial⟩ (by repeat (first | exact trivial | refine And.intro rfl ?_)) (ConvH.of (.cons r0 (.cons r0 (.cons r0 (.cons r1 (.cons r1 .nil)))))) (((((((lk0.trans l50).trans l53).trans l58).trans l61).trans l64).trans l69).trans l72) (ltm hx0) hl0
                  · replace hl0 := iff_ w55 hl0
                    obtain ⟨x61, q61, hl0⟩ := bnd hl0
                    conv => whnf
                    refine call_fn (health_Checks_State_ok q61) (.cons r0 (.cons r0 (.cons r0 .nil))) ?_
                    rintro _ K61 _ l61 ⟨rfl, rfl⟩
                    obtain ⟨x64, q64, hl0⟩ := bnd hl0
                    conv => whnf
                    refine call_fn (health_Checks_State_nil_ok q64) .nil ?_
                    rintro _ K64 _ l64 ⟨rfl, rfl⟩
                    conv => whnf
                    refine neq_int ?_
                    obtain ⟨x74, e74, hl0⟩ := bnd hl0
                    conv => whnf
                    refine cond_s (fun g66_14 => ?_) (fun g66_14 => ?_)
                    · replace e74 := ift g66_14 e74
                      conv => whnf
                      refine cond_t g66_14 ?_
                      conv => whnf
                      refine cond_t g66_14 ?_
                      conv => whnf
                      refine cond_t g66_14 ?_
                      conv => whnf
                      refine cond_t g66_14 ?_
                      conv => whnf
                      refine cond_t g66_14 ?_
                      conv => whnf
                      refine cond_t g66_14 ?_
                      conv => whnf
                      refine cond_t g66_14 ?_
                      conv => whnf
                      refine cond_go rfl ?_
                      conv => whnf
                      refine cond_T ?_
                      replace hl0 := ift (si e74).symm hl0
                      obtain rfl := si hl0
                      replace hm := elr hm
                      obtain rfl := si hm
                      conv => whnf
                      refine EndStep.mk _ ((((((((l18.trans l26).trans l31).trans l41).trans lk0).trans l50).trans l53).trans l61).trans l64) ⟨rfl, rfl⟩ (ConvH.of (.cons r5 .nil))
                    · replace e74 := iff_ g66_14 e74
                      conv => whnf
                      refine cond_f g66_14 ?_
                      conv => whnf
                      refine cond_f g66_14 ?_
                      obtain ⟨x69, q69, e74⟩ := bnd e74
                      conv => whnf
                      refine call_fn (health_Checks_Drained_ok q69) (.cons r0 (.cons r0 (.cons r0 .nil))) ?_
                      rintro _ K69 _ l69 ⟨rfl, rfl⟩
                      conv => whnf
                      refine cond_f g66_14 ?_
                      conv => whnf
                      refine cond_f g66_14 ?_
                      conv => whnf
                      refine cond_f g66_14 ?_
                      obtain ⟨x72, q72, e74⟩ := bnd e74
                      conv => whnf
                      refine call_fn (health_Checks_Drained_nil_ok q72) .nil ?_
                      rintro _ K72 _ l72 ⟨rfl, rfl⟩
                      conv => whnf
                      refine cond_f g66_14 ?_
                      conv => whnf
                      refine neq_bool rfl ?_
                      conv => whnf
                      refine cond_f g66_14 ?_
                      conv => whnf
                      refine cond_go rfl ?_
                      conv => whnf
                      refine cond_s (fun w74 => ?_) (fun w74 => ?_)
                      · replace hl0 := ift ((si e74).symm.trans w74) hl0
                        obtain rfl := si hl0
                        replace hm := elr hm
                        obtain rfl := si hm
                        conv => whnf
                        refine EndStep.mk _ ((((((((((l18.trans l26).trans l31).trans l41).trans lk0).trans l50).trans l53).trans l61).trans l64).trans l69).trans l72) ⟨rfl, rfl⟩ (ConvH.of (.cons r5 .nil))
                      · replace hl0 := iff_ ((si e74).symm.trans w74) hl0
                        conv => whnf
                        refine int_in (cntz hx0 hk0) ?_
                        conv => whnf
                        refine RoundStep.mk (i0 + 1, x50, m50_0, m50_1) ⟨rfl, trivial⟩ (by repeat (first | exact trivial | refine And.intro rfl ?_)) (ConvH.of (.cons r0 (.cons r0 (.cons r0 (.cons r1 (.cons r1 .nil)))))) ((((((lk0.trans l50).trans l53).trans l61).trans l64).trans l69).trans l72) (ltm hx0) hl0
                · rw [lty w0, law32_HealthAlone_L0c.eq_1] at hl0
                  conv => whnf
                  refine cond_T ?_
                  conv => whnf
                  refine MeetStep.mk (y0_0, my0_0_0, my0_0_1) trivial (by repeat (first | exact trivial | refine And.intro rfl ?_)) (ConvH.of (.cons r0 (.cons r0 (.cons r0 (.cons r0 (.cons r0 .nil)))))) lk0 (si hl0).symm
              · rintro ⟨t0, mt0_0_0, mt0_0_1⟩ Kt0 lt0 rfl j0
                replace hm := elg hm
                obtain ⟨x77, q77, hm⟩ := bnd hm
                conv => whnf
                refine call_fn (health_Checks_Up_ok q77) (.cons r0 (.cons r0 (.cons r0 .nil))) ?_
                rintro _ K77 _ l77 ⟨a77_0, c77_0, rfl, h77_0, rfl⟩
                obtain ⟨x79, q79, hm⟩ := bnd hm
                conv => whnf
                refine call_fn (Fn.lend Try.call28 (fun K79_0 l79_0 f79_0 => (law32_has_ok q79 f79_0 rfl)) (by exact fun _ _ _ _ h => h)) (.cons r0 .nil) ?_
                rintro _ K79 _ l79 ⟨_, rfl, rfl, rfl⟩
                obtain ⟨x81, q81, hm⟩ := bnd hm
                conv => whnf
                refine call_fn (health_Checks_Up_nil_ok q81) .nil ?_
                rintro _ K81 _ l81 ⟨a81_0, c81_0, rfl, h81_0, rfl⟩
                obtain ⟨x83, q83, hm⟩ := bnd hm
                conv => whnf
                refine call_fn (Fn.lend Try.call28 (fun K83_0 l83_0 f83_0 => (law32_has_ok q83 f83_0 rfl)) (by exact fun _ _ _ _ h => h)) (.cons r0 .nil) ?_
                rintro _ K83 _ l83 ⟨_, rfl, rfl, rfl⟩
                conv => whnf
                refine eq_bool rfl ?_
                obtain rfl := si hm
                conv => whnf
                refine EndStep.mk _ ((((((((l18.trans l26).trans l31).trans l41).trans lt0).trans l77).trans l79).trans l81).trans l83) ⟨rfl, rfl⟩ (ConvH.of (.cons r6 .nil))
        · rw [hq31] at p31 hm
          obtain ⟨b31_0, m31_1, m31_2, rfl, rfl⟩ := p31
          replace hm := oe_s hm
          conv => whnf
          refine un_not ?_
          conv => whnf
          refine cond_s (fun g36_5 => ?_) (fun g36_5 => ?_)
          · conv => whnf
            refine cond_t g36_5 ?_
            conv => whnf
            refine cond_t g36_5 ?_
            conv => whnf
            refine cond_go rfl ?_
            conv => whnf
            refine cond_T ?_
            replace hm := ift (or_t (not_t (ni_t g36_5))) hm
            obtain rfl := si hm
            conv => whnf
            refine EndStep.mk _ ((l18.trans l26).trans l31) ⟨rfl, rfl⟩ (ConvH.of (.cons r7 .nil))
          · conv => whnf
            refine cond_f g36_5 ?_
            conv => whnf
            refine un_not ?_
            conv => whnf
            refine cond_f g36_5 ?_
            conv => whnf
            refine cond_go rfl ?_
            conv => whnf
            refine cond_s (fun w39 => ?_) (fun w39 => ?_)
            · replace hm := ift (or_u (not_f (ni_f g36_5)) (not_t (ni_t w39))) hm
              obtain rfl := si hm
              conv => whnf
              refine EndStep.mk _ ((l18.trans l26).trans l31) ⟨rfl, rfl⟩ (ConvH.of (.cons r7 .nil))
            · replace hm := iff_ (or_f (not_f (ni_f g36_5)) (not_f (ni_f w39))) hm
              obtain ⟨x41, q41, hm⟩ := bnd hm
              conv => whnf
              refine call_fn (law32_name_ok q41) .nil ?_
              rintro _ K41 _ l41 ⟨rfl, rfl⟩
              conv => whnf
              refine RStep.of (len_slice rfl ?_)
              obtain ⟨hk0, hm⟩ := chkb hm
              obtain ⟨s0, hl0, hm⟩ := bnd hm
              conv => whnf
              refine code_cut (σ := (S_health_Checks × S_health_Checks) × Nat × Nat × Nat × Nat) [6, 13, 44, 45, 46, 47, 48, 49, 50, 51, 52, 53, 54, 55, 56, 57, 58, 59, 60, 61, 62, 63, 64, 65, 66, 67, 68, 69, 70, 71, 72, 73, 74, 75] (fun (t0, mt0_0_0, mt0_0_1, mt0_1_0, mt0_1_1) => []) (fun (t0, mt0_0_0, mt0_0_1, mt0_1_0, mt0_1_1) => [Cells b31_0 64 [.int .i64 t0.1.rise, .int .i64 t0.1.fall, .map (some mt0_0_0), .map (some mt0_0_1)], MapE strK (fun x => .agg (S_health_status.enc x).toArray) mt0_0_0 t0.1.nodes, MapE strK (fun x => .bool x) mt0_0_1 t0.1.drained, Cells b26_0 64 [.int .i64 t0.2.rise, .int .i64 t0.2.fall, .map (some mt0_1_0), .map (some mt0_1_1)], MapE strK (fun x => .agg (S_health_status.enc x).toArray) mt0_1_0 t0.2.nodes, MapE strK (fun x => .bool x) mt0_1_1 t0.2.drained, Cells b3 31 [.int .i64 x.Rise, .int .i64 x.Fall], F]) (fun zz K1 => match zz with | (t0, mt0_0_0, mt0_0_1, mt0_1_0, mt0_1_1) => s0 = Fl.go t0) ?_ ?_
              · refine block_go rfl ?_
                conv => whnf
                refine loop_rule (σ := Nat × S_health_Checks × S_health_Checks × Nat × Nat × Nat × Nat) [6, 13, 44, 45, 46, 47, 48, 49, 50, 51, 52, 53, 54, 55, 56, 57, 58, 59, 60, 61, 62, 63, 64, 65, 66, 67, 68, 69, 70, 71, 72, 73, 74, 75] (fun (i0, y0_0, y0_1, my0_0_0, my0_0_1, my0_1_0, my0_1_1) => [(44, .int .i64 (i0 : Int))]) (fun (i0, y0_0, y0_1, my0_0_0, my0_0_1, my0_1_0, my0_1_1) => [Cells b31_0 64 [.int .i64 y0_0.rise, .int .i64 y0_0.fall, .map (some my0_0_0), .map (some my0_0_1)], MapE strK (fun x => .agg (S_health_status.enc x).toArray) my0_0_0 y0_0.nodes, MapE strK (fun x => .bool x) my0_0_1 y0_0.drained, Cells b26_0 64 [.int .i64 y0_1.rise, .int .i64 y0_1.fall, .map (some my0_1_0), .map (some my0_1_1)], MapE strK (fun x => .agg (S_health_status.enc x).toArray) my0_1_0 y0_1.nodes, MapE strK (fun x => .bool x) my0_1_1 y0_1.drained, Cells b3 31 [.int .i64 x.Rise, .int .i64 x.Fall], F]) (fun zz K1 => match zz with | (i0, y0_0, y0_1, my0_0_0, my0_0_1, my0_1_0, my0_1_1) => law32_HealthAlone_L0d x41 (script.drop i0) i0 y0_0 y0_1 = some s0) (fun zz => script.length - zz.1) (0, o31, o26, m31_1, m31_2, m26_1, m26_2) rfl ⟨rfl, trivial⟩ (ConvH.of (.cons r0 (.cons r0 (.cons r0 (.cons r0 (.cons r0 (.cons r0 (.cons r0 (.cons r0 .nil))))))))) hl0 ?_
                clear hl0
                rintro ⟨i0, y0_0, y0_1, my0_0_0, my0_0_1, my0_1_0, my0_1_1⟩ Kb0 lk0 hl0 j0
                conv at hl0 => whnf
                conv => whnf
                refine cond_go rfl ?_
                conv => whnf
                refine cond_s (fun w0 => ?_) (fun w0 => ?_)
                · obtain ⟨e0, hx0, hd0⟩ := ltx w0
                  rw [hd0, law32_HealthAlone_L0d.eq_2] at hl0
                  conv => whnf
                  refine block_go rfl ?_
                  conv => whnf
                  refine RStep.ofN (index_addr rfl rfl (hasK (hp1_0.mono ((((l18.trans l26).trans l31).trans l41).trans lk0)).rd hx0) (nn _) (lt_ofN hx0) ?_)
                  conv => whnf
                  refine RStep.of (load_rd_agg i0 _ (hp1_0.mono ((((l18.trans l26).trans l31).trans l41).trans lk0)).rd rfl (mp hx0) rfl ?_)
                  conv => whnf
                  refine alloc_rule rfl ?_
                  intro b13
                  conv => whnf
                  refine store_rule r0 rfl ?_
                  conv => whnf
                  refine ⟨rfl, rfl, (Nat.le_of_ble_eq_true rfl), ?_⟩
                  conv => whnf
                  refine RStep.of (loadn_s r0 rfl (Nat.le_of_ble_eq_true rfl) ?_)
                  obtain ⟨x50, q50, hl0⟩ := bnd hl0
                  conv => whnf
                  refine call_fn (law32_play_ok q50) (.cons r4 (.cons r4 (.cons r4 .nil))) ?_
                  rintro _ K50 _ l50 ⟨m50_0, m50_1, rfl, rfl⟩
                  conv => whnf
                  refine field_addr rfl ?_
                  conv => whnf
                  refine RStep.of (load1_s r3 rfl rfl ?_)
                  obtain ⟨x53, q53, hl0⟩ := bnd hl0
                  conv => whnf
                  refine call_fn (law32_name_ok q53) .nil ?_
                  rintro _ K53 _ l53 ⟨rfl, rfl⟩
                  conv => whnf
                  refine eq_str ?_
                  conv => whnf
                  refine cond_go rfl ?_
                  conv => whnf
                  refine cond_s (fun w55 => ?_) (fun w55 => ?_)
                  · replace hl0 := ift w55 hl0
                    conv => whnf
                    refine RStep.of (loadn_s r3 rfl (Nat.le_of_ble_eq_true rfl) ?_)
                    obtain ⟨x58, q58, hl0⟩ := bnd hl0
                    conv => whnf
                    refine call_fn (law32_play_ok q58) (.cons r4 (.cons r4 (.cons r4 .nil))) ?_
                    rintro _ K58 _ l58 ⟨m58_0, m58_1, rfl, rfl⟩
                    obtain ⟨x61, q61, hl0⟩ := bnd hl0
                    conv => whnf
                    refine call_fn (health_Checks_State_ok q61) (.cons r3 (.cons r3 (.cons r3 .nil))) ?_
                    rintro _ K61 _ l61 ⟨rfl, rfl⟩
                    obtain ⟨x64, q64, hl0⟩ := bnd hl0
                    conv => whnf
                    refine call_fn (health_Checks_State_ok q64) (.cons r3 (.cons r3 (.cons r3 .nil))) ?_
                    rintro _ K64 _ l64 ⟨rfl, rfl⟩
                    conv => whnf
                    refine neq_int ?_
                    obtain ⟨x74, e74, hl0⟩ := bnd hl0
                    conv => whnf
                    refine cond_s (fun g66_14 => ?_) (fun g66_14 => ?_)
                    · replace e74 := ift g66_14 e74
                      conv => whnf
                      refine cond_t g66_14 ?_
                      conv => whnf
                      refine cond_t g66_14 ?_
                      conv => whnf
                      refine cond_t g66_14 ?_
                      conv => whnf
                      refine cond_t g66_14 ?_
                      conv => whnf
                      refine cond_t g66_14 ?_
                      conv => whnf
                      refine cond_t g66_14 ?_
                      conv => whnf
                      refine cond_t g66_14 ?_
                      conv => whnf
                      refine cond_go rfl ?_
                      conv => whnf
                      refine cond_T ?_
                      replace hl0 := ift (si e74).symm hl0
                      obtain rfl := si hl0
                      replace hm := elr hm
                      obtain rfl := si hm
                      conv => whnf
                      refine EndStep.mk _ (((((((((l18.trans l26).trans l31).trans l41).trans lk0).trans l50).trans l53).trans l58).trans l61).trans l64) ⟨rfl, rfl⟩ (ConvH.of (.cons r8 .nil))
                    · replace e74 := iff_ g66_14 e74
                      conv => whnf
                      refine cond_f g66_14 ?_
                      conv => whnf
                      refine cond_f g66_14 ?_
                      obtain ⟨x69, q69, e74⟩ := bnd e74
                      conv => whnf
                      refine call_fn (health_Checks_Drained_ok q69) (.cons r3 (.cons r3 (.cons r3 .nil))) ?_
                      rintro _ K69 _ l69 ⟨rfl, rfl⟩
                      conv => whnf
                      refine cond_f g66_14 ?_
                      conv => whnf
                      refine cond_f g66_14 ?_
                      conv => whnf
                      refine cond_f g66_14 ?_
                      obtain ⟨x72, q72, e74⟩ := bnd e74
                      conv => whnf
                      refine call_fn (health_Checks_Drained_ok q72) (.cons r3 (.cons r3 (.cons r3 .nil))) ?_
                      rintro _ K72 _ l72 ⟨rfl, rfl⟩
                      conv => whnf
                      refine cond_f g66_14 ?_
                      conv => whnf
                      refine neq_bool rfl ?_
                      conv => whnf
                      refine cond_f g66_14 ?_
                      conv => whnf
                      refine cond_go rfl ?_
                      conv => whnf
                      refine cond_s (fun w74 => ?_) (fun w74 => ?_)
                      · replace hl0 := ift ((si e74).symm.trans w74) hl0
                        obtain rfl := si hl0
                        replace hm := elr hm
                        obtain rfl := si hm
                        conv => whnf
                        refine EndStep.mk _ (((((((((((l18.trans l26).trans l31).trans l41).trans lk0).trans l50).trans l53).trans l58).trans l61).trans l64).trans l69).trans l72) ⟨rfl, rfl⟩ (ConvH.of (.cons r8 .nil))
                      · replace hl0 := iff_ ((si e74).symm.trans w74) hl0
                        conv => whnf
                        refine int_in (cntz hx0 hk0) ?_
                        conv => whnf
                        refine RoundStep.mk (i0 + 1, x58, x50, m58_0, m58_1, m50_0, m50_1) ⟨rfl, trivial⟩ (by repeat (first | exact trivial | refine And.intro rfl ?_)) (ConvH.of (.cons r0 (.cons r0 (.cons r0 (.cons r0 (.cons r0 (.cons r0 (.cons r1 (.cons r1 .nil))))))))) (((((((lk0.trans l50).trans l53).trans l58).trans l61).trans l64).trans l69).trans l72) (ltm hx0) hl0
                  · replace hl0 := iff_ w55 hl0
                    obtain ⟨x61, q61, hl0⟩ := bnd hl0
                    conv => whnf
                    refine call_fn (health_Checks_State_ok q61) (.cons r0 (.cons r0 (.cons r0 .nil))) ?_
                    rintro _ K61 _ l61 ⟨rfl, rfl⟩
                    obtain ⟨x64, q64, hl0⟩ := bnd hl0
                    conv => whnf
                    refine call_fn (health_Checks_State_ok q64) (.cons r4 (.cons r4 (.cons r4 .nil))) ?_
                    rintro _ K64 _ l64 ⟨rfl, rfl⟩
                    conv => whnf
                    refine neq_int ?_
                    obtain ⟨x74, e74, hl0⟩ := bnd hl0
                    conv => whnf
                    refine cond_s (fun g66_14 => ?_) (fun g66_14 => ?_)
                    · replace e74 := ift g66_14 e74
                      conv => whnf
                      refine cond_t g66_14 ?_
                      conv => whnf
                      refine cond_t g66_14 ?_
                      conv => whnf
                      refine cond_t g66_14 ?_
                      conv => whnf
                      refine cond_t g66_14 ?_
                      conv => whnf
                      refine cond_t g66_14 ?_
                      conv => whnf
                      refine cond_t g66_14 ?_
                      conv => whnf
                      refine cond_t g66_14 ?_
                      conv => whnf
                      refine cond_go rfl ?_
                      conv => whnf
                      refine cond_T ?_
                      replace hl0 := ift (si e74).symm hl0
                      obtain rfl := si hl0
                      replace hm := elr hm
                      obtain rfl := si hm
                      conv => whnf
                      refine EndStep.mk _ ((((((((l18.trans l26).trans l31).trans l41).trans lk0).trans l50).trans l53).trans l61).trans l64) ⟨rfl, rfl⟩ (ConvH.of (.cons r8 .nil))
                    · replace e74 := iff_ g66_14 e74
                      conv => whnf
                      refine cond_f g66_14 ?_
                      conv => whnf
                      refine cond_f g66_14 ?_
                      obtain ⟨x69, q69, e74⟩ := bnd e74
                      conv => whnf
                      refine call_fn (health_Checks_Drained_ok q69) (.cons r3 (.cons r3 (.cons r3 .nil))) ?_
                      rintro _ K69 _ l69 ⟨rfl, rfl⟩
                      conv => whnf
                      refine cond_f g66_14 ?_
                      conv => whnf
                      refine cond_f g66_14 ?_
                      conv => whnf
                      refine cond_f g66_14 ?_
                      obtain ⟨x72, q72, e74⟩ := bnd e74
                      conv => whnf
                      refine call_fn (health_Checks_Drained_ok q72) (.cons r3 (.cons r3 (.cons r3 .nil))) ?_
                      rintro _ K72 _ l72 ⟨rfl, rfl⟩
                      conv => whnf
                      refine cond_f g66_14 ?_
                      conv => whnf
                      refine neq_bool rfl ?_
                      conv => whnf
                      refine cond_f g66_14 ?_
                      conv => whnf
                      refine cond_go rfl ?_
                      conv => whnf
                      refine cond_s (fun w74 => ?_) (fun w74 => ?_)
                      · replace hl0 := ift ((si e74).symm.trans w74) hl0
                        obtain rfl := si hl0
                        replace hm := elr hm
                        obtain rfl := si hm
                        conv => whnf
                        refine EndStep.mk _ ((((((((((l18.trans l26).trans l31).trans l41).trans lk0).trans l50).trans l53).trans l61).trans l64).trans l69).trans l72) ⟨rfl, rfl⟩ (ConvH.of (.cons r8 .nil))
                      · replace hl0 := iff_ ((si e74).symm.trans w74) hl0
                        conv => whnf
                        refine int_in (cntz hx0 hk0) ?_
                        conv => whnf
                        refine RoundStep.mk (i0 + 1, y0_0, x50, my0_0_0, my0_0_1, m50_0, m50_1) ⟨rfl, trivial⟩ (by repeat (first | exact trivial | refine And.intro rfl ?_)) (ConvH.of (.cons r0 (.cons r0 (.cons r0 (.cons r0 (.cons r0 (.cons r0 (.cons r1 (.cons r1 .nil))))))))) ((((((lk0.trans l50).trans l53).trans l61).trans l64).trans l69).trans l72) (ltm hx0) hl0
                · rw [lty w0, law32_HealthAlone_L0d.eq_1] at hl0
                  conv => whnf
                  refine cond_T ?_
                  conv => whnf
                  refine MeetStep.mk ((y0_0, y0_1), my0_0_0, my0_0_1, my0_1_0, my0_1_1) trivial (by repeat (first | exact trivial | refine And.intro rfl ?_)) (ConvH.of (.cons r0 (.cons r0 (.cons r0 (.cons r0 (.cons r0 (.cons r0 (.cons r0 (.cons r0 .nil))))))))) lk0 (si hl0).symm
              · rintro ⟨t0, mt0_0_0, mt0_0_1, mt0_1_0, mt0_1_1⟩ Kt0 lt0 rfl j0
                replace hm := elg hm
                obtain ⟨x77, q77, hm⟩ := bnd hm
                conv => whnf
                refine call_fn (health_Checks_Up_ok q77) (.cons r3 (.cons r3 (.cons r3 .nil))) ?_
                rintro _ K77 _ l77 ⟨a77_0, c77_0, rfl, h77_0, rfl⟩
                obtain ⟨x79, q79, hm⟩ := bnd hm
                conv => whnf
                refine call_fn (Fn.lend Try.call28 (fun K79_0 l79_0 f79_0 => (law32_has_ok q79 f79_0 rfl)) (by exact fun _ _ _ _ h => h)) (.cons r0 .nil) ?_
                rintro _ K79 _ l79 ⟨_, rfl, rfl, rfl⟩
                obtain ⟨x81, q81, hm⟩ := bnd hm
                conv => whnf
                refine call_fn (health_Checks_Up_ok q81) (.cons r4 (.cons r4 (.cons r4 .nil))) ?_
                rintro _ K81 _ l81 ⟨a81_0, c81_0, rfl, h81_0, rfl⟩
                obtain ⟨x83, q83, hm⟩ := bnd hm
                conv => whnf
                refine call_fn (Fn.lend Try.call28 (fun K83_0 l83_0 f83_0 => (law32_has_ok q83 f83_0 rfl)) (by exact fun _ _ _ _ h => h)) (.cons r0 .nil) ?_
                rintro _ K83 _ l83 ⟨_, rfl, rfl, rfl⟩
                conv => whnf
                refine eq_bool rfl ?_
                obtain rfl := si hm
                conv => whnf
                refine EndStep.mk _ ((((((((l18.trans l26).trans l31).trans l41).trans lt0).trans l77).trans l79).trans l81).trans l83) ⟨rfl, rfl⟩ (ConvH.of (.cons r9 .nil))

noncomputable def law32_HealthLists_L2 (x41 : (List Str)) : List Str → Nat → Option (Fl (Bool) (Unit))
  | [], _ => some (Fl.go ())
  | e2 :: xs2, i2 =>
    (if decide ((i2 : Int) > 0) then (chk (InI ((i2 : Int) - 1))).bind fun _ =>
    (ix x41 ((i2 : Int) - 1)).bind fun x53 =>
    some (!Op.bytesLess x53 e2) else some false).bind fun x60 =>
    if x60 then
    some (Fl.ret false)
    else
    law32_HealthLists_L2 x41 xs2 (i2 + 1)
noncomputable def law32_HealthLists_L4 (x41 : (List Str)) : Nat → Nat → Int → Option (Fl (Bool) (Int))
  | 0, _, y4_0 => some (Fl.go y4_0)
  | xs4 + 1, i4, y4_0 =>
    (law32_name (UInt8.ofNat i4)).bind fun x67 =>
    (health_Checks_State_nil x67).bind fun x68 =>
    (if decide (x68 = 1) then (law32_name (UInt8.ofNat i4)).bind fun x73 =>
    (health_Checks_Drained_nil x73).bind fun x74 =>
    some (!x74) else some false).bind fun x76 =>
    if x76 then
    (chk (InI (y4_0 + 1))).bind fun _ =>
    (law32_name (UInt8.ofNat i4)).bind fun x82 =>
    (law32_has x41 x82).bind fun x83 =>
    if (!(x83 == x76)) then
    some (Fl.ret false)
    else
    law32_HealthLists_L4 x41 xs4 (i4 + 1) (y4_0 + 1)
    else
    (law32_name (UInt8.ofNat i4)).bind fun x82 =>
    (law32_has x41 x82).bind fun x83 =>
    if (!(x83 == x76)) then
    some (Fl.ret false)
    else
    law32_HealthLists_L4 x41 xs4 (i4 + 1) y4_0
noncomputable def law32_HealthLists_L0 : List S_law32_Step → Nat → Option (Fl (Bool) (Unit))
  | [], _ => some (Fl.go ())
  | e0 :: xs0, i0 =>
    (law32_play_nil e0).bind fun x39 =>
    (health_Checks_Up_nil).bind fun x41 =>
    (chk (x41.length ≤ szMax)).bind fun _ =>
    (law32_HealthLists_L2 x41 x41 0).bind fun s2 => s2.el (fun r => some (Fl.ret r)) fun t2 =>
    (chk (InI (5 : Int))).bind fun _ =>
    (law32_HealthLists_L4 x41 (5 : Int).toNat 0 0).bind fun s4 => s4.el (fun r => some (Fl.ret r)) fun t4 =>
    if decide (t4 ≠ (x41.length : Int)) then
    some (Fl.ret false)
    else
    law32_HealthLists_L0 xs0 (i0 + 1)
noncomputable def law32_HealthLists_L4b (x39 : S_health_Checks) (x41 : (List Str)) : Nat → Nat → Int → Option (Fl (Bool) (Int))
  | 0, _, y4_0 => some (Fl.go y4_0)
  | xs4 + 1, i4, y4_0 =>
    (law32_name (UInt8.ofNat i4)).bind fun x67 =>
    (health_Checks_State x39 x67).bind fun x68 =>
    (if decide (x68 = 1) then (law32_name (UInt8.ofNat i4)).bind fun x73 =>
    (health_Checks_Drained x39 x73).bind fun x74 =>
    some (!x74) else some false).bind fun x76 =>
    if x76 then
    (chk (InI (y4_0 + 1))).bind fun _ =>
    (law32_name (UInt8.ofNat i4)).bind fun x82 =>
    (law32_has x41 x82).bind fun x83 =>
    if (!(x83 == x76)) then
    some (Fl.ret false)
    else
    law32_HealthLists_L4b x39 x41 xs4 (i4 + 1) (y4_0 + 1)
    else
    (law32_name (UInt8.ofNat i4)).bind fun x82 =>
    (law32_has x41 x82).bind fun x83 =>
    if (!(x83 == x76)) then
    some (Fl.ret false)
    else
    law32_HealthLists_L4b x39 x41 xs4 (i4 + 1) y4_0
noncomputable def law32_HealthLists_L0b : List S_law32_Step → Nat → S_health_Checks → Option (Fl (Bool) (S_health_Checks))
  | [], _, y0_0 => some (Fl.go y0_0)
  | e0 :: xs0, i0, y0_0 =>
    (law32_play y0_0 e0).bind fun x39 =>
    (health_Checks_Up x39).bind fun x41 =>
    (chk (x41.length ≤ szMax)).bind fun _ =>
    (law32_HealthLists_L2 x41 x41 0).bind fun s2 => s2.el (fun r => some (Fl.ret r)) fun t2 =>
    (chk (InI (5 : Int))).bind fun _ =>
    (law32_HealthLists_L4b x39 x41 (5 : Int).toNat 0 0).bind fun s4 => s4.el (fun r => some (Fl.ret r)) fun t4 =>
    if decide (t4 ≠ (x41.length : Int)) then
    some (Fl.ret false)
    else
    law32_HealthLists_L0b xs0 (i0 + 1) x39
noncomputable def law32_HealthLists (x : S_law32_Limits) (script : (List S_law32_Step)) : Option (Bool) :=
  (if decide ((script.length : Int) > 100) then some true else (law32_awake).bind fun x18 =>
  some (!x18)).bind fun x20 =>
  if x20 then
  some (decide ((script.length : Int) > 100))
  else
  (law32_made x).bind fun x26 =>
  Option.elim x26.1 (
  if (!x26.2) then
  some false
  else
  (chk (script.length ≤ szMax)).bind fun _ =>
  (law32_HealthLists_L0 script 0).bind fun s0 => s0.el some fun t0 =>
  some true)
   fun o26 =>
  if (!x26.2) then
  some false
  else
  (chk (script.length ≤ szMax)).bind fun _ =>
  (law32_HealthLists_L0b script 0 o26).bind fun s0 => s0.el some fun t0 =>
  some true
set_option maxHeartbeats 8000000 in
theorem law32_HealthLists_ok {x : S_law32_Limits} {script : (List S_law32_Step)} {ap1_0 : Option Addr} {cp1_0 : Nat} {n1 : Nat} {K : Hp} {r : Bool}
    (hm : law32_HealthLists x script = some r) (hp1_0 : RdC S_law32_Step.enc K ap1_0 cp1_0 2 script) (en1 : n1 = script.length) :
    Fn Try.prog 7 [.agg #[.int .i64 x.Rise, .int .i64 x.Fall], .slice ap1_0 n1 cp1_0] K [] (fun v K' H' => v = .bool r ∧ H' = []) := by
  subst en1
  refine Fn.enter Try.func7 Try.call7 rfl fun F => ?_
  unfold law32_HealthLists at hm
  conv => whnf
  refine box_rule ?_
  intro b2
  conv => whnf
  refine RStep.of (len_slice rfl ?_)
  obtain ⟨x20, e20, hm⟩ := bnd hm
  conv => whnf
  refine cond_s (fun g17_1 => ?_) (fun g17_1 => ?_)
  · replace e20 := ift g17_1 e20
    conv => whnf
    refine cond_t g17_1 ?_
    conv => whnf
    refine cond_t g17_1 ?_
    conv => whnf
    refine cond_go rfl ?_
    conv => whnf
    refine cond_T ?_
    replace hm := ift (si e20).symm hm
    conv => whnf
    refine RStep.of (len_slice rfl ?_)
    obtain rfl := si hm
    conv => whnf
    refine EndStep.mk _ (Hp.Le.refl _) ⟨rfl, rfl⟩ (ConvH.of (.cons r1 .nil))
  · replace e20 := iff_ g17_1 e20
    obtain ⟨x18, q18, e20⟩ := bnd e20
    conv => whnf
    refine call_fn (law32_awake_ok q18) .nil ?_
    rintro _ K18 _ l18 ⟨rfl, rfl⟩
    conv => whnf
    refine cond_f g17_1 ?_
    conv => whnf
    refine un_not ?_
    conv => whnf
    refine cond_f g17_1 ?_
    conv => whnf
    refine cond_go rfl ?_
    conv => whnf
    refine cond_s (fun w20 => ?_) (fun w20 => ?_)
    · replace hm := ift ((si e20).symm.trans (not_t (ni_t w20))) hm
      conv => whnf
      refine RStep.of (len_slice rfl ?_)
      obtain rfl := si hm
      conv => whnf
      refine EndStep.mk _ l18 ⟨rfl, rfl⟩ (ConvH.of (.cons r1 .nil))
    · replace hm := iff_ ((si e20).symm.trans (not_f (ni_f w20))) hm
      conv => whnf
      refine RStep.of (loadn_s r0 rfl (Nat.le_of_ble_eq_true rfl) ?_)
      obtain ⟨x26, q26, hm⟩ := bnd hm
      conv => whnf
      refine call_fn (law32_made_ok q26) .nil ?_
      rintro v26 K26 H26 l26 p26
      rcases hq26 : x26.1 with _ | o26
      · rw [hq26] at p26 hm
        obtain ⟨rfl, rfl⟩ := p26
        replace hm := oe_n hm
        conv => whnf
        refine un_not ?_
        conv => whnf
        refine cond_go rfl ?_
        conv => whnf
        refine cond_s (fun w30 => ?_) (fun w30 => ?_)
        · replace hm := ift (not_t (ni_t w30)) hm
          obtain rfl := si hm
          conv => whnf
          refine EndStep.mk _ (l18.trans l26) ⟨rfl, rfl⟩ (ConvH.of (.cons r1 .nil))
        · replace hm := iff_ (not_f (ni_f w30)) hm
          conv => whnf
          refine RStep.of (len_slice rfl ?_)
          obtain ⟨hk0, hm⟩ := chkb hm
          obtain ⟨s0, hl0, hm⟩ := bnd hm
          conv => whnf
          refine code_cut (σ := (Unit)) [4, 8, 9, 10, 11, 12, 13, 33, 34, 35, 36, 37, 38, 39, 40, 41, 42, 43, 44, 45, 46, 47, 48, 49, 50, 51, 52, 53, 54, 55, 56, 57, 58, 59, 60, 61, 62, 63, 64, 65, 66, 67, 68, 69, 70, 71, 72, 73, 74, 75, 76, 77, 78, 79, 80, 81, 82, 83, 84, 85, 86, 87, 88, 89, 90, 91] (fun t0 => []) (fun t0 => [Cells b2 31 [.int .i64 x.Rise, .int .i64 x.Fall], F]) (fun zz K1 => match zz with | t0 => s0 = Fl.go t0) ?_ ?_
          · refine block_go rfl ?_
            conv => whnf
            refine loop_rule (σ := Nat) [4, 8, 9, 10, 11, 12, 13, 33, 34, 35, 36, 37, 38, 39, 40, 41, 42, 43, 44, 45, 46, 47, 48, 49, 50, 51, 52, 53, 54, 55, 56, 57, 58, 59, 60, 61, 62, 63, 64, 65, 66, 67, 68, 69, 70, 71, 72, 73, 74, 75, 76, 77, 78, 79, 80, 81, 82, 83, 84, 85, 86, 87, 88, 89, 90, 91] (fun i0 => [(33, .int .i64 (i0 : Int))]) (fun i0 => [Cells b2 31 [.int .i64 x.Rise, .int .i64 x.Fall], F]) (fun zz K1 => match zz with | i0 => law32_HealthLists_L0 (script.drop i0) i0 = some s0) (fun zz => script.length - zz) (0) rfl ⟨rfl, trivial⟩ (ConvH.of (.cons r0 (.cons r0 .nil))) hl0 ?_
            clear hl0
            rintro i0 Kb0 lk0 hl0 j0
            conv at hl0 => whnf
            conv => whnf
            refine cond_go rfl ?_
            conv => whnf
            refine cond_s (fun w0 => ?_) (fun w0 => ?_)
            · obtain ⟨e0, hx0, hd0⟩ := ltx w0
              rw [hd0, law32_HealthLists_L0.eq_2] at hl0
              conv => whnf
              refine block_go rfl ?_
              conv => whnf
              refine RStep.ofN (index_addr rfl rfl (hasK (hp1_0.mono ((l18.trans l26).trans lk0)).rd hx0) (nn _) (lt_ofN hx0) ?_)
              conv => whnf
              refine RStep.of (load_rd_agg i0 _ (hp1_0.mono ((l18.trans l26).trans lk0)).rd rfl (mp hx0) rfl ?_)
              conv => whnf
              refine alloc_rule rfl ?_
              intro b8
              conv => whnf
              refine store_rule r0 rfl ?_
              conv => whnf
              refine ⟨rfl, rfl, (Nat.le_of_ble_eq_true rfl), ?_⟩
              conv => whnf
              refine RStep.of (loadn_s r0 rfl (Nat.le_of_ble_eq_true rfl) ?_)
              obtain ⟨x39, q39, hl0⟩ := bnd hl0
              conv => whnf
              refine call_fn (law32_play_nil_ok q39) .nil ?_
              rintro _ K39 _ l39 ⟨rfl, rfl⟩
              obtain ⟨x41, q41, hl0⟩ := bnd hl0
              conv => whnf
              refine call_fn (health_Checks_Up_nil_ok q41) .nil ?_
              rintro _ K41 _ l41 ⟨a41_0, c41_0, rfl, h41_0, rfl⟩
              conv => whnf
              refine RStep.of (len_slice rfl ?_)
              obtain ⟨hk2, hl0⟩ := chkb hl0
              obtain ⟨s2, hl2, hl0⟩ := bnd hl0
              conv => whnf
              refine code_cut (σ := (Unit)) [4, 10, 44, 45, 46, 47, 48, 49, 50, 51, 52, 53, 54, 55, 56, 57, 58, 59, 60, 61] (fun t2 => []) (fun t2 => [OwnL eS a41_0 9 1 c41_0 x41, Cells b8 34 [.int .u8 (e0.What.toNat : Int), .int .u8 (e0.Node.toNat : Int)], Cells b2 31 [.int .i64 x.Rise, .int .i64 x.Fall], F]) (fun zz K1 => match zz with | t2 => s2 = Fl.go t2) ?_ ?_
              · refine block_go rfl ?_
                conv => whnf
                refine loop_rule (σ := Nat) [4, 10, 44, 45, 46, 47, 48, 49, 50, 51, 52, 53, 54, 55, 56, 57, 58, 59, 60, 61] (fun i2 => [(44, .int .i64 (i2 : Int))]) (fun i2 => [OwnL eS a41_0 9 1 c41_0 x41, Cells b8 34 [.int .u8 (e0.What.toNat : Int), .int .u8 (e0.Node.toNat : Int)], Cells b2 31 [.int .i64 x.Rise, .int .i64 x.Fall], F]) (fun zz K1 => match zz with | i2 => law32_HealthLists_L2 x41 (x41.drop i2) i2 = some s2) (fun zz => x41.length - zz) (0) rfl ⟨rfl, trivial⟩ (ConvH.of (.cons r0 (.cons r0 (.cons r0 (.cons r0 .nil))))) hl2 ?_
                clear hl2
                rintro i2 Kb2 lk2 hl2 j2
                conv at hl2 => whnf
                conv => whnf
                refine cond_go rfl ?_
                conv => whnf
                refine cond_s (fun w2 => ?_) (fun w2 => ?_)
                · obtain ⟨e2, hx2, hd2⟩ := ltx w2
                  rw [hd2, law32_HealthLists_L2.eq_2] at hl2
                  conv => whnf
                  refine block_go rfl ?_
                  conv => whnf
                  refine ⟨⟨⟨[], true⟩, _, []⟩, by kernel_rfl, ⟨Hp.Le.refl _, (ConvH.of .nil)⟩, ?_⟩
                  obtain ⟨x60, e60, hl2⟩ := bnd hl2
                  conv => whnf
                  refine cond_s (fun g49_14 => ?_) (fun g49_14 => ?_)
                  · replace e60 := ift g49_14 e60
                    conv => whnf
                    refine cond_t g49_14 ?_
                    conv => whnf
                    refine cond_t g49_14 ?_
                    obtain ⟨h52, e60⟩ := chkb e60
                    conv => whnf
                    refine int_in h52 ?_
                    conv => whnf
                    refine cond_t g49_14 ?_
                    obtain ⟨x53, l53, k53, e60⟩ := ixb e60
                    conv => whnf
                    refine index_addr rfl rfl (hasO h41_0 k53) l53 (lt_ofE rfl l53 k53) ?_
                    conv => whnf
                    refine cond_t g49_14 ?_
                    conv => whnf
                    refine ld_own (i := (((i2 : Int) - 1)).toNat) (o := 0) r0 rfl k53 rfl rfl ?_
                    conv => whnf
                    refine cond_t g49_14 ?_
                    conv => whnf
                    refine cond_t g49_14 ?_
                    conv => whnf
                    refine cond_t g49_14 ?_
                    conv => whnf
                    refine index_addr rfl rfl (hasO h41_0 hx2) (nn _) (lt_ofNE rfl hx2) ?_
                    conv => whnf
                    refine cond_t g49_14 ?_
                    conv => whnf
                    refine ld_own (i := i2) (o := 0) r0 rfl hx2 rfl rfl ?_
                    conv => whnf
                    refine cond_t g49_14 ?_
                    conv => whnf
                    refine geq_str ?_
                    conv => whnf
                    refine cond_t g49_14 ?_
                    conv => whnf
                    refine cond_go rfl ?_
                    conv => whnf
                    refine cond_s (fun w60 => ?_) (fun w60 => ?_)
                    · replace hl2 := ift ((si e60).symm.trans w60) hl2
                      obtain rfl := si hl2
                      replace hl0 := elr hl0
                      obtain rfl := si hl0
                      replace hm := elr hm
                      obtain rfl := si hm
                      conv => whnf
                      refine EndStep.mk _ (((((l18.trans l26).trans lk0).trans l39).trans l41).trans lk2) ⟨rfl, rfl⟩ (ConvH.of (.cons r3 .nil))
                    · replace hl2 := iff_ ((si e60).symm.trans w60) hl2
                      conv => whnf
                      refine int_in (cntz hx2 hk2) ?_
                      conv => whnf
                      refine RoundStep.mk (i2 + 1) ⟨rfl, trivial⟩ (by repeat (first | exact trivial | refine And.intro rfl ?_)) (ConvH.of (.cons r0 (.cons r0 (.cons r0 (.cons r0 .nil))))) lk2 (ltm hx2) hl2
                  · replace e60 := iff_ g49_14 e60
                    conv => whnf
                    refine cond_f g49_14 ?_
                    conv => whnf
                    refine cond_f g49_14 ?_
                    conv => whnf
                    refine cond_f g49_14 ?_
                    conv => whnf
                    refine cond_f g49_14 ?_
                    conv => whnf
                    refine cond_f g49_14 ?_
                    conv => whnf
                    refine cond_f g49_14 ?_
                    conv => whnf
                    refine cond_f g49_14 ?_
                    conv => whnf
                    refine cond_f g49_14 ?_
                    conv => whnf
                    refine cond_f g49_14 ?_
                    conv => whnf
                    refine cond_f g49_14 ?_
                    conv => whnf
                    refine cond_go rfl ?_
                    conv => whnf
                    refine cond_F ?_
                    replace hl2 := iff_ (si e60).symm hl2
                    conv => whnf
                    refine int_in (cntz hx2 hk2) ?_
                    conv => whnf
                    refine RoundStep.mk (i2 + 1) ⟨rfl, trivial⟩ (by repeat (first | exact trivial | refine And.intro rfl ?_)) (ConvH.of (.cons r0 (.cons r0 (.cons r0 (.cons r0 .nil))))) lk2 (ltm hx2) hl2
                · rw [lty w2, law32_HealthLists_L2.eq_1] at hl2
                  conv => whnf
                  refine cond_T ?_
                  conv => whnf
                  refine MeetStep.mk (()) trivial (by repeat (first | exact trivial | refine And.intro rfl ?_)) (ConvH.of (.cons r0 (.cons r0 (.cons r0 (.cons r0 .nil))))) lk2 (si hl2).symm
              · rintro t2 Kt2 lt2 rfl j2
                replace hl0 := elg hl0
                obtain ⟨hk4, hl0⟩ := chkb hl0
                obtain ⟨s4, hl4, hl0⟩ := bnd hl0
                conv => whnf
                refine code_cut (σ := (Int)) [4, 11, 12, 13, 62, 63, 64, 65, 66, 67, 68, 69, 70, 71, 72, 73, 74, 75, 76, 77, 78, 79, 80, 81, 82, 83, 84, 85, 86] (fun t4 => [(11, .int .i64 t4)]) (fun t4 => [OwnL eS a41_0 9 1 c41_0 x41, Cells b8 34 [.int .u8 (e0.What.toNat : Int), .int .u8 (e0.Node.toNat : Int)], Cells b2 31 [.int .i64 x.Rise, .int .i64 x.Fall], F]) (fun zz K1 => match zz with | t4 => s4 = Fl.go t4) ?_ ?_
                · refine block_go rfl ?_
                  conv => whnf
                  refine loop_rule (σ := Nat × Int) [4, 11, 12, 13, 62, 63, 64, 65, 66, 67, 68, 69, 70, 71, 72, 73, 74, 75, 76, 77, 78, 79, 80, 81, 82, 83, 84, 85, 86] (fun (i4, y4_0) => [(62, .int .u8 ((UInt8.ofNat i4).toNat : Int)), (11, .int .i64 y4_0)]) (fun (i4, y4_0) => [OwnL eS a41_0 9 1 c41_0 x41, Cells b8 34 [.int .u8 (e0.What.toNat : Int), .int .u8 (e0.Node.toNat : Int)], Cells b2 31 [.int .i64 x.Rise, .int .i64 x.Fall], F]) (fun zz K1 => match zz with | (i4, y4_0) => i4 ≤ 255 ∧ law32_HealthLists_L4 x41 ((5 : Int).toNat - i4) i4 y4_0 = some s4) (fun zz => (5 : Int).toNat - zz.1) (0, 0) rfl ⟨rfl, rfl, trivial⟩ (ConvH.of (.cons r0 (.cons r0 (.cons r0 (.cons r0 .nil))))) ⟨(Nat.zero_le _), hl4⟩ ?_
                  clear hl4
                  rintro ⟨i4, y4_0⟩ Kb4 lk4 ⟨hu4, hl4⟩ j4
                  conv => whnf
                  refine cond_go rfl ?_
                  conv => whnf
                  refine cond_s (fun w4 => ?_) (fun w4 => ?_)
                  · replace w4 := u8c_w hu4 w4
                    rw [ltn w4, law32_HealthLists_L4.eq_2] at hl4
                    conv => whnf
                    refine block_go rfl ?_
                    obtain ⟨x67, q67, hl4⟩ := bnd hl4
                    conv => whnf
                    refine call_fn (law32_name_ok q67) .nil ?_
                    rintro _ K67 _ l67 ⟨rfl, rfl⟩
                    obtain ⟨x68, q68, hl4⟩ := bnd hl4
                    conv => whnf
                    refine call_fn (health_Checks_State_nil_ok q68) .nil ?_
                    rintro _ K68 _ l68 ⟨rfl, rfl⟩
                    conv => whnf
                    refine eq_int ?_
                    obtain ⟨x76, e76, hl4⟩ := bnd hl4
                    conv => whnf
                    refine cond_s (fun g70_21 => ?_) (fun g70_21 => ?_)
                    · replace e76 := ift g70_21 e76
                      conv => whnf
                      refine cond_t g70_21 ?_
                      conv => whnf
                      refine cond_t g70_21 ?_
                      obtain ⟨x73, q73, e76⟩ := bnd e76
                      conv => whnf
                      refine call_fn (law32_name_ok q73) .nil ?_
                      rintro _ K73 _ l73 ⟨rfl, rfl⟩
                      conv => whnf
                      refine cond_t g70_21 ?_
                      obtain ⟨x74, q74, e76⟩ := bnd e76
                      conv => whnf
                      refine call_fn (health_Checks_Drained_nil_ok q74) .nil ?_
                      rintro _ K74 _ l74 ⟨rfl, rfl⟩
                      conv => whnf
                      refine cond_t g70_21 ?_
                      conv => whnf
                      refine un_not ?_
                      conv => whnf
                      refine cond_t g70_21 ?_
                      conv => whnf
                      refine cond_go rfl ?_
                      conv => whnf
                      refine cond_s (fun w77 => ?_) (fun w77 => ?_)
                      · replace hl4 := ift ((si e76).symm.trans (not_t (ni_t w77))) hl4
                        obtain ⟨h79, hl4⟩ := chkb hl4
                        conv => whnf
                        refine int_in h79 ?_
                        obtain ⟨x82, q82, hl4⟩ := bnd hl4
                        conv => whnf
                        refine call_fn (law32_name_ok q82) .nil ?_
                        rintro _ K82 _ l82 ⟨rfl, rfl⟩
                        obtain ⟨x83, q83, hl4⟩ := bnd hl4
                        conv => whnf
                        refine call_fn (Fn.lend Try.call28 (fun K83_0 l83_0 f83_0 => (law32_has_ok q83 f83_0 rfl)) (by exact fun _ _ _ _ h => h)) (.cons r0 .nil) ?_
                        rintro _ K83 _ l83 ⟨_, rfl, rfl, rfl⟩
                        conv => whnf
                        refine neq_bool rfl ?_
                        conv => whnf
                        refine cond_go rfl ?_
                        conv => whnf
                        refine cond_s (fun w85 => ?_) (fun w85 => ?_)
                        · replace hl4 := ift ((bne_e rfl (si e76)).symm.trans w85) hl4
                          obtain rfl := si hl4
                          replace hl0 := elr hl0
                          obtain rfl := si hl0
                          replace hm := elr hm
                          obtain rfl := si hm
                          conv => whnf
                          refine EndStep.mk _ ((((((((((((l18.trans l26).trans lk0).trans l39).trans l41).trans lt2).trans lk4).trans l67).trans l68).trans l73).trans l74).trans l82).trans l83) ⟨rfl, rfl⟩ (ConvH.of (.cons r3 .nil))
                        · replace hl4 := iff_ ((bne_e rfl (si e76)).symm.trans w85) hl4
                          conv => whnf
                          refine u8c_inc rfl ?_
                          conv => whnf
                          refine RoundStep.mk (i4 + 1, (y4_0 + 1)) ⟨rfl, rfl, trivial⟩ (by repeat (first | exact trivial | refine And.intro rfl ?_)) (ConvH.of (.cons r0 (.cons r0 (.cons r0 (.cons r0 .nil))))) ((((((lk4.trans l67).trans l68).trans l73).trans l74).trans l82).trans l83) (ltnm w4) ⟨(u8c_le w4 rfl), hl4⟩
                      · replace hl4 := iff_ ((si e76).symm.trans (not_f (ni_f w77))) hl4
                        obtain ⟨x82, q82, hl4⟩ := bnd hl4
                        conv => whnf
                        refine call_fn (law32_name_ok q82) .nil ?_
                        rintro _ K82 _ l82 ⟨rfl, rfl⟩
                        obtain ⟨x83, q83, hl4⟩ := bnd hl4
                        conv => whnf
                        refine call_fn (Fn.lend Try.call28 (fun K83_0 l83_0 f83_0 => (law32_has_ok q83 f83_0 rfl)) (by exact fun _ _ _ _ h => h)) (.cons r0 .nil) ?_
                        rintro _ K83 _ l83 ⟨_, rfl, rfl, rfl⟩
                        conv => whnf
                        refine neq_bool rfl ?_
                        conv => whnf
                        refine cond_go rfl ?_
                        conv => whnf
                        refine cond_s (fun w85 => ?_) (fun w85 => ?_)
                        · replace hl4 := ift ((bne_e rfl (si e76)).symm.trans w85) hl4
                          obtain rfl := si hl4
                          replace hl0 := elr hl0
                          obtain rfl := si hl0
                          replace hm := elr hm
                          obtain rfl := si hm
                          conv => whnf
                          refine EndStep.mk _ ((((((((((((l18.trans l26).trans lk0).trans l39).trans l41).trans lt2).trans lk4).trans l67).trans l68).trans l73).trans l74).trans l82).trans l83) ⟨rfl, rfl⟩ (ConvH.of (.cons r3 .nil))
                        · replace hl4 := iff_ ((bne_e rfl (si e76)).symm.trans w85) hl4
                          conv => whnf
                          refine u8c_inc rfl ?_
                          conv => whnf
                          refine RoundStep.mk (i4 + 1, y4_0) ⟨rfl, rfl, trivial⟩ (by repeat (first | exact trivial | refine And.intro rfl ?_)) (ConvH.of (.cons r0 (.cons r0 (.cons r0 (.cons r0 .nil))))) ((((((lk4.trans l67).trans l68).trans l73).trans l74).trans l82).trans l83) (ltnm w4) ⟨(u8c_le w4 rfl), hl4⟩
                    · replace e76 := iff_ g70_21 e76
                      conv => whnf
                      refine cond_f g70_21 ?_
                      conv => whnf
                      refine cond_f g70_21 ?_
                      conv => whnf
                      refine cond_f g70_21 ?_
                      conv => whnf
                      refine cond_f g70_21 ?_
                      conv => whnf
                      refine cond_f g70_21 ?_
                      conv => whnf
                      refine cond_go rfl ?_
                      conv => whnf
                      refine cond_F ?_
                      replace hl4 := iff_ (si e76).symm hl4
                      obtain ⟨x82, q82, hl4⟩ := bnd hl4
                      conv => whnf
                      refine call_fn (law32_name_ok q82) .nil ?_
                      rintro _ K82 _ l82 ⟨rfl, rfl⟩
                      obtain ⟨x83, q83, hl4⟩ := bnd hl4
                      conv => whnf
                      refine call_fn (Fn.lend Try.call28 (fun K83_0 l83_0 f83_0 => (law32_has_ok q83 f83_0 rfl)) (by exact fun _ _ _ _ h => h)) (.cons r0 .nil) ?_
                      rintro _ K83 _ l83 ⟨_, rfl, rfl, rfl⟩
                      conv => whnf
                      refine neq_bool rfl ?_
                      conv => whnf
                      refine cond_go rfl ?_
                      conv => whnf
                      refine cond_s (fun w85 => ?_) (fun w85 => ?_)
                      · replace hl4 := ift ((bne_e rfl ((si e76).symm).symm).symm.trans w85) hl4
                        obtain rfl := si hl4
                        replace hl0 := elr hl0
                        obtain rfl := si hl0
                        replace hm := elr hm
                        obtain rfl := si hm
                        conv => whnf
                        refine EndStep.mk _ ((((((((((l18.trans l26).trans lk0).trans l39).trans l41).trans lt2).trans lk4).trans l67).trans l68).trans l82).trans l83) ⟨rfl, rfl⟩ (ConvH.of (.cons r3 .nil))
                      · replace hl4 := iff_ ((bne_e rfl ((si e76).symm).symm).symm.trans w85) hl4
                        conv => whnf
                        refine u8c_inc rfl ?_
                        conv => whnf
                        refine RoundStep.mk (i4 + 1, y4_0) ⟨rfl, rfl, trivial⟩ (by repeat (first | exact trivial | refine And.intro rfl ?_)) (ConvH.of (.cons r0 (.cons r0 (.cons r0 (.cons r0 .nil))))) ((((lk4.trans l67).trans l68).trans l82).trans l83) (ltnm w4) ⟨(u8c_le w4 rfl), hl4⟩
                  · replace w4 := u8c_w hu4 w4
                    rw [lto w4, law32_HealthLists_L4.eq_1] at hl4
                    conv => whnf
                    refine cond_T ?_
                    conv => whnf
                    refine MeetStep.mk (y4_0) ⟨rfl, trivial⟩ (by repeat (first | exact trivial | refine And.intro rfl ?_)) (ConvH.of (.cons r0 (.cons r0 (.cons r0 (.cons r0 .nil))))) lk4 (si hl4).symm
                · rintro t4 Kt4 lt4 rfl j4
                  replace hl0 := elg hl0
                  conv => whnf
                  refine RStep.of (len_slice rfl ?_)
                  conv => whnf
                  refine neq_int ?_
                  conv => whnf
                  refine cond_go rfl ?_
                  conv => whnf
                  refine cond_s (fun w90 => ?_) (fun w90 => ?_)
                  · replace hl0 := ift w90 hl0
                    obtain rfl := si hl0
                    replace hm := elr hm
                    obtain rfl := si hm
                    conv => whnf
                    refine EndStep.mk _ ((((((l18.trans l26).trans lk0).trans l39).trans l41).trans lt2).trans lt4) ⟨rfl, rfl⟩ (ConvH.of (.cons r3 .nil))
                  · replace hl0 := iff_ w90 hl0
                    conv => whnf
                    refine int_in (cntz hx0 hk0) ?_
                    conv => whnf
                    refine RoundStep.mk (i0 + 1) ⟨rfl, trivial⟩ (by repeat (first | exact trivial | refine And.intro rfl ?_)) (ConvH.of (.cons r2 (.cons r2 .nil))) ((((lk0.trans l39).trans l41).trans lt2).trans lt4) (ltm hx0) hl0
            · rw [lty w0, law32_HealthLists_L0.eq_1] at hl0
              conv => whnf
              refine cond_T ?_
              conv => whnf
              refine MeetStep.mk (()) trivial (by repeat (first | exact trivial | refine And.intro rfl ?_)) (ConvH.of (.cons r0 (.cons r0 .nil))) lk0 (si hl0).symm
          · rintro t0 Kt0 lt0 rfl j0
            replace hm := elg hm
            obtain rfl := si hm
            conv => whnf
            refine EndStep.mk _ ((l18.trans l26).trans lt0) ⟨rfl, rfl⟩ (ConvH.of (.cons r1 .nil))
      · rw [hq26] at p26 hm
        obtain ⟨b26_0, m26_1, m26_2, rfl, rfl⟩ := p26
        replace hm := oe_s hm
        conv => whnf
        refine un_not ?_
        conv => whnf
        refine cond_go rfl ?_
        conv => whnf
        refine cond_s (fun w30 => ?_) (fun w30 => ?_)
        · replace hm := ift (not_t (ni_t w30)) hm
          obtain rfl := si hm
          conv => whnf
          refine EndStep.mk _ (l18.trans l26) ⟨rfl, rfl⟩ (ConvH.of (.cons r4 .nil))
        · replace hm := iff_ (not_f (ni_f w30)) hm
          conv => whnf
          refine RStep.of (len_slice rfl ?_)
          obtain ⟨hk0, hm⟩ := chkb hm
          obtain ⟨s0, hl0, hm⟩ := bnd hm
          conv => whnf
          refine code_cut (σ := (S_health_Checks) × Nat × Nat) [4, 8, 9, 10, 11, 12, 13, 33, 34, 35, 36, 37, 38, 39, 40, 41, 42, 43, 44, 45, 46, 47, 48, 49, 50, 51, 52, 53, 54, 55, 56, 57, 58, 59, 60, 61, 62, 63, 64, 65, 66, 67, 68, 69, 70, 71, 72, 73, 74, 75, 76, 77, 78, 79, 80, 81, 82, 83, 84, 85, 86, 87, 88, 89, 90, 91] (fun (t0, mt0_0_0, mt0_0_1) => []) (fun (t0, mt0_0_0, mt0_0_1) => [Cells b26_0 64 [.int .i64 t0.rise, .int .i64 t0.fall, .map (some mt0_0_0), .map (some mt0_0_1)], MapE strK (fun x => .agg (S_health_status.enc x).toArray) mt0_0_0 t0.nodes, MapE strK (fun x => .bool x) mt0_0_1 t0.drained, Cells b2 31 [.int .i64 x.Rise, .int .i64 x.Fall], F]) (fun zz K1 => match zz with | (t0, mt0_0_0, mt0_0_1) => s0 = Fl.go t0) ?_ ?_
          · refine block_go rfl ?_
            conv => whnf
            refine loop_rule (σ := Nat × S_health_Checks × Nat × Nat) [4, 8, 9, 10, 11, 12, 13, 33, 34, 35, 36, 37, 38, 39, 40, 41, 42, 43, 44, 45, 46, 47, 48, 49, 50, 51, 52, 53, 54, 55, 56, 57, 58, 59, 60, 61, 62, 63, 64, 65, 66, 67, 68, 69, 70, 71, 72, 73, 74, 75, 76, 77, 78, 79, 80, 81, 82, 83, 84, 85, 86, 87, 88, 89, 90, 91] (fun (i0, y0_0, my0_0_0, my0_0_1) => [(33, .int .i64 (i0 : Int))]) (fun (i0, y0_0, my0_0_0, my0_0_1) => [Cells b26_0 64 [.int .i64 y0_0.rise, .int .i64 y0_0.fall, .map (some my0_0_0), .map (some my0_0_1)], MapE strK (fun x => .agg (S_health_status.enc x).toArray) my0_0_0 y0_0.nodes, MapE strK (fun x => .bool x) my0_0_1 y0_0.drained, Cells b2 31 [.int .i64 x.Rise, .int .i64 x.Fall], F]) (fun zz K1 => match zz with | (i0, y0_0, my0_0_0, my0_0_1) => law32_HealthLists_L0b (script.drop i0) i0 y0_0 = some s0) (fun zz => script.length - zz.1) (0, o26, m26_1, m26_2) rfl ⟨rfl, trivial⟩ (ConvH.of (.cons r0 (.cons r0 (.cons r0 (.cons r0 (.cons r0 .nil)))))) hl0 ?_
            clear hl0
            rintro ⟨i0, y0_0, my0_0_0, my0_0_1⟩ Kb0 lk0 hl0 j0
            conv at hl0 => whnf
            conv => whnf
            refine cond_go rfl ?_
            conv => whnf
            refine cond_s (fun w0 => ?_) (fun w0 => ?_)
            · obtain ⟨e0, hx0, hd0⟩ := ltx w0
              rw [hd0, law32_HealthLists_L0b.eq_2] at hl0
              conv => whnf
              refine block_go rfl ?_
              conv => whnf
              refine RStep.ofN (index_addr rfl rfl (hasK (hp1_0.mono ((l18.trans l26).trans lk0)).rd hx0) (nn _) (lt_ofN hx0) ?_)
              conv => whnf
              refine RStep.of (load_rd_agg i0 _ (hp1_0.mono ((l18.trans l26).trans lk0)).rd rfl (mp hx0) rfl ?_)
              conv => whnf
              refine alloc_rule rfl ?_
              intro b8
              conv => whnf
              refine store_rule r0 rfl ?_
              conv => whnf
              refine ⟨rfl, rfl, (Nat.le_of_ble_eq_true rfl), ?_⟩
              conv => whnf
              refine RStep.of (loadn_s r0 rfl (Nat.le_of_ble_eq_true rfl) ?_)
              obtain ⟨x39, q39, hl0⟩ := bnd hl0
              conv => whnf
              refine call_fn (law32_play_ok q39) (.cons r1 (.cons r1 (.cons r1 .nil))) ?_
              rintro _ K39 _ l39 ⟨m39_0, m39_1, rfl, rfl⟩
              obtain ⟨x41, q41, hl0⟩ := bnd hl0
              conv => whnf
              refine call_fn (health_Checks_Up_ok q41) (.cons r0 (.cons r0 (.cons r0 .nil))) ?_
              rintro _ K41 _ l41 ⟨a41_0, c41_0, rfl, h41_0, rfl⟩
              conv => whnf
              refine RStep.of (len_slice rfl ?_)
              obtain ⟨hk2, hl0⟩ := chkb hl0
              obtain ⟨s2, hl2, hl0⟩ := bnd hl0
              conv => whnf
              refine code_cut (σ := (Unit)) [4, 10, 44, 45, 46, 47, 48, 49, 50, 51, 52, 53, 54, 55, 56, 57, 58, 59, 60, 61] (fun t2 => []) (fun t2 => [OwnL eS a41_0 9 1 c41_0 x41, Cells b26_0 64 [.int .i64 x39.rise, .int .i64 x39.fall, .map (some m39_0), .map (some m39_1)], MapE strK (fun x => .agg (S_health_status.enc x).toArray) m39_0 x39.nodes, MapE strK (fun x => .bool x) m39_1 x39.drained, Cells b8 34 [.int .u8 (e0.What.toNat : Int), .int .u8 (e0.Node.toNat : Int)], Cells b2 31 [.int .i64 x.Rise, .int .i64 x.Fall], F]) (fun zz K1 => match zz with | t2 => s2 = Fl.go t2) ?_ ?_
              · refine block_go rfl ?_
                conv => whnf
                refine loop_rule (σ := Nat) [4, 10, 44, 45, 46, 47, 48, 49, 50, 51, 52, 53, 54, 55, 56, 57, 58, 59, 60, 61] (fun i2 => [(44, .int .i64 (i2 : Int))]) (fun i2 => [OwnL eS a41_0 9 1 c41_0 x41, Cells b26_0 64 [.int .i64 x39.rise, .int .i64 x39.fall, .map (some m39_0), .map (some m39_1)], MapE strK (fun x => .agg (S_health_status.enc x).toArray) m39_0 x39.nodes, MapE strK (fun x => .bool x) m39_1 x39.drained, Cells b8 34 [.int .u8 (e0.What.toNat : Int), .int .u8 (e0.Node.toNat : Int)], Cells b2 31 [.int .i64 x.Rise, .int .i64 x.Fall], F]) (fun zz K1 => match zz with | i2 => law32_HealthLists_L2 x41 (x41.drop i2) i2 = some s2) (fun zz => x41.length - zz) (0) rfl ⟨rfl, trivial⟩ (ConvH.of (.cons r0 (.cons r0 (.cons r0 (.cons r0 (.cons r0 (.cons r0 (.cons r0 .nil)))))))) hl2 ?_
                clear hl2
                rintro i2 Kb2 lk2 hl2 j2
                conv at hl2 => whnf
                conv => whnf
                refine cond_go rfl ?_
                conv => whnf
                refine cond_s (fun w2 => ?_) (fun w2 => ?_)
                · obtain ⟨e2, hx2, hd2⟩ := ltx w2
                  rw [hd2, law32_HealthLists_L2.eq_2] at hl2
                  conv => whnf
                  refine block_go rfl ?_
                  conv => whnf
                  refine ⟨⟨⟨[], true⟩, _, []⟩, by kernel_rfl, ⟨Hp.Le.refl _, (ConvH.of .nil)⟩, ?_⟩
                  obtain ⟨x60, e60, hl2⟩ := bnd hl2
                  conv => whnf
                  refine cond_s (fun g49_14 => ?_) (fun g49_14 => ?_)
                  · replace e60 := ift g49_14 e60
                    conv => whnf
                    refine cond_t g49_14 ?_
                    conv => whnf
                    refine cond_t g49_14 ?_
                    obtain ⟨h52, e60⟩ := chkb e60
                    conv => whnf
                    refine int_in h52 ?_
                    conv => whnf
                    refine cond_t g49_14 ?_
                    obtain ⟨x53, l53, k53, e60⟩ := ixb e60
                    conv => whnf
                    refine index_addr rfl rfl (hasO h41_0 k53) l53 (lt_ofE rfl l53 k53) ?_
                    conv => whnf
                    refine cond_t g49_14 ?_
                    conv => whnf
                    refine ld_own (i := (((i2 : Int) - 1)).toNat) (o := 0) r0 rfl k53 rfl rfl ?_
                    conv => whnf
                    refine cond_t g49_14 ?_
                    conv => whnf
                    refine cond_t g49_14 ?_
                    conv => whnf
                    refine cond_t g49_14 ?_
                    conv => whnf
                    refine index_addr rfl rfl (hasO h41_0 hx2) (nn _) (lt_ofNE rfl hx2) ?_
                    conv => whnf
                    refine cond_t g49_14 ?_
                    conv => whnf
                    refine ld_own (i := i2) (o := 0) r0 rfl hx2 rfl rfl ?_
                    conv => whnf
                    refine cond_t g49_14 ?_
                    conv => whnf
                    refine geq_str ?_
                    conv => whnf
                    refine cond_t g49_14 ?_
                    conv => whnf
                    refine cond_go rfl ?_
                    conv => whnf
                    refine cond_s (fun w60 => ?_) (fun w60 => ?_)
                    · replace hl2 := ift ((si e60).symm.trans w60) hl2
                      obtain rfl := si hl2
                      replace hl0 := elr hl0
                      obtain rfl := si hl0
                      replace hm := elr hm
                      obtain rfl := si hm
                      conv => whnf
                      refine EndStep.mk _ (((((l18.trans l26).trans lk0).trans l39).trans l41).trans lk2) ⟨rfl, rfl⟩ (ConvH.of (.cons r6 .nil))
                    · replace hl2 := iff_ ((si e60).symm.trans w60) hl2
                      conv => whnf
                      refine int_in (cntz hx2 hk2) ?_
                      conv => whnf
                      refine RoundStep.mk (i2 + 1) ⟨rfl, trivial⟩ (by repeat (first | exact trivial | refine And.intro rfl ?_)) (ConvH.of (.cons r0 (.cons r0 (.cons r0 (.cons r0 (.cons r0 (.cons r0 (.cons r0 .nil)))))))) lk2 (ltm hx2) hl2
                  · replace e60 := iff_ g49_14 e60
                    conv => whnf
                    refine cond_f g49_14 ?_
                    conv => whnf
                    refine cond_f g49_14 ?_
                    conv => whnf
                    refine cond_f g49_14 ?_
                    conv => whnf
                    refine cond_f g49_14 ?_
                    conv => whnf
                    refine cond_f g49_14 ?_
                    conv => whnf
                    refine cond_f g49_14 ?_
                    conv => whnf
                    refine cond_f g49_14 ?_
                    conv => whnf
                    refine cond_f g49_14 ?_
                    conv => whnf
                    refine cond_f g49_14 ?_
                    conv => whnf
                    refine cond_f g49_14 ?_
                    conv => whnf
                    refine cond_go rfl ?_
                    conv => whnf
                    refine cond_F ?_
                    replace hl2 := iff_ (si e60).symm hl2
                    conv => whnf
                    refine int_in (cntz hx2 hk2) ?_
                    conv => whnf
                    refine RoundStep.mk (i2 + 1) ⟨rfl, trivial⟩ (by repeat (first | exact trivial | refine And.intro rfl ?_)) (ConvH.of (.cons r0 (.cons r0 (.cons r0 (.cons r0 (.cons r0 (.cons r0 (.cons r0 .nil)))))))) lk2 (ltm hx2) hl2
                · rw [lty w2, law32_HealthLists_L2.eq_1] at hl2
                  conv => whnf
                  refine cond_T ?_
                  conv => whnf
                  refine MeetStep.mk (()) trivial (by repeat (first | exact trivial | refine And.intro rfl ?_)) (ConvH.of (.cons r0 (.cons r0 (.cons r0 (.cons r0 (.cons r0 (.cons r0 (.cons r0 .nil)))))))) lk2 (si hl2).symm
              · rintro t2 Kt2 lt2 rfl j2
                replace hl0 := elg hl0
                obtain ⟨hk4, hl0⟩ := chkb hl0
                obtain ⟨s4, hl4, hl0⟩ := bnd hl0
                conv => whnf
                refine code_cut (σ := (Int)) [4, 11, 12, 13, 62, 63, 64, 65, 66, 67, 68, 69, 70, 71, 72, 73, 74, 75, 76, 77, 78, 79, 80, 81, 82, 83, 84, 85, 86] (fun t4 => [(11, .int .i64 t4)]) (fun t4 => [OwnL eS a41_0 9 1 c41_0 x41, Cells b26_0 64 [.int .i64 x39.rise, .int .i64 x39.fall, .map (some m39_0), .map (some m39_1)], MapE strK (fun x => .agg (S_health_status.enc x).toArray) m39_0 x39.nodes, MapE strK (fun x => .bool x) m39_1 x39.drained, Cells b8 34 [.int .u8 (e0.What.toNat : Int), .int .u8 (e0.Node.toNat : Int)], Cells b2 31 [.int .i64 x.Rise, .int .i64 x.Fall], F]) (fun zz K1 => match zz with | t4 => s4 = Fl.go t4) ?_ ?_
                · refine block_go rfl ?_
                  conv => whnf
                  refine loop_rule (σ := Nat × Int) [4, 11, 12, 13, 62, 63, 64, 65, 66, 67, 68, 69, 70, 71, 72, 73, 74, 75, 76, 77, 78, 79, 80, 81, 82, 83, 84, 85, 86] (fun (i4, y4_0) => [(62, .int .u8 ((UInt8.ofNat i4).toNat : Int)), (11, .int .i64 y4_0)]) (fun (i4, y4_0) => [OwnL eS a41_0 9 1 c41_0 x41, Cells b26_0 64 [.int .i64 x39.rise, .int .i64 x39.fall, .map (some m39_0), .map (some m39_1)], MapE strK (fun x => .agg (S_health_status.enc x).toArray) m39_0 x39.nodes, MapE strK (fun x => .bool x) m39_1 x39.drained, Cells b8 34 [.int .u8 (e0.What.toNat : Int), .int .u8 (e0.Node.toNat : Int)], Cells b2 31 [.int .i64 x.Rise, .int .i64 x.Fall], F]) (fun zz K1 => match zz with | (i4, y4_0) => i4 ≤ 255 ∧ law32_HealthLists_L4b x39 x41 ((5 : Int).toNat - i4) i4 y4_0 = some s4) (fun zz => (5 : Int).toNat - zz.1) (0, 0) rfl ⟨rfl, rfl, trivial⟩ (ConvH.of (.cons r0 (.cons r0 (.cons r0 (.cons r0 (.cons r0 (.cons r0 (.cons r0 .nil)))))))) ⟨(Nat.zero_le _), hl4⟩ ?_
                  clear hl4
                  rintro ⟨i4, y4_0⟩ Kb4 lk4 ⟨hu4, hl4⟩ j4
                  conv => whnf
                  refine cond_go rfl ?_
                  conv => whnf
                  refine cond_s (fun w4 => ?_) (fun w4 => ?_)
                  · replace w4 := u8c_w hu4 w4
                    rw [ltn w4, law32_HealthLists_L4b.eq_2] at hl4
                    conv => whnf
                    refine block_go rfl ?_
                    obtain ⟨x67, q67, hl4⟩ := bnd hl4
                    conv => whnf
                    refine call_fn (law32_name_ok q67) .nil ?_
                    rintro _ K67 _ l67 ⟨rfl, rfl⟩
                    obtain ⟨x68, q68, hl4⟩ := bnd hl4
                    conv => whnf
                    refine call_fn (health_Checks_State_ok q68) (.cons r1 (.cons r1 (.cons r1 .nil))) ?_
                    rintro _ K68 _ l68 ⟨rfl, rfl⟩
                    conv => whnf
                    refine eq_int ?_
                    obtain ⟨x76, e76, hl4⟩ := bnd hl4
                    conv => whnf
                    refine cond_s (fun g70_21 => ?_) (fun g70_21 => ?_)
                    · replace e76 := ift g70_21 e76
                      conv => whnf
                      refine cond_t g70_21 ?_
                      conv => whnf
                      refine cond_t g70_21 ?_
                      obtain ⟨x73, q73, e76⟩ := bnd e76
                      conv => whnf
                      refine call_fn (law32_name_ok q73) .nil ?_
                      rintro _ K73 _ l73 ⟨rfl, rfl⟩
                      conv => whnf
                      refine cond_t g70_21 ?_
                      obtain ⟨x74, q74, e76⟩ := bnd e76
                      conv => whnf
                      refine call_fn (health_Checks_Drained_ok q74) (.cons r0 (.cons r0 (.cons r0 .nil))) ?_
                      rintro _ K74 _ l74 ⟨rfl, rfl⟩
                      conv => whnf
                      refine cond_t g70_21 ?_
                      conv => whnf
                      refine un_not ?_
                      conv => whnf
                      refine cond_t g70_21 ?_
                      conv => whnf
                      refine cond_go rfl ?_
                      conv => whnf
                      refine cond_s (fun w77 => ?_) (fun w77 => ?_)
                      · replace hl4 := ift ((si e76).symm.trans (not_t (ni_t w77))) hl4
                        obtain ⟨h79, hl4⟩ := chkb hl4
                        conv => whnf
                        refine int_in h79 ?_
                        obtain ⟨x82, q82, hl4⟩ := bnd hl4
                        conv => whnf
                        refine call_fn (law32_name_ok q82) .nil ?_
                        rintro _ K82 _ l82 ⟨rfl, rfl⟩
                        obtain ⟨x83, q83, hl4⟩ := bnd hl4
                        conv => whnf
                        refine call_fn (Fn.lend Try.call28 (fun K83_0 l83_0 f83_0 => (law32_has_ok q83 f83_0 rfl)) (by exact fun _ _ _ _ h => h)) (.cons r3 .nil) ?_
                        rintro _ K83 _ l83 ⟨_, rfl, rfl, rfl⟩
                        conv => whnf
                        refine neq_bool rfl ?_
                        conv => whnf
                        refine cond_go rfl ?_
                        conv => whnf
                        refine cond_s (fun w85 => ?_) (fun w85 => ?_)
                        · replace hl4 := ift ((bne_e rfl (si e76)).symm.trans w85) hl4
                          obtain rfl := si hl4
                          replace hl0 := elr hl0
                          obtain rfl := si hl0
                          replace hm := elr hm
                          obtain rfl := si hm
                          conv => whnf
                          refine EndStep.mk _ ((((((((((((l18.trans l26).trans lk0).trans l39).trans l41).trans lt2).trans lk4).trans l67).trans l68).trans l73).trans l74).trans l82).trans l83) ⟨rfl, rfl⟩ (ConvH.of (.cons r6 .nil))
                        · replace hl4 := iff_ ((bne_e rfl (si e76)).symm.trans w85) hl4
                          conv => whnf
                          refine u8c_inc rfl ?_
                          conv => whnf
                          refine RoundStep.mk (i4 + 1, (y4_0 + 1)) ⟨rfl, rfl, trivial⟩ (by repeat (first | exact trivial | refine And.intro rfl ?_)) (ConvH.of (.cons r0 (.cons r0 (.cons r0 (.cons r0 (.cons r0 (.cons r0 (.cons r0 .nil)))))))) ((((((lk4.trans l67).trans l68).trans l73).trans l74).trans l82).trans l83) (ltnm w4) ⟨(u8c_le w4 rfl), hl4⟩
                      · replace hl4 := iff_ ((si e76).symm.trans (not_f (ni_f w77))) hl4
                        obtain ⟨x82, q82, hl4⟩ := bnd hl4
                        conv => whnf
                        refine call_fn (law32_name_ok q82) .nil ?_
                        rintro _ K82 _ l82 ⟨rfl, rfl⟩
                        obtain ⟨x83, q83, hl4⟩ := bnd hl4
                        conv => whnf
                        refine call_fn (Fn.lend Try.call28 (fun K83_0 l83_0 f83_0 => (law32_has_ok q83 f83_0 rfl)) (by exact fun _ _ _ _ h => h)) (.cons r3 .nil) ?_
                        rintro _ K83 _ l83 ⟨_, rfl, rfl, rfl⟩
                        conv => whnf
                        refine neq_bool rfl ?_
                        conv => whnf
                        refine cond_go rfl ?_
                        conv => whnf
                        refine cond_s (fun w85 => ?_) (fun w85 => ?_)
                        · replace hl4 := ift ((bne_e rfl (si e76)).symm.trans w85) hl4
                          obtain rfl := si hl4
                          replace hl0 := elr hl0
                          obtain rfl := si hl0
                          replace hm := elr hm
                          obtain rfl := si hm
                          conv => whnf
                          refine EndStep.mk _ ((((((((((((l18.trans l26).trans lk0).trans l39).trans l41).trans lt2).trans lk4).trans l67).trans l68).trans l73).trans l74).trans l82).trans l83) ⟨rfl, rfl⟩ (ConvH.of (.cons r6 .nil))
                        · replace hl4 := iff_ ((bne_e rfl (si e76)).symm.trans w85) hl4
                          conv => whnf
                          refine u8c_inc rfl ?_
                          conv => whnf
                          refine RoundStep.mk (i4 + 1, y4_0) ⟨rfl, rfl, trivial⟩ (by repeat (first | exact trivial | refine And.intro rfl ?_)) (ConvH.of (.cons r0 (.cons r0 (.cons r0 (.cons r0 (.cons r0 (.cons r0 (.cons r0 .nil)))))))) ((((((lk4.trans l67).trans l68).trans l73).trans l74).trans l82).trans l83) (ltnm w4) ⟨(u8c_le w4 rfl), hl4⟩
                    · replace e76 := iff_ g70_21 e76
                      conv => whnf
                      refine cond_f g70_21 ?_
                      conv => whnf
                      refine cond_f g70_21 ?_
                      conv => whnf
                      refine cond_f g70_21 ?_
                      conv => whnf
                      refine cond_f g70_21 ?_
                      conv => whnf
                      refine cond_f g70_21 ?_
                      conv => whnf
                      refine cond_go rfl ?_
                      conv => whnf
                      refine cond_F ?_
                      replace hl4 := iff_ (si e76).symm hl4
                      obtain ⟨x82, q82, hl4⟩ := bnd hl4
                      conv => whnf
                      refine call_fn (law32_name_ok q82) .nil ?_
                      rintro _ K82 _ l82 ⟨rfl, rfl⟩
                      obtain ⟨x83, q83, hl4⟩ := bnd hl4
                      conv => whnf
                      refine call_fn (Fn.lend Try.call28 (fun K83_0 l83_0 f83_0 => (law32_has_ok q83 f83_0 rfl)) (by exact fun _ _ _ _ h => h)) (.cons r3 .nil) ?_
                      rintro _ K83 _ l83 ⟨_, rfl, rfl, rfl⟩
                      conv => whnf
                      refine neq_bool rfl ?_
                      conv => whnf
                      refine cond_go rfl ?_
                      conv => whnf
                      refine cond_s (fun w85 => ?_) (fun w85 => ?_)
                      · replace hl4 := ift ((bne_e rfl ((si e76).symm).symm).symm.trans w85) hl4
                        obtain rfl := si hl4
                        replace hl0 := elr hl0
                        obtain rfl := si hl0
                        replace hm := elr hm
                        obtain rfl := si hm
                        conv => whnf
                        refine EndStep.mk _ ((((((((((l18.trans l26).trans lk0).trans l39).trans l41).trans lt2).trans lk4).trans l67).trans l68).trans l82).trans l83) ⟨rfl, rfl⟩ (ConvH.of (.cons r6 .nil))
                      · replace hl4 := iff_ ((bne_e rfl ((si e76).symm).symm).symm.trans w85) hl4
                        conv => whnf
                        refine u8c_inc rfl ?_
                        conv => whnf
                        refine RoundStep.mk (i4 + 1, y4_0) ⟨rfl, rfl, trivial⟩ (by repeat (first | exact trivial | refine And.intro rfl ?_)) (ConvH.of (.cons r0 (.cons r0 (.cons r0 (.cons r0 (.cons r0 (.cons r0 (.cons r0 .nil)))))))) ((((lk4.trans l67).trans l68).trans l82).trans l83) (ltnm w4) ⟨(u8c_le w4 rfl), hl4⟩
                  · replace w4 := u8c_w hu4 w4
                    rw [lto w4, law32_HealthLists_L4b.eq_1] at hl4
                    conv => whnf
                    refine cond_T ?_
                    conv => whnf
                    refine MeetStep.mk (y4_0) ⟨rfl, trivial⟩ (by repeat (first | exact trivial | refine And.intro rfl ?_)) (ConvH.of (.cons r0 (.cons r0 (.cons r0 (.cons r0 (.cons r0 (.cons r0 (.cons r0 .nil)))))))) lk4 (si hl4).symm
                · rintro t4 Kt4 lt4 rfl j4
                  replace hl0 := elg hl0
                  conv => whnf
                  refine RStep.of (len_slice rfl ?_)
                  conv => whnf
                  refine neq_int ?_
                  conv => whnf
                  refine cond_go rfl ?_
                  conv => whnf
                  refine cond_s (fun w90 => ?_) (fun w90 => ?_)
                  · replace hl0 := ift w90 hl0
                    obtain rfl := si hl0
                    replace hm := elr hm
                    obtain rfl := si hm
                    conv => whnf
                    refine EndStep.mk _ ((((((l18.trans l26).trans lk0).trans l39).trans l41).trans lt2).trans lt4) ⟨rfl, rfl⟩ (ConvH.of (.cons r6 .nil))
                  · replace hl0 := iff_ w90 hl0
                    conv => whnf
                    refine int_in (cntz hx0 hk0) ?_
                    conv => whnf
                    refine RoundStep.mk (i0 + 1, x39, m39_0, m39_1) ⟨rfl, trivial⟩ (by repeat (first | exact trivial | refine And.intro rfl ?_)) (ConvH.of (.cons r1 (.cons r1 (.cons r1 (.cons r2 (.cons r2 .nil)))))) ((((lk0.trans l39).trans l41).trans lt2).trans lt4) (ltm hx0) hl0
            · rw [lty w0, law32_HealthLists_L0b.eq_1] at hl0
              conv => whnf
              refine cond_T ?_
              conv => whnf
              refine MeetStep.mk (y0_0, my0_0_0, my0_0_1) trivial (by repeat (first | exact trivial | refine And.intro rfl ?_)) (ConvH.of (.cons r0 (.cons r0 (.cons r0 (.cons r0 (.cons r0 .nil)))))) lk0 (si hl0).symm
          · rintro ⟨t0, mt0_0_0, mt0_0_1⟩ Kt0 lt0 rfl j0
            replace hm := elg hm
            obtain rfl := si hm
            conv => whnf
            refine EndStep.mk _ ((l18.trans l26).trans lt0) ⟨rfl, rfl⟩ (ConvH.of (.cons r4 .nil))
