/- Functions of the program: mirrors, and that a call returns what the mirror says. Printed by gen.py. -/
import Derived.Test.YtagbphlipeepnaaG1
set_option linter.unusedVariables false
set_option linter.unusedSimpArgs false
open Go Go.SL Go.Proofs
set_option maxRecDepth 30000
noncomputable def law32_HealthPlays_L3 (x130 : (List S_ref32_Node)) (x107 : Int × S_health_Checks) (x : S_law32_Limits) : Nat → Nat → Option (Fl (Bool) (Unit))
  | 0, _ => some (Fl.go ())
  | xs3 + 1, i3 =>
    (law32_name (UInt8.ofNat i3)).bind fun x146 =>
    (ref32_Get x130 x146).bind fun x147 =>
    (health_Checks_State x107.2 x147.Name).bind fun x151 =>
    (ref32_Of x147.Reports x.Rise x.Fall).bind fun x158 =>
    (if decide (x151 ≠ x158) then some true else (health_Checks_Drained x107.2 x147.Name).bind fun x164 =>
    some (!(x164 == x147.Drained))).bind fun x168 =>
    if x168 then
    some (Fl.ret false)
    else
    law32_HealthPlays_L3 x130 x107 x xs3 (i3 + 1)
noncomputable def law32_HealthPlays_L3b (x130 : (List S_ref32_Node)) (x127 : S_health_Checks) (x : S_law32_Limits) : Nat → Nat → Option (Fl (Bool) (Unit))
  | 0, _ => some (Fl.go ())
  | xs3 + 1, i3 =>
    (law32_name (UInt8.ofNat i3)).bind fun x146 =>
    (ref32_Get x130 x146).bind fun x147 =>
    (health_Checks_State x127 x147.Name).bind fun x151 =>
    (ref32_Of x147.Reports x.Rise x.Fall).bind fun x158 =>
    (if decide (x151 ≠ x158) then some true else (health_Checks_Drained x127 x147.Name).bind fun x164 =>
    some (!(x164 == x147.Drained))).bind fun x168 =>
    if x168 then
    some (Fl.ret false)
    else
    law32_HealthPlays_L3b x130 x127 x xs3 (i3 + 1)
noncomputable def law32_HealthPlays_L3c (x130 : (List S_ref32_Node)) (x87 : Bool × S_health_Checks) (x : S_law32_Limits) : Nat → Nat → Option (Fl (Bool) (Unit))
  | 0, _ => some (Fl.go ())
  | xs3 + 1, i3 =>
    (law32_name (UInt8.ofNat i3)).bind fun x146 =>
    (ref32_Get x130 x146).bind fun x147 =>
    (health_Checks_State x87.2 x147.Name).bind fun x151 =>
    (ref32_Of x147.Reports x.Rise x.Fall).bind fun x158 =>
    (if decide (x151 ≠ x158) then some true else (health_Checks_Drained x87.2 x147.Name).bind fun x164 =>
    some (!(x164 == x147.Drained))).bind fun x168 =>
    if x168 then
    some (Fl.ret false)
    else
    law32_HealthPlays_L3c x130 x87 x xs3 (i3 + 1)
noncomputable def law32_HealthPlays_L0 (x : S_law32_Limits) : List S_law32_Step → Nat → (List S_ref32_Node) → S_health_Checks → Option (Fl (Bool) ((List S_ref32_Node) × S_health_Checks))
  | [], _, y0_0, y0_1 => some (Fl.go (y0_0, y0_1))
  | e0 :: xs0, i0, y0_0, y0_1 =>
    (law32_name e0.Node).bind fun x74 =>
    (ref32_Get y0_0 x74).bind fun x75 =>
    if decide (((e0.What % (9 : UInt8)).toNat : Int) < 6) then
    (chk (([] : List Bool).length + x75.Reports.length ≤ lim)).bind fun _ =>
    (chk ((([] : List Bool) ++ x75.Reports).length + [decide (((e0.What % (9 : UInt8)).toNat : Int) < 3)].length ≤ lim)).bind fun _ =>
    (health_Checks_Report y0_1 x75.Name (decide (((e0.What % (9 : UInt8)).toNat : Int) < 3))).bind fun x107 =>
    (ref32_Of ((([] : List Bool) ++ x75.Reports) ++ [decide (((e0.What % (9 : UInt8)).toNat : Int) < 3)]) x.Rise x.Fall).bind fun x114 =>
    if decide (x107.1 ≠ x114) then
    some (Fl.ret false)
    else
    (ref32_Put y0_0 (⟨x75.Name, ((([] : List Bool) ++ x75.Reports) ++ [decide (((e0.What % (9 : UInt8)).toNat : Int) < 3)]), x75.Drained⟩ : S_ref32_Node)).bind fun x130 =>
    (health_Checks_Up x107.2).bind fun x132 =>
    (ref32_Up x130 x.Rise x.Fall).bind fun x138 =>
    (base_Texts x132 x138).bind fun x139 =>
    if (!x139) then
    some (Fl.ret false)
    else
    (chk (InI (5 : Int))).bind fun _ =>
    (law32_HealthPlays_L3 x130 x107 x (5 : Int).toNat 0).bind fun s3 => s3.el (fun r => some (Fl.ret r)) fun t3 =>
    law32_HealthPlays_L0 x xs0 (i0 + 1) x130 x107.2
    else
    if decide (((e0.What % (9 : UInt8)).toNat : Int) < 8) then
    (health_Checks_Drain y0_1 x75.Name (decide (((e0.What % (9 : UInt8)).toNat : Int) = 6))).bind fun x127 =>
    (ref32_Put y0_0 (⟨x75.Name, x75.Reports, decide (((e0.What % (9 : UInt8)).toNat : Int) = 6)⟩ : S_ref32_Node)).bind fun x130 =>
    (health_Checks_Up x127).bind fun x132 =>
    (ref32_Up x130 x.Rise x.Fall).bind fun x138 =>
    (base_Texts x132 x138).bind fun x139 =>
    if (!x139) then
    some (Fl.ret false)
    else
    (chk (InI (5 : Int))).bind fun _ =>
    (law32_HealthPlays_L3b x130 x127 x (5 : Int).toNat 0).bind fun s3 => s3.el (fun r => some (Fl.ret r)) fun t3 =>
    law32_HealthPlays_L0 x xs0 (i0 + 1) x130 x127
    else
    (health_Checks_Forget y0_1 x75.Name).bind fun x87 =>
    if (!(x87.1 == (decide ((x75.Reports.length : Int) > 0)))) then
    some (Fl.ret false)
    else
    (ref32_Put y0_0 (⟨x75.Name, [], x75.Drained⟩ : S_ref32_Node)).bind fun x130 =>
    (health_Checks_Up x87.2).bind fun x132 =>
    (ref32_Up x130 x.Rise x.Fall).bind fun x138 =>
    (base_Texts x132 x138).bind fun x139 =>
    if (!x139) then
    some (Fl.ret false)
    else
    (chk (InI (5 : Int))).bind fun _ =>
    (law32_HealthPlays_L3c x130 x87 x (5 : Int).toNat 0).bind fun s3 => s3.el (fun r => some (Fl.ret r)) fun t3 =>
    law32_HealthPlays_L0 x xs0 (i0 + 1) x130 x87.2
noncomputable def law32_HealthPlays (x : S_law32_Limits) (script : (List S_law32_Step)) : Option (Bool) :=
  (if decide ((script.length : Int) > 100) then some true else (law32_awake).bind fun x20 =>
  some (!x20)).bind fun x22 =>
  if x22 then
  some (decide ((script.length : Int) > 100))
  else
  (health_New x.Rise x.Fall).bind fun x31 =>
  Option.elim x31.1 (
  if (((decide (x.Rise < 1) || decide (x.Rise > 100)) || decide (x.Fall < 1)) || decide (x.Fall > 100)) then
  (base_Is x31.2 1).bind fun x57 =>
  some x57
  else
  if x31.2.isSome then
  some false
  else
  some false)
   fun o31 =>
  if (((decide (x.Rise < 1) || decide (x.Rise > 100)) || decide (x.Fall < 1)) || decide (x.Fall > 100)) then
  some false
  else
  if x31.2.isSome then
  some false
  else
  (chk (script.length ≤ szMax)).bind fun _ =>
  (law32_HealthPlays_L0 x script 0 [] o31).bind fun s0 => s0.el some fun t0 =>
  some true
set_option maxHeartbeats 8000000 in
theorem law32_HealthPlays_ok {x : S_law32_Limits} {script : (List S_law32_Step)} {ap1_0 : Option Addr} {cp1_0 : Nat} {n1 : Nat} {K : Hp} {r : Bool}
    (hm : law32_HealthPlays x script = some r) (hp1_0 : RdC S_law32_Step.enc K ap1_0 cp1_0 2 script) (en1 : n1 = script.length) :
    Fn Try.prog 5 [.agg #[.int .i64 x.Rise, .int .i64 x.Fall], .slice ap1_0 n1 cp1_0] K [] (fun v K' H' => v = .bool r ∧ H' = []) := by
  subst en1
  refine Fn.enter Try.func5 Try.call5 rfl fun F => ?_
  unfold law32_HealthPlays at hm
  conv => whnf
  refine box_rule ?_
  intro b2
  conv => whnf
  refine RStep.of (len_slice rfl ?_)
  obtain ⟨x22, e22, hm⟩ := bnd hm
  conv => whnf
  refine cond_s (fun g19_1 => ?_) (fun g19_1 => ?_)
  · replace e22 := ift g19_1 e22
    conv => whnf
    refine cond_t g19_1 ?_
    conv => whnf
    refine cond_t g19_1 ?_
    conv => whnf
    refine cond_go rfl ?_
    conv => whnf
    refine cond_T ?_
    replace hm := ift (si e22).symm hm
    conv => whnf
    refine RStep.of (len_slice rfl ?_)
    obtain rfl := si hm
    conv => whnf
    refine EndStep.mk _ (Hp.Le.refl _) ⟨rfl, rfl⟩ (ConvH.of (.cons r1 .nil))
  · replace e22 := iff_ g19_1 e22
    obtain ⟨x20, q20, e22⟩ := bnd e22
    conv => whnf
    refine call_fn (law32_awake_ok q20) .nil ?_
    rintro _ K20 _ l20 ⟨rfl, rfl⟩
    conv => whnf
    refine cond_f g19_1 ?_
    conv => whnf
    refine un_not ?_
    conv => whnf
    refine cond_f g19_1 ?_
    conv => whnf
    refine cond_go rfl ?_
    conv => whnf
    refine cond_s (fun w22 => ?_) (fun w22 => ?_)
    · replace hm := ift ((si e22).symm.trans (not_t (ni_t w22))) hm
      conv => whnf
      refine RStep.of (len_slice rfl ?_)
      obtain rfl := si hm
      conv => whnf
      refine EndStep.mk _ l20 ⟨rfl, rfl⟩ (ConvH.of (.cons r1 .nil))
    · replace hm := iff_ ((si e22).symm.trans (not_f (ni_f w22))) hm
      conv => whnf
      refine field_addr rfl ?_
      conv => whnf
      refine RStep.of (load1_s r0 rfl rfl ?_)
      conv => whnf
      refine field_addr rfl ?_
      conv => whnf
      refine RStep.of (load1_s r0 rfl rfl ?_)
      obtain ⟨x31, q31, hm⟩ := bnd hm
      conv => whnf
      refine call_fn (health_New_ok q31) .nil ?_
      rintro v31 K31 H31 l31 p31
      rcases hq31 : x31.1 with _ | o31
      · rw [hq31] at p31 hm
        obtain ⟨rfl, rfl⟩ := p31
        replace hm := oe_n hm
        conv => whnf
        refine field_addr rfl ?_
        conv => whnf
        refine RStep.of (load1_s r0 rfl rfl ?_)
        conv => whnf
        refine cond_s (fun g37_4 => ?_) (fun g37_4 => ?_)
        · conv => whnf
          refine cond_t g37_4 ?_
          conv => whnf
          refine cond_t g37_4 ?_
          conv => whnf
          refine cond_t g37_4 ?_
          conv => whnf
          refine cond_T ?_
          conv => whnf
          refine cond_T ?_
          conv => whnf
          refine cond_T ?_
          conv => whnf
          refine cond_T ?_
          conv => whnf
          refine cond_T ?_
          conv => whnf
          refine cond_T ?_
          conv => whnf
          refine cond_T ?_
          conv => whnf
          refine cond_T ?_
          conv => whnf
          refine cond_go rfl ?_
          conv => whnf
          refine cond_T ?_
          replace hm := ift (or_t (or_t (or_t g37_4))) hm
          conv => whnf
          refine eq_nil_nil rfl ?_
          conv => whnf
          refine cond_T ?_
          conv => whnf
          refine cond_T ?_
          obtain ⟨x57, q57, hm⟩ := bnd hm
          conv => whnf
          refine call_fn (base_Is_ok q57) .nil ?_
          rintro _ K57 _ l57 ⟨rfl, rfl⟩
          conv => whnf
          refine cond_T ?_
          obtain rfl := si hm
          conv => whnf
          refine EndStep.mk _ ((l20.trans l31).trans l57) ⟨rfl, rfl⟩ (ConvH.of (.cons r1 .nil))
        · conv => whnf
          refine field_addr rfl ?_
          conv => whnf
          refine cond_f g37_4 ?_
          conv => whnf
          refine RStep.of (load1_s r0 rfl rfl ?_)
          conv => whnf
          refine cond_f g37_4 ?_
          conv => whnf
          refine cond_f g37_4 ?_
          conv => whnf
          refine cond_s (fun g42_4 => ?_) (fun g42_4 => ?_)
          · conv => whnf
            refine cond_t g42_4 ?_
            conv => whnf
            refine cond_t g42_4 ?_
            conv => whnf
            refine cond_t g42_4 ?_
            conv => whnf
            refine cond_T ?_
            conv => whnf
            refine cond_T ?_
            conv => whnf
            refine cond_T ?_
            conv => whnf
            refine cond_T ?_
            conv => whnf
            refine cond_go rfl ?_
            conv => whnf
            refine cond_T ?_
            replace hm := ift (or_t (or_t (or_u g37_4 g42_4))) hm
            conv => whnf
            refine eq_nil_nil rfl ?_
            conv => whnf
            refine cond_T ?_
            conv => whnf
            refine cond_T ?_
            obtain ⟨x57, q57, hm⟩ := bnd hm
            conv => whnf
            refine call_fn (base_Is_ok q57) .nil ?_
            rintro _ K57 _ l57 ⟨rfl, rfl⟩
            conv => whnf
            refine cond_T ?_
            obtain rfl := si hm
            conv => whnf
            refine EndStep.mk _ ((l20.trans l31).trans l57) ⟨rfl, rfl⟩ (ConvH.of (.cons r1 .nil))
          · conv => whnf
            refine field_addr rfl ?_
            conv => whnf
            refine cond_f g42_4 ?_
            conv => whnf
            refine RStep.of (load1_s r0 rfl rfl ?_)
            conv => whnf
            refine cond_f g42_4 ?_
            conv => whnf
            refine cond_f g42_4 ?_
            conv => whnf
            refine cond_s (fun g47_4 => ?_) (fun g47_4 => ?_)
            · conv => whnf
              refine cond_t g47_4 ?_
              conv => whnf
              refine cond_t g47_4 ?_
              conv => whnf
              refine cond_t g47_4 ?_
              conv => whnf
              refine cond_go rfl ?_
              conv => whnf
              refine cond_T ?_
              replace hm := ift (or_t (or_u (or_f g37_4 g42_4) g47_4)) hm
              conv => whnf
              refine eq_nil_nil rfl ?_
              conv => whnf
              refine cond_T ?_
              conv => whnf
              refine cond_T ?_
              obtain ⟨x57, q57, hm⟩ := bnd hm
              conv => whnf
              refine call_fn (base_Is_ok q57) .nil ?_
              rintro _ K57 _ l57 ⟨rfl, rfl⟩
              conv => whnf
              refine cond_T ?_
              obtain rfl := si hm
              conv => whnf
              refine EndStep.mk _ ((l20.trans l31).trans l57) ⟨rfl, rfl⟩ (ConvH.of (.cons r1 .nil))
            · conv => whnf
              refine field_addr rfl ?_
              conv => whnf
              refine cond_f g47_4 ?_
              conv => whnf
              refine RStep.of (load1_s r0 rfl rfl ?_)
              conv => whnf
              refine cond_f g47_4 ?_
              conv => whnf
              refine cond_f g47_4 ?_
              conv => whnf
              refine cond_go rfl ?_
              conv => whnf
              refine cond_s (fun w52 => ?_) (fun w52 => ?_)
              · replace hm := ift (or_u (or_f (or_f g37_4 g42_4) g47_4) w52) hm
                conv => whnf
                refine eq_nil_nil rfl ?_
                conv => whnf
                refine cond_T ?_
                conv => whnf
                refine cond_T ?_
                obtain ⟨x57, q57, hm⟩ := bnd hm
                conv => whnf
                refine call_fn (base_Is_ok q57) .nil ?_
                rintro _ K57 _ l57 ⟨rfl, rfl⟩
                conv => whnf
                refine cond_T ?_
                obtain rfl := si hm
                conv => whnf
                refine EndStep.mk _ ((l20.trans l31).trans l57) ⟨rfl, rfl⟩ (ConvH.of (.cons r1 .nil))
              · replace hm := iff_ (or_f (or_f (or_f g37_4 g42_4) g47_4) w52) hm
                conv => whnf
                refine neq_err rfl ?_
                conv => whnf
                refine cond_s (fun g61_7 => ?_) (fun g61_7 => ?_)
                · replace hm := ift g61_7 hm
                  conv => whnf
                  refine cond_t g61_7 ?_
                  conv => whnf
                  refine cond_t g61_7 ?_
                  conv => whnf
                  refine cond_go rfl ?_
                  conv => whnf
                  refine cond_T ?_
                  obtain rfl := si hm
                  conv => whnf
                  refine EndStep.mk _ (l20.trans l31) ⟨rfl, rfl⟩ (ConvH.of (.cons r1 .nil))
                · replace hm := iff_ g61_7 hm
                  conv => whnf
                  refine cond_f g61_7 ?_
                  conv => whnf
                  refine eq_nil_nil rfl ?_
                  conv => whnf
                  refine cond_f g61_7 ?_
                  conv => whnf
                  refine cond_go rfl ?_
                  conv => whnf
                  refine cond_T ?_
                  obtain rfl := si hm
                  conv => whnf
                  refine EndStep.mk _ (l20.trans l31) ⟨rfl, rfl⟩ (ConvH.of (.cons r1 .nil))
      · rw [hq31] at p31 hm
        obtain ⟨b31_0, m31_1, m31_2, rfl, rfl⟩ := p31
        replace hm := oe_s hm
        conv => whnf
        refine field_addr rfl ?_
        conv => whnf
        refine RStep.of (load1_s r3 rfl rfl ?_)
        conv => whnf
        refine cond_s (fun g37_4 => ?_) (fun g37_4 => ?_)
        · conv => whnf
          refine cond_t g37_4 ?_
          conv => whnf
          refine cond_t g37_4 ?_
          conv => whnf
          refine cond_t g37_4 ?_
          conv => whnf
          refine cond_T ?_
          conv => whnf
          refine cond_T ?_
          conv => whnf
          refine cond_T ?_
          conv => whnf
          refine cond_T ?_
          conv => whnf
          refine cond_T ?_
          conv => whnf
          refine cond_T ?_
          conv => whnf
          refine cond_T ?_
          conv => whnf
          refine cond_T ?_
          conv => whnf
          refine cond_go rfl ?_
          conv => whnf
          refine cond_T ?_
          replace hm := ift (or_t (or_t (or_t g37_4))) hm
          conv => whnf
          refine eq_ptr_nil rfl ?_
          conv => whnf
          refine cond_F ?_
          conv => whnf
          refine cond_F ?_
          conv => whnf
          refine cond_F ?_
          obtain rfl := si hm
          conv => whnf
          refine EndStep.mk _ (l20.trans l31) ⟨rfl, rfl⟩ (ConvH.of (.cons r4 .nil))
        · conv => whnf
          refine field_addr rfl ?_
          conv => whnf
          refine cond_f g37_4 ?_
          conv => whnf
          refine RStep.of (load1_s r3 rfl rfl ?_)
          conv => whnf
          refine cond_f g37_4 ?_
          conv => whnf
          refine cond_f g37_4 ?_
          conv => whnf
          refine cond_s (fun g42_4 => ?_) (fun g42_4 => ?_)
          · conv => whnf
            refine cond_t g42_4 ?_
            conv => whnf
            refine cond_t g42_4 ?_
            conv => whnf
            refine cond_t g42_4 ?_
            conv => whnf
            refine cond_T ?_
            conv => whnf
            refine cond_T ?_
            conv => whnf
            refine cond_T ?_
            conv => whnf
            refine cond_T ?_
            conv => whnf
            refine cond_go rfl ?_
            conv => whnf
            refine cond_T ?_
            replace hm := ift (or_t (or_t (or_u g37_4 g42_4))) hm
            conv => whnf
            refine eq_ptr_nil rfl ?_
            conv => whnf
            refine cond_F ?_
            conv => whnf
            refine cond_F ?_
            conv => whnf
            refine cond_F ?_
            obtain rfl := si hm
            conv => whnf
            refine EndStep.mk _ (l20.trans l31) ⟨rfl, rfl⟩ (ConvH.of (.cons r4 .nil))
          · conv => whnf
            refine field_addr rfl ?_
            conv => whnf
            refine cond_f g42_4 ?_
            conv => whnf
            refine RStep.of (load1_s r3 rfl rfl ?_)
            conv => whnf
            refine cond_f g42_4 ?_
            conv => whnf
            refine cond_f g42_4 ?_
            conv => whnf
            refine cond_s (fun g47_4 => ?_) (fun g47_4 => ?_)
            · conv => whnf
              refine cond_t g47_4 ?_
              conv => whnf
              refine cond_t g47_4 ?_
              conv => whnf
              refine cond_t g47_4 ?_
              conv => whnf
              refine cond_go rfl ?_
              conv => whnf
              refine cond_T ?_
              replace hm := ift (or_t (or_u (or_f g37_4 g42_4) g47_4)) hm
              conv => whnf
              refine eq_ptr_nil rfl ?_
              conv => whnf
              refine cond_F ?_
              conv => whnf
              refine cond_F ?_
              conv => whnf
              refine cond_F ?_
              obtain rfl := si hm
              conv => whnf
              refine EndStep.mk _ (l20.trans l31) ⟨rfl, rfl⟩ (ConvH.of (.cons r4 .nil))
            · conv => whnf
              refine field_addr rfl ?_
              conv => whnf
              refine cond_f g47_4 ?_
              conv => whnf
              refine RStep.of (load1_s r3 rfl rfl ?_)
              conv => whnf
              refine cond_f g47_4 ?_
              conv => whnf
              refine cond_f g47_4 ?_
              conv => whnf
              refine cond_go rfl ?_
              conv => whnf
              refine cond_s (fun w52 => ?_) (fun w52 => ?_)
              · replace hm := ift (or_u (or_f (or_f g37_4 g42_4) g47_4) w52) hm
                conv => whnf
                refine eq_ptr_nil rfl ?_
                conv => whnf
                refine cond_F ?_
                conv => whnf
                refine cond_F ?_
                conv => whnf
                refine cond_F ?_
                obtain rfl := si hm
                conv => whnf
                refine EndStep.mk _ (l20.trans l31) ⟨rfl, rfl⟩ (ConvH.of (.cons r4 .nil))
              · replace hm := iff_ (or_f (or_f (or_f g37_4 g42_4) g47_4) w52) hm
                conv => whnf
                refine neq_err rfl ?_
                conv => whnf
                refine cond_s (fun g61_7 => ?_) (fun g61_7 => ?_)
                · replace hm := ift g61_7 hm
                  conv => whnf
                  refine cond_t g61_7 ?_
                  conv => whnf
                  refine cond_t g61_7 ?_
                  conv => whnf
                  refine cond_go rfl ?_
                  conv => whnf
                  refine cond_T ?_
                  obtain rfl := si hm
                  conv => whnf
                  refine EndStep.mk _ (l20.trans l31) ⟨rfl, rfl⟩ (ConvH.of (.cons r4 .nil))
                · replace hm := iff_ g61_7 hm
                  conv => whnf
                  refine cond_f g61_7 ?_
                  conv => whnf
                  refine eq_ptr_nil rfl ?_
                  conv => whnf
                  refine cond_f g61_7 ?_
                  conv => whnf
                  refine cond_go rfl ?_
                  conv => whnf
                  refine cond_F ?_
                  conv => whnf
                  refine RStep.of (len_slice rfl ?_)
                  obtain ⟨hk0, hm⟩ := chkb hm
                  obtain ⟨s0, hl0, hm⟩ := bnd hm
                  conv => whnf
                  refine code_cut (σ := ((List S_ref32_Node) × S_health_Checks) × Option Addr × Nat × Nat × Nat) [4, 8, 10, 11, 12, 13, 14, 15, 67, 68, 69, 70, 71, 72, 73, 74, 75, 76, 77, 78, 79, 80, 81, 82, 83, 84, 85, 86, 87, 88, 89, 90, 91, 92, 93, 94, 95, 96, 97, 98, 99, 100, 101, 102, 103, 104, 105, 106, 107, 108, 109, 110, 111, 112, 113, 114, 115, 116, 117, 118, 119, 120, 121, 122, 123, 124, 125, 126, 127, 128, 129, 130, 131, 132, 133, 134, 135, 136, 137, 138, 139, 140, 141, 142, 143, 144, 145, 146, 147, 148, 149, 150, 151, 152, 153, 154, 155, 156, 157, 158, 159, 160, 161, 162, 163, 164, 165, 166, 167, 168, 169, 170] (fun (t0, t0_a0, t0_c0, mt0_1_0, mt0_1_1) => [(8, .slice t0_a0 t0.1.length t0_c0)]) (fun (t0, t0_a0, t0_c0, mt0_1_0, mt0_1_1) => [Cells b31_0 64 [.int .i64 t0.2.rise, .int .i64 t0.2.fall, .map (some mt0_1_0), .map (some mt0_1_1)], MapE strK (fun x => .agg (S_health_status.enc x).toArray) mt0_1_0 t0.2.nodes, MapE strK (fun x => .bool x) mt0_1_1 t0.2.drained, Cells b2 31 [.int .i64 x.Rise, .int .i64 x.Fall], F]) (fun zz K1 => match zz with | (t0, t0_a0, t0_c0, mt0_1_0, mt0_1_1) => LiC S_ref32_Node.R K1 t0_a0 t0_c0 3 t0.1 ∧ s0 = Fl.go t0) ?_ ?_
                  · refine block_go rfl ?_
                    conv => whnf
                    refine loop_rule (σ := Nat × (List S_ref32_Node) × S_health_Checks × Option Addr × Nat × Nat × Nat) [4, 8, 10, 11, 12, 13, 14, 15, 67, 68, 69, 70, 71, 72, 73, 74, 75, 76, 77, 78, 79, 80, 81, 82, 83, 84, 85, 86, 87, 88, 89, 90, 91, 92, 93, 94, 95, 96, 97, 98, 99, 100, 101, 102, 103, 104, 105, 106, 107, 108, 109, 110, 111, 112, 113, 114, 115, 116, 117, 118, 119, 120, 121, 122, 123, 124, 125, 126, 127, 128, 129, 130, 131, 132, 133, 134, 135, 136, 137, 138, 139, 140, 141, 142, 143, 144, 145, 146, 147, 148, 149, 150, 151, 152, 153, 154, 155, 156, 157, 158, 159, 160, 161, 162, 163, 164, 165, 166, 167, 168, 169, 170] (fun (i0, y0_0, y0_1, y0_a0, y0_c0, my0_1_0, my0_1_1) => [(67, .int .i64 (i0 : Int)), (8, .slice y0_a0 y0_0.length y0_c0)]) (fun (i0, y0_0, y0_1, y0_a0, y0_c0, my0_1_0, my0_1_1) => [Cells b31_0 64 [.int .i64 y0_1.rise, .int .i64 y0_1.fall, .map (some my0_1_0), .map (some my0_1_1)], MapE strK (fun x => .agg (S_health_status.enc x).toArray) my0_1_0 y0_1.nodes, MapE strK (fun x => .bool x) my0_1_1 y0_1.drained, Cells b2 31 [.int .i64 x.Rise, .int .i64 x.Fall], F]) (fun zz K1 => match zz with | (i0, y0_0, y0_1, y0_a0, y0_c0, my0_1_0, my0_1_1) => LiC S_ref32_Node.R K1 y0_a0 y0_c0 3 y0_0 ∧ law32_HealthPlays_L0 x (script.drop i0) i0 y0_0 y0_1 = some s0) (fun zz => script.length - zz.1) (0, [], o31, none, 0, m31_1, m31_2) rfl ⟨rfl, rfl, trivial⟩ (ConvH.of (.cons r0 (.cons r0 (.cons r0 (.cons r0 (.cons r0 .nil)))))) ⟨LiC.nil, hl0⟩ ?_
                    clear hl0
                    rintro ⟨i0, y0_0, y0_1, y0_a0, y0_c0, my0_1_0, my0_1_1⟩ Kb0 lk0 ⟨y0_h0, hl0⟩ j0
                    conv => whnf
                    refine cond_go rfl ?_
                    conv => whnf
                    refine cond_s (fun w0 => ?_) (fun w0 => ?_)
                    · obtain ⟨e0, hx0, hd0⟩ := ltx w0
                      rw [hd0, law32_HealthPlays_L0.eq_2] at hl0
                      conv => whnf
                      refine block_go rfl ?_
                      conv => whnf
                      refine RStep.ofN (index_addr rfl rfl (hasK (hp1_0.mono ((l20.trans l31).trans lk0)).rd hx0) (nn _) (lt_ofN hx0) ?_)
                      conv => whnf
                      refine RStep.of (load_rd_agg i0 _ (hp1_0.mono ((l20.trans l31).trans lk0)).rd rfl (mp hx0) rfl ?_)
                      conv => whnf
                      refine alloc_rule rfl ?_
                      intro b10
                      conv => whnf
                      refine store_rule r0 rfl ?_
                      conv => whnf
                      refine ⟨rfl, rfl, (Nat.le_of_ble_eq_true rfl), ?_⟩
                      conv => whnf
                      refine field_addr rfl ?_
                      conv => whnf
                      refine RStep.of (load1_s r0 rfl rfl ?_)
                      obtain ⟨x74, q74, hl0⟩ := bnd hl0
                      conv => whnf
                      refine call_fn (law32_name_ok q74) .nil ?_
                      rintro _ K74 _ l74 ⟨rfl, rfl⟩
                      obtain ⟨x75, q75, hl0⟩ := bnd hl0
                      conv => whnf
                      refine call_fn (ref32_Get_ok q75 (LiC.mono S_ref32_Node.R_ok l74 y0_h0) rfl) .nil ?_
                      rintro _ K75 _ l75 ⟨a75_0, c75_0, rfl, h75_0, rfl⟩
                      conv => whnf
                      refine alloc_rule rfl ?_
                      intro b11
                      conv => whnf
                      refine store_rule r0 rfl ?_
                      conv => whnf
                      refine ⟨rfl, rfl, (Nat.le_of_ble_eq_true rfl), ?_⟩
                      conv => whnf
                      refine field_addr rfl ?_
                      conv => whnf
                      refine RStep.of (load1_s r0 rfl rfl ?_)
                      conv => whnf
                      refine RStep.of (len_slice rfl ?_)
                      conv => whnf
                      refine field_addr rfl ?_
                      conv => whnf
                      refine RStep.of (load1_s r1 rfl rfl ?_)
                      conv => whnf
                      refine u8_rem (x := e0.What) (y := (9 : UInt8)) rfl rfl (by decide) ?_
                      conv => whnf
                      refine block_go rfl ?_
                      conv => whnf
                      refine cond_go rfl ?_
                      conv => whnf
                      refine cond_s (fun w90 => ?_) (fun w90 => ?_)
                      · replace hl0 := ift w90 hl0
                        conv => whnf
                        refine bsO (len := 0) (enc := eB) (l := ([] : List Bool)) (cl := []) elT45 rfl rfl (fun _ _ => rfl) rfl rfl rfl ?_ fun b93 => ?_
                        · conv => whnf
                        conv => whnf
                        refine field_addr rfl ?_
                        conv => whnf
                        refine RStep.of (load1_s r1 rfl rfl ?_)
                        obtain ⟨h96, hl0⟩ := chkb hl0
                        conv => whnf
                        refine apE rfl r0 elT45 (src_k rfl h75_0.rd rfl) h96 ?_
                        intro a96 c96 o96
                        conv => whnf
                        refine bsO (len := 1) (enc := eB) (l := [decide (((e0.What % (9 : UInt8)).toNat : Int) < 3)]) (cl := [.bool (decide (((e0.What % (9 : UInt8)).toNat : Int) < 3))]) elT45 rfl rfl (fun _ _ => rfl) rfl rfl rfl ?_ fun b99 => ?_
                        · conv => whnf
                          refine cond_T ?_
                          conv => whnf
                        obtain ⟨h100, hl0⟩ := chkb hl0
                        conv => whnf
                        refine apE rfl r1 elT45 (src_own' rfl r0 rfl (fun _ => rfl) (fun _ => rfl)) h100 ?_
                        intro a100 c100 o100
                        conv => whnf
                        refine field_addr rfl ?_
                        conv => whnf
                        refine store_rule r2 rfl ?_
                        conv => whnf
                        refine ⟨rfl, rfl, (Nat.le_of_ble_eq_true rfl), ?_⟩
                        conv => whnf
                        refine ⟨⟨⟨[], false⟩, _, [(_, _), (_, _)]⟩, by kernel_rfl, ⟨Hp.Le.refl _, (ConvH.of (.cons r0 (.cons r6 .nil)))⟩, ?_⟩
                        conv => whnf
                        refine field_addr rfl ?_
                        conv => whnf
                        refine load1_l m0 rfl rfl ?_
                        obtain ⟨x107, q107, hl0⟩ := bnd hl0
                        conv => whnf
                        refine call_fn (health_Checks_Report_ok q107) (.cons r4 (.cons r4 (.cons r4 .nil))) ?_
                        rintro _ K107 _ l107 ⟨m107_0, m107_1, rfl, rfl⟩
                        conv => whnf
                        refine ⟨⟨l107, (ConvH.of (.cons r3 (.cons r6 .nil)))⟩, ?_⟩
                        conv => whnf
                        refine field_addr rfl ?_
                        conv => whnf
                        refine load1_l m0 rfl rfl ?_
                        conv => whnf
                        refine field_addr rfl ?_
                        conv => whnf
                        refine load1_l m1 rfl rfl ?_
                        conv => whnf
                        refine field_addr rfl ?_
                        conv => whnf
                        refine load1_l m1 rfl rfl ?_
                        obtain ⟨x114, q114, hl0⟩ := bnd hl0
                        conv => whnf
                        refine call_fn (Fn.lend Try.call20 (fun K114_0 l114_0 f114_0 => (ref32_Of_ok q114 f114_0 rfl)) (by exact fun _ _ _ _ h => h)) (.cons r4 .nil) ?_
                        rintro _ K114 _ l114 ⟨_, rfl, rfl, rfl⟩
                        conv => whnf
                        refine ⟨⟨(l107.trans l114), (ConvH.of (.cons r4 (.cons r6 .nil)))⟩, ?_⟩
                        conv => whnf
                        refine neq_int ?_
                        conv => whnf
                        refine cond_go rfl ?_
                        conv => whnf
                        refine cond_s (fun w115 => ?_) (fun w115 => ?_)
                        · replace hl0 := ift w115 hl0
                          obtain rfl := si hl0
                          replace hm := elr hm
                          obtain rfl := si hm
                          conv => whnf
                          refine EndStep.mk _ ((((((l20.trans l31).trans lk0).trans l74).trans l75).trans l107).trans l114) ⟨rfl, rfl⟩ (ConvH.of (.cons r8 .nil))
                        · replace hl0 := iff_ w115 hl0
                          conv => whnf
                          refine RStep.of (loadn_s r4 rfl (Nat.le_of_ble_eq_true rfl) ?_)
                          obtain ⟨x130, q130, hl0⟩ := bnd hl0
                          conv => whnf
                          refine fF Try.call23 r0 fun Kf130_1_0 lf130_1_0 ff130_1_0 => ?_
                          refine call_fn (ref32_Put_ok (n' := (⟨x75.Name, ((([] : List Bool) ++ x75.Reports) ++ [decide (((e0.What % (9 : UInt8)).toNat : Int) < 3)]), x75.Drained⟩ : S_ref32_Node)) q130 (LiC.mono S_ref32_Node.R_ok ((((l74.trans l75).trans l107).trans l114).trans lf130_1_0) y0_h0) rfl ff130_1_0) .nil ?_
                          rintro _ K130 _ l130 ⟨a130_0, c130_0, s130_0, rfl, h130_0, r130_0, rfl⟩
                          conv => whnf
                          refine ⟨⟨⟨[], false⟩, _, [(_, _)]⟩, by kernel_rfl, ⟨Hp.Le.refl _, (ConvH.of (.cons r7 .nil))⟩, ?_⟩
                          obtain ⟨x132, q132, hl0⟩ := bnd hl0
                          conv => whnf
                          refine call_fn (health_Checks_Up_ok q132) (.cons r1 (.cons r1 (.cons r1 .nil))) ?_
                          rintro _ K132 _ l132 ⟨a132_0, c132_0, rfl, h132_0, rfl⟩
                          conv => whnf
                          refine ⟨⟨l132, (ConvH.of (.cons r8 .nil))⟩, ?_⟩
                          conv => whnf
                          refine field_addr rfl ?_
                          conv => whnf
                          refine load1_l m0 rfl rfl ?_
                          conv => whnf
                          refine field_addr rfl ?_
                          conv => whnf
                          refine load1_l m0 rfl rfl ?_
                          obtain ⟨x138, q138, hl0⟩ := bnd hl0
                          conv => whnf
                          refine call_fn (Fn.lendR S_ref32_Node.R_ok (LR.mono S_ref32_Node.R_ok l132 r130_0) Try.call26 (fun K138_0 l138_0 f138_0 => (ref32_Up_ok q138 f138_0 rfl)) (by exact fun _ _ _ _ h => h)) (.cons r4 .nil) ?_
                          rintro _ K138 _ l138 ⟨_, rfl, a138_0, c138_0, rfl, h138_0, rfl⟩
                          conv => whnf
                          refine ⟨⟨(l132.trans l138), (ConvH.of (.cons r9 .nil))⟩, ?_⟩
                          obtain ⟨x139, q139, hl0⟩ := bnd hl0
                          conv => whnf
                          refine call_fn (Fn.lend Try.call24 (fun K139_0 l139_0 f139_0 => (Fn.lend Try.call24 (fun K139_1 l139_1 f139_1 => (base_Texts_ok q139 (f139_0.mono l139_1) rfl f139_1 rfl)) (by exact fun _ _ _ _ h => h))) (by exact fun _ _ _ _ h => h)) (.cons r2 (.cons r1 .nil)) ?_
                          rintro _ K139 _ l139 ⟨_, rfl, _, rfl, rfl, rfl⟩
                          conv => whnf
                          refine ⟨⟨((l132.trans l138).trans l139), (ConvH.of (.cons r9 .nil))⟩, ?_⟩
                          conv => whnf
                          refine un_not ?_
                          conv => whnf
                          refine cond_go rfl ?_
                          conv => whnf
                          refine cond_s (fun w140 => ?_) (fun w140 => ?_)
                          · replace hl0 := ift (not_t (ni_t w140)) hl0
                            obtain rfl := si hl0
                            replace hm := elr hm
                            obtain rfl := si hm
                            conv => whnf
                            refine EndStep.mk _ (((((((((((l20.trans l31).trans lk0).trans l74).trans l75).trans l107).trans l114).trans lf130_1_0).trans l130).trans l132).trans l138).trans l139) ⟨rfl, rfl⟩ (ConvH.of (.cons r10 .nil))
                          · replace hl0 := iff_ (not_f (ni_f w140)) hl0
                            obtain ⟨hk3, hl0⟩ := chkb hl0
                            obtain ⟨s3, hl3, hl0⟩ := bnd hl0
                            conv => whnf
                            refine fzCR S_ref32_Node.R_ok r2 (LR.mono S_ref32_Node.R_ok ((l132.trans l138).trans l139) r130_0) fun Kd3_0 ld3_0 fd3_0 => ?_
                            refine code_cut (σ := (Unit)) [4, 14, 15, 141, 142, 143, 144, 145, 146, 147, 148, 149, 150, 151, 152, 153, 154, 155, 156, 157, 158, 159, 160, 161, 162, 163, 164, 165, 166, 167, 168, 169] (fun t3 => []) (fun t3 => [OwnL eS a132_0 9 1 c132_0 x132, OwnL eS a138_0 9 1 c138_0 x138, Cells b31_0 64 [.int .i64 x107.2.rise, .int .i64 x107.2.fall, .map (some m107_0), .map (some m107_1)], MapE strK (fun x => .agg (S_health_status.enc x).toArray) m107_0 x107.2.nodes, MapE strK (fun x => .bool x) m107_1 x107.2.drained, Cells b11 47 [str x75.Name, .slice a100 (((([] : List Bool) ++ x75.Reports) ++ [decide (((e0.What % (9 : UInt8)).toNat : Int) < 3)]).length) c100, .bool x75.Drained], OwnL eB (some ⟨b99, 0, none⟩) 4 1 1 [decide (((e0.What % (9 : UInt8)).toNat : Int) < 3)], Cells b10 34 [.int .u8 (e0.What.toNat : Int), .int .u8 (e0.Node.toNat : Int)], Cells b2 31 [.int .i64 x.Rise, .int .i64 x.Fall], F]) (fun zz K1 => match zz with | t3 => s3 = Fl.go t3) ?_ ?_
                            · refine block_go rfl ?_
                              conv => whnf
                              refine loop_rule (σ := Nat) [4, 14, 15, 141, 142, 143, 144, 145, 146, 147, 148, 149, 150, 151, 152, 153, 154, 155, 156, 157, 158, 159, 160, 161, 162, 163, 164, 165, 166, 167, 168, 169] (fun i3 => [(141, .int .u8 ((UInt8.ofNat i3).toNat : Int))]) (fun i3 => [OwnL eS a132_0 9 1 c132_0 x132, OwnL eS a138_0 9 1 c138_0 x138, Cells b31_0 64 [.int .i64 x107.2.rise, .int .i64 x107.2.fall, .map (some m107_0), .map (some m107_1)], MapE strK (fun x => .agg (S_health_status.enc x).toArray) m107_0 x107.2.nodes, MapE strK (fun x => .bool x) m107_1 x107.2.drained, Cells b11 47 [str x75.Name, .slice a100 (((([] : List Bool) ++ x75.Reports) ++ [decide (((e0.What % (9 : UInt8)).toNat : Int) < 3)]).length) c100, .bool x75.Drained], OwnL eB (some ⟨b99, 0, none⟩) 4 1 1 [decide (((e0.What % (9 : UInt8)).toNat : Int) < 3)], Cells b10 34 [.int .u8 (e0.What.toNat : Int), .int .u8 (e0.Node.toNat : Int)], Cells b2 31 [.int .i64 x.Rise, .int .i64 x.Fall], F]) (fun zz K1 => match zz with | i3 => i3 ≤ 255 ∧ law32_HealthPlays_L3 x130 x107 x ((5 : Int).toNat - i3) i3 = some s3) (fun zz => (5 : Int).toNat - zz) (0) rfl ⟨rfl, trivial⟩ (ConvH.of (.cons r0 (.cons r0 (.cons r0 (.cons r0 (.cons r0 (.cons r0 (.cons r0 (.cons r0 (.cons r0 (.cons r0 .nil))))))))))) ⟨(Nat.zero_le _), hl3⟩ ?_
                              clear hl3
                              rintro i3 Kb3 lk3 ⟨hu3, hl3⟩ j3
                              conv => whnf
                              refine cond_go rfl ?_
                              conv => whnf
                              refine cond_s (fun w3 => ?_) (fun w3 => ?_)
                              · replace w3 := u8c_w hu3 w3
                                rw [ltn w3, law32_HealthPlays_L3.eq_2] at hl3
                                conv => whnf
                                refine block_go rfl ?_
                                obtain ⟨x146, q146, hl3⟩ := bnd hl3
                                conv => whnf
                                refine call_fn (law32_name_ok q146) .nil ?_
                                rintro _ K146 _ l146 ⟨rfl, rfl⟩
                                obtain ⟨x147, q147, hl3⟩ := bnd hl3
                                conv => whnf
                                refine call_fn (ref32_Get_ok q147 (LiC.mono S_ref32_Node.R_ok (lk3.trans l146) fd3_0) rfl) .nil ?_
                                rintro _ K147 _ l147 ⟨a147_0, c147_0, rfl, h147_0, rfl⟩
                                conv => whnf
                                refine alloc_rule rfl ?_
                                intro b15
                                conv => whnf
                                refine store_rule r0 rfl ?_
                                conv => whnf
                                refine ⟨rfl, rfl, (Nat.le_of_ble_eq_true rfl), ?_⟩
                                conv => whnf
                                refine ⟨⟨⟨[], false⟩, _, [(_, _), (_, _)]⟩, by kernel_rfl, ⟨Hp.Le.refl _, (ConvH.of (.cons r0 (.cons r8 .nil)))⟩, ?_⟩
                                conv => whnf
                                refine field_addr rfl ?_
                                conv => whnf
                                refine load1_l m0 rfl rfl ?_
                                obtain ⟨x151, q151, hl3⟩ := bnd hl3
                                conv => whnf
                                refine call_fn (health_Checks_State_ok q151) (.cons r3 (.cons r3 (.cons r3 .nil))) ?_
                                rintro _ K151 _ l151 ⟨rfl, rfl⟩
                                conv => whnf
                                refine ⟨⟨l151, (ConvH.of (.cons r3 (.cons r8 .nil)))⟩, ?_⟩
                                conv => whnf
                                refine field_addr rfl ?_
                                conv => whnf
                                refine load1_l m0 rfl rfl ?_
                                conv => whnf
                                refine field_addr rfl ?_
                                conv => whnf
                                refine load1_l m1 rfl rfl ?_
                                conv => whnf
                                refine field_addr rfl ?_
                                conv => whnf
                                refine load1_l m1 rfl rfl ?_
                                obtain ⟨x158, q158, hl3⟩ := bnd hl3
                                conv => whnf
                                refine call_fn (ref32_Of_ok q158 (h147_0.mono l151) rfl) .nil ?_
                                rintro _ K158 _ l158 ⟨rfl, rfl⟩
                                conv => whnf
                                refine ⟨⟨(l151.trans l158), (ConvH.of (.cons r3 (.cons r8 .nil)))⟩, ?_⟩
                                conv => whnf
                                refine neq_int ?_
                                obtain ⟨x168, e168, hl3⟩ := bnd hl3
                                conv => whnf
                                refine cond_s (fun g160_33 => ?_) (fun g160_33 => ?_)
                                · replace e168 := ift g160_33 e168
                                  conv => whnf
                                  refine cond_t g160_33 ?_
                                  conv => whnf
                                  refine cond_t g160_33 ?_
                                  conv => whnf
                                  refine cond_t g160_33 ?_
                                  conv => whnf
                                  refine cond_t g160_33 ?_
                                  conv => whnf
                                  refine cond_t g160_33 ?_
                                  conv => whnf
                                  refine cond_t g160_33 ?_
                                  conv => whnf
                                  refine cond_t g160_33 ?_
                                  conv => whnf
                                  refine cond_go rfl ?_
                                  conv => whnf
                                  refine cond_T ?_
                                  replace hl3 := ift (si e168).symm hl3
                                  obtain rfl := si hl3
                                  replace hl0 := elr hl0
                                  obtain rfl := si hl0
                                  replace hm := elr hm
                                  obtain rfl := si hm
                                  conv => whnf
                                  refine EndStep.mk _ (((((((((((((((((l20.trans l31).trans lk0).trans l74).trans l75).trans l107).trans l114).trans lf130_1_0).trans l130).trans l132).trans l138).trans l139).trans ld3_0).trans lk3).trans l146).trans l147).trans l151).trans l158) ⟨rfl, rfl⟩ (ConvH.of (.cons r10 .nil))
                                · replace e168 := iff_ g160_33 e168
                                  conv => whnf
                                  refine cond_f g160_33 ?_
                                  conv => whnf
                                  refine field_addr rfl ?_
                                  conv => whnf
                                  refine cond_f g160_33 ?_
                                  conv => whnf
                                  refine load1_l m0 rfl rfl ?_
                                  conv => whnf
                                  refine cond_f g160_33 ?_
                                  obtain ⟨x164, q164, e168⟩ := bnd e168
                                  conv => whnf
                                  refine call_fn (health_Checks_Drained_ok q164) (.cons r0 (.cons r0 (.cons r0 .nil))) ?_
                                  rintro _ K164 _ l164 ⟨rfl, rfl⟩
                                  conv => whnf
                                  refine ⟨⟨((l151.trans l158).trans l164), (ConvH.of (.cons r3 (.cons r8 .nil)))⟩, ?_⟩
                                  conv => whnf
                                  refine cond_f g160_33 ?_
                                  conv => whnf
                                  refine field_addr rfl ?_
                                  conv => whnf
                                  refine cond_f g160_33 ?_
                                  conv => whnf
                                  refine load1_l m0 rfl rfl ?_
                                  conv => whnf
                                  refine cond_f g160_33 ?_
                                  conv => whnf
                                  refine neq_bool rfl ?_
                                  conv => whnf
                                  refine cond_f g160_33 ?_
                                  conv => whnf
                                  refine cond_go rfl ?_
                                  conv => whnf
                                  refine cond_s (fun w168 => ?_) (fun w168 => ?_)
                                  · replace hl3 := ift ((si e168).symm.trans w168) hl3
                                    obtain rfl := si hl3
                                    replace hl0 := elr hl0
                                    obtain rfl := si hl0
                                    replace hm := elr hm
                                    obtain rfl := si hm
                                    conv => whnf
                                    refine EndStep.mk _ ((((((((((((((((((l20.trans l31).trans lk0).trans l74).trans l75).trans l107).trans l114).trans lf130_1_0).trans l130).trans l132).trans l138).trans l139).trans ld3_0).trans lk3).trans l146).trans l147).trans l151).trans l158).trans l164) ⟨rfl, rfl⟩ (ConvH.of (.cons r10 .nil))
                                  · replace hl3 := iff_ ((si e168).symm.trans w168) hl3
                                    conv => whnf
                                    refine u8c_inc rfl ?_
                                    conv => whnf
                                    refine RoundStep.mk (i3 + 1) ⟨rfl, trivial⟩ (by repeat (first | exact trivial | refine And.intro rfl ?_)) (ConvH.of (.cons r4 (.cons r4 (.cons r0 (.cons r0 (.cons r0 (.cons r1 (.cons r1 (.cons r1 (.cons r1 (.cons r1 .nil))))))))))) (((((lk3.trans l146).trans l147).trans l151).trans l158).trans l164) (ltnm w3) ⟨(u8c_le w3 rfl), hl3⟩
                              · replace w3 := u8c_w hu3 w3
                                rw [lto w3, law32_HealthPlays_L3.eq_1] at hl3
                                conv => whnf
                                refine cond_T ?_
                                conv => whnf
                                refine MeetStep.mk (()) trivial (by repeat (first | exact trivial | refine And.intro rfl ?_)) (ConvH.of (.cons r0 (.cons r0 (.cons r0 (.cons r0 (.cons r0 (.cons r0 (.cons r0 (.cons r0 (.cons r0 (.cons r0 .nil))))))))))) lk3 (si hl3).symm
                            · rintro t3 Kt3 lt3 rfl j3
                              replace hl0 := elg hl0
                              conv => whnf
                              refine int_in (cntz hx0 hk0) ?_
                              conv => whnf
                              refine RoundStep.mk (i0 + 1, x130, x107.2, a130_0, c130_0, m107_0, m107_1) ⟨rfl, rfl, trivial⟩ (by repeat (first | exact trivial | refine And.intro rfl ?_)) (ConvH.of (.cons r2 (.cons r2 (.cons r2 (.cons r5 (.cons r5 .nil)))))) (((((((((((lk0.trans l74).trans l75).trans l107).trans l114).trans lf130_1_0).trans l130).trans l132).trans l138).trans l139).trans ld3_0).trans lt3) (ltm hx0) ⟨(LiC.mono S_ref32_Node.R_ok lt3 fd3_0), hl0⟩
                      · replace hl0 := iff_ w90 hl0
                        conv => whnf
                        refine cond_go rfl ?_
                        conv => whnf
                        refine cond_s (fun w116 => ?_) (fun w116 => ?_)
                        · replace hl0 := ift w116 hl0
                          conv => whnf
                          refine eq_int ?_
                          conv => whnf
                          refine field_addr rfl ?_
                          conv => whnf
                          refine store_rule r0 rfl ?_
                          conv => whnf
                          refine ⟨rfl, rfl, (Nat.le_of_ble_eq_true rfl), ?_⟩
                          conv => whnf
                          refine field_addr rfl ?_
                          conv => whnf
                          refine RStep.of (load1_s r0 rfl rfl ?_)
                          conv => whnf
                          refine field_addr rfl ?_
                          conv => whnf
                          refine RStep.of (load1_s r0 rfl rfl ?_)
                          obtain ⟨x127, q127, hl0⟩ := bnd hl0
                          conv => whnf
                          refine call_fn (health_Checks_Drain_ok q127) (.cons r2 (.cons r2 (.cons r2 .nil))) ?_
                          rintro _ K127 _ l127 ⟨m127_0, m127_1, rfl, rfl⟩
                          conv => whnf
                          refine RStep.of (loadn_s r3 rfl (Nat.le_of_ble_eq_true rfl) ?_)
                          obtain ⟨x130, q130, hl0⟩ := bnd hl0
                          conv => whnf
                          refine call_fn (ref32_Put_ok (n' := (⟨x75.Name, x75.Reports, decide (((e0.What % (9 : UInt8)).toNat : Int) = 6)⟩ : S_ref32_Node)) q130 (LiC.mono S_ref32_Node.R_ok ((l74.trans l75).trans l127) y0_h0) rfl (h75_0.mono l127)) .nil ?_
                          rintro _ K130 _ l130 ⟨a130_0, c130_0, s130_0, rfl, h130_0, r130_0, rfl⟩
                          conv => whnf
                          refine ⟨⟨⟨[], false⟩, _, [(_, _)]⟩, by kernel_rfl, ⟨Hp.Le.refl _, (ConvH.of (.cons r6 .nil))⟩, ?_⟩
                          obtain ⟨x132, q132, hl0⟩ := bnd hl0
                          conv => whnf
                          refine call_fn (health_Checks_Up_ok q132) (.cons r1 (.cons r1 (.cons r1 .nil))) ?_
                          rintro _ K132 _ l132 ⟨a132_0, c132_0, rfl, h132_0, rfl⟩
                          conv => whnf
                          refine ⟨⟨l132, (ConvH.of (.cons r7 .nil))⟩, ?_⟩
                          conv => whnf
                          refine field_addr rfl ?_
                          conv => whnf
                          refine load1_l m0 rfl rfl ?_
                          conv => whnf
                          refine field_addr rfl ?_
                          conv => whnf
                          refine load1_l m0 rfl rfl ?_
                          obtain ⟨x138, q138, hl0⟩ := bnd hl0
                          conv => whnf
                          refine call_fn (Fn.lendR S_ref32_Node.R_ok (LR.mono S_ref32_Node.R_ok l132 r130_0) Try.call26 (fun K138_0 l138_0 f138_0 => (ref32_Up_ok q138 f138_0 rfl)) (by exact fun _ _ _ _ h => h)) (.cons r4 .nil) ?_
                          rintro _ K138 _ l138 ⟨_, rfl, a138_0, c138_0, rfl, h138_0, rfl⟩
                          conv => whnf
                          refine ⟨⟨(l132.trans l138), (ConvH.of (.cons r8 .nil))⟩, ?_⟩
                          obtain ⟨x139, q139, hl0⟩ := bnd hl0
                          conv => whnf
                          refine call_fn (Fn.lend Try.call24 (fun K139_0 l139_0 f139_0 => (Fn.lend Try.call24 (fun K139_1 l139_1 f139_1 => (base_Texts_ok q139 (f139_0.mono l139_1) rfl f139_1 rfl)) (by exact fun _ _ _ _ h => h))) (by exact fun _ _ _ _ h => h)) (.cons r2 (.cons r1 .nil)) ?_
                          rintro _ K139 _ l139 ⟨_, rfl, _, rfl, rfl, rfl⟩
                          conv => whnf
                          refine ⟨⟨((l132.trans l138).trans l139), (ConvH.of (.cons r8 .nil))⟩, ?_⟩
                          conv => whnf
                          refine un_not ?_
                          conv => whnf
                          refine cond_go rfl ?_
                          conv => whnf
                          refine cond_s (fun w140 => ?_) (fun w140 => ?_)
                          · replace hl0 := ift (not_t (ni_t w140)) hl0
                            obtain rfl := si hl0
                            replace hm := elr hm
                            obtain rfl := si hm
                            conv => whnf
                            refine EndStep.mk _ (((((((((l20.trans l31).trans lk0).trans l74).trans l75).trans l127).trans l130).trans l132).trans l138).trans l139) ⟨rfl, rfl⟩ (ConvH.of (.cons r9 .nil))
                          · replace hl0 := iff_ (not_f (ni_f w140)) hl0
                            obtain ⟨hk3, hl0⟩ := chkb hl0
                            obtain ⟨s3, hl3, hl0⟩ := bnd hl0
                            conv => whnf
                            refine fzCR S_ref32_Node.R_ok r2 (LR.mono S_ref32_Node.R_ok ((l132.trans l138).trans l139) r130_0) fun Kd3_0 ld3_0 fd3_0 => ?_
                            refine code_cut (σ := (Unit)) [4, 14, 15, 141, 142, 143, 144, 145, 146, 147, 148, 149, 150, 151, 152, 153, 154, 155, 156, 157, 158, 159, 160, 161, 162, 163, 164, 165, 166, 167, 168, 169] (fun t3 => []) (fun t3 => [OwnL eS a132_0 9 1 c132_0 x132, OwnL eS a138_0 9 1 c138_0 x138, Cells b31_0 64 [.int .i64 x127.rise, .int .i64 x127.fall, .map (some m127_0), .map (some m127_1)], MapE strK (fun x => .agg (S_health_status.enc x).toArray) m127_0 x127.nodes, MapE strK (fun x => .bool x) m127_1 x127.drained, Cells b11 47 [str x75.Name, .slice a75_0 x75.Reports.length c75_0, .bool (decide (((e0.What % (9 : UInt8)).toNat : Int) = 6))], Cells b10 34 [.int .u8 (e0.What.toNat : Int), .int .u8 (e0.Node.toNat : Int)], Cells b2 31 [.int .i64 x.Rise, .int .i64 x.Fall], F]) (fun zz K1 => match zz with | t3 => s3 = Fl.go t3) ?_ ?_
                            · refine block_go rfl ?_
                              conv => whnf
                              refine loop_rule (σ := Nat) [4, 14, 15, 141, 142, 143, 144, 145, 146, 147, 148, 149, 150, 151, 152, 153, 154, 155, 156, 157, 158, 159, 160, 161, 162, 163, 164, 165, 166, 167, 168, 169] (fun i3 => [(141, .int .u8 ((UInt8.ofNat i3).toNat : Int))]) (fun i3 => [OwnL eS a132_0 9 1 c132_0 x132, OwnL eS a138_0 9 1 c138_0 x138, Cells b31_0 64 [.int .i64 x127.rise, .int .i64 x127.fall, .map (some m127_0), .map (some m127_1)], MapE strK (fun x => .agg (S_health_status.enc x).toArray) m127_0 x127.nodes, MapE strK (fun x => .bool x) m127_1 x127.drained, Cells b11 47 [str x75.Name, .slice a75_0 x75.Reports.length c75_0, .bool (decide (((e0.What % (9 : UInt8)).toNat : Int) = 6))], Cells b10 34 [.int .u8 (e0.What.toNat : Int), .int .u8 (e0.Node.toNat : Int)], Cells b2 31 [.int .i64 x.Rise, .int .i64 x.Fall], F]) (fun zz K1 => match zz with | i3 => i3 ≤ 255 ∧ law32_HealthPlays_L3b x130 x127 x ((5 : Int).toNat - i3) i3 = some s3) (fun zz => (5 : Int).toNat - zz) (0) rfl ⟨rfl, trivial⟩ (ConvH.of (.cons r0 (.cons r0 (.cons r0 (.cons r0 (.cons r0 (.cons r0 (.cons r0 (.cons r0 (.cons r0 .nil)))))))))) ⟨(Nat.zero_le _), hl3⟩ ?_
                              clear hl3
                              rintro i3 Kb3 lk3 ⟨hu3, hl3⟩ j3
                              conv => whnf
                              refine cond_go rfl ?_
                              conv => whnf
                              refine cond_s (fun w3 => ?_) (fun w3 => ?_)
                              · replace w3 := u8c_w hu3 w3
                                rw [ltn w3, law32_HealthPlays_L3b.eq_2] at hl3
                                conv => whnf
                                refine block_go rfl ?_
                                obtain ⟨x146, q146, hl3⟩ := bnd hl3
                                conv => whnf
                                refine call_fn (law32_name_ok q146) .nil ?_
                                rintro _ K146 _ l146 ⟨rfl, rfl⟩
                                obtain ⟨x147, q147, hl3⟩ := bnd hl3
                                conv => whnf
                                refine call_fn (ref32_Get_ok q147 (LiC.mono S_ref32_Node.R_ok (lk3.trans l146) fd3_0) rfl) .nil ?_
                                rintro _ K147 _ l147 ⟨a147_0, c147_0, rfl, h147_0, rfl⟩
                                conv => whnf
                                refine alloc_rule rfl ?_
                                intro b15
                                conv => whnf
                                refine store_rule r0 rfl ?_
                                conv => whnf
                                refine ⟨rfl, rfl, (Nat.le_of_ble_eq_true rfl), ?_⟩
                                conv => whnf
                                refine ⟨⟨⟨[], false⟩, _, [(_, _), (_, _)]⟩, by kernel_rfl, ⟨Hp.Le.refl _, (ConvH.of (.cons r0 (.cons r7 .nil)))⟩, ?_⟩
                                conv => whnf
                                refine field_addr rfl ?_
                                conv => whnf
                                refine load1_l m0 rfl rfl ?_
                                obtain ⟨x151, q151, hl3⟩ := bnd hl3
                                conv => whnf
                                refine call_fn (health_Checks_State_ok q151) (.cons r3 (.cons r3 (.cons r3 .nil))) ?_
                                rintro _ K151 _ l151 ⟨rfl, rfl⟩
                                conv => whnf
                                refine ⟨⟨l151, (ConvH.of (.cons r3 (.cons r7 .nil)))⟩, ?_⟩
                                conv => whnf
                                refine field_addr rfl ?_
                                conv => whnf
                                refine load1_l m0 rfl rfl ?_
                                conv => whnf
                                refine field_addr rfl ?_
                                conv => whnf
                                refine load1_l m1 rfl rfl ?_
                                conv => whnf
                                refine field_addr rfl ?_
                                conv => whnf
                                refine load1_l m1 rfl rfl ?_
                                obtain ⟨x158, q158, hl3⟩ := bnd hl3
                                conv => whnf
                                refine call_fn (ref32_Of_ok q158 (h147_0.mono l151) rfl) .nil ?_
                                rintro _ K158 _ l158 ⟨rfl, rfl⟩
                                conv => whnf
                                refine ⟨⟨(l151.trans l158), (ConvH.of (.cons r3 (.cons r7 .nil)))⟩, ?_⟩
                                conv => whnf
                                refine neq_int ?_
                                obtain ⟨x168, e168, hl3⟩ := bnd hl3
                                conv => whnf
                                refine cond_s (fun g160_33 => ?_) (fun g160_33 => ?_)
                                · replace e168 := ift g160_33 e168
                                  conv => whnf
                                  refine cond_t g160_33 ?_
                                  conv => whnf
                                  refine cond_t g160_33 ?_
                                  conv => whnf
                                  refine cond_t g160_33 ?_
                                  conv => whnf
                                  refine cond_t g160_33 ?_
                                  conv => whnf
                                  refine cond_t g160_33 ?_
                                  conv => whnf
                                  refine cond_t g160_33 ?_
                                  conv => whnf
                                  refine cond_t g160_33 ?_
                                  conv => whnf
                                  refine cond_go rfl ?_
                                  conv => whnf
                                  refine cond_T ?_
                                  replace hl3 := ift (si e168).symm hl3
                                  obtain rfl := si hl3
                                  replace hl0 := elr hl0
                                  obtain rfl := si hl0
                                  replace hm := elr hm
                                  obtain rfl := si hm
                                  conv => whnf
                                  refine EndStep.mk _ (((((((((((((((l20.trans l31).trans lk0).trans l74).trans l75).trans l127).trans l130).trans l132).trans l138).trans l139).trans ld3_0).trans lk3).trans l146).trans l147).trans l151).trans l158) ⟨rfl, rfl⟩ (ConvH.of (.cons r9 .nil))
                                · replace e168 := iff_ g160_33 e168
                                  conv => whnf
                                  refine cond_f g160_33 ?_
                                  conv => whnf
                                  refine field_addr rfl ?_
                                  conv => whnf
                                  refine cond_f g160_33 ?_
                                  conv => whnf
                                  refine load1_l m0 rfl rfl ?_
                                  conv => whnf
                                  refine cond_f g160_33 ?_
                                  obtain ⟨x164, q164, e168⟩ := bnd e168
                                  conv => whnf
                                  refine call_fn (health_Checks_Drained_ok q164) (.cons r0 (.cons r0 (.cons r0 .nil))) ?_
                                  rintro _ K164 _ l164 ⟨rfl, rfl⟩
                                  conv => whnf
                                  refine ⟨⟨((l151.trans l158).trans l164), (ConvH.of (.cons r3 (.cons r7 .nil)))⟩, ?_⟩
                                  conv => whnf
                                  refine cond_f g160_33 ?_
                                  conv => whnf
                                  refine field_addr rfl ?_
                                  conv => whnf
                                  refine cond_f g160_33 ?_
                                  conv => whnf
                                  refine load1_l m0 rfl rfl ?_
                                  conv => whnf
                                  refine cond_f g160_33 ?_
                                  conv => whnf
                                  refine neq_bool rfl ?_
                                  conv => whnf
                                  refine cond_f g160_33 ?_
                                  conv => whnf
                                  refine cond_go rfl ?_
                                  conv => whnf
                                  refine cond_s (fun w168 => ?_) (fun w168 => ?_)
                                  · replace hl3 := ift ((si e168).symm.trans w168) hl3
                                    obtain rfl := si hl3
                                    replace hl0 := elr hl0
                                    obtain rfl := si hl0
                                    replace hm := elr hm
                                    obtain rfl := si hm
                                    conv => whnf
                                    refine EndStep.mk _ ((((((((((((((((l20.trans l31).trans lk0).trans l74).trans l75).trans l127).trans l130).trans l132).trans l138).trans l139).trans ld3_0).trans lk3).trans l146).trans l147).trans l151).trans l158).trans l164) ⟨rfl, rfl⟩ (ConvH.of (.cons r9 .nil))
                                  · replace hl3 := iff_ ((si e168).symm.trans w168) hl3
                                    conv => whnf
                                    refine u8c_inc rfl ?_
                                    conv => whnf
                                    refine RoundStep.mk (i3 + 1) ⟨rfl, trivial⟩ (by repeat (first | exact trivial | refine And.intro rfl ?_)) (ConvH.of (.cons r4 (.cons r4 (.cons r0 (.cons r0 (.cons r0 (.cons r1 (.cons r1 (.cons r1 (.cons r1 .nil)))))))))) (((((lk3.trans l146).trans l147).trans l151).trans l158).trans l164) (ltnm w3) ⟨(u8c_le w3 rfl), hl3⟩
                              · replace w3 := u8c_w hu3 w3
                                rw [lto w3, law32_HealthPlays_L3b.eq_1] at hl3
                                conv => whnf
                                refine cond_T ?_
                                conv => whnf
                                refine MeetStep.mk (()) trivial (by repeat (first | exact trivial | refine And.intro rfl ?_)) (ConvH.of (.cons r0 (.cons r0 (.cons r0 (.cons r0 (.cons r0 (.cons r0 (.cons r0 (.cons r0 (.cons r0 .nil)))))))))) lk3 (si hl3).symm
                            · rintro t3 Kt3 lt3 rfl j3
                              replace hl0 := elg hl0
                              conv => whnf
                              refine int_in (cntz hx0 hk0) ?_
                              conv => whnf
                              refine RoundStep.mk (i0 + 1, x130, x127, a130_0, c130_0, m127_0, m127_1) ⟨rfl, rfl, trivial⟩ (by repeat (first | exact trivial | refine And.intro rfl ?_)) (ConvH.of (.cons r2 (.cons r2 (.cons r2 (.cons r4 (.cons r4 .nil)))))) (((((((((lk0.trans l74).trans l75).trans l127).trans l130).trans l132).trans l138).trans l139).trans ld3_0).trans lt3) (ltm hx0) ⟨(LiC.mono S_ref32_Node.R_ok lt3 fd3_0), hl0⟩
                        · replace hl0 := iff_ w116 hl0
                          conv => whnf
                          refine field_addr rfl ?_
                          conv => whnf
                          refine store_rule r0 rfl ?_
                          conv => whnf
                          refine ⟨rfl, rfl, (Nat.le_of_ble_eq_true rfl), ?_⟩
                          conv => whnf
                          refine field_addr rfl ?_
                          conv => whnf
                          refine RStep.of (load1_s r0 rfl rfl ?_)
                          obtain ⟨x87, q87, hl0⟩ := bnd hl0
                          conv => whnf
                          refine call_fn (health_Checks_Forget_ok q87) (.cons r2 (.cons r2 (.cons r2 .nil))) ?_
                          rintro _ K87 _ l87 ⟨m87_0, m87_1, rfl, rfl⟩
                          conv => whnf
                          refine neq_bool rfl ?_
                          conv => whnf
                          refine cond_go rfl ?_
                          conv => whnf
                          refine cond_s (fun w89 => ?_) (fun w89 => ?_)
                          · replace hl0 := ift w89 hl0
                            obtain rfl := si hl0
                            replace hm := elr hm
                            obtain rfl := si hm
                            conv => whnf
                            refine EndStep.mk _ (((((l20.trans l31).trans lk0).trans l74).trans l75).trans l87) ⟨rfl, rfl⟩ (ConvH.of (.cons r6 .nil))
                          · replace hl0 := iff_ w89 hl0
                            conv => whnf
                            refine RStep.of (loadn_s r3 rfl (Nat.le_of_ble_eq_true rfl) ?_)
                            obtain ⟨x130, q130, hl0⟩ := bnd hl0
                            conv => whnf
                            refine call_fn (ref32_Put_ok (n' := (⟨x75.Name, [], x75.Drained⟩ : S_ref32_Node)) q130 (LiC.mono S_ref32_Node.R_ok ((l74.trans l75).trans l87) y0_h0) rfl RdC.nil) .nil ?_
                            rintro _ K130 _ l130 ⟨a130_0, c130_0, s130_0, rfl, h130_0, r130_0, rfl⟩
                            conv => whnf
                            refine ⟨⟨⟨[], false⟩, _, [(_, _)]⟩, by kernel_rfl, ⟨Hp.Le.refl _, (ConvH.of (.cons r6 .nil))⟩, ?_⟩
                            obtain ⟨x132, q132, hl0⟩ := bnd hl0
                            conv => whnf
                            refine call_fn (health_Checks_Up_ok q132) (.cons r1 (.cons r1 (.cons r1 .nil))) ?_
                            rintro _ K132 _ l132 ⟨a132_0, c132_0, rfl, h132_0, rfl⟩
                            conv => whnf
                            refine ⟨⟨l132, (ConvH.of (.cons r7 .nil))⟩, ?_⟩
                            conv => whnf
                            refine field_addr rfl ?_
                            conv => whnf
                            refine load1_l m0 rfl rfl ?_
                            conv => whnf
                            refine field_addr rfl ?_
                            conv => whnf
                            refine load1_l m0 rfl rfl ?_
                            obtain ⟨x138, q138, hl0⟩ := bnd hl0
                            conv => whnf
                            refine call_fn (Fn.lendR S_ref32_Node.R_ok (LR.mono S_ref32_Node.R_ok l132 r130_0) Try.call26 (fun K138_0 l138_0 f138_0 => (ref32_Up_ok q138 f138_0 rfl)) (by exact fun _ _ _ _ h => h)) (.cons r4 .nil) ?_
                            rintro _ K138 _ l138 ⟨_, rfl, a138_0, c138_0, rfl, h138_0, rfl⟩
                            conv => whnf
                            refine ⟨⟨(l132.trans l138), (ConvH.of (.cons r8 .nil))⟩, ?_⟩
                            obtain ⟨x139, q139, hl0⟩ := bnd hl0
                            conv => whnf
                            refine call_fn (Fn.lend Try.call24 (fun K139_0 l139_0 f139_0 => (Fn.lend Try.call24 (fun K139_1 l139_1 f139_1 => (base_Texts_ok q139 (f139_0.mono l139_1) rfl f139_1 rfl)) (by exact fun _ _ _ _ h => h))) (by exact fun _ _ _ _ h => h)) (.cons r2 (.cons r1 .nil)) ?_
                            rintro _ K139 _ l139 ⟨_, rfl, _, rfl, rfl, rfl⟩
                            conv => whnf
                            refine ⟨⟨((l132.trans l138).trans l139), (ConvH.of (.cons r8 .nil))⟩, ?_⟩
                            conv => whnf
                            refine un_not ?_
                            conv => whnf
                            refine cond_go rfl ?_
                            conv => whnf
                            refine cond_s (fun w140 => ?_) (fun w140 => ?_)
                            · replace hl0 := ift (not_t (ni_t w140)) hl0
                              obtain rfl := si hl0
                              replace hm := elr hm
                              obtain rfl := si hm
                              conv => whnf
                              refine EndStep.mk _ (((((((((l20.trans l31).trans lk0).trans l74).trans l75).trans l87).trans l130).trans l132).trans l138).trans l139) ⟨rfl, rfl⟩ (ConvH.of (.cons r9 .nil))
                            · replace hl0 := iff_ (not_f (ni_f w140)) hl0
                              obtain ⟨hk3, hl0⟩ := chkb hl0
                              obtain ⟨s3, hl3, hl0⟩ := bnd hl0
                              conv => whnf
                              refine fzCR S_ref32_Node.R_ok r2 (LR.mono S_ref32_Node.R_ok ((l132.trans l138).trans l139) r130_0) fun Kd3_0 ld3_0 fd3_0 => ?_
                              refine code_cut (σ := (Unit)) [4, 14, 15, 141, 142, 143, 144, 145, 146, 147, 148, 149, 150, 151, 152, 153, 154, 155, 156, 157, 158, 159, 160, 161, 162, 163, 164, 165, 166, 167, 168, 169] (fun t3 => []) (fun t3 => [OwnL eS a132_0 9 1 c132_0 x132, OwnL eS a138_0 9 1 c138_0 x138, Cells b31_0 64 [.int .i64 x87.2.rise, .int .i64 x87.2.fall, .map (some m87_0), .map (some m87_1)], MapE strK (fun x => .agg (S_health_status.enc x).toArray) m87_0 x87.2.nodes, MapE strK (fun x => .bool x) m87_1 x87.2.drained, Cells b11 47 [str x75.Name, .slice none 0 0, .bool x75.Drained], Cells b10 34 [.int .u8 (e0.What.toNat : Int), .int .u8 (e0.Node.toNat : Int)], Cells b2 31 [.int .i64 x.Rise, .int .i64 x.Fall], F]) (fun zz K1 => match zz with | t3 => s3 = Fl.go t3) ?_ ?_
                              · refine block_go rfl ?_
                                conv => whnf
                                refine loop_rule (σ := Nat) [4, 14, 15, 141, 142, 143, 144, 145, 146, 147, 148, 149, 150, 151, 152, 153, 154, 155, 156, 157, 158, 159, 160, 161, 162, 163, 164, 165, 166, 167, 168, 169] (fun i3 => [(141, .int .u8 ((UInt8.ofNat i3).toNat : Int))]) (fun i3 => [OwnL eS a132_0 9 1 c132_0 x132, OwnL eS a138_0 9 1 c138_0 x138, Cells b31_0 64 [.int .i64 x87.2.rise, .int .i64 x87.2.fall, .map (some m87_0), .map (some m87_1)], MapE strK (fun x => .agg (S_health_status.enc x).toArray) m87_0 x87.2.nodes, MapE strK (fun x => .bool x) m87_1 x87.2.drained, Cells b11 47 [str x75.Name, .slice none 0 0, .bool x75.Drained], Cells b10 34 [.int .u8 (e0.What.toNat : Int), .int .u8 (e0.Node.toNat : Int)], Cells b2 31 [.int .i64 x.Rise, .int .i64 x.Fall], F]) (fun zz K1 => match zz with | i3 => i3 ≤ 255 ∧ law32_HealthPlays_L3c x130 x87 x ((5 : Int).toNat - i3) i3 = some s3) (fun zz => (5 : Int).toNat - zz) (0) rfl ⟨rfl, trivial⟩ (ConvH.of (.cons r0 (.cons r0 (.cons r0 (.cons r0 (.cons r0 (.cons r0 (.cons r0 (.cons r0 (.cons r0 .nil)))))))))) ⟨(Nat.zero_le _), hl3⟩ ?_
                                clear hl3
                                rintro i3 Kb3 lk3 ⟨hu3, hl3⟩ j3
                                conv => whnf
                                refine cond_go rfl ?_
                                conv => whnf
                                refine cond_s (fun w3 => ?_) (fun w3 => ?_)
                                · replace w3 := u8c_w hu3 w3
                                  rw [ltn w3, law32_HealthPlays_L3c.eq_2] at hl3
                                  conv => whnf
                                  refine block_go rfl ?_
                                  obtain ⟨x146, q146, hl3⟩ := bnd hl3
                                  conv => whnf
                                  refine call_fn (law32_name_ok q146) .nil ?_
                                  rintro _ K146 _ l146 ⟨rfl, rfl⟩
                                  obtain ⟨x147, q147, hl3⟩ := bnd hl3
                                  conv => whnf
                                  refine call_fn (ref32_Get_ok q147 (LiC.mono S_ref32_Node.R_ok (lk3.trans l146) fd3_0) rfl) .nil ?_
                                  rintro _ K147 _ l147 ⟨a147_0, c147_0, rfl, h147_0, rfl⟩
                                  conv => whnf
                                  refine alloc_rule rfl ?_
                                  intro b15
                                  conv => whnf
                                  refine store_rule r0 rfl ?_
                                  conv => whnf
                                  refine ⟨rfl, rfl, (Nat.le_of_ble_eq_true rfl), ?_⟩
                                  conv => whnf
                                  refine ⟨⟨⟨[], false⟩, _, [(_, _), (_, _)]⟩, by kernel_rfl, ⟨Hp.Le.refl _, (ConvH.of (.cons r0 (.cons r7 .nil)))⟩, ?_⟩
                                  conv => whnf
                                  refine field_addr rfl ?_
                                  conv => whnf
                                  refine load1_l m0 rfl rfl ?_
                                  obtain ⟨x151, q151, hl3⟩ := bnd hl3
                                  conv => whnf
                                  refine call_fn (health_Checks_State_ok q151) (.cons r3 (.cons r3 (.cons r3 .nil))) ?_
                                  rintro _ K151 _ l151 ⟨rfl, rfl⟩
                                  conv => whnf
                                  refine ⟨⟨l151, (ConvH.of (.cons r3 (.cons r7 .nil)))⟩, ?_⟩
                                  conv => whnf
                                  refine field_addr rfl ?_
                                  conv => whnf
                                  refine load1_l m0 rfl rfl ?_
                                  conv => whnf
                                  refine field_addr rfl ?_
                                  conv => whnf
                                  refine load1_l m1 rfl rfl ?_
                                  conv => whnf
                                  refine field_addr rfl ?_
                                  conv => whnf
                                  refine load1_l m1 rfl rfl ?_
                                  obtain ⟨x158, q158, hl3⟩ := bnd hl3
                                  conv => whnf
                                  refine call_fn (ref32_Of_ok q158 (h147_0.mono l151) rfl) .nil ?_
                                  rintro _ K158 _ l158 ⟨rfl, rfl⟩
                                  conv => whnf
                                  refine ⟨⟨(l151.trans l158), (ConvH.of (.cons r3 (.cons r7 .nil)))⟩, ?_⟩
                                  conv => whnf
                                  refine neq_int ?_
                                  obtain ⟨x168, e168, hl3⟩ := bnd hl3
                                  conv => whnf
                                  refine cond_s (fun g160_33 => ?_) (fun g160_33 => ?_)
                                  · replace e168 := ift g160_33 e168
                                    conv => whnf
                                    refine cond_t g160_33 ?_
                                    conv => whnf
                                    refine cond_t g160_33 ?_
                                    conv => whnf
                                    refine cond_t g160_33 ?_
                                    conv => whnf
                                    refine cond_t g160_33 ?_
                                    conv => whnf
                                    refine cond_t g160_33 ?_
                                    conv => whnf
                                    refine cond_t g160_33 ?_
                                    conv => whnf
                                    refine cond_t g160_33 ?_
                                    conv => whnf
                                    refine cond_go rfl ?_
                                    conv => whnf
                                    refine cond_T ?_
                                    replace hl3 := ift (si e168).symm hl3
                                    obtain rfl := si hl3
                                    replace hl0 := elr hl0
                                    obtain rfl := si hl0
                                    replace hm := elr hm
                                    obtain rfl := si hm
                                    conv => whnf
                                    refine EndStep.mk _ (((((((((((((((l20.trans l31).trans lk0).trans l74).trans l75).trans l87).trans l130).trans l132).trans l138).trans l139).trans ld3_0).trans lk3).trans l146).trans l147).trans l151).trans l158) ⟨rfl, rfl⟩ (ConvH.of (.cons r9 .nil))
                                  · replace e168 := iff_ g160_33 e168
                                    conv => whnf
                                    refine cond_f g160_33 ?_
                                    conv => whnf
                                    refine field_addr rfl ?_
                                    conv => whnf
                                    refine cond_f g160_33 ?_
                                    conv => whnf
                                    refine load1_l m0 rfl rfl ?_
                                    conv => whnf
                                    refine cond_f g160_33 ?_
                                    obtain ⟨x164, q164, e168⟩ := bnd e168
                                    conv => whnf
                                    refine call_fn (health_Checks_Drained_ok q164) (.cons r0 (.cons r0 (.cons r0 .nil))) ?_
                                    rintro _ K164 _ l164 ⟨rfl, rfl⟩
                                    conv => whnf
                                    refine ⟨⟨((l151.trans l158).trans l164), (ConvH.of (.cons r3 (.cons r7 .nil)))⟩, ?_⟩
                                    conv => whnf
                                    refine cond_f g160_33 ?_
                                    conv => whnf
                                    refine field_addr rfl ?_
                                    conv => whnf
                                    refine cond_f g160_33 ?_
                                    conv => whnf
                                    refine load1_l m0 rfl rfl ?_
                                    conv => whnf
                                    refine cond_f g160_33 ?_
                                    conv => whnf
                                    refine neq_bool rfl ?_
                                    conv => whnf
                                    refine cond_f g160_33 ?_
                                    conv => whnf
                                    refine cond_go rfl ?_
                                    conv => whnf
                                    refine cond_s (fun w168 => ?_) (fun w168 => ?_)
                                    · replace hl3 := ift ((si e168).symm.trans w168) hl3
                                      obtain rfl := si hl3
                                      replace hl0 := elr hl0
                                      obtain rfl := si hl0
                                      replace hm := elr hm
                                      obtain rfl := si hm
                                      conv => whnf
                                      refine EndStep.mk _ ((((((((((((((((l20.trans l31).trans lk0).trans l74).trans l75).trans l87).trans l130).trans l132).trans l138).trans l139).trans ld3_0).trans lk3).trans l146).trans l147).trans l151).trans l158).trans l164) ⟨rfl, rfl⟩ (ConvH.of (.cons r9 .nil))
                                    · replace hl3 := iff_ ((si e168).symm.trans w168) hl3
                                      conv => whnf
                                      refine u8c_inc rfl ?_
                                      conv => whnf
                                      refine RoundStep.mk (i3 + 1) ⟨rfl, trivial⟩ (by repeat (first | exact trivial | refine And.intro rfl ?_)) (ConvH.of (.cons r4 (.cons r4 (.cons r0 (.cons r0 (.cons r0 (.cons r1 (.cons r1 (.cons r1 (.cons r1 .nil)))))))))) (((((lk3.trans l146).trans l147).trans l151).trans l158).trans l164) (ltnm w3) ⟨(u8c_le w3 rfl), hl3⟩
                                · replace w3 := u8c_w hu3 w3
                                  rw [lto w3, law32_HealthPlays_L3c.eq_1] at hl3
                                  conv => whnf
                                  refine cond_T ?_
                                  conv => whnf
                                  refine MeetStep.mk (()) trivial (by repeat (first | exact trivial | refine And.intro rfl ?_)) (ConvH.of (.cons r0 (.cons r0 (.cons r0 (.cons r0 (.cons r0 (.cons r0 (.cons r0 (.cons r0 (.cons r0 .nil)))))))))) lk3 (si hl3).symm
                              · rintro t3 Kt3 lt3 rfl j3
                                replace hl0 := elg hl0
                                conv => whnf
                                refine int_in (cntz hx0 hk0) ?_
                                conv => whnf
                                refine RoundStep.mk (i0 + 1, x130, x87.2, a130_0, c130_0, m87_0, m87_1) ⟨rfl, rfl, trivial⟩ (by repeat (first | exact trivial | refine And.intro rfl ?_)) (ConvH.of (.cons r2 (.cons r2 (.cons r2 (.cons r4 (.cons r4 .nil)))))) (((((((((lk0.trans l74).trans l75).trans l87).trans l130).trans l132).trans l138).trans l139).trans ld3_0).trans lt3) (ltm hx0) ⟨(LiC.mono S_ref32_Node.R_ok lt3 fd3_0), hl0⟩
                    · rw [lty w0, law32_HealthPlays_L0.eq_1] at hl0
                      conv => whnf
                      refine cond_T ?_
                      conv => whnf
                      refine MeetStep.mk ((y0_0, y0_1), y0_a0, y0_c0, my0_1_0, my0_1_1) ⟨rfl, trivial⟩ (by repeat (first | exact trivial | refine And.intro rfl ?_)) (ConvH.of (.cons r0 (.cons r0 (.cons r0 (.cons r0 (.cons r0 .nil)))))) lk0 ⟨y0_h0, (si hl0).symm⟩
                  · rintro ⟨t0, t0_a0, t0_c0, mt0_1_0, mt0_1_1⟩ Kt0 lt0 ⟨t0_h0, rfl⟩ j0
                    replace hm := elg hm
                    obtain rfl := si hm
                    conv => whnf
                    refine EndStep.mk _ ((l20.trans l31).trans lt0) ⟨rfl, rfl⟩ (ConvH.of (.cons r4 .nil))

noncomputable def base_Clip (n' : Int) (low : Int) (high : Int) : Option (Int) :=
  some (max low (min n' high))
set_option maxHeartbeats 8000000 in
theorem base_Clip_ok {n' : Int} {low : Int} {high : Int} {K : Hp} {r : Int}
    (hm : base_Clip n' low high = some r)  :
    Fn Try.prog 17 [.int .i64 n', .int .i64 low, .int .i64 high] K [] (fun v K' H' => v = .int .i64 r ∧ H' = []) := by
  refine Fn.enter Try.func17 Try.call17 rfl fun F => ?_
  unfold base_Clip at hm
  conv => whnf
  refine RStep.of (min_int ?_)
  conv => whnf
  refine RStep.of (max_int ?_)
  obtain rfl := si hm
  conv => whnf
  refine EndStep.mk _ (Hp.Le.refl _) ⟨rfl, rfl⟩ (ConvH.of (.cons r0 .nil))

noncomputable def law32_made (x : S_law32_Limits) : Option (Option S_health_Checks × Bool) :=
  (base_Clip x.Rise 1 100).bind fun x9 =>
  (base_Clip x.Fall 1 100).bind fun x12 =>
  (health_New x9 x12).bind fun x13 =>
  Option.elim x13.1 (
  some (none, x13.2.isNone))
   fun o13 =>
  some ((some o13), x13.2.isNone)
set_option maxHeartbeats 8000000 in
theorem law32_made_ok {x : S_law32_Limits} {K : Hp} {r : Option S_health_Checks × Bool}
    (hm : law32_made x = some r)  :
    Fn Try.prog 13 [.agg #[.int .i64 x.Rise, .int .i64 x.Fall]] K [] (fun v K' H' => match r.1 with | none => (v = .tuple #[.pointer none, .bool r.2] ∧ H' = []) | some ro => (∃ br_0 : Nat, ∃ mr_1 : Nat, ∃ mr_2 : Nat, v = .tuple #[.pointer (some ⟨br_0, 0, none⟩), .bool r.2] ∧ H' = [Cells br_0 64 [.int .i64 ro.rise, .int .i64 ro.fall, .map (some mr_1), .map (some mr_2)], MapE strK (fun x => .agg (S_health_status.enc x).toArray) mr_1 ro.nodes, MapE strK (fun x => .bool x) mr_2 ro.drained])) := by
  refine Fn.enter Try.func13 Try.call13 rfl fun F => ?_
  unfold law32_made at hm
  conv => whnf
  refine box_rule ?_
  intro b1
  conv => whnf
  refine ⟨⟨⟨[], false⟩, _, [(_, _)]⟩, by kernel_rfl, ⟨Hp.Le.refl _, (ConvH.of (.cons r0 .nil))⟩, ?_⟩
  conv => whnf
  refine field_addr rfl ?_
  conv => whnf
  refine load1_l m0 rfl rfl ?_
  obtain ⟨x9, q9, hm⟩ := bnd hm
  conv => whnf
  refine call_fn (base_Clip_ok q9) .nil ?_
  rintro _ K9 _ l9 ⟨rfl, rfl⟩
  conv => whnf
  refine ⟨⟨l9, (ConvH.of (.cons r0 .nil))⟩, ?_⟩
  conv => whnf
  refine field_addr rfl ?_
  conv => whnf
  refine load1_l m0 rfl rfl ?_
  obtain ⟨x12, q12, hm⟩ := bnd hm
  conv => whnf
  refine call_fn (base_Clip_ok q12) .nil ?_
  rintro _ K12 _ l12 ⟨rfl, rfl⟩
  conv => whnf
  refine ⟨⟨(l9.trans l12), (ConvH.of (.cons r0 .nil))⟩, ?_⟩
  obtain ⟨x13, q13, hm⟩ := bnd hm
  conv => whnf
  refine call_fn (health_New_ok q13) .nil ?_
  rintro v13 K13 H13 l13 p13
  rcases hq13 : x13.1 with _ | o13
  · rw [hq13] at p13 hm
    obtain ⟨rfl, rfl⟩ := p13
    replace hm := oe_n hm
    conv => whnf
    refine ⟨⟨((l9.trans l12).trans l13), (ConvH.of (.cons r0 .nil))⟩, ?_⟩
    conv => whnf
    refine ⟨⟨⟨[], false⟩, _, []⟩, by kernel_rfl, ⟨Hp.Le.refl _, (ConvH.of .nil)⟩, ?_⟩
    conv => whnf
    refine eq_err rfl ?_
    obtain rfl := si hm
    conv => whnf
    refine EndStep.mk _ ((l9.trans l12).trans l13) ⟨rfl, rfl⟩ (ConvH.of (.cons r1 .nil))
  · rw [hq13] at p13 hm
    obtain ⟨b13_0, m13_1, m13_2, rfl, rfl⟩ := p13
    replace hm := oe_s hm
    conv => whnf
    refine ⟨⟨((l9.trans l12).trans l13), (ConvH.of (.cons r3 .nil))⟩, ?_⟩
    conv => whnf
    refine ⟨⟨⟨[], false⟩, _, []⟩, by kernel_rfl, ⟨Hp.Le.refl _, (ConvH.of .nil)⟩, ?_⟩
    conv => whnf
    refine eq_err rfl ?_
    obtain rfl := si hm
    conv => whnf
    refine EndStep.mk _ ((l9.trans l12).trans l13) ⟨b13_0, m13_1, m13_2, rfl, rfl⟩ (ConvH.of (.cons r0 (.cons r0 (.cons r0 (.cons r1 .nil)))))

noncomputable def health_Checks_Drain_nil (node : Str) (on : Bool) : Option (Unit) :=
  some ()
set_option maxHeartbeats 8000000 in
theorem health_Checks_Drain_nil_ok {node : Str} {on : Bool} {K : Hp} {r : Unit}
    (hm : health_Checks_Drain_nil node on = some r)  :
    Fn Try.prog 21 [.pointer none, str node, .bool on] K [] (fun v K' H' => v = .tuple #[] ∧ H' = []) := by
  refine Fn.enter Try.func21 Try.call21 rfl fun F => ?_
  unfold health_Checks_Drain_nil at hm
  conv => whnf
  refine eq_nil_nil rfl ?_
  conv => whnf
  refine cond_go rfl ?_
  conv => whnf
  refine cond_T ?_
  obtain rfl := si hm
  conv => whnf
  refine EndStep.mk _ (Hp.Le.refl _) ⟨rfl, rfl⟩ (ConvH.of (.cons r0 .nil))

noncomputable def health_Checks_Forget_nil (node : Str) : Option (Bool) :=
  some false
set_option maxHeartbeats 8000000 in
theorem health_Checks_Forget_nil_ok {node : Str} {K : Hp} {r : Bool}
    (hm : health_Checks_Forget_nil node = some r)  :
    Fn Try.prog 22 [.pointer none, str node] K [] (fun v K' H' => v = .bool r ∧ H' = []) := by
  refine Fn.enter Try.func22 Try.call22 rfl fun F => ?_
  unfold health_Checks_Forget_nil at hm
  conv => whnf
  refine eq_nil_nil rfl ?_
  conv => whnf
  refine cond_go rfl ?_
  conv => whnf
  refine cond_T ?_
  obtain rfl := si hm
  conv => whnf
  refine EndStep.mk _ (Hp.Le.refl _) ⟨rfl, rfl⟩ (ConvH.of (.cons r0 .nil))

noncomputable def law32_play_nil (s : S_law32_Step) : Option (Unit) :=
  if decide (((s.What % (9 : UInt8)).toNat : Int) < 6) then
  (law32_name s.Node).bind fun x19 =>
  (health_Checks_Report_nil x19 (decide (((s.What % (9 : UInt8)).toNat : Int) < 3))).bind fun x22 =>
  some ()
  else
  if decide (((s.What % (9 : UInt8)).toNat : Int) < 8) then
  (law32_name s.Node).bind fun x29 =>
  (health_Checks_Drain_nil x29 (decide (((s.What % (9 : UInt8)).toNat : Int) = 6))).bind fun x32 =>
  some ()
  else
  (law32_name s.Node).bind fun x11 =>
  (health_Checks_Forget_nil x11).bind fun x12 =>
  some ()
set_option maxHeartbeats 8000000 in
theorem law32_play_nil_ok {s : S_law32_Step} {K : Hp} {r : Unit}
    (hm : law32_play_nil s = some r)  :
    Fn Try.prog 14 [.pointer none, .agg #[.int .u8 (s.What.toNat : Int), .int .u8 (s.Node.toNat : Int)]] K [] (fun v K' H' => v = .tuple #[] ∧ H' = []) := by
  refine Fn.enter Try.func14 Try.call14 rfl fun F => ?_
  unfold law32_play_nil at hm
  conv => whnf
  refine box_rule ?_
  intro b3
  conv => whnf
  refine field_addr rfl ?_
  conv => whnf
  refine RStep.of (load1_s r0 rfl rfl ?_)
  conv => whnf
  refine u8_rem (x := s.What) (y := (9 : UInt8)) rfl rfl (by decide) ?_
  conv => whnf
  refine block_go rfl ?_
  conv => whnf
  refine cond_go rfl ?_
  conv => whnf
  refine cond_s (fun w13 => ?_) (fun w13 => ?_)
  · replace hm := ift w13 hm
    conv => whnf
    refine field_addr rfl ?_
    conv => whnf
    refine RStep.of (load1_s r0 rfl rfl ?_)
    obtain ⟨x19, q19, hm⟩ := bnd hm
    conv => whnf
    refine call_fn (law32_name_ok q19) .nil ?_
    rintro _ K19 _ l19 ⟨rfl, rfl⟩
    obtain ⟨x22, q22, hm⟩ := bnd hm
    conv => whnf
    refine call_fn (health_Checks_Report_nil_ok q22) .nil ?_
    rintro _ K22 _ l22 ⟨rfl, rfl⟩
    obtain rfl := si hm
    conv => whnf
    refine EndStep.mk _ (l19.trans l22) ⟨rfl, rfl⟩ (ConvH.of (.cons r1 .nil))
  · replace hm := iff_ w13 hm
    conv => whnf
    refine cond_go rfl ?_
    conv => whnf
    refine cond_s (fun w23 => ?_) (fun w23 => ?_)
    · replace hm := ift w23 hm
      conv => whnf
      refine field_addr rfl ?_
      conv => whnf
      refine RStep.of (load1_s r0 rfl rfl ?_)
      obtain ⟨x29, q29, hm⟩ := bnd hm
      conv => whnf
      refine call_fn (law32_name_ok q29) .nil ?_
      rintro _ K29 _ l29 ⟨rfl, rfl⟩
      conv => whnf
      refine eq_int ?_
      obtain ⟨x32, q32, hm⟩ := bnd hm
      conv => whnf
      refine call_fn (health_Checks_Drain_nil_ok q32) .nil ?_
      rintro _ K32 _ l32 ⟨rfl, rfl⟩
      obtain rfl := si hm
      conv => whnf
      refine EndStep.mk _ (l29.trans l32) ⟨rfl, rfl⟩ (ConvH.of (.cons r1 .nil))
    · replace hm := iff_ w23 hm
      conv => whnf
      refine field_addr rfl ?_
      conv => whnf
      refine RStep.of (load1_s r0 rfl rfl ?_)
      obtain ⟨x11, q11, hm⟩ := bnd hm
      conv => whnf
      refine call_fn (law32_name_ok q11) .nil ?_
      rintro _ K11 _ l11 ⟨rfl, rfl⟩
      obtain ⟨x12, q12, hm⟩ := bnd hm
      conv => whnf
      refine call_fn (health_Checks_Forget_nil_ok q12) .nil ?_
      rintro _ K12 _ l12 ⟨rfl, rfl⟩
      obtain rfl := si hm
      conv => whnf
      refine EndStep.mk _ (l11.trans l12) ⟨rfl, rfl⟩ (ConvH.of (.cons r1 .nil))

noncomputable def health_Checks_State_nil (node : Str) : Option (Int) :=
  some 0
set_option maxHeartbeats 8000000 in
theorem health_Checks_State_nil_ok {node : Str} {K : Hp} {r : Int}
    (hm : health_Checks_State_nil node = some r)  :
    Fn Try.prog 16 [.pointer none, str node] K [] (fun v K' H' => v = .int .i64 r ∧ H' = []) := by
  refine Fn.enter Try.func16 Try.call16 rfl fun F => ?_
  unfold health_Checks_State_nil at hm
  conv => whnf
  refine eq_nil_nil rfl ?_
  conv => whnf
  refine cond_go rfl ?_
  conv => whnf
  refine cond_T ?_
  obtain rfl := si hm
  conv => whnf
  refine EndStep.mk _ (Hp.Le.refl _) ⟨rfl, rfl⟩ (ConvH.of (.cons r0 .nil))

noncomputable def health_Checks_Drained_nil (node : Str) : Option (Bool) :=
  some false
set_option maxHeartbeats 8000000 in
theorem health_Checks_Drained_nil_ok {node : Str} {K : Hp} {r : Bool}
    (hm : health_Checks_Drained_nil node = some r)  :
    Fn Try.prog 27 [.pointer none, str node] K [] (fun v K' H' => v = .bool r ∧ H' = []) := by
  refine Fn.enter Try.func27 Try.call27 rfl fun F => ?_
  unfold health_Checks_Drained_nil at hm
  conv => whnf
  refine neq_nil_nil rfl ?_
  conv => whnf
  refine cond_F ?_
  conv => whnf
  refine cond_F ?_
  conv => whnf
  refine cond_F ?_
  conv => whnf
  refine cond_F ?_
  conv => whnf
  refine cond_F ?_
  conv => whnf
  refine cond_F ?_
  conv => whnf
  refine cond_F ?_
  obtain rfl := si hm
  conv => whnf
  refine EndStep.mk _ (Hp.Le.refl _) ⟨rfl, rfl⟩ (ConvH.of (.cons r0 .nil))

noncomputable def health_Checks_Up_nil : Option ((List Str)) :=
  some []
set_option maxHeartbeats 8000000 in
theorem health_Checks_Up_nil_ok  {K : Hp} {r : (List Str)}
    (hm : health_Checks_Up_nil = some r)  :
    Fn Try.prog 25 [.pointer none] K [] (fun v K' H' => ∃ ar_0 : Option Addr, ∃ cr_0 : Nat, v = .slice ar_0 r.length cr_0 ∧ (0 < r.length → Has ar_0) ∧ H' = [OwnL eS ar_0 9 1 cr_0 r]) := by
  refine Fn.enter Try.func25 Try.call25 rfl fun F => ?_
  unfold health_Checks_Up_nil at hm
  conv => whnf
  refine eq_nil_nil rfl ?_
  conv => whnf
  refine cond_go rfl ?_
  conv => whnf
  refine cond_T ?_
  obtain rfl := si hm
  conv => whnf
  refine nilE eS 9 1 ?_
  refine EndStep.mk _ (Hp.Le.refl _) ⟨none, 0, rfl, (fun h => by simp at h), rfl⟩ (ConvH.of (.cons r0 (.cons r0 .nil)))

noncomputable def law32_has_L0 (n' : Str) : List Str → Nat → Option (Fl (Bool) (Unit))
  | [], _ => some (Fl.go ())
  | e0 :: xs0, i0 =>
    if decide (e0 = n') then
    some (Fl.ret true)
    else
    law32_has_L0 n' xs0 (i0 + 1)
noncomputable def law32_has (l : (List Str)) (n' : Str) : Option (Bool) :=
  (chk (l.length ≤ szMax)).bind fun _ =>
  (law32_has_L0 n' l 0).bind fun s0 => s0.el some fun t0 =>
  some false
set_option maxHeartbeats 8000000 in
theorem law32_has_ok {l : (List Str)} {n' : Str} {ap0_0 : Option Addr} {cp0_0 : Nat} {n0 : Nat} {K : Hp} {r : Bool}
    (hm : law32_has l n' = some r) (hp0_0 : RdC eS K ap0_0 cp0_0 1 l) (en0 : n0 = l.length) :
    Fn Try.prog 28 [.slice ap0_0 n0 cp0_0, str n'] K [] (fun v K' H' => v = .bool r ∧ H' = []) := by
  subst en0
  refine Fn.enter Try.func28 Try.call28 rfl fun F => ?_
  unfold law32_has at hm
  conv => whnf
  refine RStep.of (len_slice rfl ?_)
  obtain ⟨hk0, hm⟩ := chkb hm
  obtain ⟨s0, hl0, hm⟩ := bnd hm
  conv => whnf
  refine code_cut (σ := (Unit)) [4, 6, 9, 10, 11, 12, 13, 14, 15, 16] (fun t0 => []) (fun t0 => [F]) (fun zz K1 => match zz with | t0 => s0 = Fl.go t0) ?_ ?_
  · refine block_go rfl ?_
    conv => whnf
    refine loop_rule (σ := Nat) [4, 6, 9, 10, 11, 12, 13, 14, 15, 16] (fun i0 => [(9, .int .i64 (i0 : Int))]) (fun i0 => [F]) (fun zz K1 => match zz with | i0 => law32_has_L0 n' (l.drop i0) i0 = some s0) (fun zz => l.length - zz) (0) rfl ⟨rfl, trivial⟩ (ConvH.of (.cons r0 .nil)) hl0 ?_
    clear hl0
    rintro i0 Kb0 lk0 hl0 j0
    conv at hl0 => whnf
    conv => whnf
    refine cond_go rfl ?_
    conv => whnf
    refine cond_s (fun w0 => ?_) (fun w0 => ?_)
    · obtain ⟨e0, hx0, hd0⟩ := ltx w0
      rw [hd0, law32_has_L0.eq_2] at hl0
      conv => whnf
      refine block_go rfl ?_
      conv => whnf
      refine RStep.ofN (index_addr rfl rfl (hasK (hp0_0.mono lk0).rd hx0) (nn _) (lt_ofN hx0) ?_)
      conv => whnf
      refine RStep.of (load_rd i0 0 _ _ (hp0_0.mono lk0).rd rfl (mp hx0) rfl rfl ?_)
      conv => whnf
      refine eq_str ?_
      conv => whnf
      refine cond_go rfl ?_
      conv => whnf
      refine cond_s (fun w15 => ?_) (fun w15 => ?_)
      · replace hl0 := ift w15 hl0
        obtain rfl := si hl0
        replace hm := elr hm
        obtain rfl := si hm
        conv => whnf
        refine EndStep.mk _ lk0 ⟨rfl, rfl⟩ (ConvH.of (.cons r0 .nil))
      · replace hl0 := iff_ w15 hl0
        conv => whnf
        refine int_in (cntz hx0 hk0) ?_
        conv => whnf
        refine RoundStep.mk (i0 + 1) ⟨rfl, trivial⟩ (by repeat (first | exact trivial | refine And.intro rfl ?_)) (ConvH.of (.cons r0 .nil)) lk0 (ltm hx0) hl0
    · rw [lty w0, law32_has_L0.eq_1] at hl0
      conv => whnf
      refine cond_T ?_
      conv => whnf
      refine MeetStep.mk (()) trivial (by repeat (first | exact trivial | refine And.intro rfl ?_)) (ConvH.of (.cons r0 .nil)) lk0 (si hl0).symm
  · rintro t0 Kt0 lt0 rfl j0
    replace hm := elg hm
    obtain rfl := si hm
    conv => whnf
    refine EndStep.mk _ lt0 ⟨rfl, rfl⟩ (ConvH.of (.cons r0 .nil))

noncomputable def law32_play (c : S_health_Checks) (s : S_law32_Step) : Option (S_health_Checks) :=
  if decide (((s.What % (9 : UInt8)).toNat : Int) < 6) then
  (law32_name s.Node).bind fun x19 =>
  (health_Checks_Report c x19 (decide (((s.What % (9 : UInt8)).toNat : Int) < 3))).bind fun x22 =>
  some x22.2
  else
  if decide (((s.What % (9 : UInt8)).toNat : Int) < 8) then
  (law32_name s.Node).bind fun x29 =>
  (health_Checks_Drain c x29 (decide (((s.What % (9 : UInt8)).toNat : Int) = 6))).bind fun x32 =>
  some x32
  else
  (law32_name s.Node).bind fun x11 =>
  (health_Checks_Forget c x11).bind fun x12 =>
  some x12.2
set_option maxHeartbeats 8000000 in
theorem law32_play_ok {c : S_health_Checks} {s : S_law32_Step} {b0 : Nat} {mp0_0 : Nat} {mp0_1 : Nat} {K : Hp} {r : S_health_Checks}
    (hm : law32_play c s = some r)  :
    Fn Try.prog 14 [.pointer (some ⟨b0, 0, none⟩), .agg #[.int .u8 (s.What.toNat : Int), .int .u8 (s.Node.toNat : Int)]] K [Cells b0 64 [.int .i64 c.rise, .int .i64 c.fall, .map (some mp0_0), .map (some mp0_1)], MapE strK (fun x => .agg (S_health_status.enc x).toArray) mp0_0 c.nodes, MapE strK (fun x => .bool x) mp0_1 c.drained] (fun v K' H' => ∃ mr_0 : Nat, ∃ mr_1 : Nat, v = .tuple #[] ∧ H' = [Cells b0 64 [.int .i64 r.rise, .int .i64 r.fall, .map (some mr_0), .map (some mr_1)], MapE strK (fun x => .agg (S_health_status.enc x).toArray) mr_0 r.nodes, MapE strK (fun x => .bool x) mr_1 r.drained]) := by
  refine Fn.enter Try.func14 Try.call14 rfl fun F => ?_
  unfold law32_play at hm
  conv => whnf
  refine box_rule ?_
  intro b3
  conv => whnf
  refine field_addr rfl ?_
  conv => whnf
  refine RStep.of (load1_s r0 rfl rfl ?_)
  conv => whnf
  refine u8_rem (x := s.What) (y := (9 : UInt8)) rfl rfl (by decide) ?_
  conv => whnf
  refine block_go rfl ?_
  conv => whnf
  refine cond_go rfl ?_
  conv => whnf
  refine cond_s (fun w13 => ?_) (fun w13 => ?_)
  · replace hm := ift w13 hm
    conv => whnf
    refine field_addr rfl ?_
    conv => whnf
    refine RStep.of (load1_s r0 rfl rfl ?_)
    obtain ⟨x19, q19, hm⟩ := bnd hm
    conv => whnf
    refine call_fn (law32_name_ok q19) .nil ?_
    rintro _ K19 _ l19 ⟨rfl, rfl⟩
    obtain ⟨x22, q22, hm⟩ := bnd hm
    conv => whnf
    refine call_fn (health_Checks_Report_ok q22) (.cons r1 (.cons r1 (.cons r1 .nil))) ?_
    rintro _ K22 _ l22 ⟨m22_0, m22_1, rfl, rfl⟩
    obtain rfl := si hm
    conv => whnf
    refine EndStep.mk _ (l19.trans l22) ⟨m22_0, m22_1, rfl, rfl⟩ (ConvH.of (.cons r0 (.cons r0 (.cons r0 (.cons r1 .nil)))))
  · replace hm := iff_ w13 hm
    conv => whnf
    refine cond_go rfl ?_
    conv => whnf
    refine cond_s (fun w23 => ?_) (fun w23 => ?_)
    · replace hm := ift w23 hm
      conv => whnf
      refine field_addr rfl ?_
      conv => whnf
      refine RStep.of (load1_s r0 rfl rfl ?_)
      obtain ⟨x29, q29, hm⟩ := bnd hm
      conv => whnf
      refine call_fn (law32_name_ok q29) .nil ?_
      rintro _ K29 _ l29 ⟨rfl, rfl⟩
      conv => whnf
      refine eq_int ?_
      obtain ⟨x32, q32, hm⟩ := bnd hm
      conv => whnf
      refine call_fn (health_Checks_Drain_ok q32) (.cons r1 (.cons r1 (.cons r1 .nil))) ?_
      rintro _ K32 _ l32 ⟨m32_0, m32_1, rfl, rfl⟩
      obtain rfl := si hm
      conv => whnf
      refine EndStep.mk _ (l29.trans l32) ⟨m32_0, m32_1, rfl, rfl⟩ (ConvH.of (.cons r0 (.cons r0 (.cons r0 (.cons r1 .nil)))))
    · replace hm := iff_ w23 hm
      conv => whnf
      refine field_addr rfl ?_
      conv => whnf
      refine RStep.of (load1_s r0 rfl rfl ?_)
      obtain ⟨x11, q11, hm⟩ := bnd hm
      conv => whnf
      refine call_fn (law32_name_ok q11) .nil ?_
      rintro _ K11 _ l11 ⟨rfl, rfl⟩
      obtain ⟨x12, q12, hm⟩ := bnd hm
      conv => whnf
      refine call_fn (health_Checks_Forget_ok q12) (.cons r1 (.cons r1 (.cons r1 .nil))) ?_
      rintro _ K12 _ l12 ⟨m12_0, m12_1, rfl, rfl⟩
      obtain rfl := si hm
      conv => whnf
      refine EndStep.mk _ (l11.trans l12) ⟨m12_0, m12_1, rfl, rfl⟩ (ConvH.of (.cons r0 (.cons r0 (.cons r0 (.cons r1 .nil)))))
