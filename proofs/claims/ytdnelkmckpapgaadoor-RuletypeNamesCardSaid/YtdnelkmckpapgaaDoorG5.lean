/- Functions of the program: mirrors, and that a call returns what the mirror says. Printed by gen.py. -/
import Derived.Test.YtdnelkmckpapgaaDoorG4
set_option linter.unusedVariables false
set_option linter.unusedSimpArgs false
open Go Go.SL Go.Proofs
set_option maxRecDepth 1000000
noncomputable def law44_RuletypeNames_L0 : List S_ref44_Binding → Nat → (List S_ruletype_Binding) → Option ((List S_ruletype_Binding))
 | [], _, y0_0 => some y0_0
 | e0 :: xs0, i0, y0_0 =>
  (chk (y0_0.length + [(⟨e0.Name, e0.TypeZ⟩ : S_ruletype_Binding)].length ≤ lim)).bind fun _ =>
  law44_RuletypeNames_L0 xs0 (i0 + 1) (y0_0 ++ [(⟨e0.Name, e0.TypeZ⟩ : S_ruletype_Binding)])
noncomputable def law44_RuletypeNames (n : Nat) (e : S_ref43_Node) (env : (List S_ref44_Binding)) : Option (Bool) :=
 (law44_Large n e).bind fun x14 =>
 (if (x14 || decide ((env.length : Int) > 50)) then some true else (law44_uses n e ([102, 114, 101, 115, 104, 95, 110, 97, 109, 101] : Str)).bind fun x22 =>
 some x22).bind fun x23 =>
 (if x23 then some true else (law44_awake n).bind fun x25 =>
 some (!x25)).bind fun x27 =>
 if x27 then
 (law44_Large n e).bind fun x29 =>
 (if (x29 || decide ((env.length : Int) > 50)) then some true else (law44_uses n e ([102, 114, 101, 115, 104, 95, 110, 97, 109, 101] : Str)).bind fun x37 =>
 some x37).bind fun x38 =>
 some x38
 else
 (chk (env.length ≤ szMax)).bind fun _ =>
 (law44_RuletypeNames_L0 env 0 []).bind fun t0 =>
 (law43_Of n e).bind fun x56 =>
 (ruletype_Of n x56 t0).bind fun x58 =>
 if x58.2.isSome then
 some (decide (x58.1 = 0))
 else
 if (decide (x58.1 < 1) || decide (x58.1 > 3)) then
 some false
 else
 (law43_Of n (⟨23, ([102, 114, 101, 115, 104, 95, 110, 97, 109, 101] : Str), [], 0⟩ : S_ref43_Node)).bind fun x73 =>
 (chk (t0.length + ([(⟨([102, 114, 101, 115, 104, 95, 110, 97, 109, 101] : Str), x58.1⟩ : S_ruletype_Binding)]).length ≤ lim)).bind fun _ =>
 (ruletype_Of n x73 (t0 ++ [(⟨([102, 114, 101, 115, 104, 95, 110, 97, 109, 101] : Str), x58.1⟩ : S_ruletype_Binding)])).bind fun x79 =>
 if (x79.2.isSome || decide (x79.1 ≠ x58.1)) then
 some false
 else
 (law44_Program ([(⟨7, ([] : Str), [(⟨16, ([61, 61] : Str), [e, e], 0⟩ : S_ref43_Node)], 0⟩ : S_ref43_Node)])).bind fun x97 =>
 (ref43_Valid n x97).bind fun x98 =>
 if (!x98) then
 some true
 else
 (law43_Of n (⟨16, ([61, 61] : Str), [e, e], 0⟩ : S_ref43_Node)).bind fun x102 =>
 (ruletype_Of n x102 t0).bind fun x104 =>
 some (x104.2.isNone && decide (x104.1 = 3))
set_option maxHeartbeats 8000000 in
theorem law44_RuletypeNames_ok {n : Nat} {e : S_ref43_Node} {env : (List S_ref44_Binding)} {ap0_0 : Option Addr} {cp0_0 : Nat} {ap1_0 : Option Addr} {cp1_0 : Nat} {n1 : Nat} {K : Hp} {r : Bool}
  (hm : law44_RuletypeNames n e env = some r) (hp0_0 : LiC S_ref43_Node.R K ap0_0 cp0_0 4 e.Kids) (hp1_0 : RdC S_ref44_Binding.enc K ap1_0 cp1_0 2 env) (en1 : n1 = env.length) (hG0 : GlL eS 1 0 gkw0 K) :
  Fn Tryd.prog 8 [.agg #[.int .i64 e.Kind, str e.Text, .slice ap0_0 e.Kids.length cp0_0, .int .i64 e.Line], .slice ap1_0 n1 cp1_0] K [] (fun v K' H' => v = .bool r ∧ H' = []) := by
 subst en1
 obtain ⟨ga0, gn0, gc0, gn_, gs0, gd0⟩ := id hG0
 subst gn_
 refine Fn.enter Tryd.func8 Tryd.call8 rfl fun F => ?_
 unfold law44_RuletypeNames at hm
 conv => whnf
 refine box_rule ?_
 intro b2
 conv => whnf
 refine RStep.of (loadn_s r0 rfl (Nat.le_of_ble_eq_true rfl) ?_)
 obtain ⟨x14, q14, hm⟩ := bnd hm
 conv => whnf
 refine call_fn (law44_Large_ok (n' := e) q14 hp0_0) .nil ?_
 rintro _ K14 _ l14 ⟨rfl, rfl⟩
 conv => whnf
 refine cond_s (fun g15_1 => ?_) (fun g15_1 => ?_)
 ·conv => whnf
  refine cond_t g15_1 ?_
  conv => whnf
  refine cond_t g15_1 ?_
  conv => whnf
  refine cond_t g15_1 ?_
  obtain ⟨x23, e23, hm⟩ := bnd hm
  replace e23 := ift (or_t g15_1) e23
  conv => whnf
  refine cond_T ?_
  conv => whnf
  refine cond_T ?_
  conv => whnf
  refine cond_T ?_
  obtain ⟨x27, e27, hm⟩ := bnd hm
  replace e27 := ift (si e23).symm e27
  conv => whnf
  refine cond_T ?_
  conv => whnf
  refine cond_T ?_
  conv => whnf
  refine cond_T ?_
  conv => whnf
  refine cond_go rfl ?_
  conv => whnf
  refine cond_T ?_
  replace hm := ift (si e27).symm hm
  conv => whnf
  refine RStep.of (loadn_s r0 rfl (Nat.le_of_ble_eq_true rfl) ?_)
  obtain ⟨x29, q29, hm⟩ := bnd hm
  conv => whnf
  refine call_fn (law44_Large_ok (n' := e) q29 (LiC.mono S_ref43_Node.R_ok l14 hp0_0)) .nil ?_
  rintro _ K29 _ l29 ⟨rfl, rfl⟩
  conv => whnf
  refine cond_s (fun g30_2 => ?_) (fun g30_2 => ?_)
  ·conv => whnf
   refine cond_t g30_2 ?_
   conv => whnf
   refine cond_t g30_2 ?_
   conv => whnf
   refine cond_t g30_2 ?_
   obtain ⟨x38, e38, hm⟩ := bnd hm
   replace e38 := ift (or_t g30_2) e38
   conv => whnf
   refine cond_T ?_
   conv => whnf
   refine cond_T ?_
   conv => whnf
   refine cond_T ?_
   obtain rfl := si hm
   conv => whnf
   refine EndStep.mk _ (l14.trans l29) ⟨(by rw [← ((si e38).symm).symm] <;> rfl), rfl⟩ (ConvH.of (.cons r1 .nil))
  ·conv => whnf
   refine cond_f g30_2 ?_
   conv => whnf
   refine RStep.of (len_slice rfl ?_)
   conv => whnf
   refine cond_f g30_2 ?_
   conv => whnf
   refine cond_f g30_2 ?_
   obtain ⟨x38, e38, hm⟩ := bnd hm
   conv => whnf
   refine cond_s (fun g35_2 => ?_) (fun g35_2 => ?_)
   ·replace e38 := ift (or_u g30_2 g35_2) e38
    conv => whnf
    refine cond_t g35_2 ?_
    conv => whnf
    refine cond_t g35_2 ?_
    obtain rfl := si hm
    conv => whnf
    refine EndStep.mk _ (l14.trans l29) ⟨(by rw [← ((si e38).symm).symm] <;> rfl), rfl⟩ (ConvH.of (.cons r1 .nil))
   ·replace e38 := iff_ (or_f g30_2 g35_2) e38
    conv => whnf
    refine RStep.of (loadn_s r0 rfl (Nat.le_of_ble_eq_true rfl) ?_)
    conv => whnf
    refine cond_f g35_2 ?_
    obtain ⟨x37, q37, e38⟩ := bnd e38
    conv => whnf
    refine call_fn (law44_uses_ok (n' := e) (name := ([102, 114, 101, 115, 104, 95, 110, 97, 109, 101] : Str)) q37 (LiC.mono S_ref43_Node.R_ok (l14.trans l29) hp0_0)) .nil ?_
    rintro _ K37 _ l37 ⟨rfl, rfl⟩
    conv => whnf
    refine cond_f g35_2 ?_
    obtain rfl := si hm
    conv => whnf
    refine EndStep.mk _ ((l14.trans l29).trans l37) ⟨(by rw [← (si e38)] <;> rfl), rfl⟩ (ConvH.of (.cons r1 .nil))
 ·conv => whnf
  refine cond_f g15_1 ?_
  conv => whnf
  refine RStep.of (len_slice rfl ?_)
  conv => whnf
  refine cond_f g15_1 ?_
  conv => whnf
  refine cond_f g15_1 ?_
  obtain ⟨x23, e23, hm⟩ := bnd hm
  conv => whnf
  refine cond_s (fun g20_1 => ?_) (fun g20_1 => ?_)
  ·replace e23 := ift (or_u g15_1 g20_1) e23
   conv => whnf
   refine cond_t g20_1 ?_
   conv => whnf
   refine cond_t g20_1 ?_
   obtain ⟨x27, e27, hm⟩ := bnd hm
   replace e27 := ift (si e23).symm e27
   conv => whnf
   refine cond_T ?_
   conv => whnf
   refine cond_T ?_
   conv => whnf
   refine cond_T ?_
   conv => whnf
   refine cond_go rfl ?_
   conv => whnf
   refine cond_T ?_
   replace hm := ift (si e27).symm hm
   conv => whnf
   refine RStep.of (loadn_s r0 rfl (Nat.le_of_ble_eq_true rfl) ?_)
   obtain ⟨x29, q29, hm⟩ := bnd hm
   conv => whnf
   refine call_fn (law44_Large_ok (n' := e) q29 (LiC.mono S_ref43_Node.R_ok l14 hp0_0)) .nil ?_
   rintro _ K29 _ l29 ⟨rfl, rfl⟩
   conv => whnf
   refine cond_s (fun g30_2 => ?_) (fun g30_2 => ?_)
   ·conv => whnf
    refine cond_t g30_2 ?_
    conv => whnf
    refine cond_t g30_2 ?_
    conv => whnf
    refine cond_t g30_2 ?_
    obtain ⟨x38, e38, hm⟩ := bnd hm
    replace e38 := ift (or_t g30_2) e38
    conv => whnf
    refine cond_T ?_
    conv => whnf
    refine cond_T ?_
    conv => whnf
    refine cond_T ?_
    obtain rfl := si hm
    conv => whnf
    refine EndStep.mk _ (l14.trans l29) ⟨(by rw [← ((si e38).symm).symm] <;> rfl), rfl⟩ (ConvH.of (.cons r1 .nil))
   ·conv => whnf
    refine cond_f g30_2 ?_
    conv => whnf
    refine RStep.of (len_slice rfl ?_)
    conv => whnf
    refine cond_f g30_2 ?_
    conv => whnf
    refine cond_f g30_2 ?_
    obtain ⟨x38, e38, hm⟩ := bnd hm
    conv => whnf
    refine cond_s (fun g35_2 => ?_) (fun g35_2 => ?_)
    ·replace e38 := ift (or_u g30_2 g35_2) e38
     conv => whnf
     refine cond_t g35_2 ?_
     conv => whnf
     refine cond_t g35_2 ?_
     obtain rfl := si hm
     conv => whnf
     refine EndStep.mk _ (l14.trans l29) ⟨(by rw [← ((si e38).symm).symm] <;> rfl), rfl⟩ (ConvH.of (.cons r1 .nil))
    ·replace e38 := iff_ (or_f g30_2 g35_2) e38
     conv => whnf
     refine RStep.of (loadn_s r0 rfl (Nat.le_of_ble_eq_true rfl) ?_)
     conv => whnf
     refine cond_f g35_2 ?_
     obtain ⟨x37, q37, e38⟩ := bnd e38
     conv => whnf
     refine call_fn (law44_uses_ok (n' := e) (name := ([102, 114, 101, 115, 104, 95, 110, 97, 109, 101] : Str)) q37 (LiC.mono S_ref43_Node.R_ok (l14.trans l29) hp0_0)) .nil ?_
     rintro _ K37 _ l37 ⟨rfl, rfl⟩
     conv => whnf
     refine cond_f g35_2 ?_
     obtain rfl := si hm
     conv => whnf
     refine EndStep.mk _ ((l14.trans l29).trans l37) ⟨(by rw [← (si e38)] <;> rfl), rfl⟩ (ConvH.of (.cons r1 .nil))
  ·replace e23 := iff_ (or_f g15_1 g20_1) e23
   conv => whnf
   refine RStep.of (loadn_s r0 rfl (Nat.le_of_ble_eq_true rfl) ?_)
   conv => whnf
   refine cond_f g20_1 ?_
   obtain ⟨x22, q22, e23⟩ := bnd e23
   conv => whnf
   refine call_fn (law44_uses_ok (n' := e) (name := ([102, 114, 101, 115, 104, 95, 110, 97, 109, 101] : Str)) q22 (LiC.mono S_ref43_Node.R_ok l14 hp0_0)) .nil ?_
   rintro _ K22 _ l22 ⟨rfl, rfl⟩
   conv => whnf
   refine cond_f g20_1 ?_
   obtain ⟨x27, e27, hm⟩ := bnd hm
   conv => whnf
   refine cond_s (fun g24_1 => ?_) (fun g24_1 => ?_)
   ·replace e27 := ift ((si e23).symm.trans g24_1) e27
    conv => whnf
    refine cond_t g24_1 ?_
    conv => whnf
    refine cond_t g24_1 ?_
    conv => whnf
    refine cond_go rfl ?_
    conv => whnf
    refine cond_T ?_
    replace hm := ift (si e27).symm hm
    conv => whnf
    refine RStep.of (loadn_s r0 rfl (Nat.le_of_ble_eq_true rfl) ?_)
    obtain ⟨x29, q29, hm⟩ := bnd hm
    conv => whnf
    refine call_fn (law44_Large_ok (n' := e) q29 (LiC.mono S_ref43_Node.R_ok (l14.trans l22) hp0_0)) .nil ?_
    rintro _ K29 _ l29 ⟨rfl, rfl⟩
    conv => whnf
    refine cond_s (fun g30_2 => ?_) (fun g30_2 => ?_)
    ·conv => whnf
     refine cond_t g30_2 ?_
     conv => whnf
     refine cond_t g30_2 ?_
     conv => whnf
     refine cond_t g30_2 ?_
     obtain ⟨x38, e38, hm⟩ := bnd hm
     replace e38 := ift (or_t g30_2) e38
     conv => whnf
     refine cond_T ?_
     conv => whnf
     refine cond_T ?_
     conv => whnf
     refine cond_T ?_
     obtain rfl := si hm
     conv => whnf
     refine EndStep.mk _ ((l14.trans l22).trans l29) ⟨(by rw [← ((si e38).symm).symm] <;> rfl), rfl⟩ (ConvH.of (.cons r1 .nil))
    ·conv => whnf
     refine cond_f g30_2 ?_
     conv => whnf
     refine RStep.of (len_slice rfl ?_)
     conv => whnf
     refine cond_f g30_2 ?_
     conv => whnf
     refine cond_f g30_2 ?_
     obtain ⟨x38, e38, hm⟩ := bnd hm
     conv => whnf
     refine cond_s (fun g35_2 => ?_) (fun g35_2 => ?_)
     ·replace e38 := ift (or_u g30_2 g35_2) e38
      conv => whnf
      refine cond_t g35_2 ?_
      conv => whnf
      refine cond_t g35_2 ?_
      obtain rfl := si hm
      conv => whnf
      refine EndStep.mk _ ((l14.trans l22).trans l29) ⟨(by rw [← ((si e38).symm).symm] <;> rfl), rfl⟩ (ConvH.of (.cons r1 .nil))
     ·replace e38 := iff_ (or_f g30_2 g35_2) e38
      conv => whnf
      refine RStep.of (loadn_s r0 rfl (Nat.le_of_ble_eq_true rfl) ?_)
      conv => whnf
      refine cond_f g35_2 ?_
      obtain ⟨x37, q37, e38⟩ := bnd e38
      conv => whnf
      refine call_fn (law44_uses_ok (n' := e) (name := ([102, 114, 101, 115, 104, 95, 110, 97, 109, 101] : Str)) q37 (LiC.mono S_ref43_Node.R_ok ((l14.trans l22).trans l29) hp0_0)) .nil ?_
      rintro _ K37 _ l37 ⟨rfl, rfl⟩
      conv => whnf
      refine cond_f g35_2 ?_
      obtain rfl := si hm
      conv => whnf
      refine EndStep.mk _ (((l14.trans l22).trans l29).trans l37) ⟨(by rw [← (si e38)] <;> rfl), rfl⟩ (ConvH.of (.cons r1 .nil))
   ·replace e27 := iff_ ((si e23).symm.trans g24_1) e27
    obtain ⟨x25, q25, e27⟩ := bnd e27
    conv => whnf
    refine call_fn (law44_awake_ok q25 (hG0.mono (l14.trans l22))) .nil ?_
    rintro _ K25 _ l25 ⟨rfl, rfl⟩
    conv => whnf
    refine cond_f g24_1 ?_
    conv => whnf
    refine un_not ?_
    conv => whnf
    refine cond_f g24_1 ?_
    conv => whnf
    refine cond_go rfl ?_
    conv => whnf
    refine cond_s (fun w27 => ?_) (fun w27 => ?_)
    ·replace hm := ift ((si e27).symm.trans (not_t (ni_t w27))) hm
     conv => whnf
     refine RStep.of (loadn_s r0 rfl (Nat.le_of_ble_eq_true rfl) ?_)
     obtain ⟨x29, q29, hm⟩ := bnd hm
     conv => whnf
     refine call_fn (law44_Large_ok (n' := e) q29 (LiC.mono S_ref43_Node.R_ok ((l14.trans l22).trans l25) hp0_0)) .nil ?_
     rintro _ K29 _ l29 ⟨rfl, rfl⟩
     conv => whnf
     refine cond_s (fun g30_2 => ?_) (fun g30_2 => ?_)
     ·conv => whnf
      refine cond_t g30_2 ?_
      conv => whnf
      refine cond_t g30_2 ?_
      conv => whnf
      refine cond_t g30_2 ?_
      obtain ⟨x38, e38, hm⟩ := bnd hm
      replace e38 := ift (or_t g30_2) e38
      conv => whnf
      refine cond_T ?_
      conv => whnf
      refine cond_T ?_
      conv => whnf
      refine cond_T ?_
      obtain rfl := si hm
      conv => whnf
      refine EndStep.mk _ (((l14.trans l22).trans l25).trans l29) ⟨(by rw [← ((si e38).symm).symm] <;> rfl), rfl⟩ (ConvH.of (.cons r1 .nil))
     ·conv => whnf
      refine cond_f g30_2 ?_
      conv => whnf
      refine RStep.of (len_slice rfl ?_)
      conv => whnf
      refine cond_f g30_2 ?_
      conv => whnf
      refine cond_f g30_2 ?_
      obtain ⟨x38, e38, hm⟩ := bnd hm
      conv => whnf
      refine cond_s (fun g35_2 => ?_) (fun g35_2 => ?_)
      ·replace e38 := ift (or_u g30_2 g35_2) e38
       conv => whnf
       refine cond_t g35_2 ?_
       conv => whnf
       refine cond_t g35_2 ?_
       obtain rfl := si hm
       conv => whnf
       refine EndStep.mk _ (((l14.trans l22).trans l25).trans l29) ⟨(by rw [← ((si e38).symm).symm] <;> rfl), rfl⟩ (ConvH.of (.cons r1 .nil))
      ·replace e38 := iff_ (or_f g30_2 g35_2) e38
       conv => whnf
       refine RStep.of (loadn_s r0 rfl (Nat.le_of_ble_eq_true rfl) ?_)
       conv => whnf
       refine cond_f g35_2 ?_
       obtain ⟨x37, q37, e38⟩ := bnd e38
       conv => whnf
       refine call_fn (law44_uses_ok (n' := e) (name := ([102, 114, 101, 115, 104, 95, 110, 97, 109, 101] : Str)) q37 (LiC.mono S_ref43_Node.R_ok (((l14.trans l22).trans l25).trans l29) hp0_0)) .nil ?_
       rintro _ K37 _ l37 ⟨rfl, rfl⟩
       conv => whnf
       refine cond_f g35_2 ?_
       obtain rfl := si hm
       conv => whnf
       refine EndStep.mk _ ((((l14.trans l22).trans l25).trans l29).trans l37) ⟨(by rw [← (si e38)] <;> rfl), rfl⟩ (ConvH.of (.cons r1 .nil))
    ·replace hm := iff_ ((si e27).symm.trans (not_f (ni_f w27))) hm
     conv => whnf
     refine RStep.of (len_slice rfl ?_)
     obtain ⟨hk0, hm⟩ := chkb hm
     obtain ⟨s0, hl0, hm⟩ := bnd hm
     conv => whnf
     refine nilC S_ruletype_Binding.enc 58 2 ?_
     refine code_cut (σ := ((List S_ruletype_Binding)) × Option Addr × Nat) [5, 7, 41, 42, 43, 44, 45, 46, 47, 48, 49, 50, 51, 52, 53] (fun (t0, t0_a0, t0_c0) => [(5, .slice t0_a0 t0.length t0_c0)]) (fun (t0, t0_a0, t0_c0) => [OwnL S_ruletype_Binding.enc t0_a0 58 2 t0_c0 t0, Cells b2 24 [.int .i64 e.Kind, str e.Text, .slice ap0_0 e.Kids.length cp0_0, .int .i64 e.Line], F]) (fun zz K1 => match zz with | (t0, t0_a0, t0_c0) => (0 < t0.length → Has t0_a0) ∧ t0 = s0) ?_ ?_
     ·refine block_go rfl ?_
      conv => whnf
      refine loop_rule (σ := Nat × (List S_ruletype_Binding) × Option Addr × Nat) [5, 7, 41, 42, 43, 44, 45, 46, 47, 48, 49, 50, 51, 52, 53] (fun (i0, y0_0, y0_a0, y0_c0) => [(41, .int .i64 (i0 : Int)), (5, .slice y0_a0 y0_0.length y0_c0)]) (fun (i0, y0_0, y0_a0, y0_c0) => [OwnL S_ruletype_Binding.enc y0_a0 58 2 y0_c0 y0_0, Cells b2 24 [.int .i64 e.Kind, str e.Text, .slice ap0_0 e.Kids.length cp0_0, .int .i64 e.Line], F]) (fun zz K1 => match zz with | (i0, y0_0, y0_a0, y0_c0) => (0 < y0_0.length → Has y0_a0) ∧ law44_RuletypeNames_L0 (env.drop i0) i0 y0_0 = some s0) (fun zz => env.length - zz.1) (0, [], none, 0) rfl ⟨rfl, rfl, trivial⟩ (ConvH.of (.cons r0 (.cons r0 (.cons r0 .nil)))) ⟨(fun h => by simp at h), hl0⟩ ?_
      clear hl0
      rintro ⟨i0, y0_0, y0_a0, y0_c0⟩ Kb0 lk0 ⟨y0_h0, hl0⟩ j0
      conv => whnf
      refine cond_go rfl ?_
      conv => whnf
      refine cond_s (fun w0 => ?_) (fun w0 => ?_)
      ·obtain ⟨e0, hx0, hd0⟩ := ltx w0
       rw [hd0, law44_RuletypeNames_L0.eq_2] at hl0
       conv => whnf
       refine block_go rfl ?_
       conv => whnf
       refine RStep.ofN (index_addr rfl rfl (hasK (hp1_0.mono (((l14.trans l22).trans l25).trans lk0)).rd hx0) (nn _) (lt_ofN hx0) ?_)
       conv => whnf
       refine RStep.of (load_rd_agg i0 _ (hp1_0.mono (((l14.trans l22).trans l25).trans lk0)).rd rfl (mp hx0) rfl ?_)
       conv => whnf
       refine alloc_rule rfl ?_
       intro b7
       conv => whnf
       refine store_rule r0 rfl ?_
       conv => whnf
       refine ⟨rfl, rfl, (Nat.le_of_ble_eq_true rfl), ?_⟩
       conv => whnf
       refine field_addr rfl ?_
       conv => whnf
       refine RStep.of (load1_s r0 rfl rfl ?_)
       conv => whnf
       refine field_addr rfl ?_
       conv => whnf
       refine RStep.of (load1_s r0 rfl rfl ?_)
       conv => whnf
       refine build_struct rfl rfl ?_
       conv => whnf
       refine cond_T ?_
       conv => whnf
       refine cond_T ?_
       conv => whnf
       refine bsO (len := 1) (enc := S_ruletype_Binding.enc) (l := [(⟨e0.Name, e0.TypeZ⟩ : S_ruletype_Binding)]) (cl := [str e0.Name, .int .i64 e0.TypeZ]) elT55 rfl rfl (fun _ _ => rfl) rfl rfl rfl ?_ fun b51 => ?_
       ·conv => whnf
        refine cond_T ?_
        conv => whnf
        first | done | rfl
       obtain ⟨h52, hl0⟩ := chkb hl0
       conv => whnf
       refine apE rfl r2 elT55 (src_own' rfl r0 rfl (fun _ => rfl) (fun _ => rfl)) h52 ?_
       intro a52 c52 o52
       conv => whnf
       refine int_in (cntz hx0 hk0) ?_
       conv => whnf
       refine RoundStep.mk (i0 + 1, (y0_0 ++ [(⟨e0.Name, e0.TypeZ⟩ : S_ruletype_Binding)]), a52, c52) ⟨rfl, rfl, trivial⟩ (by repeat (first | exact trivial | refine And.intro rfl ?_)) (ConvH.of (.cons r0 (.cons r2 (.cons r2 .nil)))) lk0 (ltm hx0) ⟨o52, hl0⟩
      ·rw [lty w0, law44_RuletypeNames_L0.eq_1] at hl0
       conv => whnf
       refine cond_T ?_
       conv => whnf
       refine MeetStep.mk (y0_0, y0_a0, y0_c0) ⟨rfl, trivial⟩ (by repeat (first | exact trivial | refine And.intro rfl ?_)) (ConvH.of (.cons r0 (.cons r0 (.cons r0 .nil)))) lk0 ⟨y0_h0, (si hl0)⟩
     ·rintro ⟨t0, t0_a0, t0_c0⟩ Kt0 lt0 ⟨t0_h0, rfl⟩ j0
      conv => whnf
      refine RStep.of (loadn_s r1 rfl (Nat.le_of_ble_eq_true rfl) ?_)
      obtain ⟨x56, q56, hm⟩ := bnd hm
      conv => whnf
      refine call_fn (law43_Of_ok (n' := e) q56 (LiC.mono S_ref43_Node.R_ok (((l14.trans l22).trans l25).trans lt0) hp0_0)) .nil ?_
      rintro _ K56 _ l56 ⟨a56_0, c56_0, s56_0, rfl, h56_0, r56_0, rfl⟩
      obtain ⟨x58, q58, hm⟩ := bnd hm
      conv => whnf
      refine fzFR Tryd.call27 S_ruletree_Node.R_ok r0 r56_0 fun Kf58_0_0 lf58_0_0 ff58_0_0 => ?_
      refine call_fn (Fn.lend Tryd.call27 (fun K58_1 l58_1 f58_1 => (ruletype_Of_ok (n' := x56) q58 (LiC.mono S_ruletree_Node.R_ok l58_1 ff58_0_0) f58_1 rfl (hG0.mono ((((((l14.trans l22).trans l25).trans lt0).trans l56).trans lf58_0_0).trans l58_1)))) (by exact fun _ _ _ _ h => h)) (.cons r0 .nil) ?_
      rintro _ K58 _ l58 ⟨_, rfl, rfl, rfl⟩
      conv => whnf
      refine neq_err rfl ?_
      conv => whnf
      refine cond_go rfl ?_
      conv => whnf
      refine cond_s (fun w62 => ?_) (fun w62 => ?_)
      ·replace hm := ift w62 hm
       conv => whnf
       refine eq_int ?_
       obtain rfl := si hm
       conv => whnf
       refine EndStep.mk _ ((((((l14.trans l22).trans l25).trans lt0).trans l56).trans lf58_0_0).trans l58) ⟨rfl, rfl⟩ (ConvH.of (.cons r2 .nil))
      ·replace hm := iff_ w62 hm
       conv => whnf
       refine cond_s (fun g67_12 => ?_) (fun g67_12 => ?_)
       ·conv => whnf
        refine cond_t g67_12 ?_
        conv => whnf
        refine cond_t g67_12 ?_
        conv => whnf
        refine cond_go rfl ?_
        conv => whnf
        refine cond_T ?_
        replace hm := ift (or_t g67_12) hm
        obtain rfl := si hm
        conv => whnf
        refine EndStep.mk _ ((((((l14.trans l22).trans l25).trans lt0).trans l56).trans lf58_0_0).trans l58) ⟨rfl, rfl⟩ (ConvH.of (.cons r2 .nil))
       ·conv => whnf
        refine cond_f g67_12 ?_
        conv => whnf
        refine cond_f g67_12 ?_
        conv => whnf
        refine cond_go rfl ?_
        conv => whnf
        refine cond_s (fun w70 => ?_) (fun w70 => ?_)
        ·replace hm := ift (or_u g67_12 w70) hm
         obtain rfl := si hm
         conv => whnf
         refine EndStep.mk _ ((((((l14.trans l22).trans l25).trans lt0).trans l56).trans lf58_0_0).trans l58) ⟨rfl, rfl⟩ (ConvH.of (.cons r2 .nil))
        ·replace hm := iff_ (or_f g67_12 w70) hm
         conv => whnf
         refine build_struct rfl rfl ?_
         conv => whnf
         refine cond_T ?_
         conv => whnf
         refine cond_T ?_
         obtain ⟨x73, q73, hm⟩ := bnd hm
         conv => whnf
         refine call_fn (law43_Of_ok (n' := (⟨23, ([102, 114, 101, 115, 104, 95, 110, 97, 109, 101] : Str), [], 0⟩ : S_ref43_Node)) q73 LiC.nil) .nil ?_
         rintro _ K73 _ l73 ⟨a73_0, c73_0, s73_0, rfl, h73_0, r73_0, rfl⟩
         conv => whnf
         refine build_struct rfl rfl ?_
         conv => whnf
         refine cond_T ?_
         conv => whnf
         refine cond_T ?_
         conv => whnf
         refine bsO (len := 1) (enc := S_ruletype_Binding.enc) (l := [(⟨([102, 114, 101, 115, 104, 95, 110, 97, 109, 101] : Str), x58.1⟩ : S_ruletype_Binding)]) (cl := [str ([102, 114, 101, 115, 104, 95, 110, 97, 109, 101] : Str), .int .i64 x58.1]) elT55 rfl rfl (fun _ _ => rfl) rfl rfl rfl ?_ fun b77 => ?_
         ·conv => whnf
          refine cond_T ?_
          conv => whnf
          first | done | rfl
         obtain ⟨h78, hm⟩ := chkb hm
         conv => whnf
         refine apEK rfl r2 elT55 (src_own' rfl r0 rfl (fun _ => rfl) (fun _ => rfl)) h78 ?_
         intro a78 c78 Ka78 la78 fa78 fb78
         obtain ⟨x79, q79, hm⟩ := bnd hm
         conv => whnf
         refine fzFR Tryd.call27 S_ruletree_Node.R_ok r1 (LR.mono S_ruletree_Node.R_ok la78 r73_0) fun Kf79_0_0 lf79_0_0 ff79_0_0 => ?_
         refine call_fn (ruletype_Of_ok (n' := x73) q79 ff79_0_0 (fa78.mono lf79_0_0) rfl (hG0.mono (((((((((l14.trans l22).trans l25).trans lt0).trans l56).trans lf58_0_0).trans l58).trans l73).trans la78).trans lf79_0_0))) .nil ?_
         rintro _ K79 _ l79 ⟨rfl, rfl⟩
         conv => whnf
         refine neq_err rfl ?_
         conv => whnf
         refine cond_s (fun g84_15 => ?_) (fun g84_15 => ?_)
         ·conv => whnf
          refine cond_t g84_15 ?_
          conv => whnf
          refine cond_t g84_15 ?_
          conv => whnf
          refine cond_t g84_15 ?_
          conv => whnf
          refine cond_go rfl ?_
          conv => whnf
          refine cond_T ?_
          replace hm := ift (or_t g84_15) hm
          obtain rfl := si hm
          conv => whnf
          refine EndStep.mk _ ((((((((((l14.trans l22).trans l25).trans lt0).trans l56).trans lf58_0_0).trans l58).trans l73).trans la78).trans lf79_0_0).trans l79) ⟨rfl, rfl⟩ (ConvH.of (.cons r2 .nil))
         ·conv => whnf
          refine cond_f g84_15 ?_
          conv => whnf
          refine cond_f g84_15 ?_
          conv => whnf
          refine neq_int ?_
          conv => whnf
          refine cond_f g84_15 ?_
          conv => whnf
          refine cond_go rfl ?_
          conv => whnf
          refine cond_s (fun w88 => ?_) (fun w88 => ?_)
          ·replace hm := ift (or_u g84_15 w88) hm
           obtain rfl := si hm
           conv => whnf
           refine EndStep.mk _ ((((((((((l14.trans l22).trans l25).trans lt0).trans l56).trans lf58_0_0).trans l58).trans l73).trans la78).trans lf79_0_0).trans l79) ⟨rfl, rfl⟩ (ConvH.of (.cons r2 .nil))
          ·replace hm := iff_ (or_f g84_15 w88) hm
           conv => whnf
           refine RStep.of (loadn_s r1 rfl (Nat.le_of_ble_eq_true rfl) ?_)
           conv => whnf
           refine RStep.of (loadn_s r1 rfl (Nat.le_of_ble_eq_true rfl) ?_)
           conv => whnf
           refine bsOR (len := 2) (l := [e, e]) (css := [[.int .i64 e.Kind, str e.Text, .slice ap0_0 e.Kids.length cp0_0, .int .i64 e.Line], [.int .i64 e.Kind, str e.Text, .slice ap0_0 e.Kids.length cp0_0, .int .i64 e.Line]]) (cl := [.int .i64 e.Kind, str e.Text, .slice ap0_0 e.Kids.length cp0_0, .int .i64 e.Line, .int .i64 e.Kind, str e.Text, .slice ap0_0 e.Kids.length cp0_0, .int .i64 e.Line]) S_ref43_Node.R_ok elT22 rfl rfl (LR.snoc (LR.snoc LR.nil (S_ref43_Node.of ⟨ap0_0, cp0_0, rfl, (LiC.mono S_ref43_Node.R_ok ((((((((((l14.trans l22).trans l25).trans lt0).trans l56).trans lf58_0_0).trans l58).trans l73).trans la78).trans lf79_0_0).trans l79) hp0_0)⟩)) (S_ref43_Node.of ⟨ap0_0, cp0_0, rfl, (LiC.mono S_ref43_Node.R_ok ((((((((((l14.trans l22).trans l25).trans lt0).trans l56).trans lf58_0_0).trans l58).trans l73).trans la78).trans lf79_0_0).trans l79) hp0_0)⟩)) rfl rfl rfl ?_ fun b91 => ?_
           ·conv => whnf
            refine cond_T ?_
            conv => whnf
            refine cond_T ?_
            conv => whnf
            first | done | rfl
           conv => whnf
           refine build_struct rfl rfl ?_
           conv => whnf
           refine cond_T ?_
           conv => whnf
           refine cond_T ?_
           conv => whnf
           refine cond_T ?_
           conv => whnf
           refine alloc_rule rfl ?_
           intro b11
           conv => whnf
           refine store_rule r0 rfl ?_
           conv => whnf
           refine ⟨rfl, rfl, (Nat.le_of_ble_eq_true rfl), ?_⟩
           conv => whnf
           refine RStep.of (loadn_s r0 rfl (Nat.le_of_ble_eq_true rfl) ?_)
           conv => whnf
           refine fzWR S_ref43_Node.R_ok r1 (show LR S_ref43_Node.R _ [[.int .i64 e.Kind, str e.Text, .slice ap0_0 e.Kids.length cp0_0, .int .i64 e.Line], [.int .i64 e.Kind, str e.Text, .slice ap0_0 e.Kids.length cp0_0, .int .i64 e.Line]] [e, e] from (LR.snoc (LR.snoc LR.nil (S_ref43_Node.of ⟨ap0_0, cp0_0, rfl, (LiC.mono S_ref43_Node.R_ok ((((((((((l14.trans l22).trans l25).trans lt0).trans l56).trans lf58_0_0).trans l58).trans l73).trans la78).trans lf79_0_0).trans l79) hp0_0)⟩)) (S_ref43_Node.of ⟨ap0_0, cp0_0, rfl, (LiC.mono S_ref43_Node.R_ok ((((((((((l14.trans l22).trans l25).trans lt0).trans l56).trans lf58_0_0).trans l58).trans l73).trans la78).trans lf79_0_0).trans l79) hp0_0)⟩))) fun Kf94_0_0 lf94_0_0 ff94_0_0 => ?_
           refine bsOR (len := 1) (l := [(⟨16, ([61, 61] : Str), [e, e], 0⟩ : S_ref43_Node)]) (css := [[.int .i64 16, str ([61, 61] : Str), .slice (some ⟨b91, 0, none⟩) 2 2, .int .i64 0]]) (cl := [.int .i64 16, str ([61, 61] : Str), .slice (some ⟨b91, 0, none⟩) 2 2, .int .i64 0]) S_ref43_Node.R_ok elT22 rfl rfl (LR.snoc LR.nil (S_ref43_Node.of ⟨(some ⟨b91, 0, none⟩), 2, rfl, ff94_0_0⟩)) rfl rfl rfl ?_ fun b94 => ?_
           ·conv => whnf
            refine cond_T ?_
            conv => whnf
            first | done | rfl
           conv => whnf
           refine build_struct rfl rfl ?_
           conv => whnf
           refine cond_T ?_
           conv => whnf
           refine cond_T ?_
           conv => whnf
           refine fzWR S_ref43_Node.R_ok r0 (show LR S_ref43_Node.R _ [[.int .i64 16, str ([61, 61] : Str), .slice (some ⟨b91, 0, none⟩) 2 2, .int .i64 0]] [(⟨16, ([61, 61] : Str), [e, e], 0⟩ : S_ref43_Node)] from (LR.snoc LR.nil (S_ref43_Node.of ⟨(some ⟨b91, 0, none⟩), 2, rfl, ff94_0_0⟩))) fun Kf96_0_0 lf96_0_0 ff96_0_0 => ?_
           refine bsOR (len := 1) (l := [(⟨7, ([] : Str), [(⟨16, ([61, 61] : Str), [e, e], 0⟩ : S_ref43_Node)], 0⟩ : S_ref43_Node)]) (css := [[.int .i64 7, str ([] : Str), .slice (some ⟨b94, 0, none⟩) 1 1, .int .i64 0]]) (cl := [.int .i64 7, str ([] : Str), .slice (some ⟨b94, 0, none⟩) 1 1, .int .i64 0]) S_ref43_Node.R_ok elT22 rfl rfl (LR.snoc LR.nil (S_ref43_Node.of ⟨(some ⟨b94, 0, none⟩), 1, rfl, ff96_0_0⟩)) rfl rfl rfl ?_ fun b96 => ?_
           ·conv => whnf
            refine cond_T ?_
            conv => whnf
            first | done | rfl
           obtain ⟨x97, q97, hm⟩ := bnd hm
           conv => whnf
           refine fzFR Tryd.call18 S_ref43_Node.R_ok r0 (show LR S_ref43_Node.R _ [[.int .i64 7, str ([] : Str), .slice (some ⟨b94, 0, none⟩) 1 1, .int .i64 0]] [(⟨7, ([] : Str), [(⟨16, ([61, 61] : Str), [e, e], 0⟩ : S_ref43_Node)], 0⟩ : S_ref43_Node)] from (LR.snoc LR.nil (S_ref43_Node.of ⟨(some ⟨b94, 0, none⟩), 1, rfl, ff96_0_0⟩))) fun K97_0 l97_0 f97_0 => ?_
           refine call_fn (law44_Program_ok q97 f97_0 rfl) .nil ?_
           rintro _ K97 _ l97 ⟨a97_0, c97_0, rfl, h97_0, rfl⟩
           obtain ⟨x98, q98, hm⟩ := bnd hm
           conv => whnf
           refine call_fn (ref43_Valid_ok (n' := x97) q98 h97_0) .nil ?_
           rintro _ K98 _ l98 ⟨rfl, rfl⟩
           conv => whnf
           refine un_not ?_
           conv => whnf
           refine cond_go rfl ?_
           conv => whnf
           refine cond_s (fun w99 => ?_) (fun w99 => ?_)
           ·replace hm := ift (not_t (ni_t w99)) hm
            obtain rfl := si hm
            conv => whnf
            refine EndStep.mk _ (((((((((((((((l14.trans l22).trans l25).trans lt0).trans l56).trans lf58_0_0).trans l58).trans l73).trans la78).trans lf79_0_0).trans l79).trans lf94_0_0).trans lf96_0_0).trans l97_0).trans l97).trans l98) ⟨rfl, rfl⟩ (ConvH.of (.cons r3 .nil))
           ·replace hm := iff_ (not_f (ni_f w99)) hm
            conv => whnf
            refine RStep.of (loadn_s r0 rfl (Nat.le_of_ble_eq_true rfl) ?_)
            obtain ⟨x102, q102, hm⟩ := bnd hm
            conv => whnf
            refine call_fn (law43_Of_ok (n' := (⟨16, ([61, 61] : Str), [e, e], 0⟩ : S_ref43_Node)) q102 (LiC.mono S_ref43_Node.R_ok (((lf96_0_0.trans l97_0).trans l97).trans l98) ff94_0_0)) .nil ?_
            rintro _ K102 _ l102 ⟨a102_0, c102_0, s102_0, rfl, h102_0, r102_0, rfl⟩
            obtain ⟨x104, q104, hm⟩ := bnd hm
            conv => whnf
            refine fzFR Tryd.call27 S_ruletree_Node.R_ok r0 r102_0 fun Kf104_0_0 lf104_0_0 ff104_0_0 => ?_
            refine call_fn (ruletype_Of_ok (n' := x102) q104 ff104_0_0 (fb78.mono ((((((((lf79_0_0.trans l79).trans lf94_0_0).trans lf96_0_0).trans l97_0).trans l97).trans l98).trans l102).trans lf104_0_0)) rfl (hG0.mono (((((((((((((((((l14.trans l22).trans l25).trans lt0).trans l56).trans lf58_0_0).trans l58).trans l73).trans la78).trans lf79_0_0).trans l79).trans lf94_0_0).trans lf96_0_0).trans l97_0).trans l97).trans l98).trans l102).trans lf104_0_0))) .nil ?_
            rintro _ K104 _ l104 ⟨rfl, rfl⟩
            conv => whnf
            refine eq_err rfl ?_
            conv => whnf
            refine cond_s (fun g109_21 => ?_) (fun g109_21 => ?_)
            ·conv => whnf
             refine cond_t g109_21 ?_
             conv => whnf
             refine eq_int ?_
             conv => whnf
             refine cond_t g109_21 ?_
             obtain rfl := si hm
             conv => whnf
             refine EndStep.mk _ ((((((((((((((((((l14.trans l22).trans l25).trans lt0).trans l56).trans lf58_0_0).trans l58).trans l73).trans la78).trans lf79_0_0).trans l79).trans lf94_0_0).trans lf96_0_0).trans l97_0).trans l97).trans l98).trans l102).trans lf104_0_0).trans l104) ⟨(by rw [← (and_e (b := decide (x104.1 = 3)) g109_21)] <;> rfl), rfl⟩ (ConvH.of (.cons r3 .nil))
            ·conv => whnf
             refine cond_f g109_21 ?_
             conv => whnf
             refine cond_f g109_21 ?_
             obtain rfl := si hm
             conv => whnf
             refine EndStep.mk _ ((((((((((((((((((l14.trans l22).trans l25).trans lt0).trans l56).trans lf58_0_0).trans l58).trans l73).trans la78).trans lf79_0_0).trans l79).trans lf94_0_0).trans lf96_0_0).trans l97_0).trans l97).trans l98).trans l102).trans lf104_0_0).trans l104) ⟨(by rw [← ((and_f g109_21)).symm] <;> rfl), rfl⟩ (ConvH.of (.cons r3 .nil))
