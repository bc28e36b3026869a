/- Functions of the program: mirrors, and that a call returns what the mirror says. Printed by gen.py. -/
import Derived.Test.YtdnelkmckpapgaaDoorG4
set_option linter.unusedVariables false
set_option linter.unusedSimpArgs false
open Go Go.SL Go.Proofs
set_option maxRecDepth 1000000
noncomputable def law44_RuletypePrefixes (n : Nat) (n' : S_ref43_Node) (atZ : UInt8) : Option (Bool) :=
  (law44_Large n n').bind fun x11 =>
  (if (x11 || decide ((n'.Kids.length : Int) = 0)) then some true else (law44_awake n).bind fun x19 =>
  some (!x19)).bind fun x21 =>
  if x21 then
  (law44_Large n n').bind fun x23 =>
  some (x23 || decide ((n'.Kids.length : Int) = 0))
  else
  (chk (InI ((n'.Kids.length : Int) + 1))).bind fun _ =>
  (chk (((n'.Kids.length : Int) + 1) ≠ 0)).bind fun _ =>
  (law44_Program n'.Kids).bind fun x39 =>
  (ref43_Valid n x39).bind fun x40 =>
  if (!x40) then
  some true
  else
  (chk (0 ≤ (0 : Int) ∧ (0 : Int) ≤ (Int.tmod (atZ.toNat : Int) ((n'.Kids.length : Int) + 1)) ∧ (Int.tmod (atZ.toNat : Int) ((n'.Kids.length : Int) + 1)) ≤ (n'.Kids.length : Int))).bind fun _ =>
  (law44_check n (subL n'.Kids (0 : Int) (Int.tmod (atZ.toNat : Int) ((n'.Kids.length : Int) + 1)))).bind fun x47 =>
  (law44_check n n'.Kids).bind fun x53 =>
  if decide (x47.2 ≠ 0) then
  some (decide (x47.1 = x53.1) && decide (x47.2 = x53.2))
  else
  if decide (x47.1 = 0) then
  some (decide (x53.2 ≠ 0) || decide (x53.1 = 0))
  else
  some false
set_option maxHeartbeats 8000000 in
theorem law44_RuletypePrefixes_ok {n : Nat} {n' : S_ref43_Node} {atZ : UInt8} {ap0_0 : Option Addr} {cp0_0 : Nat} {K : Hp} {r : Bool}
    (hm : law44_RuletypePrefixes n n' atZ = some r) (hp0_0 : LiC S_ref43_Node.R K ap0_0 cp0_0 4 n'.Kids) (hG0 : GlL eS 1 0 gkw0 K) :
    Fn Tryd.prog 4 [.agg #[.int .i64 n'.Kind, str n'.Text, .slice ap0_0 n'.Kids.length cp0_0, .int .i64 n'.Line], .int .u8 (atZ.toNat : Int)] K [] (fun v K' H' => v = .bool r ∧ H' = []) := by
  obtain ⟨ga0, gn0, gc0, gn_, gs0, gd0⟩ := id hG0
  subst gn_
  refine Fn.enter Tryd.func4 Tryd.call4 rfl fun F => ?_
  unfold law44_RuletypePrefixes at hm
  conv => whnf
  refine box_rule ?_
  intro b2
  conv => whnf
  refine RStep.of (loadn_s r0 rfl (Nat.le_of_ble_eq_true rfl) ?_)
  obtain ⟨x11, q11, hm⟩ := bnd hm
  conv => whnf
  refine call_fn (law44_Large_ok (n' := n') q11 hp0_0) .nil ?_
  rintro _ K11 _ l11 ⟨rfl, rfl⟩
  conv => whnf
  refine cond_s (fun g12_1 => ?_) (fun g12_1 => ?_)
  · conv => whnf
    refine cond_t g12_1 ?_
    conv => whnf
    refine cond_t g12_1 ?_
    conv => whnf
    refine cond_t g12_1 ?_
    conv => whnf
    refine cond_t g12_1 ?_
    obtain ⟨x21, e21, hm⟩ := bnd hm
    replace e21 := ift (or_t g12_1) e21
    conv => whnf
    refine cond_T ?_
    conv => whnf
    refine cond_T ?_
    conv => whnf
    refine cond_T ?_
    conv => whnf
    refine cond_go rfl ?_
    conv => whnf
    refine cond_T ?_
    replace hm := ift (si e21).symm hm
    conv => whnf
    refine RStep.of (loadn_s r0 rfl (Nat.le_of_ble_eq_true rfl) ?_)
    obtain ⟨x23, q23, hm⟩ := bnd hm
    conv => whnf
    refine call_fn (law44_Large_ok (n' := n') q23 (LiC.mono S_ref43_Node.R_ok l11 hp0_0)) .nil ?_
    rintro _ K23 _ l23 ⟨rfl, rfl⟩
    conv => whnf
    refine cond_s (fun g24_2 => ?_) (fun g24_2 => ?_)
    · conv => whnf
      refine cond_t g24_2 ?_
      conv => whnf
      refine cond_t g24_2 ?_
      conv => whnf
      refine cond_t g24_2 ?_
      conv => whnf
      refine cond_t g24_2 ?_
      obtain rfl := si hm
      conv => whnf
      refine EndStep.mk _ (l11.trans l23) ⟨(by rw [← ((or_t g24_2)).symm] <;> rfl), rfl⟩ (ConvH.of (.cons r1 .nil))
    · conv => whnf
      refine field_addr rfl ?_
      conv => whnf
      refine cond_f g24_2 ?_
      conv => whnf
      refine RStep.of (load1_s r0 rfl rfl ?_)
      conv => whnf
      refine cond_f g24_2 ?_
      conv => whnf
      refine RStep.of (len_slice rfl ?_)
      conv => whnf
      refine cond_f g24_2 ?_
      conv => whnf
      refine eq_int ?_
      conv => whnf
      refine cond_f g24_2 ?_
      obtain rfl := si hm
      conv => whnf
      refine EndStep.mk _ (l11.trans l23) ⟨(by rw [← (or_e (b := decide ((n'.Kids.length : Int) = 0)) g24_2)] <;> rfl), rfl⟩ (ConvH.of (.cons r1 .nil))
  · conv => whnf
    refine field_addr rfl ?_
    conv => whnf
    refine cond_f g12_1 ?_
    conv => whnf
    refine RStep.of (load1_s r0 rfl rfl ?_)
    conv => whnf
    refine cond_f g12_1 ?_
    conv => whnf
    refine RStep.of (len_slice rfl ?_)
    conv => whnf
    refine cond_f g12_1 ?_
    conv => whnf
    refine eq_int ?_
    conv => whnf
    refine cond_f g12_1 ?_
    obtain ⟨x21, e21, hm⟩ := bnd hm
    conv => whnf
    refine cond_s (fun g18_1 => ?_) (fun g18_1 => ?_)
    · replace e21 := ift (or_u g12_1 g18_1) e21
      conv => whnf
      refine cond_t g18_1 ?_
      conv => whnf
      refine cond_t g18_1 ?_
      conv => whnf
      refine cond_go rfl ?_
      conv => whnf
      refine cond_T ?_
      replace hm := ift (si e21).symm hm
      conv => whnf
      refine RStep.of (loadn_s r0 rfl (Nat.le_of_ble_eq_true rfl) ?_)
      obtain ⟨x23, q23, hm⟩ := bnd hm
      conv => whnf
      refine call_fn (law44_Large_ok (n' := n') q23 (LiC.mono S_ref43_Node.R_ok l11 hp0_0)) .nil ?_
      rintro _ K23 _ l23 ⟨rfl, rfl⟩
      conv => whnf
      refine cond_s (fun g24_2 => ?_) (fun g24_2 => ?_)
      · conv => whnf
        refine cond_t g24_2 ?_
        conv => whnf
        refine cond_t g24_2 ?_
        conv => whnf
        refine cond_t g24_2 ?_
        conv => whnf
        refine cond_t g24_2 ?_
        obtain rfl := si hm
        conv => whnf
        refine EndStep.mk _ (l11.trans l23) ⟨(by rw [← ((or_t g24_2)).symm] <;> rfl), rfl⟩ (ConvH.of (.cons r1 .nil))
      · conv => whnf
        refine field_addr rfl ?_
        conv => whnf
        refine cond_f g24_2 ?_
        conv => whnf
        refine RStep.of (load1_s r0 rfl rfl ?_)
        conv => whnf
        refine cond_f g24_2 ?_
        conv => whnf
        refine RStep.of (len_slice rfl ?_)
        conv => whnf
        refine cond_f g24_2 ?_
        conv => whnf
        refine eq_int ?_
        conv => whnf
        refine cond_f g24_2 ?_
        obtain rfl := si hm
        conv => whnf
        refine EndStep.mk _ (l11.trans l23) ⟨(by rw [← (or_e (b := decide ((n'.Kids.length : Int) = 0)) g24_2)] <;> rfl), rfl⟩ (ConvH.of (.cons r1 .nil))
    · replace e21 := iff_ (or_f g12_1 g18_1) e21
      obtain ⟨x19, q19, e21⟩ := bnd e21
      conv => whnf
      refine call_fn (law44_awake_ok q19 (hG0.mono l11)) .nil ?_
      rintro _ K19 _ l19 ⟨rfl, rfl⟩
      conv => whnf
      refine cond_f g18_1 ?_
      conv => whnf
      refine un_not ?_
      conv => whnf
      refine cond_f g18_1 ?_
      conv => whnf
      refine cond_go rfl ?_
      conv => whnf
      refine cond_s (fun w21 => ?_) (fun w21 => ?_)
      · replace hm := ift ((si e21).symm.trans (not_t (ni_t w21))) hm
        conv => whnf
        refine RStep.of (loadn_s r0 rfl (Nat.le_of_ble_eq_true rfl) ?_)
        obtain ⟨x23, q23, hm⟩ := bnd hm
        conv => whnf
        refine call_fn (law44_Large_ok (n' := n') q23 (LiC.mono S_ref43_Node.R_ok (l11.trans l19) hp0_0)) .nil ?_
        rintro _ K23 _ l23 ⟨rfl, rfl⟩
        conv => whnf
        refine cond_s (fun g24_2 => ?_) (fun g24_2 => ?_)
        · conv => whnf
          refine cond_t g24_2 ?_
          conv => whnf
          refine cond_t g24_2 ?_
          conv => whnf
          refine cond_t g24_2 ?_
          conv => whnf
          refine cond_t g24_2 ?_
          obtain rfl := si hm
          conv => whnf
          refine EndStep.mk _ ((l11.trans l19).trans l23) ⟨(by rw [← ((or_t g24_2)).symm] <;> rfl), rfl⟩ (ConvH.of (.cons r1 .nil))
        · conv => whnf
          refine field_addr rfl ?_
          conv => whnf
          refine cond_f g24_2 ?_
          conv => whnf
          refine RStep.of (load1_s r0 rfl rfl ?_)
          conv => whnf
          refine cond_f g24_2 ?_
          conv => whnf
          refine RStep.of (len_slice rfl ?_)
          conv => whnf
          refine cond_f g24_2 ?_
          conv => whnf
          refine eq_int ?_
          conv => whnf
          refine cond_f g24_2 ?_
          obtain rfl := si hm
          conv => whnf
          refine EndStep.mk _ ((l11.trans l19).trans l23) ⟨(by rw [← (or_e (b := decide ((n'.Kids.length : Int) = 0)) g24_2)] <;> rfl), rfl⟩ (ConvH.of (.cons r1 .nil))
      · replace hm := iff_ ((si e21).symm.trans (not_f (ni_f w21))) hm
        conv => whnf
        refine conv_int rfl rfl (u8in atZ) ?_
        conv => whnf
        refine field_addr rfl ?_
        conv => whnf
        refine RStep.of (load1_s r0 rfl rfl ?_)
        conv => whnf
        refine RStep.of (len_slice rfl ?_)
        obtain ⟨h35, hm⟩ := chkb hm
        conv => whnf
        refine int_in h35 ?_
        obtain ⟨h36, hm⟩ := chkb hm
        conv => whnf
        refine rem_t h36 ?_
        conv => whnf
        refine field_addr rfl ?_
        conv => whnf
        refine RStep.of (load1_s r0 rfl rfl ?_)
        obtain ⟨x39, q39, hm⟩ := bnd hm
        conv => whnf
        refine call_fn (law44_Program_ok q39 (LiC.mono S_ref43_Node.R_ok (l11.trans l19) hp0_0) rfl) .nil ?_
        rintro _ K39 _ l39 ⟨a39_0, c39_0, rfl, h39_0, rfl⟩
        obtain ⟨x40, q40, hm⟩ := bnd hm
        conv => whnf
        refine call_fn (ref43_Valid_ok (n' := x39) q40 h39_0) .nil ?_
        rintro _ K40 _ l40 ⟨rfl, rfl⟩
        conv => whnf
        refine un_not ?_
        conv => whnf
        refine cond_go rfl ?_
        conv => whnf
        refine cond_s (fun w41 => ?_) (fun w41 => ?_)
        · replace hm := ift (not_t (ni_t w41)) hm
          obtain rfl := si hm
          conv => whnf
          refine EndStep.mk _ (((l11.trans l19).trans l39).trans l40) ⟨rfl, rfl⟩ (ConvH.of (.cons r1 .nil))
        · replace hm := iff_ (not_f (ni_f w41)) hm
          conv => whnf
          refine field_addr rfl ?_
          conv => whnf
          refine RStep.of (load1_s r0 rfl rfl ?_)
          obtain ⟨h46, hm⟩ := chkb hm
          have h46_ := (LiC.mono S_ref43_Node.R_ok (((l11.trans l19).trans l39).trans l40) hp0_0).subC h46
          conv => whnf
          refine RStep.ofN (sl_slN (l := n'.Kids) (lo := none) (hi := (some (Int.tmod (atZ.toNat : Int) ((n'.Kids.length : Int) + 1)))) (lo' := (0 : Int)) (hi' := (Int.tmod (atZ.toNat : Int) ((n'.Kids.length : Int) + 1))) rfl rfl rfl rfl rfl (LiC.mono S_ref43_Node.R_ok (((l11.trans l19).trans l39).trans l40) hp0_0).le h46 ?_)
          obtain ⟨x47, q47, hm⟩ := bnd hm
          conv => whnf
          refine call_fn (law44_check_ok q47 h46_ rfl (hG0.mono (((l11.trans l19).trans l39).trans l40))) .nil ?_
          rintro _ K47 _ l47 ⟨rfl, rfl⟩
          conv => whnf
          refine field_addr rfl ?_
          conv => whnf
          refine RStep.of (load1_s r0 rfl rfl ?_)
          obtain ⟨x53, q53, hm⟩ := bnd hm
          conv => whnf
          refine call_fn (law44_check_ok q53 (LiC.mono S_ref43_Node.R_ok ((((l11.trans l19).trans l39).trans l40).trans l47) hp0_0) rfl (hG0.mono ((((l11.trans l19).trans l39).trans l40).trans l47))) .nil ?_
          rintro _ K53 _ l53 ⟨rfl, rfl⟩
          conv => whnf
          refine neq_int ?_
          conv => whnf
          refine cond_go rfl ?_
          conv => whnf
          refine cond_s (fun w57 => ?_) (fun w57 => ?_)
          · replace hm := ift w57 hm
            conv => whnf
            refine eq_int ?_
            conv => whnf
            refine cond_s (fun g61_9 => ?_) (fun g61_9 => ?_)
            · conv => whnf
              refine cond_t g61_9 ?_
              conv => whnf
              refine cond_t g61_9 ?_
              conv => whnf
              refine eq_int ?_
              conv => whnf
              refine cond_t g61_9 ?_
              obtain rfl := si hm
              conv => whnf
              refine EndStep.mk _ (((((l11.trans l19).trans l39).trans l40).trans l47).trans l53) ⟨(by rw [← (and_e (b := decide (x47.2 = x53.2)) g61_9)] <;> rfl), rfl⟩ (ConvH.of (.cons r1 .nil))
            · conv => whnf
              refine cond_f g61_9 ?_
              conv => whnf
              refine cond_f g61_9 ?_
              conv => whnf
              refine cond_f g61_9 ?_
              obtain rfl := si hm
              conv => whnf
              refine EndStep.mk _ (((((l11.trans l19).trans l39).trans l40).trans l47).trans l53) ⟨(by rw [← ((and_f g61_9)).symm] <;> rfl), rfl⟩ (ConvH.of (.cons r1 .nil))
          · replace hm := iff_ w57 hm
            conv => whnf
            refine eq_int ?_
            conv => whnf
            refine cond_s (fun g68_10 => ?_) (fun g68_10 => ?_)
            · replace hm := ift g68_10 hm
              conv => whnf
              refine cond_t g68_10 ?_
              conv => whnf
              refine neq_int ?_
              conv => whnf
              refine cond_t g68_10 ?_
              conv => whnf
              refine cond_s (fun g71_10 => ?_) (fun g71_10 => ?_)
              · conv => whnf
                refine cond_t g71_10 ?_
                conv => whnf
                refine cond_t g68_10 ?_
                conv => whnf
                refine cond_t g71_10 ?_
                conv => whnf
                refine cond_t g68_10 ?_
                obtain rfl := si hm
                conv => whnf
                refine EndStep.mk _ (((((l11.trans l19).trans l39).trans l40).trans l47).trans l53) ⟨(by rw [← ((or_t g71_10)).symm] <;> rfl), rfl⟩ (ConvH.of (.cons r1 .nil))
              · conv => whnf
                refine cond_f g71_10 ?_
                conv => whnf
                refine eq_int ?_
                conv => whnf
                refine cond_t g68_10 ?_
                conv => whnf
                refine cond_f g71_10 ?_
                conv => whnf
                refine cond_t g68_10 ?_
                obtain rfl := si hm
                conv => whnf
                refine EndStep.mk _ (((((l11.trans l19).trans l39).trans l40).trans l47).trans l53) ⟨(by rw [← (or_e (b := decide (x53.1 = 0)) g71_10)] <;> rfl), rfl⟩ (ConvH.of (.cons r1 .nil))
            · replace hm := iff_ g68_10 hm
              conv => whnf
              refine cond_f g68_10 ?_
              conv => whnf
              refine cond_f g68_10 ?_
              conv => whnf
              refine cond_f g68_10 ?_
              conv => whnf
              refine cond_f g68_10 ?_
              obtain rfl := si hm
              conv => whnf
              refine EndStep.mk _ (((((l11.trans l19).trans l39).trans l40).trans l47).trans l53) ⟨rfl, rfl⟩ (ConvH.of (.cons r1 .nil))
