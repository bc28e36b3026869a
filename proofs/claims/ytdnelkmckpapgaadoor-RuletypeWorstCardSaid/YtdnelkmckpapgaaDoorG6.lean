/- Functions of the program: mirrors, and that a call returns what the mirror says. Printed by gen.py. -/
import Derived.Test.YtdnelkmckpapgaaDoorG5
set_option linter.unusedVariables false
set_option linter.unusedSimpArgs false
open Go Go.SL Go.Proofs
set_option maxRecDepth 1000000
noncomputable def ref44_single (n' : S_ref43_Node) (kids : (List Int)) : Option (Int) :=
 (if decide ((kids.length : Int) = 2) then (ix kids 0).bind fun x16 =>
 (ix kids 1).bind fun x19 =>
 some (decide (x16 = x19)) else some false).bind fun x22 =>
 if decide (n'.Kind = 20) then
 some 2
 else
 if decide (n'.Kind = 21) then
 some 1
 else
 if decide (n'.Kind = 22) then
 some 3
 else
 if decide (n'.Kind = 17) then
 (if x22 then (ix kids 0).bind fun x36 =>
 some (decide (x36 ≠ 3)) else some false).bind fun x39 =>
 if x39 then
 (ix kids 0).bind fun x41 =>
 some x41
 else
 some 0
 else
 if decide (n'.Kind = 18) then
 (if x22 then (ix kids 0).bind fun x49 =>
 some (decide (x49 = 2)) else some false).bind fun x52 =>
 if x52 then
 some 2
 else
 some 0
 else
 if decide (n'.Kind = 19) then
 (if x22 then (ix kids 0).bind fun x49 =>
 some (decide (x49 = 2)) else some false).bind fun x52 =>
 if x52 then
 some 2
 else
 some 0
 else
 if decide (n'.Kind = 13) then
 (if x22 then (ix kids 0).bind fun x59 =>
 some (decide (x59 = 3)) else some false).bind fun x62 =>
 if x62 then
 some 3
 else
 some 0
 else
 if decide (n'.Kind = 14) then
 (if x22 then (ix kids 0).bind fun x59 =>
 some (decide (x59 = 3)) else some false).bind fun x62 =>
 if x62 then
 some 3
 else
 some 0
 else
 if decide (n'.Kind = 15) then
 (ix kids 0).bind fun x66 =>
 if decide (x66 = 3) then
 some 3
 else
 some 0
 else
 if decide (n'.Kind = 16) then
 if x22 then
 (if (!(decide (n'.Text = ([60] : Str)) || decide (n'.Text = ([60, 61] : Str)))) then some true else (ix kids 0).bind fun x98 =>
 some (decide (x98 = 2))).bind fun x101 =>
 if x101 then
 (if (!((decide (n'.Text = ([115, 116, 97, 114, 116, 115] : Str)) || decide (n'.Text = ([101, 110, 100, 115] : Str))) || decide (n'.Text = ([99, 111, 110, 116, 97, 105, 110, 115] : Str)))) then some true else (ix kids 0).bind fun x108 =>
 some (decide (x108 = 1))).bind fun x111 =>
 if x111 then
 some 3
 else
 some 0
 else
 some 0
 else
 some 0
 else
 if decide (n'.Kind = 24) then
 (ref44_Function n'.Text).bind fun x118 =>
 (if decide ((kids.length : Int) = 1) then (ix kids 0).bind fun x127 =>
 some (decide (x127 = x118.1)) else some false).bind fun x131 =>
 if x131 then
 some x118.2.1
 else
 some 0
 else
 some 0
set_option maxHeartbeats 8000000 in
theorem ref44_single_ok {n' : S_ref43_Node} {kids : (List Int)} {ap0_0 : Option Addr} {cp0_0 : Nat} {ap1_0 : Option Addr} {cp1_0 : Nat} {n1 : Nat} {K : Hp} {r : Int}
  (hm : ref44_single n' kids = some r) (hp0_0 : LiC S_ref43_Node.R K ap0_0 cp0_0 4 n'.Kids) (hp1_0 : RdC eN K ap1_0 cp1_0 1 kids) (en1 : n1 = kids.length) :
  Fn Tryd.prog 54 [.agg #[.int .i64 n'.Kind, str n'.Text, .slice ap0_0 n'.Kids.length cp0_0, .int .i64 n'.Line], .slice ap1_0 n1 cp1_0] K [] (fun v K' H' => v = .int .i64 r ∧ H' = []) := by
 subst en1
 refine Fn.enter Tryd.func54 Tryd.call54 rfl fun F => ?_
 unfold ref44_single at hm
 conv => whnf
 refine box_rule ?_
 intro b2
 conv => whnf
 refine draw_go ⟨⟨[], false⟩, _, []⟩ (by kernel_rfl) ⟨Hp.Le.refl _, (ConvH.of .nil)⟩ ?_
 conv => whnf
 refine len_sliceN rfl ?_
 conv => whnf
 refine eq_int ?_
 obtain ⟨x22, e22, hm⟩ := bnd hm
 conv => whnf
 refine cond_s (fun g14_1 => ?_) (fun g14_1 => ?_)
 ·replace e22 := ift g14_1 e22
  conv => whnf
  refine cond_t g14_1 ?_
  obtain ⟨x16, l16, k16, e22⟩ := ixb e22
  conv => whnf
  refine index_addr rfl rfl (hasK hp1_0.rd k16) l16 (lt_ofE rfl l16 k16) ?_
  conv => whnf
  refine cond_t g14_1 ?_
  conv => whnf
  refine load_rd_l ((0 : Int).toNat) 0 _ _ hp1_0.rd rfl (mp k16) rfl rfl ?_
  conv => whnf
  refine cond_t g14_1 ?_
  conv => whnf
  refine cond_t g14_1 ?_
  obtain ⟨x19, l19, k19, e22⟩ := ixb e22
  conv => whnf
  refine index_addr rfl rfl (hasK hp1_0.rd k19) l19 (lt_ofE rfl l19 k19) ?_
  conv => whnf
  refine cond_t g14_1 ?_
  conv => whnf
  refine load_rd_l ((1 : Int).toNat) 0 _ _ hp1_0.rd rfl (mp k19) rfl rfl ?_
  conv => whnf
  refine cond_t g14_1 ?_
  conv => whnf
  refine eq_int ?_
  conv => whnf
  refine cond_t g14_1 ?_
  conv => whnf
  refine field_addr rfl ?_
  conv => whnf
  refine RStep.of (load1_s r0 rfl rfl ?_)
  conv => whnf
  refine block_go rfl ?_
  conv => whnf
  refine eq_int ?_
  conv => whnf
  refine cond_go rfl ?_
  conv => whnf
  refine cond_s (fun w25 => ?_) (fun w25 => ?_)
  ·replace hm := ift w25 hm
   obtain rfl := si hm
   conv => whnf
   refine EndStep.mk _ (Hp.Le.refl _) ⟨rfl, rfl⟩ (ConvH.of (.cons r1 .nil))
  ·replace hm := iff_ w25 hm
   conv => whnf
   refine eq_int ?_
   conv => whnf
   refine cond_go rfl ?_
   conv => whnf
   refine cond_s (fun w27 => ?_) (fun w27 => ?_)
   ·replace hm := ift w27 hm
    obtain rfl := si hm
    conv => whnf
    refine EndStep.mk _ (Hp.Le.refl _) ⟨rfl, rfl⟩ (ConvH.of (.cons r1 .nil))
   ·replace hm := iff_ w27 hm
    conv => whnf
    refine eq_int ?_
    conv => whnf
    refine cond_go rfl ?_
    conv => whnf
    refine cond_s (fun w29 => ?_) (fun w29 => ?_)
    ·replace hm := ift w29 hm
     obtain rfl := si hm
     conv => whnf
     refine EndStep.mk _ (Hp.Le.refl _) ⟨rfl, rfl⟩ (ConvH.of (.cons r1 .nil))
    ·replace hm := iff_ w29 hm
     conv => whnf
     refine eq_int ?_
     conv => whnf
     refine cond_go rfl ?_
     conv => whnf
     refine cond_s (fun w31 => ?_) (fun w31 => ?_)
     ·replace hm := ift w31 hm
      obtain ⟨x39, e39, hm⟩ := bnd hm
      conv => whnf
      refine cond_s (fun g34_10 => ?_) (fun g34_10 => ?_)
      ·replace e39 := ift ((si e22).symm.trans g34_10) e39
       conv => whnf
       refine cond_t g34_10 ?_
       obtain ⟨x36, l36, k36, e39⟩ := ixb e39
       conv => whnf
       refine RStep.ofN (index_addr rfl rfl (hasK hp1_0.rd k36) l36 (lt_ofE rfl l36 k36) ?_)
       conv => whnf
       refine cond_t g34_10 ?_
       conv => whnf
       refine RStep.of (load_rd ((0 : Int).toNat) 0 _ _ hp1_0.rd rfl (mp k36) rfl rfl ?_)
       conv => whnf
       refine cond_t g34_10 ?_
       conv => whnf
       refine neq_int ?_
       conv => whnf
       refine cond_t g34_10 ?_
       conv => whnf
       refine cond_go rfl ?_
       conv => whnf
       refine cond_s (fun w39 => ?_) (fun w39 => ?_)
       ·replace hm := ift ((si e39).symm.trans w39) hm
        obtain ⟨x41, l41, k41, hm⟩ := ixb hm
        conv => whnf
        refine RStep.ofN (index_addr rfl rfl (hasK hp1_0.rd k41) l41 (lt_ofE rfl l41 k41) ?_)
        conv => whnf
        refine RStep.of (load_rd ((0 : Int).toNat) 0 _ _ hp1_0.rd rfl (mp k41) rfl rfl ?_)
        obtain rfl := si hm
        conv => whnf
        refine EndStep.mk _ (Hp.Le.refl _) ⟨rfl, rfl⟩ (ConvH.of (.cons r1 .nil))
       ·replace hm := iff_ ((si e39).symm.trans w39) hm
        obtain rfl := si hm
        conv => whnf
        refine EndStep.mk _ (Hp.Le.refl _) ⟨rfl, rfl⟩ (ConvH.of (.cons r1 .nil))
      ·replace e39 := iff_ ((si e22).symm.trans g34_10) e39
       conv => whnf
       refine cond_f g34_10 ?_
       conv => whnf
       refine cond_f g34_10 ?_
       conv => whnf
       refine cond_f g34_10 ?_
       conv => whnf
       refine cond_f g34_10 ?_
       conv => whnf
       refine cond_go rfl ?_
       conv => whnf
       refine cond_F ?_
       replace hm := iff_ (si e39).symm hm
       obtain rfl := si hm
       conv => whnf
       refine EndStep.mk _ (Hp.Le.refl _) ⟨rfl, rfl⟩ (ConvH.of (.cons r1 .nil))
     ·replace hm := iff_ w31 hm
      conv => whnf
      refine eq_int ?_
      conv => whnf
      refine cond_go rfl ?_
      conv => whnf
      refine cond_s (fun w43 => ?_) (fun w43 => ?_)
      ·replace hm := ift w43 hm
       conv => whnf
       refine cond_go rfl ?_
       conv => whnf
       refine cond_t w43 ?_
       obtain ⟨x52, e52, hm⟩ := bnd hm
       conv => whnf
       refine cond_s (fun g47_14 => ?_) (fun g47_14 => ?_)
       ·replace e52 := ift ((si e22).symm.trans g47_14) e52
        conv => whnf
        refine cond_t g47_14 ?_
        obtain ⟨x49, l49, k49, e52⟩ := ixb e52
        conv => whnf
        refine RStep.ofN (index_addr rfl rfl (hasK hp1_0.rd k49) l49 (lt_ofE rfl l49 k49) ?_)
        conv => whnf
        refine cond_t g47_14 ?_
        conv => whnf
        refine RStep.of (load_rd ((0 : Int).toNat) 0 _ _ hp1_0.rd rfl (mp k49) rfl rfl ?_)
        conv => whnf
        refine cond_t g47_14 ?_
        conv => whnf
        refine eq_int ?_
        conv => whnf
        refine cond_t g47_14 ?_
        conv => whnf
        refine cond_go rfl ?_
        conv => whnf
        refine cond_s (fun w52 => ?_) (fun w52 => ?_)
        ·replace hm := ift ((si e52).symm.trans w52) hm
         obtain rfl := si hm
         conv => whnf
         refine EndStep.mk _ (Hp.Le.refl _) ⟨rfl, rfl⟩ (ConvH.of (.cons r1 .nil))
        ·replace hm := iff_ ((si e52).symm.trans w52) hm
         obtain rfl := si hm
         conv => whnf
         refine EndStep.mk _ (Hp.Le.refl _) ⟨rfl, rfl⟩ (ConvH.of (.cons r1 .nil))
       ·replace e52 := iff_ ((si e22).symm.trans g47_14) e52
        conv => whnf
        refine cond_f g47_14 ?_
        conv => whnf
        refine cond_f g47_14 ?_
        conv => whnf
        refine cond_f g47_14 ?_
        conv => whnf
        refine cond_f g47_14 ?_
        conv => whnf
        refine cond_go rfl ?_
        conv => whnf
        refine cond_F ?_
        replace hm := iff_ (si e52).symm hm
        obtain rfl := si hm
        conv => whnf
        refine EndStep.mk _ (Hp.Le.refl _) ⟨rfl, rfl⟩ (ConvH.of (.cons r1 .nil))
      ·replace hm := iff_ w43 hm
       conv => whnf
       refine eq_int ?_
       conv => whnf
       refine cond_go rfl ?_
       conv => whnf
       refine cond_s (fun w43 => ?_) (fun w43 => ?_)
       ·replace hm := ift w43 hm
        obtain ⟨x52, e52, hm⟩ := bnd hm
        conv => whnf
        refine cond_s (fun g47_14 => ?_) (fun g47_14 => ?_)
        ·replace e52 := ift ((si e22).symm.trans g47_14) e52
         conv => whnf
         refine cond_t g47_14 ?_
         obtain ⟨x49, l49, k49, e52⟩ := ixb e52
         conv => whnf
         refine RStep.ofN (index_addr rfl rfl (hasK hp1_0.rd k49) l49 (lt_ofE rfl l49 k49) ?_)
         conv => whnf
         refine cond_t g47_14 ?_
         conv => whnf
         refine RStep.of (load_rd ((0 : Int).toNat) 0 _ _ hp1_0.rd rfl (mp k49) rfl rfl ?_)
         conv => whnf
         refine cond_t g47_14 ?_
         conv => whnf
         refine eq_int ?_
         conv => whnf
         refine cond_t g47_14 ?_
         conv => whnf
         refine cond_go rfl ?_
         conv => whnf
         refine cond_s (fun w52 => ?_) (fun w52 => ?_)
         ·replace hm := ift ((si e52).symm.trans w52) hm
          obtain rfl := si hm
          conv => whnf
          refine EndStep.mk _ (Hp.Le.refl _) ⟨rfl, rfl⟩ (ConvH.of (.cons r1 .nil))
         ·replace hm := iff_ ((si e52).symm.trans w52) hm
          obtain rfl := si hm
          conv => whnf
          refine EndStep.mk _ (Hp.Le.refl _) ⟨rfl, rfl⟩ (ConvH.of (.cons r1 .nil))
        ·replace e52 := iff_ ((si e22).symm.trans g47_14) e52
         conv => whnf
         refine cond_f g47_14 ?_
         conv => whnf
         refine cond_f g47_14 ?_
         conv => whnf
         refine cond_f g47_14 ?_
         conv => whnf
         refine cond_f g47_14 ?_
         conv => whnf
         refine cond_go rfl ?_
         conv => whnf
         refine cond_F ?_
         replace hm := iff_ (si e52).symm hm
         obtain rfl := si hm
         conv => whnf
         refine EndStep.mk _ (Hp.Le.refl _) ⟨rfl, rfl⟩ (ConvH.of (.cons r1 .nil))
       ·replace hm := iff_ w43 hm
        conv => whnf
        refine eq_int ?_
        conv => whnf
        refine cond_go rfl ?_
        conv => whnf
        refine cond_s (fun w53 => ?_) (fun w53 => ?_)
        ·replace hm := ift w53 hm
         conv => whnf
         refine cond_go rfl ?_
         conv => whnf
         refine cond_t w53 ?_
         obtain ⟨x62, e62, hm⟩ := bnd hm
         conv => whnf
         refine cond_s (fun g57_18 => ?_) (fun g57_18 => ?_)
         ·replace e62 := ift ((si e22).symm.trans g57_18) e62
          conv => whnf
          refine cond_t g57_18 ?_
          obtain ⟨x59, l59, k59, e62⟩ := ixb e62
          conv => whnf
          refine RStep.ofN (index_addr rfl rfl (hasK hp1_0.rd k59) l59 (lt_ofE rfl l59 k59) ?_)
          conv => whnf
          refine cond_t g57_18 ?_
          conv => whnf
          refine RStep.of (load_rd ((0 : Int).toNat) 0 _ _ hp1_0.rd rfl (mp k59) rfl rfl ?_)
          conv => whnf
          refine cond_t g57_18 ?_
          conv => whnf
          refine eq_int ?_
          conv => whnf
          refine cond_t g57_18 ?_
          conv => whnf
          refine cond_go rfl ?_
          conv => whnf
          refine cond_s (fun w62 => ?_) (fun w62 => ?_)
          ·replace hm := ift ((si e62).symm.trans w62) hm
           obtain rfl := si hm
           conv => whnf
           refine EndStep.mk _ (Hp.Le.refl _) ⟨rfl, rfl⟩ (ConvH.of (.cons r1 .nil))
          ·replace hm := iff_ ((si e62).symm.trans w62) hm
           obtain rfl := si hm
           conv => whnf
           refine EndStep.mk _ (Hp.Le.refl _) ⟨rfl, rfl⟩ (ConvH.of (.cons r1 .nil))
         ·replace e62 := iff_ ((si e22).symm.trans g57_18) e62
          conv => whnf
          refine cond_f g57_18 ?_
          conv => whnf
          refine cond_f g57_18 ?_
          conv => whnf
          refine cond_f g57_18 ?_
          conv => whnf
          refine cond_f g57_18 ?_
          conv => whnf
          refine cond_go rfl ?_
          conv => whnf
          refine cond_F ?_
          replace hm := iff_ (si e62).symm hm
          obtain rfl := si hm
          conv => whnf
          refine EndStep.mk _ (Hp.Le.refl _) ⟨rfl, rfl⟩ (ConvH.of (.cons r1 .nil))
        ·replace hm := iff_ w53 hm
         conv => whnf
         refine eq_int ?_
         conv => whnf
         refine cond_go rfl ?_
         conv => whnf
         refine cond_s (fun w53 => ?_) (fun w53 => ?_)
         ·replace hm := ift w53 hm
          obtain ⟨x62, e62, hm⟩ := bnd hm
          conv => whnf
          refine cond_s (fun g57_18 => ?_) (fun g57_18 => ?_)
          ·replace e62 := ift ((si e22).symm.trans g57_18) e62
           conv => whnf
           refine cond_t g57_18 ?_
           obtain ⟨x59, l59, k59, e62⟩ := ixb e62
           conv => whnf
           refine RStep.ofN (index_addr rfl rfl (hasK hp1_0.rd k59) l59 (lt_ofE rfl l59 k59) ?_)
           conv => whnf
           refine cond_t g57_18 ?_
           conv => whnf
           refine RStep.of (load_rd ((0 : Int).toNat) 0 _ _ hp1_0.rd rfl (mp k59) rfl rfl ?_)
           conv => whnf
           refine cond_t g57_18 ?_
           conv => whnf
           refine eq_int ?_
           conv => whnf
           refine cond_t g57_18 ?_
           conv => whnf
           refine cond_go rfl ?_
           conv => whnf
           refine cond_s (fun w62 => ?_) (fun w62 => ?_)
           ·replace hm := ift ((si e62).symm.trans w62) hm
            obtain rfl := si hm
            conv => whnf
            refine EndStep.mk _ (Hp.Le.refl _) ⟨rfl, rfl⟩ (ConvH.of (.cons r1 .nil))
           ·replace hm := iff_ ((si e62).symm.trans w62) hm
            obtain rfl := si hm
            conv => whnf
            refine EndStep.mk _ (Hp.Le.refl _) ⟨rfl, rfl⟩ (ConvH.of (.cons r1 .nil))
          ·replace e62 := iff_ ((si e22).symm.trans g57_18) e62
           conv => whnf
           refine cond_f g57_18 ?_
           conv => whnf
           refine cond_f g57_18 ?_
           conv => whnf
           refine cond_f g57_18 ?_
           conv => whnf
           refine cond_f g57_18 ?_
           conv => whnf
           refine cond_go rfl ?_
           conv => whnf
           refine cond_F ?_
           replace hm := iff_ (si e62).symm hm
           obtain rfl := si hm
           conv => whnf
           refine EndStep.mk _ (Hp.Le.refl _) ⟨rfl, rfl⟩ (ConvH.of (.cons r1 .nil))
         ·replace hm := iff_ w53 hm
          conv => whnf
          refine eq_int ?_
          conv => whnf
          refine cond_go rfl ?_
          conv => whnf
          refine cond_s (fun w63 => ?_) (fun w63 => ?_)
          ·replace hm := ift w63 hm
           obtain ⟨x66, l66, k66, hm⟩ := ixb hm
           conv => whnf
           refine RStep.ofN (index_addr rfl rfl (hasK hp1_0.rd k66) l66 (lt_ofE rfl l66 k66) ?_)
           conv => whnf
           refine RStep.of (load_rd ((0 : Int).toNat) 0 _ _ hp1_0.rd rfl (mp k66) rfl rfl ?_)
           conv => whnf
           refine eq_int ?_
           conv => whnf
           refine cond_go rfl ?_
           conv => whnf
           refine cond_s (fun w68 => ?_) (fun w68 => ?_)
           ·replace hm := ift w68 hm
            obtain rfl := si hm
            conv => whnf
            refine EndStep.mk _ (Hp.Le.refl _) ⟨rfl, rfl⟩ (ConvH.of (.cons r1 .nil))
           ·replace hm := iff_ w68 hm
            obtain rfl := si hm
            conv => whnf
            refine EndStep.mk _ (Hp.Le.refl _) ⟨rfl, rfl⟩ (ConvH.of (.cons r1 .nil))
          ·replace hm := iff_ w63 hm
           conv => whnf
           refine eq_int ?_
           conv => whnf
           refine cond_go rfl ?_
           conv => whnf
           refine cond_s (fun w69 => ?_) (fun w69 => ?_)
           ·replace hm := ift w69 hm
            conv => whnf
            refine field_addr rfl ?_
            conv => whnf
            refine RStep.of (load1_s r0 rfl rfl ?_)
            conv => whnf
            refine eq_str ?_
            conv => whnf
            refine cond_s (fun g74_24 => ?_) (fun g74_24 => ?_)
            ·conv => whnf
             refine cond_t g74_24 ?_
             conv => whnf
             refine cond_t g74_24 ?_
             conv => whnf
             refine cond_t g74_24 ?_
             conv => whnf
             refine field_addr rfl ?_
             conv => whnf
             refine RStep.of (load1_s r0 rfl rfl ?_)
             conv => whnf
             refine eq_str ?_
             conv => whnf
             refine cond_s (fun g82_25 => ?_) (fun g82_25 => ?_)
             ·conv => whnf
              refine cond_t g82_25 ?_
              conv => whnf
              refine cond_t g82_25 ?_
              conv => whnf
              refine cond_t g82_25 ?_
              conv => whnf
              refine cond_T ?_
              conv => whnf
              refine cond_T ?_
              conv => whnf
              refine cond_T ?_
              conv => whnf
              refine cond_T ?_
              conv => whnf
              refine cond_s (fun g93_26 => ?_) (fun g93_26 => ?_)
              ·replace hm := ift ((si e22).symm.trans g93_26) hm
               conv => whnf
               refine cond_t g93_26 ?_
               conv => whnf
               refine un_not ?_
               conv => whnf
               refine cond_t g93_26 ?_
               obtain ⟨x101, e101, hm⟩ := bnd hm
               replace e101 := iff_ (not_f (or_t g74_24)) e101
               conv => whnf
               refine cond_F ?_
               conv => whnf
               refine cond_F ?_
               obtain ⟨x98, l98, k98, e101⟩ := ixb e101
               conv => whnf
               refine RStep.ofN (index_addr rfl rfl (hasK hp1_0.rd k98) l98 (lt_ofE rfl l98 k98) ?_)
               conv => whnf
               refine cond_F ?_
               conv => whnf
               refine RStep.of (load_rd ((0 : Int).toNat) 0 _ _ hp1_0.rd rfl (mp k98) rfl rfl ?_)
               conv => whnf
               refine cond_F ?_
               conv => whnf
               refine eq_int ?_
               conv => whnf
               refine cond_t g93_26 ?_
               conv => whnf
               refine cond_F ?_
               conv => whnf
               refine cond_t g93_26 ?_
               conv => whnf
               refine cond_s (fun g103_26 => ?_) (fun g103_26 => ?_)
               ·replace hm := ift ((si e101).symm.trans g103_26) hm
                conv => whnf
                refine cond_t g103_26 ?_
                conv => whnf
                refine un_not ?_
                conv => whnf
                refine cond_t g103_26 ?_
                obtain ⟨x111, e111, hm⟩ := bnd hm
                replace e111 := iff_ (not_f (or_t (or_t g82_25))) e111
                conv => whnf
                refine cond_F ?_
                conv => whnf
                refine cond_F ?_
                obtain ⟨x108, l108, k108, e111⟩ := ixb e111
                conv => whnf
                refine RStep.ofN (index_addr rfl rfl (hasK hp1_0.rd k108) l108 (lt_ofE rfl l108 k108) ?_)
                conv => whnf
                refine cond_F ?_
                conv => whnf
                refine RStep.of (load_rd ((0 : Int).toNat) 0 _ _ hp1_0.rd rfl (mp k108) rfl rfl ?_)
                conv => whnf
                refine cond_F ?_
                conv => whnf
                refine eq_int ?_
                conv => whnf
                refine cond_t g103_26 ?_
                conv => whnf
                refine cond_F ?_
                conv => whnf
                refine cond_t g103_26 ?_
                conv => whnf
                refine cond_go rfl ?_
                conv => whnf
                refine cond_s (fun w112 => ?_) (fun w112 => ?_)
                ·replace hm := ift ((si e111).symm.trans w112) hm
                 obtain rfl := si hm
                 conv => whnf
                 refine EndStep.mk _ (Hp.Le.refl _) ⟨rfl, rfl⟩ (ConvH.of (.cons r1 .nil))
                ·replace hm := iff_ ((si e111).symm.trans w112) hm
                 obtain rfl := si hm
                 conv => whnf
                 refine EndStep.mk _ (Hp.Le.refl _) ⟨rfl, rfl⟩ (ConvH.of (.cons r1 .nil))
               ·replace hm := iff_ ((si e101).symm.trans g103_26) hm
                conv => whnf
                refine cond_f g103_26 ?_
                conv => whnf
                refine cond_f g103_26 ?_
                conv => whnf
                refine cond_f g103_26 ?_
                conv => whnf
                refine cond_f g103_26 ?_
                conv => whnf
                refine cond_go rfl ?_
                conv => whnf
                refine cond_F ?_
                obtain rfl := si hm
                conv => whnf
                refine EndStep.mk _ (Hp.Le.refl _) ⟨rfl, rfl⟩ (ConvH.of (.cons r1 .nil))
              ·replace hm := iff_ ((si e22).symm.trans g93_26) hm
               conv => whnf
               refine cond_f g93_26 ?_
               conv => whnf
               refine cond_f g93_26 ?_
               conv => whnf
               refine cond_f g93_26 ?_
               conv => whnf
               refine cond_f g93_26 ?_
               conv => whnf
               refine cond_F ?_
               conv => whnf
               refine cond_F ?_
               conv => whnf
               refine cond_F ?_
               conv => whnf
               refine cond_F ?_
               conv => whnf
               refine cond_F ?_
               conv => whnf
               refine cond_go rfl ?_
               conv => whnf
               refine cond_F ?_
               obtain rfl := si hm
               conv => whnf
               refine EndStep.mk _ (Hp.Le.refl _) ⟨rfl, rfl⟩ (ConvH.of (.cons r1 .nil))
             ·conv => whnf
              refine field_addr rfl ?_
              conv => whnf
              refine cond_f g82_25 ?_
              conv => whnf
              refine RStep.of (load1_s r0 rfl rfl ?_)
              conv => whnf
              refine cond_f g82_25 ?_
              conv => whnf
              refine eq_str ?_
              conv => whnf
              refine cond_f g82_25 ?_
              conv => whnf
              refine cond_s (fun g87_25 => ?_) (fun g87_25 => ?_)
              ·conv => whnf
               refine cond_t g87_25 ?_
               conv => whnf
               refine cond_t g87_25 ?_
               conv => whnf
               refine cond_t g87_25 ?_
               conv => whnf
               refine cond_s (fun g93_26 => ?_) (fun g93_26 => ?_)
               ·replace hm := ift ((si e22).symm.trans g93_26) hm
                conv => whnf
                refine cond_t g93_26 ?_
                conv => whnf
                refine un_not ?_
                conv => whnf
                refine cond_t g93_26 ?_
                obtain ⟨x101, e101, hm⟩ := bnd hm
                replace e101 := iff_ (not_f (or_t g74_24)) e101
                conv => whnf
                refine cond_F ?_
                conv => whnf
                refine cond_F ?_
                obtain ⟨x98, l98, k98, e101⟩ := ixb e101
                conv => whnf
                refine RStep.ofN (index_addr rfl rfl (hasK hp1_0.rd k98) l98 (lt_ofE rfl l98 k98) ?_)
                conv => whnf
                refine cond_F ?_
                conv => whnf
                refine RStep.of (load_rd ((0 : Int).toNat) 0 _ _ hp1_0.rd rfl (mp k98) rfl rfl ?_)
                conv => whnf
                refine cond_F ?_
                conv => whnf
                refine eq_int ?_
                conv => whnf
                refine cond_t g93_26 ?_
                conv => whnf
                refine cond_F ?_
                conv => whnf
                refine cond_t g93_26 ?_
                conv => whnf
                refine cond_s (fun g103_26 => ?_) (fun g103_26 => ?_)
                ·replace hm := ift ((si e101).symm.trans g103_26) hm
                 conv => whnf
                 refine cond_t g103_26 ?_
                 conv => whnf
                 refine un_not ?_
                 conv => whnf
                 refine cond_t g103_26 ?_
                 obtain ⟨x111, e111, hm⟩ := bnd hm
                 replace e111 := iff_ (not_f (or_t (or_u g82_25 g87_25))) e111
                 conv => whnf
                 refine cond_F ?_
                 conv => whnf
                 refine cond_F ?_
                 obtain ⟨x108, l108, k108, e111⟩ := ixb e111
                 conv => whnf
                 refine RStep.ofN (index_addr rfl rfl (hasK hp1_0.rd k108) l108 (lt_ofE rfl l108 k108) ?_)
                 conv => whnf
                 refine cond_F ?_
                 conv => whnf
                 refine RStep.of (load_rd ((0 : Int).toNat) 0 _ _ hp1_0.rd rfl (mp k108) rfl rfl ?_)
                 conv => whnf
                 refine cond_F ?_
                 conv => whnf
                 refine eq_int ?_
                 conv => whnf
                 refine cond_t g103_26 ?_
                 conv => whnf
                 refine cond_F ?_
                 conv => whnf
                 refine cond_t g103_26 ?_
                 conv => whnf
                 refine cond_go rfl ?_
                 conv => whnf
                 refine cond_s (fun w112 => ?_) (fun w112 => ?_)
                 ·replace hm := ift ((si e111).symm.trans w112) hm
                  obtain rfl := si hm
                  conv => whnf
                  refine EndStep.mk _ (Hp.Le.refl _) ⟨rfl, rfl⟩ (ConvH.of (.cons r1 .nil))
                 ·replace hm := iff_ ((si e111).symm.trans w112) hm
                  obtain rfl := si hm
                  conv => whnf
                  refine EndStep.mk _ (Hp.Le.refl _) ⟨rfl, rfl⟩ (ConvH.of (.cons r1 .nil))
                ·replace hm := iff_ ((si e101).symm.trans g103_26) hm
                 conv => whnf
                 refine cond_f g103_26 ?_
                 conv => whnf
                 refine cond_f g103_26 ?_
                 conv => whnf
                 refine cond_f g103_26 ?_
                 conv => whnf
                 refine cond_f g103_26 ?_
                 conv => whnf
                 refine cond_go rfl ?_
                 conv => whnf
                 refine cond_F ?_
                 obtain rfl := si hm
                 conv => whnf
                 refine EndStep.mk _ (Hp.Le.refl _) ⟨rfl, rfl⟩ (ConvH.of (.cons r1 .nil))
               ·replace hm := iff_ ((si e22).symm.trans g93_26) hm
                conv => whnf
                refine cond_f g93_26 ?_
                conv => whnf
                refine cond_f g93_26 ?_
                conv => whnf
                refine cond_f g93_26 ?_
                conv => whnf
                refine cond_f g93_26 ?_
                conv => whnf
                refine cond_F ?_
                conv => whnf
                refine cond_F ?_
                conv => whnf
                refine cond_F ?_
                conv => whnf
                refine cond_F ?_
                conv => whnf
                refine cond_F ?_
                conv => whnf
                refine cond_go rfl ?_
                conv => whnf
                refine cond_F ?_
                obtain rfl := si hm
                conv => whnf
                refine EndStep.mk _ (Hp.Le.refl _) ⟨rfl, rfl⟩ (ConvH.of (.cons r1 .nil))
              ·conv => whnf
               refine field_addr rfl ?_
               conv => whnf
               refine cond_f g87_25 ?_
               conv => whnf
               refine RStep.of (load1_s r0 rfl rfl ?_)
               conv => whnf
               refine cond_f g87_25 ?_
               conv => whnf
               refine eq_str ?_
               conv => whnf
               refine cond_f g87_25 ?_
               conv => whnf
               refine cond_s (fun g93_26 => ?_) (fun g93_26 => ?_)
               ·replace hm := ift ((si e22).symm.trans g93_26) hm
                conv => whnf
                refine cond_t g93_26 ?_
                conv => whnf
                refine un_not ?_
                conv => whnf
                refine cond_t g93_26 ?_
                obtain ⟨x101, e101, hm⟩ := bnd hm
                replace e101 := iff_ (not_f (or_t g74_24)) e101
                conv => whnf
                refine cond_F ?_
                conv => whnf
                refine cond_F ?_
                obtain ⟨x98, l98, k98, e101⟩ := ixb e101
                conv => whnf
                refine RStep.ofN (index_addr rfl rfl (hasK hp1_0.rd k98) l98 (lt_ofE rfl l98 k98) ?_)
                conv => whnf
                refine cond_F ?_
                conv => whnf
                refine RStep.of (load_rd ((0 : Int).toNat) 0 _ _ hp1_0.rd rfl (mp k98) rfl rfl ?_)
                conv => whnf
                refine cond_F ?_
                conv => whnf
                refine eq_int ?_
                conv => whnf
                refine cond_t g93_26 ?_
                conv => whnf
                refine cond_F ?_
                conv => whnf
                refine cond_t g93_26 ?_
                conv => whnf
                refine cond_s (fun g103_26 => ?_) (fun g103_26 => ?_)
                ·replace hm := ift ((si e101).symm.trans g103_26) hm
                 conv => whnf
                 refine cond_t g103_26 ?_
                 conv => whnf
                 refine un_not ?_
                 conv => whnf
                 refine cond_t g103_26 ?_
                 obtain ⟨x111, e111, hm⟩ := bnd hm
                 conv => whnf
                 refine cond_s (fun g106_26 => ?_) (fun g106_26 => ?_)
                 ·replace e111 := ift (not_t (or_f (or_f g82_25 g87_25) (ni_t g106_26))) e111
                  conv => whnf
                  refine cond_t g106_26 ?_
                  conv => whnf
                  refine cond_t g106_26 ?_
                  conv => whnf
                  refine cond_t g106_26 ?_
                  conv => whnf
                  refine cond_t g103_26 ?_
                  conv => whnf
                  refine cond_t g106_26 ?_
                  conv => whnf
                  refine cond_t g103_26 ?_
                  conv => whnf
                  refine cond_go rfl ?_
                  conv => whnf
                  refine cond_T ?_
                  replace hm := ift (si e111).symm hm
                  obtain rfl := si hm
                  conv => whnf
                  refine EndStep.mk _ (Hp.Le.refl _) ⟨rfl, rfl⟩ (ConvH.of (.cons r1 .nil))
                 ·replace e111 := iff_ (not_f (or_u (or_f g82_25 g87_25) (ni_f g106_26))) e111
                  conv => whnf
                  refine cond_f g106_26 ?_
                  obtain ⟨x108, l108, k108, e111⟩ := ixb e111
                  conv => whnf
                  refine RStep.ofN (index_addr rfl rfl (hasK hp1_0.rd k108) l108 (lt_ofE rfl l108 k108) ?_)
                  conv => whnf
                  refine cond_f g106_26 ?_
                  conv => whnf
                  refine RStep.of (load_rd ((0 : Int).toNat) 0 _ _ hp1_0.rd rfl (mp k108) rfl rfl ?_)
                  conv => whnf
                  refine cond_f g106_26 ?_
                  conv => whnf
                  refine eq_int ?_
                  conv => whnf
                  refine cond_t g103_26 ?_
                  conv => whnf
                  refine cond_f g106_26 ?_
                  conv => whnf
                  refine cond_t g103_26 ?_
                  conv => whnf
                  refine cond_go rfl ?_
                  conv => whnf
                  refine cond_s (fun w112 => ?_) (fun w112 => ?_)
                  ·replace hm := ift ((si e111).symm.trans w112) hm
                   obtain rfl := si hm
                   conv => whnf
                   refine EndStep.mk _ (Hp.Le.refl _) ⟨rfl, rfl⟩ (ConvH.of (.cons r1 .nil))
                  ·replace hm := iff_ ((si e111).symm.trans w112) hm
                   obtain rfl := si hm
                   conv => whnf
                   refine EndStep.mk _ (Hp.Le.refl _) ⟨rfl, rfl⟩ (ConvH.of (.cons r1 .nil))
                ·replace hm := iff_ ((si e101).symm.trans g103_26) hm
                 conv => whnf
                 refine cond_f g103_26 ?_
                 conv => whnf
                 refine cond_f g103_26 ?_
                 conv => whnf
                 refine cond_f g103_26 ?_
                 conv => whnf
                 refine cond_f g103_26 ?_
                 conv => whnf
                 refine cond_go rfl ?_
                 conv => whnf
                 refine cond_F ?_
                 obtain rfl := si hm
                 conv => whnf
                 refine EndStep.mk _ (Hp.Le.refl _) ⟨rfl, rfl⟩ (ConvH.of (.cons r1 .nil))
               ·replace hm := iff_ ((si e22).symm.trans g93_26) hm
                conv => whnf
                refine cond_f g93_26 ?_
                conv => whnf
                refine cond_f g93_26 ?_
                conv => whnf
                refine cond_f g93_26 ?_
                conv => whnf
                refine cond_f g93_26 ?_
                conv => whnf
                refine cond_F ?_
                conv => whnf
                refine cond_F ?_
                conv => whnf
                refine cond_F ?_
                conv => whnf
                refine cond_F ?_
                conv => whnf
                refine cond_F ?_
                conv => whnf
                refine cond_go rfl ?_
                conv => whnf
                refine cond_F ?_
                obtain rfl := si hm
                conv => whnf
                refine EndStep.mk _ (Hp.Le.refl _) ⟨rfl, rfl⟩ (ConvH.of (.cons r1 .nil))
            ·conv => whnf
             refine field_addr rfl ?_
             conv => whnf
             refine cond_f g74_24 ?_
             conv => whnf
             refine RStep.of (load1_s r0 rfl rfl ?_)
             conv => whnf
             refine cond_f g74_24 ?_
             conv => whnf
             refine eq_str ?_
             conv => whnf
             refine cond_f g74_24 ?_
             conv => whnf
             refine field_addr rfl ?_
             conv => whnf
             refine RStep.of (load1_s r0 rfl rfl ?_)
             conv => whnf
             refine eq_str ?_
             conv => whnf
             refine cond_s (fun g82_25 => ?_) (fun g82_25 => ?_)
             ·conv => whnf
              refine cond_t g82_25 ?_
              conv => whnf
              refine cond_t g82_25 ?_
              conv => whnf
              refine cond_t g82_25 ?_
              conv => whnf
              refine cond_T ?_
              conv => whnf
              refine cond_T ?_
              conv => whnf
              refine cond_T ?_
              conv => whnf
              refine cond_T ?_
              conv => whnf
              refine cond_s (fun g93_26 => ?_) (fun g93_26 => ?_)
              ·replace hm := ift ((si e22).symm.trans g93_26) hm
               conv => whnf
               refine cond_t g93_26 ?_
               conv => whnf
               refine un_not ?_
               conv => whnf
               refine cond_t g93_26 ?_
               obtain ⟨x101, e101, hm⟩ := bnd hm
               conv => whnf
               refine cond_s (fun g96_26 => ?_) (fun g96_26 => ?_)
               ·replace e101 := ift (not_t (or_f g74_24 (ni_t g96_26))) e101
                conv => whnf
                refine cond_t g96_26 ?_
                conv => whnf
                refine cond_t g96_26 ?_
                conv => whnf
                refine cond_t g96_26 ?_
                conv => whnf
                refine cond_t g93_26 ?_
                conv => whnf
                refine cond_t g96_26 ?_
                conv => whnf
                refine cond_t g93_26 ?_
                replace hm := ift (si e101).symm hm
                conv => whnf
                refine cond_T ?_
                conv => whnf
                refine cond_T ?_
                conv => whnf
                refine un_not ?_
                conv => whnf
                refine cond_T ?_
                obtain ⟨x111, e111, hm⟩ := bnd hm
                replace e111 := iff_ (not_f (or_t (or_t g82_25))) e111
                conv => whnf
                refine cond_F ?_
                conv => whnf
                refine cond_F ?_
                obtain ⟨x108, l108, k108, e111⟩ := ixb e111
                conv => whnf
                refine RStep.ofN (index_addr rfl rfl (hasK hp1_0.rd k108) l108 (lt_ofE rfl l108 k108) ?_)
                conv => whnf
                refine cond_F ?_
                conv => whnf
                refine RStep.of (load_rd ((0 : Int).toNat) 0 _ _ hp1_0.rd rfl (mp k108) rfl rfl ?_)
                conv => whnf
                refine cond_F ?_
                conv => whnf
                refine eq_int ?_
                conv => whnf
                refine cond_T ?_
                conv => whnf
                refine cond_F ?_
                conv => whnf
                refine cond_T ?_
                conv => whnf
                refine cond_go rfl ?_
                conv => whnf
                refine cond_s (fun w112 => ?_) (fun w112 => ?_)
                ·replace hm := ift ((si e111).symm.trans w112) hm
                 obtain rfl := si hm
                 conv => whnf
                 refine EndStep.mk _ (Hp.Le.refl _) ⟨rfl, rfl⟩ (ConvH.of (.cons r1 .nil))
                ·replace hm := iff_ ((si e111).symm.trans w112) hm
                 obtain rfl := si hm
                 conv => whnf
                 refine EndStep.mk _ (Hp.Le.refl _) ⟨rfl, rfl⟩ (ConvH.of (.cons r1 .nil))
               ·replace e101 := iff_ (not_f (or_u g74_24 (ni_f g96_26))) e101
                conv => whnf
                refine cond_f g96_26 ?_
                obtain ⟨x98, l98, k98, e101⟩ := ixb e101
                conv => whnf
                refine RStep.ofN (index_addr rfl rfl (hasK hp1_0.rd k98) l98 (lt_ofE rfl l98 k98) ?_)
                conv => whnf
                refine cond_f g96_26 ?_
                conv => whnf
                refine RStep.of (load_rd ((0 : Int).toNat) 0 _ _ hp1_0.rd rfl (mp k98) rfl rfl ?_)
                conv => whnf
                refine cond_f g96_26 ?_
                conv => whnf
                refine eq_int ?_
                conv => whnf
                refine cond_t g93_26 ?_
                conv => whnf
                refine cond_f g96_26 ?_
                conv => whnf
                refine cond_t g93_26 ?_
                conv => whnf
                refine cond_s (fun g103_26 => ?_) (fun g103_26 => ?_)
                ·replace hm := ift ((si e101).symm.trans g103_26) hm
                 conv => whnf
                 refine cond_t g103_26 ?_
                 conv => whnf
                 refine un_not ?_
                 conv => whnf
                 refine cond_t g103_26 ?_
                 obtain ⟨x111, e111, hm⟩ := bnd hm
                 replace e111 := iff_ (not_f (or_t (or_t g82_25))) e111
                 conv => whnf
                 refine cond_F ?_
                 conv => whnf
                 refine cond_F ?_
                 obtain ⟨x108, l108, k108, e111⟩ := ixb e111
                 conv => whnf
                 refine RStep.ofN (index_addr rfl rfl (hasK hp1_0.rd k108) l108 (lt_ofE rfl l108 k108) ?_)
                 conv => whnf
                 refine cond_F ?_
                 conv => whnf
                 refine RStep.of (load_rd ((0 : Int).toNat) 0 _ _ hp1_0.rd rfl (mp k108) rfl rfl ?_)
                 conv => whnf
                 refine cond_F ?_
                 conv => whnf
                 refine eq_int ?_
                 conv => whnf
                 refine cond_t g103_26 ?_
                 conv => whnf
                 refine cond_F ?_
                 conv => whnf
                 refine cond_t g103_26 ?_
                 conv => whnf
                 refine cond_go rfl ?_
                 conv => whnf
                 refine cond_s (fun w112 => ?_) (fun w112 => ?_)
                 ·replace hm := ift ((si e111).symm.trans w112) hm
                  obtain rfl := si hm
                  conv => whnf
                  refine EndStep.mk _ (Hp.Le.refl _) ⟨rfl, rfl⟩ (ConvH.of (.cons r1 .nil))
                 ·replace hm := iff_ ((si e111).symm.trans w112) hm
                  obtain rfl := si hm
                  conv => whnf
                  refine EndStep.mk _ (Hp.Le.refl _) ⟨rfl, rfl⟩ (ConvH.of (.cons r1 .nil))
                ·replace hm := iff_ ((si e101).symm.trans g103_26) hm
                 conv => whnf
                 refine cond_f g103_26 ?_
                 conv => whnf
                 refine cond_f g103_26 ?_
                 conv => whnf
                 refine cond_f g103_26 ?_
                 conv => whnf
                 refine cond_f g103_26 ?_
                 conv => whnf
                 refine cond_go rfl ?_
                 conv => whnf
                 refine cond_F ?_
                 obtain rfl := si hm
                 conv => whnf
                 refine EndStep.mk _ (Hp.Le.refl _) ⟨rfl, rfl⟩ (ConvH.of (.cons r1 .nil))
              ·replace hm := iff_ ((si e22).symm.trans g93_26) hm
               conv => whnf
               refine cond_f g93_26 ?_
               conv => whnf
               refine cond_f g93_26 ?_
               conv => whnf
               refine cond_f g93_26 ?_
               conv => whnf
               refine cond_f g93_26 ?_
               conv => whnf
               refine cond_F ?_
               conv => whnf
               refine cond_F ?_
               conv => whnf
               refine cond_F ?_
               conv => whnf
               refine cond_F ?_
               conv => whnf
               refine cond_F ?_
               conv => whnf
               refine cond_go rfl ?_
               conv => whnf
               refine cond_F ?_
               obtain rfl := si hm
               conv => whnf
               refine EndStep.mk _ (Hp.Le.refl _) ⟨rfl, rfl⟩ (ConvH.of (.cons r1 .nil))
             ·conv => whnf
              refine field_addr rfl ?_
              conv => whnf
              refine cond_f g82_25 ?_
              conv => whnf
              refine RStep.of (load1_s r0 rfl rfl ?_)
              conv => whnf
              refine cond_f g82_25 ?_
              conv => whnf
              refine eq_str ?_
              conv => whnf
              refine cond_f g82_25 ?_
              conv => whnf
              refine cond_s (fun g87_25 => ?_) (fun g87_25 => ?_)
              ·conv => whnf
               refine cond_t g87_25 ?_
               conv => whnf
               refine cond_t g87_25 ?_
               conv => whnf
               refine cond_t g87_25 ?_
               conv => whnf
               refine cond_s (fun g93_26 => ?_) (fun g93_26 => ?_)
               ·replace hm := ift ((si e22).symm.trans g93_26) hm
                conv => whnf
                refine cond_t g93_26 ?_
                conv => whnf
                refine un_not ?_
                conv => whnf
                refine cond_t g93_26 ?_
                obtain ⟨x101, e101, hm⟩ := bnd hm
                conv => whnf
                refine cond_s (fun g96_26 => ?_) (fun g96_26 => ?_)
                ·replace e101 := ift (not_t (or_f g74_24 (ni_t g96_26))) e101
                 conv => whnf
                 refine cond_t g96_26 ?_
                 conv => whnf
                 refine cond_t g96_26 ?_
                 conv => whnf
                 refine cond_t g96_26 ?_
                 conv => whnf
                 refine cond_t g93_26 ?_
                 conv => whnf
                 refine cond_t g96_26 ?_
                 conv => whnf
                 refine cond_t g93_26 ?_
                 replace hm := ift (si e101).symm hm
                 conv => whnf
                 refine cond_T ?_
                 conv => whnf
                 refine cond_T ?_
                 conv => whnf
                 refine un_not ?_
                 conv => whnf
                 refine cond_T ?_
                 obtain ⟨x111, e111, hm⟩ := bnd hm
                 replace e111 := iff_ (not_f (or_t (or_u g82_25 g87_25))) e111
                 conv => whnf
                 refine cond_F ?_
                 conv => whnf
                 refine cond_F ?_
                 obtain ⟨x108, l108, k108, e111⟩ := ixb e111
                 conv => whnf
                 refine RStep.ofN (index_addr rfl rfl (hasK hp1_0.rd k108) l108 (lt_ofE rfl l108 k108) ?_)
                 conv => whnf
                 refine cond_F ?_
                 conv => whnf
                 refine RStep.of (load_rd ((0 : Int).toNat) 0 _ _ hp1_0.rd rfl (mp k108) rfl rfl ?_)
                 conv => whnf
                 refine cond_F ?_
                 conv => whnf
                 refine eq_int ?_
                 conv => whnf
                 refine cond_T ?_
                 conv => whnf
                 refine cond_F ?_
                 conv => whnf
                 refine cond_T ?_
                 conv => whnf
                 refine cond_go rfl ?_
                 conv => whnf
                 refine cond_s (fun w112 => ?_) (fun w112 => ?_)
                 ·replace hm := ift ((si e111).symm.trans w112) hm
                  obtain rfl := si hm
                  conv => whnf
                  refine EndStep.mk _ (Hp.Le.refl _) ⟨rfl, rfl⟩ (ConvH.of (.cons r1 .nil))
                 ·replace hm := iff_ ((si e111).symm.trans w112) hm
                  obtain rfl := si hm
                  conv => whnf
                  refine EndStep.mk _ (Hp.Le.refl _) ⟨rfl, rfl⟩ (ConvH.of (.cons r1 .nil))
                ·replace e101 := iff_ (not_f (or_u g74_24 (ni_f g96_26))) e101
                 conv => whnf
                 refine cond_f g96_26 ?_
                 obtain ⟨x98, l98, k98, e101⟩ := ixb e101
                 conv => whnf
                 refine RStep.ofN (index_addr rfl rfl (hasK hp1_0.rd k98) l98 (lt_ofE rfl l98 k98) ?_)
                 conv => whnf
                 refine cond_f g96_26 ?_
                 conv => whnf
                 refine RStep.of (load_rd ((0 : Int).toNat) 0 _ _ hp1_0.rd rfl (mp k98) rfl rfl ?_)
                 conv => whnf
                 refine cond_f g96_26 ?_
                 conv => whnf
                 refine eq_int ?_
                 conv => whnf
                 refine cond_t g93_26 ?_
                 conv => whnf
                 refine cond_f g96_26 ?_
                 conv => whnf
                 refine cond_t g93_26 ?_
                 conv => whnf
                 refine cond_s (fun g103_26 => ?_) (fun g103_26 => ?_)
                 ·replace hm := ift ((si e101).symm.trans g103_26) hm
                  conv => whnf
                  refine cond_t g103_26 ?_
                  conv => whnf
                  refine un_not ?_
                  conv => whnf
                  refine cond_t g103_26 ?_
                  obtain ⟨x111, e111, hm⟩ := bnd hm
                  replace e111 := iff_ (not_f (or_t (or_u g82_25 g87_25))) e111
                  conv => whnf
                  refine cond_F ?_
                  conv => whnf
                  refine cond_F ?_
                  obtain ⟨x108, l108, k108, e111⟩ := ixb e111
                  conv => whnf
                  refine RStep.ofN (index_addr rfl rfl (hasK hp1_0.rd k108) l108 (lt_ofE rfl l108 k108) ?_)
                  conv => whnf
                  refine cond_F ?_
                  conv => whnf
                  refine RStep.of (load_rd ((0 : Int).toNat) 0 _ _ hp1_0.rd rfl (mp k108) rfl rfl ?_)
                  conv => whnf
                  refine cond_F ?_
                  conv => whnf
                  refine eq_int ?_
                  conv => whnf
                  refine cond_t g103_26 ?_
                  conv => whnf
                  refine cond_F ?_
                  conv => whnf
                  refine cond_t g103_26 ?_
                  conv => whnf
                  refine cond_go rfl ?_
                  conv => whnf
                  refine cond_s (fun w112 => ?_) (fun w112 => ?_)
                  ·replace hm := ift ((si e111).symm.trans w112) hm
                   obtain rfl := si hm
                   conv => whnf
                   refine EndStep.mk _ (Hp.Le.refl _) ⟨rfl, rfl⟩ (ConvH.of (.cons r1 .nil))
                  ·replace hm := iff_ ((si e111).symm.trans w112) hm
                   obtain rfl := si hm
                   conv => whnf
                   refine EndStep.mk _ (Hp.Le.refl _) ⟨rfl, rfl⟩ (ConvH.of (.cons r1 .nil))
                 ·replace hm := iff_ ((si e101).symm.trans g103_26) hm
                  conv => whnf
                  refine cond_f g103_26 ?_
                  conv => whnf
                  refine cond_f g103_26 ?_
                  conv => whnf
                  refine cond_f g103_26 ?_
                  conv => whnf
                  refine cond_f g103_26 ?_
                  conv => whnf
                  refine cond_go rfl ?_
                  conv => whnf
                  refine cond_F ?_
                  obtain rfl := si hm
                  conv => whnf
                  refine EndStep.mk _ (Hp.Le.refl _) ⟨rfl, rfl⟩ (ConvH.of (.cons r1 .nil))
               ·replace hm := iff_ ((si e22).symm.trans g93_26) hm
                conv => whnf
                refine cond_f g93_26 ?_
                conv => whnf
                refine cond_f g93_26 ?_
                conv => whnf
                refine cond_f g93_26 ?_
                conv => whnf
                refine cond_f g93_26 ?_
                conv => whnf
                refine cond_F ?_
                conv => whnf
                refine cond_F ?_
                conv => whnf
                refine cond_F ?_
                conv => whnf
                refine cond_F ?_
                conv => whnf
                refine cond_F ?_
                conv => whnf
                refine cond_go rfl ?_
                conv => whnf
                refine cond_F ?_
                obtain rfl := si hm
                conv => whnf
                refine EndStep.mk _ (Hp.Le.refl _) ⟨rfl, rfl⟩ (ConvH.of (.cons r1 .nil))
              ·conv => whnf
               refine field_addr rfl ?_
               conv => whnf
               refine cond_f g87_25 ?_
               conv => whnf
               refine RStep.of (load1_s r0 rfl rfl ?_)
               conv => whnf
               refine cond_f g87_25 ?_
               conv => whnf
               refine eq_str ?_
               conv => whnf
               refine cond_f g87_25 ?_
               conv => whnf
               refine cond_s (fun g93_26 => ?_) (fun g93_26 => ?_)
               ·replace hm := ift ((si e22).symm.trans g93_26) hm
                conv => whnf
                refine cond_t g93_26 ?_
                conv => whnf
                refine un_not ?_
                conv => whnf
                refine cond_t g93_26 ?_
                obtain ⟨x101, e101, hm⟩ := bnd hm
                conv => whnf
                refine cond_s (fun g96_26 => ?_) (fun g96_26 => ?_)
                ·replace e101 := ift (not_t (or_f g74_24 (ni_t g96_26))) e101
                 conv => whnf
                 refine cond_t g96_26 ?_
                 conv => whnf
                 refine cond_t g96_26 ?_
                 conv => whnf
                 refine cond_t g96_26 ?_
                 conv => whnf
                 refine cond_t g93_26 ?_
                 conv => whnf
                 refine cond_t g96_26 ?_
                 conv => whnf
                 refine cond_t g93_26 ?_
                 replace hm := ift (si e101).symm hm
                 conv => whnf
                 refine cond_T ?_
                 conv => whnf
                 refine cond_T ?_
                 conv => whnf
                 refine un_not ?_
                 conv => whnf
                 refine cond_T ?_
                 obtain ⟨x111, e111, hm⟩ := bnd hm
                 conv => whnf
                 refine cond_s (fun g106_26 => ?_) (fun g106_26 => ?_)
                 ·replace e111 := ift (not_t (or_f (or_f g82_25 g87_25) (ni_t g106_26))) e111
                  conv => whnf
                  refine cond_t g106_26 ?_
                  conv => whnf
                  refine cond_t g106_26 ?_
                  conv => whnf
                  refine cond_t g106_26 ?_
                  conv => whnf
                  refine cond_T ?_
                  conv => whnf
                  refine cond_t g106_26 ?_
                  conv => whnf
                  refine cond_T ?_
                  conv => whnf
                  refine cond_go rfl ?_
                  conv => whnf
                  refine cond_T ?_
                  replace hm := ift (si e111).symm hm
                  obtain rfl := si hm
                  conv => whnf
                  refine EndStep.mk _ (Hp.Le.refl _) ⟨rfl, rfl⟩ (ConvH.of (.cons r1 .nil))
                 ·replace e111 := iff_ (not_f (or_u (or_f g82_25 g87_25) (ni_f g106_26))) e111
                  conv => whnf
                  refine cond_f g106_26 ?_
                  obtain ⟨x108, l108, k108, e111⟩ := ixb e111
                  conv => whnf
                  refine RStep.ofN (index_addr rfl rfl (hasK hp1_0.rd k108) l108 (lt_ofE rfl l108 k108) ?_)
                  conv => whnf
                  refine cond_f g106_26 ?_
                  conv => whnf
                  refine RStep.of (load_rd ((0 : Int).toNat) 0 _ _ hp1_0.rd rfl (mp k108) rfl rfl ?_)
                  conv => whnf
                  refine cond_f g106_26 ?_
                  conv => whnf
                  refine eq_int ?_
                  conv => whnf
                  refine cond_T ?_
                  conv => whnf
                  refine cond_f g106_26 ?_
                  conv => whnf
                  refine cond_T ?_
                  conv => whnf
                  refine cond_go rfl ?_
                  conv => whnf
                  refine cond_s (fun w112 => ?_) (fun w112 => ?_)
                  ·replace hm := ift ((si e111).symm.trans w112) hm
                   obtain rfl := si hm
                   conv => whnf
                   refine EndStep.mk _ (Hp.Le.refl _) ⟨rfl, rfl⟩ (ConvH.of (.cons r1 .nil))
                  ·replace hm := iff_ ((si e111).symm.trans w112) hm
                   obtain rfl := si hm
                   conv => whnf
                   refine EndStep.mk _ (Hp.Le.refl _) ⟨rfl, rfl⟩ (ConvH.of (.cons r1 .nil))
                ·replace e101 := iff_ (not_f (or_u g74_24 (ni_f g96_26))) e101
                 conv => whnf
                 refine cond_f g96_26 ?_
                 obtain ⟨x98, l98, k98, e101⟩ := ixb e101
                 conv => whnf
                 refine RStep.ofN (index_addr rfl rfl (hasK hp1_0.rd k98) l98 (lt_ofE rfl l98 k98) ?_)
                 conv => whnf
                 refine cond_f g96_26 ?_
                 conv => whnf
                 refine RStep.of (load_rd ((0 : Int).toNat) 0 _ _ hp1_0.rd rfl (mp k98) rfl rfl ?_)
                 conv => whnf
                 refine cond_f g96_26 ?_
                 conv => whnf
                 refine eq_int ?_
                 conv => whnf
                 refine cond_t g93_26 ?_
                 conv => whnf
                 refine cond_f g96_26 ?_
                 conv => whnf
                 refine cond_t g93_26 ?_
                 conv => whnf
                 refine cond_s (fun g103_26 => ?_) (fun g103_26 => ?_)
                 ·replace hm := ift ((si e101).symm.trans g103_26) hm
                  conv => whnf
                  refine cond_t g103_26 ?_
                  conv => whnf
                  refine un_not ?_
                  conv => whnf
                  refine cond_t g103_26 ?_
                  obtain ⟨x111, e111, hm⟩ := bnd hm
                  conv => whnf
                  refine cond_s (fun g106_26 => ?_) (fun g106_26 => ?_)
                  ·replace e111 := ift (not_t (or_f (or_f g82_25 g87_25) (ni_t g106_26))) e111
                   conv => whnf
                   refine cond_t g106_26 ?_
                   conv => whnf
                   refine cond_t g106_26 ?_
                   conv => whnf
                   refine cond_t g106_26 ?_
                   conv => whnf
                   refine cond_t g103_26 ?_
                   conv => whnf
                   refine cond_t g106_26 ?_
                   conv => whnf
                   refine cond_t g103_26 ?_
                   conv => whnf
                   refine cond_go rfl ?_
                   conv => whnf
                   refine cond_T ?_
                   replace hm := ift (si e111).symm hm
                   obtain rfl := si hm
                   conv => whnf
                   refine EndStep.mk _ (Hp.Le.refl _) ⟨rfl, rfl⟩ (ConvH.of (.cons r1 .nil))
                  ·replace e111 := iff_ (not_f (or_u (or_f g82_25 g87_25) (ni_f g106_26))) e111
                   conv => whnf
                   refine cond_f g106_26 ?_
                   obtain ⟨x108, l108, k108, e111⟩ := ixb e111
                   conv => whnf
                   refine RStep.ofN (index_addr rfl rfl (hasK hp1_0.rd k108) l108 (lt_ofE rfl l108 k108) ?_)
                   conv => whnf
                   refine cond_f g106_26 ?_
                   conv => whnf
                   refine RStep.of (load_rd ((0 : Int).toNat) 0 _ _ hp1_0.rd rfl (mp k108) rfl rfl ?_)
                   conv => whnf
                   refine cond_f g106_26 ?_
                   conv => whnf
                   refine eq_int ?_
                   conv => whnf
                   refine cond_t g103_26 ?_
                   conv => whnf
                   refine cond_f g106_26 ?_
                   conv => whnf
                   refine cond_t g103_26 ?_
                   conv => whnf
                   refine cond_go rfl ?_
                   conv => whnf
                   refine cond_s (fun w112 => ?_) (fun w112 => ?_)
                   ·replace hm := ift ((si e111).symm.trans w112) hm
                    obtain rfl := si hm
                    conv => whnf
                    refine EndStep.mk _ (Hp.Le.refl _) ⟨rfl, rfl⟩ (ConvH.of (.cons r1 .nil))
                   ·replace hm := iff_ ((si e111).symm.trans w112) hm
                    obtain rfl := si hm
                    conv => whnf
                    refine EndStep.mk _ (Hp.Le.refl _) ⟨rfl, rfl⟩ (ConvH.of (.cons r1 .nil))
                 ·replace hm := iff_ ((si e101).symm.trans g103_26) hm
                  conv => whnf
                  refine cond_f g103_26 ?_
                  conv => whnf
                  refine cond_f g103_26 ?_
                  conv => whnf
                  refine cond_f g103_26 ?_
                  conv => whnf
                  refine cond_f g103_26 ?_
                  conv => whnf
                  refine cond_go rfl ?_
                  conv => whnf
                  refine cond_F ?_
                  obtain rfl := si hm
                  conv => whnf
                  refine EndStep.mk _ (Hp.Le.refl _) ⟨rfl, rfl⟩ (ConvH.of (.cons r1 .nil))
               ·replace hm := iff_ ((si e22).symm.trans g93_26) hm
                conv => whnf
                refine cond_f g93_26 ?_
                conv => whnf
                refine cond_f g93_26 ?_
                conv => whnf
                refine cond_f g93_26 ?_
                conv => whnf
                refine cond_f g93_26 ?_
                conv => whnf
                refine cond_F ?_
                conv => whnf
                refine cond_F ?_
                conv => whnf
                refine cond_F ?_
                conv => whnf
                refine cond_F ?_
                conv => whnf
                refine cond_F ?_
                conv => whnf
                refine cond_go rfl ?_
                conv => whnf
                refine cond_F ?_
                obtain rfl := si hm
                conv => whnf
                refine EndStep.mk _ (Hp.Le.refl _) ⟨rfl, rfl⟩ (ConvH.of (.cons r1 .nil))
           ·replace hm := iff_ w69 hm
            conv => whnf
            refine eq_int ?_
            conv => whnf
            refine cond_go rfl ?_
            conv => whnf
            refine cond_s (fun w113 => ?_) (fun w113 => ?_)
            ·replace hm := ift w113 hm
             conv => whnf
             refine field_addr rfl ?_
             conv => whnf
             refine RStep.of (load1_s r0 rfl rfl ?_)
             obtain ⟨x118, q118, hm⟩ := bnd hm
             conv => whnf
             refine call_fn (ref44_Function_ok (s := n'.Text) q118) .nil ?_
             rintro _ K118 _ l118 ⟨rfl, rfl⟩
             conv => whnf
             refine RStep.of (len_slice rfl ?_)
             conv => whnf
             refine eq_int ?_
             obtain ⟨x131, e131, hm⟩ := bnd hm
             conv => whnf
             refine cond_s (fun g125_30 => ?_) (fun g125_30 => ?_)
             ·replace e131 := ift g125_30 e131
              conv => whnf
              refine cond_t g125_30 ?_
              obtain ⟨x127, l127, k127, e131⟩ := ixb e131
              conv => whnf
              refine RStep.ofN (index_addr rfl rfl (hasK (hp1_0.mono l118).rd k127) l127 (lt_ofE rfl l127 k127) ?_)
              conv => whnf
              refine cond_t g125_30 ?_
              conv => whnf
              refine RStep.of (load_rd ((0 : Int).toNat) 0 _ _ (hp1_0.mono l118).rd rfl (mp k127) rfl rfl ?_)
              conv => whnf
              refine cond_t g125_30 ?_
              conv => whnf
              refine cond_t g125_30 ?_
              conv => whnf
              refine eq_int ?_
              conv => whnf
              refine cond_t g125_30 ?_
              conv => whnf
              refine cond_go rfl ?_
              conv => whnf
              refine cond_s (fun w131 => ?_) (fun w131 => ?_)
              ·replace hm := ift ((si e131).symm.trans w131) hm
               obtain rfl := si hm
               conv => whnf
               refine EndStep.mk _ l118 ⟨rfl, rfl⟩ (ConvH.of (.cons r1 .nil))
              ·replace hm := iff_ ((si e131).symm.trans w131) hm
               obtain rfl := si hm
               conv => whnf
               refine EndStep.mk _ l118 ⟨rfl, rfl⟩ (ConvH.of (.cons r1 .nil))
             ·replace e131 := iff_ g125_30 e131
              conv => whnf
              refine cond_f g125_30 ?_
              conv => whnf
              refine cond_f g125_30 ?_
              conv => whnf
              refine cond_f g125_30 ?_
              conv => whnf
              refine cond_f g125_30 ?_
              conv => whnf
              refine cond_f g125_30 ?_
              conv => whnf
              refine cond_go rfl ?_
              conv => whnf
              refine cond_F ?_
              replace hm := iff_ (si e131).symm hm
              obtain rfl := si hm
              conv => whnf
              refine EndStep.mk _ l118 ⟨rfl, rfl⟩ (ConvH.of (.cons r1 .nil))
            ·replace hm := iff_ w113 hm
             obtain rfl := si hm
             conv => whnf
             refine EndStep.mk _ (Hp.Le.refl _) ⟨rfl, rfl⟩ (ConvH.of (.cons r1 .nil))
 ·replace e22 := iff_ g14_1 e22
  conv => whnf
  refine cond_f g14_1 ?_
  conv => whnf
  refine cond_f g14_1 ?_
  conv => whnf
  refine cond_f g14_1 ?_
  conv => whnf
  refine cond_f g14_1 ?_
  conv => whnf
  refine cond_f g14_1 ?_
  conv => whnf
  refine cond_f g14_1 ?_
  conv => whnf
  refine cond_f g14_1 ?_
  conv => whnf
  refine field_addr rfl ?_
  conv => whnf
  refine RStep.of (load1_s r0 rfl rfl ?_)
  conv => whnf
  refine block_go rfl ?_
  conv => whnf
  refine eq_int ?_
  conv => whnf
  refine cond_go rfl ?_
  conv => whnf
  refine cond_s (fun w25 => ?_) (fun w25 => ?_)
  ·replace hm := ift w25 hm
   obtain rfl := si hm
   conv => whnf
   refine EndStep.mk _ (Hp.Le.refl _) ⟨rfl, rfl⟩ (ConvH.of (.cons r1 .nil))
  ·replace hm := iff_ w25 hm
   conv => whnf
   refine eq_int ?_
   conv => whnf
   refine cond_go rfl ?_
   conv => whnf
   refine cond_s (fun w27 => ?_) (fun w27 => ?_)
   ·replace hm := ift w27 hm
    obtain rfl := si hm
    conv => whnf
    refine EndStep.mk _ (Hp.Le.refl _) ⟨rfl, rfl⟩ (ConvH.of (.cons r1 .nil))
   ·replace hm := iff_ w27 hm
    conv => whnf
    refine eq_int ?_
    conv => whnf
    refine cond_go rfl ?_
    conv => whnf
    refine cond_s (fun w29 => ?_) (fun w29 => ?_)
    ·replace hm := ift w29 hm
     obtain rfl := si hm
     conv => whnf
     refine EndStep.mk _ (Hp.Le.refl _) ⟨rfl, rfl⟩ (ConvH.of (.cons r1 .nil))
    ·replace hm := iff_ w29 hm
     conv => whnf
     refine eq_int ?_
     conv => whnf
     refine cond_go rfl ?_
     conv => whnf
     refine cond_s (fun w31 => ?_) (fun w31 => ?_)
     ·replace hm := ift w31 hm
      obtain ⟨x39, e39, hm⟩ := bnd hm
      replace e39 := iff_ (si e22).symm e39
      conv => whnf
      refine cond_F ?_
      conv => whnf
      refine cond_F ?_
      conv => whnf
      refine cond_F ?_
      conv => whnf
      refine cond_F ?_
      conv => whnf
      refine cond_F ?_
      conv => whnf
      refine cond_go rfl ?_
      conv => whnf
      refine cond_F ?_
      replace hm := iff_ (si e39).symm hm
      obtain rfl := si hm
      conv => whnf
      refine EndStep.mk _ (Hp.Le.refl _) ⟨rfl, rfl⟩ (ConvH.of (.cons r1 .nil))
     ·replace hm := iff_ w31 hm
      conv => whnf
      refine eq_int ?_
      conv => whnf
      refine cond_go rfl ?_
      conv => whnf
      refine cond_s (fun w43 => ?_) (fun w43 => ?_)
      ·replace hm := ift w43 hm
       conv => whnf
       refine cond_go rfl ?_
       conv => whnf
       refine cond_t w43 ?_
       obtain ⟨x52, e52, hm⟩ := bnd hm
       replace e52 := iff_ (si e22).symm e52
       conv => whnf
       refine cond_F ?_
       conv => whnf
       refine cond_F ?_
       conv => whnf
       refine cond_F ?_
       conv => whnf
       refine cond_F ?_
       conv => whnf
       refine cond_F ?_
       conv => whnf
       refine cond_go rfl ?_
       conv => whnf
       refine cond_F ?_
       replace hm := iff_ (si e52).symm hm
       obtain rfl := si hm
       conv => whnf
       refine EndStep.mk _ (Hp.Le.refl _) ⟨rfl, rfl⟩ (ConvH.of (.cons r1 .nil))
      ·replace hm := iff_ w43 hm
       conv => whnf
       refine eq_int ?_
       conv => whnf
       refine cond_go rfl ?_
       conv => whnf
       refine cond_s (fun w43 => ?_) (fun w43 => ?_)
       ·replace hm := ift w43 hm
        obtain ⟨x52, e52, hm⟩ := bnd hm
        replace e52 := iff_ (si e22).symm e52
        conv => whnf
        refine cond_F ?_
        conv => whnf
        refine cond_F ?_
        conv => whnf
        refine cond_F ?_
        conv => whnf
        refine cond_F ?_
        conv => whnf
        refine cond_F ?_
        conv => whnf
        refine cond_go rfl ?_
        conv => whnf
        refine cond_F ?_
        replace hm := iff_ (si e52).symm hm
        obtain rfl := si hm
        conv => whnf
        refine EndStep.mk _ (Hp.Le.refl _) ⟨rfl, rfl⟩ (ConvH.of (.cons r1 .nil))
       ·replace hm := iff_ w43 hm
        conv => whnf
        refine eq_int ?_
        conv => whnf
        refine cond_go rfl ?_
        conv => whnf
        refine cond_s (fun w53 => ?_) (fun w53 => ?_)
        ·replace hm := ift w53 hm
         conv => whnf
         refine cond_go rfl ?_
         conv => whnf
         refine cond_t w53 ?_
         obtain ⟨x62, e62, hm⟩ := bnd hm
         replace e62 := iff_ (si e22).symm e62
         conv => whnf
         refine cond_F ?_
         conv => whnf
         refine cond_F ?_
         conv => whnf
         refine cond_F ?_
         conv => whnf
         refine cond_F ?_
         conv => whnf
         refine cond_F ?_
         conv => whnf
         refine cond_go rfl ?_
         conv => whnf
         refine cond_F ?_
         replace hm := iff_ (si e62).symm hm
         obtain rfl := si hm
         conv => whnf
         refine EndStep.mk _ (Hp.Le.refl _) ⟨rfl, rfl⟩ (ConvH.of (.cons r1 .nil))
        ·replace hm := iff_ w53 hm
         conv => whnf
         refine eq_int ?_
         conv => whnf
         refine cond_go rfl ?_
         conv => whnf
         refine cond_s (fun w53 => ?_) (fun w53 => ?_)
         ·replace hm := ift w53 hm
          obtain ⟨x62, e62, hm⟩ := bnd hm
          replace e62 := iff_ (si e22).symm e62
          conv => whnf
          refine cond_F ?_
          conv => whnf
          refine cond_F ?_
          conv => whnf
          refine cond_F ?_
          conv => whnf
          refine cond_F ?_
          conv => whnf
          refine cond_F ?_
          conv => whnf
          refine cond_go rfl ?_
          conv => whnf
          refine cond_F ?_
          replace hm := iff_ (si e62).symm hm
          obtain rfl := si hm
          conv => whnf
          refine EndStep.mk _ (Hp.Le.refl _) ⟨rfl, rfl⟩ (ConvH.of (.cons r1 .nil))
         ·replace hm := iff_ w53 hm
          conv => whnf
          refine eq_int ?_
          conv => whnf
          refine cond_go rfl ?_
          conv => whnf
          refine cond_s (fun w63 => ?_) (fun w63 => ?_)
          ·replace hm := ift w63 hm
           obtain ⟨x66, l66, k66, hm⟩ := ixb hm
           conv => whnf
           refine RStep.ofN (index_addr rfl rfl (hasK hp1_0.rd k66) l66 (lt_ofE rfl l66 k66) ?_)
           conv => whnf
           refine RStep.of (load_rd ((0 : Int).toNat) 0 _ _ hp1_0.rd rfl (mp k66) rfl rfl ?_)
           conv => whnf
           refine eq_int ?_
           conv => whnf
           refine cond_go rfl ?_
           conv => whnf
           refine cond_s (fun w68 => ?_) (fun w68 => ?_)
           ·replace hm := ift w68 hm
            obtain rfl := si hm
            conv => whnf
            refine EndStep.mk _ (Hp.Le.refl _) ⟨rfl, rfl⟩ (ConvH.of (.cons r1 .nil))
           ·replace hm := iff_ w68 hm
            obtain rfl := si hm
            conv => whnf
            refine EndStep.mk _ (Hp.Le.refl _) ⟨rfl, rfl⟩ (ConvH.of (.cons r1 .nil))
          ·replace hm := iff_ w63 hm
           conv => whnf
           refine eq_int ?_
           conv => whnf
           refine cond_go rfl ?_
           conv => whnf
           refine cond_s (fun w69 => ?_) (fun w69 => ?_)
           ·replace hm := ift w69 hm
            conv => whnf
            refine field_addr rfl ?_
            conv => whnf
            refine RStep.of (load1_s r0 rfl rfl ?_)
            conv => whnf
            refine eq_str ?_
            conv => whnf
            refine cond_s (fun g74_24 => ?_) (fun g74_24 => ?_)
            ·conv => whnf
             refine cond_t g74_24 ?_
             conv => whnf
             refine cond_t g74_24 ?_
             conv => whnf
             refine cond_t g74_24 ?_
             conv => whnf
             refine field_addr rfl ?_
             conv => whnf
             refine RStep.of (load1_s r0 rfl rfl ?_)
             conv => whnf
             refine eq_str ?_
             conv => whnf
             refine cond_s (fun g82_25 => ?_) (fun g82_25 => ?_)
             ·conv => whnf
              refine cond_t g82_25 ?_
              conv => whnf
              refine cond_t g82_25 ?_
              conv => whnf
              refine cond_t g82_25 ?_
              conv => whnf
              refine cond_T ?_
              conv => whnf
              refine cond_T ?_
              conv => whnf
              refine cond_T ?_
              conv => whnf
              refine cond_T ?_
              replace hm := iff_ (si e22).symm hm
              conv => whnf
              refine cond_F ?_
              conv => whnf
              refine cond_F ?_
              conv => whnf
              refine cond_F ?_
              conv => whnf
              refine cond_F ?_
              conv => whnf
              refine cond_F ?_
              conv => whnf
              refine cond_F ?_
              conv => whnf
              refine cond_F ?_
              conv => whnf
              refine cond_F ?_
              conv => whnf
              refine cond_F ?_
              conv => whnf
              refine cond_F ?_
              conv => whnf
              refine cond_go rfl ?_
              conv => whnf
              refine cond_F ?_
              obtain rfl := si hm
              conv => whnf
              refine EndStep.mk _ (Hp.Le.refl _) ⟨rfl, rfl⟩ (ConvH.of (.cons r1 .nil))
             ·conv => whnf
              refine field_addr rfl ?_
              conv => whnf
              refine cond_f g82_25 ?_
              conv => whnf
              refine RStep.of (load1_s r0 rfl rfl ?_)
              conv => whnf
              refine cond_f g82_25 ?_
              conv => whnf
              refine eq_str ?_
              conv => whnf
              refine cond_f g82_25 ?_
              conv => whnf
              refine cond_s (fun g87_25 => ?_) (fun g87_25 => ?_)
              ·conv => whnf
               refine cond_t g87_25 ?_
               conv => whnf
               refine cond_t g87_25 ?_
               conv => whnf
               refine cond_t g87_25 ?_
               replace hm := iff_ (si e22).symm hm
               conv => whnf
               refine cond_F ?_
               conv => whnf
               refine cond_F ?_
               conv => whnf
               refine cond_F ?_
               conv => whnf
               refine cond_F ?_
               conv => whnf
               refine cond_F ?_
               conv => whnf
               refine cond_F ?_
               conv => whnf
               refine cond_F ?_
               conv => whnf
               refine cond_F ?_
               conv => whnf
               refine cond_F ?_
               conv => whnf
               refine cond_F ?_
               conv => whnf
               refine cond_go rfl ?_
               conv => whnf
               refine cond_F ?_
               obtain rfl := si hm
               conv => whnf
               refine EndStep.mk _ (Hp.Le.refl _) ⟨rfl, rfl⟩ (ConvH.of (.cons r1 .nil))
              ·conv => whnf
               refine field_addr rfl ?_
               conv => whnf
               refine cond_f g87_25 ?_
               conv => whnf
               refine RStep.of (load1_s r0 rfl rfl ?_)
               conv => whnf
               refine cond_f g87_25 ?_
               conv => whnf
               refine eq_str ?_
               conv => whnf
               refine cond_f g87_25 ?_
               replace hm := iff_ (si e22).symm hm
               conv => whnf
               refine cond_F ?_
               conv => whnf
               refine cond_F ?_
               conv => whnf
               refine cond_F ?_
               conv => whnf
               refine cond_F ?_
               conv => whnf
               refine cond_F ?_
               conv => whnf
               refine cond_F ?_
               conv => whnf
               refine cond_F ?_
               conv => whnf
               refine cond_F ?_
               conv => whnf
               refine cond_F ?_
               conv => whnf
               refine cond_F ?_
               conv => whnf
               refine cond_go rfl ?_
               conv => whnf
               refine cond_F ?_
               obtain rfl := si hm
               conv => whnf
               refine EndStep.mk _ (Hp.Le.refl _) ⟨rfl, rfl⟩ (ConvH.of (.cons r1 .nil))
            ·conv => whnf
             refine field_addr rfl ?_
             conv => whnf
             refine cond_f g74_24 ?_
             conv => whnf
             refine RStep.of (load1_s r0 rfl rfl ?_)
             conv => whnf
             refine cond_f g74_24 ?_
             conv => whnf
             refine eq_str ?_
             conv => whnf
             refine cond_f g74_24 ?_
             conv => whnf
             refine field_addr rfl ?_
             conv => whnf
             refine RStep.of (load1_s r0 rfl rfl ?_)
             conv => whnf
             refine eq_str ?_
             conv => whnf
             refine cond_s (fun g82_25 => ?_) (fun g82_25 => ?_)
             ·conv => whnf
              refine cond_t g82_25 ?_
              conv => whnf
              refine cond_t g82_25 ?_
              conv => whnf
              refine cond_t g82_25 ?_
              conv => whnf
              refine cond_T ?_
              conv => whnf
              refine cond_T ?_
              conv => whnf
              refine cond_T ?_
              conv => whnf
              refine cond_T ?_
              replace hm := iff_ (si e22).symm hm
              conv => whnf
              refine cond_F ?_
              conv => whnf
              refine cond_F ?_
              conv => whnf
              refine cond_F ?_
              conv => whnf
              refine cond_F ?_
              conv => whnf
              refine cond_F ?_
              conv => whnf
              refine cond_F ?_
              conv => whnf
              refine cond_F ?_
              conv => whnf
              refine cond_F ?_
              conv => whnf
              refine cond_F ?_
              conv => whnf
              refine cond_F ?_
              conv => whnf
              refine cond_go rfl ?_
              conv => whnf
              refine cond_F ?_
              obtain rfl := si hm
              conv => whnf
              refine EndStep.mk _ (Hp.Le.refl _) ⟨rfl, rfl⟩ (ConvH.of (.cons r1 .nil))
             ·conv => whnf
              refine field_addr rfl ?_
              conv => whnf
              refine cond_f g82_25 ?_
              conv => whnf
              refine RStep.of (load1_s r0 rfl rfl ?_)
              conv => whnf
              refine cond_f g82_25 ?_
              conv => whnf
              refine eq_str ?_
              conv => whnf
              refine cond_f g82_25 ?_
              conv => whnf
              refine cond_s (fun g87_25 => ?_) (fun g87_25 => ?_)
              ·conv => whnf
               refine cond_t g87_25 ?_
               conv => whnf
               refine cond_t g87_25 ?_
               conv => whnf
               refine cond_t g87_25 ?_
               replace hm := iff_ (si e22).symm hm
               conv => whnf
               refine cond_F ?_
               conv => whnf
               refine cond_F ?_
               conv => whnf
               refine cond_F ?_
               conv => whnf
               refine cond_F ?_
               conv => whnf
               refine cond_F ?_
               conv => whnf
               refine cond_F ?_
               conv => whnf
               refine cond_F ?_
               conv => whnf
               refine cond_F ?_
               conv => whnf
               refine cond_F ?_
               conv => whnf
               refine cond_F ?_
               conv => whnf
               refine cond_go rfl ?_
               conv => whnf
               refine cond_F ?_
               obtain rfl := si hm
               conv => whnf
               refine EndStep.mk _ (Hp.Le.refl _) ⟨rfl, rfl⟩ (ConvH.of (.cons r1 .nil))
              ·conv => whnf
               refine field_addr rfl ?_
               conv => whnf
               refine cond_f g87_25 ?_
               conv => whnf
               refine RStep.of (load1_s r0 rfl rfl ?_)
               conv => whnf
               refine cond_f g87_25 ?_
               conv => whnf
               refine eq_str ?_
               conv => whnf
               refine cond_f g87_25 ?_
               replace hm := iff_ (si e22).symm hm
               conv => whnf
               refine cond_F ?_
               conv => whnf
               refine cond_F ?_
               conv => whnf
               refine cond_F ?_
               conv => whnf
               refine cond_F ?_
               conv => whnf
               refine cond_F ?_
               conv => whnf
               refine cond_F ?_
               conv => whnf
               refine cond_F ?_
               conv => whnf
               refine cond_F ?_
               conv => whnf
               refine cond_F ?_
               conv => whnf
               refine cond_F ?_
               conv => whnf
               refine cond_go rfl ?_
               conv => whnf
               refine cond_F ?_
               obtain rfl := si hm
               conv => whnf
               refine EndStep.mk _ (Hp.Le.refl _) ⟨rfl, rfl⟩ (ConvH.of (.cons r1 .nil))
           ·replace hm := iff_ w69 hm
            conv => whnf
            refine eq_int ?_
            conv => whnf
            refine cond_go rfl ?_
            conv => whnf
            refine cond_s (fun w113 => ?_) (fun w113 => ?_)
            ·replace hm := ift w113 hm
             conv => whnf
             refine field_addr rfl ?_
             conv => whnf
             refine RStep.of (load1_s r0 rfl rfl ?_)
             obtain ⟨x118, q118, hm⟩ := bnd hm
             conv => whnf
             refine call_fn (ref44_Function_ok (s := n'.Text) q118) .nil ?_
             rintro _ K118 _ l118 ⟨rfl, rfl⟩
             conv => whnf
             refine RStep.of (len_slice rfl ?_)
             conv => whnf
             refine eq_int ?_
             obtain ⟨x131, e131, hm⟩ := bnd hm
             conv => whnf
             refine cond_s (fun g125_30 => ?_) (fun g125_30 => ?_)
             ·replace e131 := ift g125_30 e131
              conv => whnf
              refine cond_t g125_30 ?_
              obtain ⟨x127, l127, k127, e131⟩ := ixb e131
              conv => whnf
              refine RStep.ofN (index_addr rfl rfl (hasK (hp1_0.mono l118).rd k127) l127 (lt_ofE rfl l127 k127) ?_)
              conv => whnf
              refine cond_t g125_30 ?_
              conv => whnf
              refine RStep.of (load_rd ((0 : Int).toNat) 0 _ _ (hp1_0.mono l118).rd rfl (mp k127) rfl rfl ?_)
              conv => whnf
              refine cond_t g125_30 ?_
              conv => whnf
              refine cond_t g125_30 ?_
              conv => whnf
              refine eq_int ?_
              conv => whnf
              refine cond_t g125_30 ?_
              conv => whnf
              refine cond_go rfl ?_
              conv => whnf
              refine cond_s (fun w131 => ?_) (fun w131 => ?_)
              ·replace hm := ift ((si e131).symm.trans w131) hm
               obtain rfl := si hm
               conv => whnf
               refine EndStep.mk _ l118 ⟨rfl, rfl⟩ (ConvH.of (.cons r1 .nil))
              ·replace hm := iff_ ((si e131).symm.trans w131) hm
               obtain rfl := si hm
               conv => whnf
               refine EndStep.mk _ l118 ⟨rfl, rfl⟩ (ConvH.of (.cons r1 .nil))
             ·replace e131 := iff_ g125_30 e131
              conv => whnf
              refine cond_f g125_30 ?_
              conv => whnf
              refine cond_f g125_30 ?_
              conv => whnf
              refine cond_f g125_30 ?_
              conv => whnf
              refine cond_f g125_30 ?_
              conv => whnf
              refine cond_f g125_30 ?_
              conv => whnf
              refine cond_go rfl ?_
              conv => whnf
              refine cond_F ?_
              replace hm := iff_ (si e131).symm hm
              obtain rfl := si hm
              conv => whnf
              refine EndStep.mk _ l118 ⟨rfl, rfl⟩ (ConvH.of (.cons r1 .nil))
            ·replace hm := iff_ w113 hm
             obtain rfl := si hm
             conv => whnf
             refine EndStep.mk _ (Hp.Le.refl _) ⟨rfl, rfl⟩ (ConvH.of (.cons r1 .nil))

noncomputable def ref44_expr_L0 (rec_ : (S_ref43_Node → (List S_ref44_Binding) → Option (Int × S_ref44_Fault))) (env : (List S_ref44_Binding)) : List S_ref43_Node → Nat → (List Int) → Option (Fl (Int × S_ref44_Fault) ((List Int)))
 | [], _, y0_0 => some (Fl.go y0_0)
 | e0 :: xs0, i0, y0_0 =>
  (rec_ e0 env).bind fun x26 =>
  if decide (x26.2.Code ≠ 0) then
  some (Fl.ret (0, x26.2))
  else
  (chk (y0_0.length + [x26.1].length ≤ lim)).bind fun _ =>
  ref44_expr_L0 rec_ env xs0 (i0 + 1) (y0_0 ++ [x26.1])
noncomputable def ref44_expr : Nat → S_ref43_Node → (List S_ref44_Binding) → Option (Int × S_ref44_Fault)
 | 0, _, _ => none
 | n + 1, n', env =>
  (chk (n'.Kids.length ≤ szMax)).bind fun _ =>
  (ref44_expr_L0 (ref44_expr n) env n'.Kids 0 []).bind fun s0 => s0.el some fun t0 =>
  if decide (n'.Kind = 23) then
  (ref44_lookup n n'.Text env).bind fun x44 =>
  if decide (x44 ≠ 0) then
  some (x44, (⟨0, 0⟩ : S_ref44_Fault))
  else
  some (0, (⟨n'.Line, 8⟩ : S_ref44_Fault))
  else
  if decide (n'.Kind = 24) then
  (ref44_Function n'.Text).bind fun x58 =>
  if (!x58.2.2) then
  some (0, (⟨n'.Line, 8⟩ : S_ref44_Fault))
  else
  (ref44_single n' t0).bind fun x69 =>
  if decide (x69 = 0) then
  some (0, (⟨n'.Line, 9⟩ : S_ref44_Fault))
  else
  some (x69, (⟨0, 0⟩ : S_ref44_Fault))
  else
  (ref44_single n' t0).bind fun x69 =>
  if decide (x69 = 0) then
  some (0, (⟨n'.Line, 9⟩ : S_ref44_Fault))
  else
  some (x69, (⟨0, 0⟩ : S_ref44_Fault))
set_option maxHeartbeats 8000000 in
theorem ref44_expr_ok : ∀ {n : Nat} {n' : S_ref43_Node} {env : (List S_ref44_Binding)} {ap0_0 : Option Addr} {cp0_0 : Nat} {ap1_0 : Option Addr} {cp1_0 : Nat} {n1 : Nat} {K : Hp} {r : Int × S_ref44_Fault}
  (hm : ref44_expr n n' env = some r) (hp0_0 : LiC S_ref43_Node.R K ap0_0 cp0_0 4 n'.Kids) (hp1_0 : RdC S_ref44_Binding.enc K ap1_0 cp1_0 2 env) (en1 : n1 = env.length),
  Fn Tryd.prog 37 [.agg #[.int .i64 n'.Kind, str n'.Text, .slice ap0_0 n'.Kids.length cp0_0, .int .i64 n'.Line], .slice ap1_0 n1 cp1_0] K [] (fun v K' H' => v = .tuple #[.int .i64 r.1, .agg #[.int .i64 r.2.Line, .int .i64 r.2.Code]] ∧ H' = []) := by
 intro n
 induction n with
 | zero =>
  intro n' env ap0_0 cp0_0 ap1_0 cp1_0 n1 K r hm hp0_0 hp1_0 en1
  rw [ref44_expr.eq_1] at hm; cases hm
 | succ n ih =>
  intro n' env ap0_0 cp0_0 ap1_0 cp1_0 n1 K r hm hp0_0 hp1_0 en1
  subst en1
  refine Fn.enter Tryd.func37 Tryd.call37 rfl fun F => ?_
  rw [ref44_expr.eq_2] at hm
  conv => whnf
  refine box_rule ?_
  intro b2
  conv => whnf
  refine alloc_rule rfl ?_
  intro b5
  conv => whnf
  refine field_addr rfl ?_
  conv => whnf
  refine RStep.of (load1_s r1 rfl rfl ?_)
  conv => whnf
  refine RStep.of (len_slice rfl ?_)
  obtain ⟨hk0, hm⟩ := chkb hm
  obtain ⟨s0, hl0, hm⟩ := bnd hm
  conv => whnf
  refine nilC eN 3 1 ?_
  refine code_cut (σ := ((List Int)) × Option Addr × Nat) [4, 6, 8, 9, 10, 19, 20, 21, 22, 23, 24, 25, 26, 27, 28, 29, 30, 31, 32, 33, 34, 35, 36, 37] (fun (t0, t0_a0, t0_c0) => [(6, .slice t0_a0 t0.length t0_c0)]) (fun (t0, t0_a0, t0_c0) => [OwnL eN t0_a0 3 1 t0_c0 t0, Cells b5 36 [.int .i64 0, .int .i64 0], Cells b2 24 [.int .i64 n'.Kind, str n'.Text, .slice ap0_0 n'.Kids.length cp0_0, .int .i64 n'.Line], F]) (fun zz K1 => match zz with | (t0, t0_a0, t0_c0) => (0 < t0.length → Has t0_a0) ∧ s0 = Fl.go t0) ?_ ?_
  ·refine block_go rfl ?_
   conv => whnf
   refine loop_rule (σ := Nat × (List Int) × Option Addr × Nat) [4, 6, 8, 9, 10, 19, 20, 21, 22, 23, 24, 25, 26, 27, 28, 29, 30, 31, 32, 33, 34, 35, 36, 37] (fun (i0, y0_0, y0_a0, y0_c0) => [(19, .int .i64 (i0 : Int)), (6, .slice y0_a0 y0_0.length y0_c0)]) (fun (i0, y0_0, y0_a0, y0_c0) => [OwnL eN y0_a0 3 1 y0_c0 y0_0, Cells b5 36 [.int .i64 0, .int .i64 0], Cells b2 24 [.int .i64 n'.Kind, str n'.Text, .slice ap0_0 n'.Kids.length cp0_0, .int .i64 n'.Line], F]) (fun zz K1 => match zz with | (i0, y0_0, y0_a0, y0_c0) => (0 < y0_0.length → Has y0_a0) ∧ ref44_expr_L0 (ref44_expr n) env (n'.Kids.drop i0) i0 y0_0 = some s0) (fun zz => n'.Kids.length - zz.1) (0, [], none, 0) rfl ⟨rfl, rfl, trivial⟩ (ConvH.of (.cons r0 (.cons r0 (.cons r0 (.cons r0 .nil))))) ⟨(fun h => by simp at h), hl0⟩ ?_
   clear hl0
   rintro ⟨i0, y0_0, y0_a0, y0_c0⟩ Kb0 lk0 ⟨y0_h0, hl0⟩ j0
   conv => whnf
   refine cond_go rfl ?_
   conv => whnf
   refine cond_s (fun w0 => ?_) (fun w0 => ?_)
   ·obtain ⟨e0, hx0, hd0⟩ := ltx w0
    rw [hd0, ref44_expr_L0.eq_2] at hl0
    conv => whnf
    refine block_go rfl ?_
    conv => whnf
    refine RStep.ofN (index_addr rfl rfl (hasR (LiC.mono S_ref43_Node.R_ok lk0 hp0_0).rd hx0) (nn _) (lt_ofN hx0) ?_)
    obtain ⟨ss22, cc22, hr22, hc22, hR22⟩ := LiR.get (LiC.mono S_ref43_Node.R_ok lk0 hp0_0).rd hx0
    obtain ⟨a22_0, c22_0, rfl, h22_0⟩ := S_ref43_Node.out hR22
    conv => whnf
    refine RStep.of (load_rd_agg i0 _ hr22 rfl hc22 rfl ?_)
    conv => whnf
    refine alloc_rule rfl ?_
    intro b8
    conv => whnf
    refine store_rule r0 rfl ?_
    conv => whnf
    refine ⟨rfl, rfl, (Nat.le_of_ble_eq_true rfl), ?_⟩
    conv => whnf
    refine RStep.of (loadn_s r0 rfl (Nat.le_of_ble_eq_true rfl) ?_)
    obtain ⟨x26, q26, hl0⟩ := bnd hl0
    conv => whnf
    refine call_fn (ih (n' := e0) q26 h22_0 (hp1_0.mono lk0) rfl) .nil ?_
    rintro _ K26 _ l26 ⟨rfl, rfl⟩
    conv => whnf
    refine alloc_rule rfl ?_
    intro b10
    conv => whnf
    refine store_rule r0 rfl ?_
    conv => whnf
    refine ⟨rfl, rfl, (Nat.le_of_ble_eq_true rfl), ?_⟩
    conv => whnf
    refine field_addr rfl ?_
    conv => whnf
    refine RStep.of (load1_s r0 rfl rfl ?_)
    conv => whnf
    refine neq_int ?_
    conv => whnf
    refine cond_go rfl ?_
    conv => whnf
    refine cond_s (fun w31 => ?_) (fun w31 => ?_)
    ·replace hl0 := ift w31 hl0
     conv => whnf
     refine draw_go ⟨⟨[], false⟩, _, [(_, _)]⟩ (by kernel_rfl) ⟨Hp.Le.refl _, (ConvH.of (.cons r0 .nil))⟩ ?_
     conv => whnf
     refine loadn_l m0 rfl (Nat.le_of_ble_eq_true rfl) ?_
     conv => whnf
     refine store_rule r3 rfl ?_
     conv => whnf
     refine ⟨rfl, rfl, (Nat.le_of_ble_eq_true rfl), ?_⟩
     conv => whnf
     refine ⟨⟨(Hp.Le.refl _), (ConvH.of (.cons r1 .nil))⟩, ?_⟩
     obtain rfl := si hl0
     replace hm := elr hm
     obtain rfl := si hm
     conv => whnf
     refine RStep.of (loadn_s r0 rfl (Nat.le_of_ble_eq_true rfl) ?_)
     conv => whnf
     refine EndStep.mk _ (lk0.trans l26) ⟨rfl, rfl⟩ (ConvH.of (.cons r5 .nil))
    ·replace hl0 := iff_ w31 hl0
     conv => whnf
     refine bsO (len := 1) (enc := eN) (l := [x26.1]) (cl := [.int .i64 x26.1]) elT87 rfl rfl (fun _ _ => rfl) rfl rfl rfl ?_ fun b35 => ?_
     ·conv => whnf
      refine cond_T ?_
      conv => whnf
      first | done | rfl
     obtain ⟨h36, hl0⟩ := chkb hl0
     conv => whnf
     refine apE rfl r3 elT87 (src_own' rfl r0 rfl (fun _ => rfl) (fun _ => rfl)) h36 ?_
     intro a36 c36 o36
     conv => whnf
     refine int_in (cntz hx0 hk0) ?_
     conv => whnf
     refine RoundStep.mk (i0 + 1, (y0_0 ++ [x26.1]), a36, c36) ⟨rfl, rfl, trivial⟩ (by repeat (first | exact trivial | refine And.intro rfl ?_)) (ConvH.of (.cons r0 (.cons r3 (.cons r3 (.cons r3 .nil))))) (lk0.trans l26) (ltm hx0) ⟨o36, hl0⟩
   ·rw [lty w0, ref44_expr_L0.eq_1] at hl0
    conv => whnf
    refine cond_T ?_
    conv => whnf
    refine MeetStep.mk (y0_0, y0_a0, y0_c0) ⟨rfl, trivial⟩ (by repeat (first | exact trivial | refine And.intro rfl ?_)) (ConvH.of (.cons r0 (.cons r0 (.cons r0 (.cons r0 .nil))))) lk0 ⟨y0_h0, (si hl0).symm⟩
  ·rintro ⟨t0, t0_a0, t0_c0⟩ Kt0 lt0 ⟨t0_h0, rfl⟩ j0
   replace hm := elg hm
   conv => whnf
   refine field_addr rfl ?_
   conv => whnf
   refine RStep.of (load1_s r2 rfl rfl ?_)
   conv => whnf
   refine eq_int ?_
   conv => whnf
   refine cond_go rfl ?_
   conv => whnf
   refine cond_s (fun w40 => ?_) (fun w40 => ?_)
   ·replace hm := ift w40 hm
    conv => whnf
    refine field_addr rfl ?_
    conv => whnf
    refine RStep.of (load1_s r2 rfl rfl ?_)
    obtain ⟨x44, q44, hm⟩ := bnd hm
    conv => whnf
    refine call_fn (ref44_lookup_ok (s := n'.Text) q44 (hp1_0.mono lt0) rfl) .nil ?_
    rintro _ K44 _ l44 ⟨rfl, rfl⟩
    conv => whnf
    refine neq_int ?_
    conv => whnf
    refine cond_go rfl ?_
    conv => whnf
    refine cond_s (fun w46 => ?_) (fun w46 => ?_)
    ·replace hm := ift w46 hm
     conv => whnf
     refine build_struct rfl rfl ?_
     conv => whnf
     refine store_rule r1 rfl ?_
     conv => whnf
     refine ⟨rfl, rfl, (Nat.le_of_ble_eq_true rfl), ?_⟩
     obtain rfl := si hm
     conv => whnf
     refine RStep.of (loadn_s r0 rfl (Nat.le_of_ble_eq_true rfl) ?_)
     conv => whnf
     refine EndStep.mk _ (lt0.trans l44) ⟨rfl, rfl⟩ (ConvH.of (.cons r3 .nil))
    ·replace hm := iff_ w46 hm
     conv => whnf
     refine draw_go ⟨⟨[], false⟩, _, [(_, _)]⟩ (by kernel_rfl) ⟨Hp.Le.refl _, (ConvH.of (.cons r2 .nil))⟩ ?_
     conv => whnf
     refine field_addr rfl ?_
     conv => whnf
     refine load1_l m0 rfl rfl ?_
     conv => whnf
     refine build_struct rfl rfl ?_
     conv => whnf
     refine cond_T ?_
     conv => whnf
     refine cond_T ?_
     conv => whnf
     refine store_rule r1 rfl ?_
     conv => whnf
     refine ⟨rfl, rfl, (Nat.le_of_ble_eq_true rfl), ?_⟩
     conv => whnf
     refine ⟨⟨(Hp.Le.refl _), (ConvH.of (.cons r2 .nil))⟩, ?_⟩
     obtain rfl := si hm
     conv => whnf
     refine RStep.of (loadn_s r0 rfl (Nat.le_of_ble_eq_true rfl) ?_)
     conv => whnf
     refine EndStep.mk _ (lt0.trans l44) ⟨rfl, rfl⟩ (ConvH.of (.cons r3 .nil))
   ·replace hm := iff_ w40 hm
    conv => whnf
    refine field_addr rfl ?_
    conv => whnf
    refine RStep.of (load1_s r2 rfl rfl ?_)
    conv => whnf
    refine eq_int ?_
    conv => whnf
    refine cond_go rfl ?_
    conv => whnf
    refine cond_s (fun w54 => ?_) (fun w54 => ?_)
    ·replace hm := ift w54 hm
     conv => whnf
     refine field_addr rfl ?_
     conv => whnf
     refine RStep.of (load1_s r2 rfl rfl ?_)
     obtain ⟨x58, q58, hm⟩ := bnd hm
     conv => whnf
     refine call_fn (ref44_Function_ok (s := n'.Text) q58) .nil ?_
     rintro _ K58 _ l58 ⟨rfl, rfl⟩
     conv => whnf
     refine un_not ?_
     conv => whnf
     refine cond_go rfl ?_
     conv => whnf
     refine cond_s (fun w63 => ?_) (fun w63 => ?_)
     ·replace hm := ift (not_t (ni_t w63)) hm
      conv => whnf
      refine draw_go ⟨⟨[], false⟩, _, [(_, _)]⟩ (by kernel_rfl) ⟨Hp.Le.refl _, (ConvH.of (.cons r2 .nil))⟩ ?_
      conv => whnf
      refine field_addr rfl ?_
      conv => whnf
      refine load1_l m0 rfl rfl ?_
      conv => whnf
      refine build_struct rfl rfl ?_
      conv => whnf
      refine cond_T ?_
      conv => whnf
      refine cond_T ?_
      conv => whnf
      refine store_rule r1 rfl ?_
      conv => whnf
      refine ⟨rfl, rfl, (Nat.le_of_ble_eq_true rfl), ?_⟩
      conv => whnf
      refine ⟨⟨(Hp.Le.refl _), (ConvH.of (.cons r2 .nil))⟩, ?_⟩
      obtain rfl := si hm
      conv => whnf
      refine RStep.of (loadn_s r0 rfl (Nat.le_of_ble_eq_true rfl) ?_)
      conv => whnf
      refine EndStep.mk _ (lt0.trans l58) ⟨rfl, rfl⟩ (ConvH.of (.cons r3 .nil))
     ·replace hm := iff_ (not_f (ni_f w63)) hm
      conv => whnf
      refine RStep.of (loadn_s r2 rfl (Nat.le_of_ble_eq_true rfl) ?_)
      obtain ⟨x69, q69, hm⟩ := bnd hm
      conv => whnf
      refine call_fn (Fn.lend Tryd.call54 (fun K69_1 l69_1 f69_1 => (ref44_single_ok (n' := n') q69 (LiC.mono S_ref43_Node.R_ok ((lt0.trans l58).trans l69_1) hp0_0) f69_1 rfl)) (by exact fun _ _ _ _ h => h)) (.cons r0 .nil) ?_
      rintro _ K69 _ l69 ⟨_, rfl, rfl, rfl⟩
      conv => whnf
      refine eq_int ?_
      conv => whnf
      refine cond_go rfl ?_
      conv => whnf
      refine cond_s (fun w71 => ?_) (fun w71 => ?_)
      ·replace hm := ift w71 hm
       conv => whnf
       refine draw_go ⟨⟨[], false⟩, _, [(_, _)]⟩ (by kernel_rfl) ⟨Hp.Le.refl _, (ConvH.of (.cons r2 .nil))⟩ ?_
       conv => whnf
       refine field_addr rfl ?_
       conv => whnf
       refine load1_l m0 rfl rfl ?_
       conv => whnf
       refine build_struct rfl rfl ?_
       conv => whnf
       refine cond_T ?_
       conv => whnf
       refine cond_T ?_
       conv => whnf
       refine store_rule r1 rfl ?_
       conv => whnf
       refine ⟨rfl, rfl, (Nat.le_of_ble_eq_true rfl), ?_⟩
       conv => whnf
       refine ⟨⟨(Hp.Le.refl _), (ConvH.of (.cons r2 .nil))⟩, ?_⟩
       obtain rfl := si hm
       conv => whnf
       refine RStep.of (loadn_s r0 rfl (Nat.le_of_ble_eq_true rfl) ?_)
       conv => whnf
       refine EndStep.mk _ ((lt0.trans l58).trans l69) ⟨rfl, rfl⟩ (ConvH.of (.cons r3 .nil))
      ·replace hm := iff_ w71 hm
       conv => whnf
       refine build_struct rfl rfl ?_
       conv => whnf
       refine store_rule r1 rfl ?_
       conv => whnf
       refine ⟨rfl, rfl, (Nat.le_of_ble_eq_true rfl), ?_⟩
       obtain rfl := si hm
       conv => whnf
       refine RStep.of (loadn_s r0 rfl (Nat.le_of_ble_eq_true rfl) ?_)
       conv => whnf
       refine EndStep.mk _ ((lt0.trans l58).trans l69) ⟨rfl, rfl⟩ (ConvH.of (.cons r3 .nil))
    ·replace hm := iff_ w54 hm
     conv => whnf
     refine RStep.of (loadn_s r2 rfl (Nat.le_of_ble_eq_true rfl) ?_)
     obtain ⟨x69, q69, hm⟩ := bnd hm
     conv => whnf
     refine call_fn (Fn.lend Tryd.call54 (fun K69_1 l69_1 f69_1 => (ref44_single_ok (n' := n') q69 (LiC.mono S_ref43_Node.R_ok (lt0.trans l69_1) hp0_0) f69_1 rfl)) (by exact fun _ _ _ _ h => h)) (.cons r0 .nil) ?_
     rintro _ K69 _ l69 ⟨_, rfl, rfl, rfl⟩
     conv => whnf
     refine eq_int ?_
     conv => whnf
     refine cond_go rfl ?_
     conv => whnf
     refine cond_s (fun w71 => ?_) (fun w71 => ?_)
     ·replace hm := ift w71 hm
      conv => whnf
      refine draw_go ⟨⟨[], false⟩, _, [(_, _)]⟩ (by kernel_rfl) ⟨Hp.Le.refl _, (ConvH.of (.cons r2 .nil))⟩ ?_
      conv => whnf
      refine field_addr rfl ?_
      conv => whnf
      refine load1_l m0 rfl rfl ?_
      conv => whnf
      refine build_struct rfl rfl ?_
      conv => whnf
      refine cond_T ?_
      conv => whnf
      refine cond_T ?_
      conv => whnf
      refine store_rule r1 rfl ?_
      conv => whnf
      refine ⟨rfl, rfl, (Nat.le_of_ble_eq_true rfl), ?_⟩
      conv => whnf
      refine ⟨⟨(Hp.Le.refl _), (ConvH.of (.cons r2 .nil))⟩, ?_⟩
      obtain rfl := si hm
      conv => whnf
      refine RStep.of (loadn_s r0 rfl (Nat.le_of_ble_eq_true rfl) ?_)
      conv => whnf
      refine EndStep.mk _ (lt0.trans l69) ⟨rfl, rfl⟩ (ConvH.of (.cons r3 .nil))
     ·replace hm := iff_ w71 hm
      conv => whnf
      refine build_struct rfl rfl ?_
      conv => whnf
      refine store_rule r1 rfl ?_
      conv => whnf
      refine ⟨rfl, rfl, (Nat.le_of_ble_eq_true rfl), ?_⟩
      obtain rfl := si hm
      conv => whnf
      refine RStep.of (loadn_s r0 rfl (Nat.le_of_ble_eq_true rfl) ?_)
      conv => whnf
      refine EndStep.mk _ (lt0.trans l69) ⟨rfl, rfl⟩ (ConvH.of (.cons r3 .nil))

noncomputable def ref44_needs (kind : Int) : Option (Int) :=
 if decide (kind = 4) then
 some 1
 else
 if decide (kind = 5) then
 some 1
 else
 if decide (kind = 7) then
 some 1
 else
 if decide (kind = 8) then
 some 2
 else
 if decide (kind = 9) then
 some 2
 else
 if decide (kind = 2) then
 some 3
 else
 some 0
set_option maxHeartbeats 8000000 in
theorem ref44_needs_ok {kind : Int} {K : Hp} {r : Int}
  (hm : ref44_needs kind = some r)  :
  Fn Tryd.prog 47 [.int .i64 kind] K [] (fun v K' H' => v = .int .i64 r ∧ H' = []) := by
 refine Fn.enter Tryd.func47 Tryd.call47 rfl fun F => ?_
 unfold ref44_needs at hm
 conv => whnf
 refine block_go rfl ?_
 conv => whnf
 refine eq_int ?_
 conv => whnf
 refine cond_go rfl ?_
 conv => whnf
 refine cond_s (fun w4 => ?_) (fun w4 => ?_)
 ·replace hm := ift w4 hm
  conv => whnf
  refine cond_go rfl ?_
  conv => whnf
  refine cond_t w4 ?_
  obtain rfl := si hm
  conv => whnf
  refine EndStep.mk _ (Hp.Le.refl _) ⟨rfl, rfl⟩ (ConvH.of (.cons r0 .nil))
 ·replace hm := iff_ w4 hm
  conv => whnf
  refine eq_int ?_
  conv => whnf
  refine cond_go rfl ?_
  conv => whnf
  refine cond_s (fun w4 => ?_) (fun w4 => ?_)
  ·replace hm := ift w4 hm
   conv => whnf
   refine cond_go rfl ?_
   conv => whnf
   refine cond_t w4 ?_
   obtain rfl := si hm
   conv => whnf
   refine EndStep.mk _ (Hp.Le.refl _) ⟨rfl, rfl⟩ (ConvH.of (.cons r0 .nil))
  ·replace hm := iff_ w4 hm
   conv => whnf
   refine eq_int ?_
   conv => whnf
   refine cond_go rfl ?_
   conv => whnf
   refine cond_s (fun w4 => ?_) (fun w4 => ?_)
   ·replace hm := ift w4 hm
    obtain rfl := si hm
    conv => whnf
    refine EndStep.mk _ (Hp.Le.refl _) ⟨rfl, rfl⟩ (ConvH.of (.cons r0 .nil))
   ·replace hm := iff_ w4 hm
    conv => whnf
    refine eq_int ?_
    conv => whnf
    refine cond_go rfl ?_
    conv => whnf
    refine cond_s (fun w8 => ?_) (fun w8 => ?_)
    ·replace hm := ift w8 hm
     conv => whnf
     refine cond_go rfl ?_
     conv => whnf
     refine cond_t w8 ?_
     obtain rfl := si hm
     conv => whnf
     refine EndStep.mk _ (Hp.Le.refl _) ⟨rfl, rfl⟩ (ConvH.of (.cons r0 .nil))
    ·replace hm := iff_ w8 hm
     conv => whnf
     refine eq_int ?_
     conv => whnf
     refine cond_go rfl ?_
     conv => whnf
     refine cond_s (fun w8 => ?_) (fun w8 => ?_)
     ·replace hm := ift w8 hm
      obtain rfl := si hm
      conv => whnf
      refine EndStep.mk _ (Hp.Le.refl _) ⟨rfl, rfl⟩ (ConvH.of (.cons r0 .nil))
     ·replace hm := iff_ w8 hm
      conv => whnf
      refine eq_int ?_
      conv => whnf
      refine cond_go rfl ?_
      conv => whnf
      refine cond_s (fun w11 => ?_) (fun w11 => ?_)
      ·replace hm := ift w11 hm
       obtain rfl := si hm
       conv => whnf
       refine EndStep.mk _ (Hp.Le.refl _) ⟨rfl, rfl⟩ (ConvH.of (.cons r0 .nil))
      ·replace hm := iff_ w11 hm
       obtain rfl := si hm
       conv => whnf
       refine EndStep.mk _ (Hp.Le.refl _) ⟨rfl, rfl⟩ (ConvH.of (.cons r0 .nil))
