/- Functions of the program: mirrors, and that a call returns what the mirror says. Printed by gen.py. -/
import Derived.Test.YtdnelkmckpapgaaDoorG4
set_option linter.unusedVariables false
set_option linter.unusedSimpArgs false
open Go Go.SL Go.Proofs
set_option maxRecDepth 1000000
noncomputable def ref43_stands (rec2_0 : ((List S_ref43_Node) → Option (Bool))) : Nat → S_ref43_Node → Option (Bool)
 | 0, _ => none
 | n + 1, n' =>
  if decide (n'.Kind = 2) then
  (if ((decide (n'.Text ≠ ([] : Str)) || decide ((n'.Kids.length : Int) < 2)) || decide ((n'.Kids.length : Int) > 3)) then some true else (ix n'.Kids 0).bind fun x25 =>
  (ref43_expression n x25).bind fun x27 =>
  some (!x27)).bind fun x29 =>
  (if x29 then some true else (ix n'.Kids 1).bind fun x33 =>
  (ref43_blocks rec2_0 n x33).bind fun x35 =>
  some (!x35)).bind fun x37 =>
  if x37 then
  some false
  else
  (if decide ((n'.Kids.length : Int) = 2) then some true else (ix n'.Kids 2).bind fun x43 =>
  (ref43_blocks rec2_0 n x43).bind fun x45 =>
  some x45).bind fun x46 =>
  if x46 then
  some true
  else
  (ix n'.Kids 2).bind fun x50 =>
  (if decide (x50.Kind = 2) then (ix n'.Kids 2).bind fun x57 =>
  ((ref43_stands rec2_0 n) x57).bind fun x59 =>
  some x59 else some false).bind fun x60 =>
  some x60
  else
  if decide (n'.Kind = 3) then
  (ref43_named n n'.Text).bind fun x66 =>
  (if x66 then (ref43_exprs (ref43_expression n) n n'.Kids 1).bind fun x70 =>
  some x70 else some false).bind fun x71 =>
  some x71
  else
  if decide (n'.Kind = 4) then
  (if (decide (n'.Text = ([112, 97, 116, 104] : Str)) || decide (n'.Text = ([113, 117, 101, 114, 121] : Str))) then (ref43_exprs (ref43_expression n) n n'.Kids 1).bind fun x85 =>
  some x85 else some false).bind fun x86 =>
  some x86
  else
  if decide (n'.Kind = 5) then
  (ref43_printable n'.Text).bind fun x91 =>
  (if x91 then (ref43_exprs (ref43_expression n) n n'.Kids 1).bind fun x95 =>
  some x95 else some false).bind fun x96 =>
  some x96
  else
  if decide (n'.Kind = 6) then
  (ref43_printable n'.Text).bind fun x101 =>
  some (x101 && decide ((n'.Kids.length : Int) = 0))
  else
  if decide (n'.Kind = 7) then
  (if decide (n'.Text = ([] : Str)) then (ref43_exprs (ref43_expression n) n n'.Kids 1).bind fun x118 =>
  some x118 else some false).bind fun x119 =>
  some x119
  else
  if decide (n'.Kind = 8) then
  (if decide (n'.Text = ([] : Str)) then (ref43_exprs (ref43_expression n) n n'.Kids 1).bind fun x118 =>
  some x118 else some false).bind fun x119 =>
  some x119
  else
  if decide (n'.Kind = 9) then
  (if decide (n'.Text = ([] : Str)) then (ref43_exprs (ref43_expression n) n n'.Kids 1).bind fun x118 =>
  some x118 else some false).bind fun x119 =>
  some x119
  else
  if decide (n'.Kind = 10) then
  some (decide (n'.Text = ([] : Str)) && decide ((n'.Kids.length : Int) = 0))
  else
  if decide (n'.Kind = 11) then
  some (decide (n'.Text = ([] : Str)) && decide ((n'.Kids.length : Int) = 0))
  else
  some false
set_option maxHeartbeats 8000000 in
theorem ref43_stands_ok {rec2_0 : ((List S_ref43_Node) → Option (Bool))} (ihrec2_0 : ∀ {l : (List S_ref43_Node)} {ap0_0 : Option Addr} {cp0_0 : Nat} {n0 : Nat} {K : Hp} {r : Bool} (hm : rec2_0 l = some r) (hp0_0 : LiC S_ref43_Node.R K ap0_0 cp0_0 4 l) (en0 : n0 = l.length), Fn Tryd.prog 35 [.slice ap0_0 n0 cp0_0] K [] (fun v K' H' => v = .bool r ∧ H' = [])) : ∀ {n : Nat} {n' : S_ref43_Node} {ap0_0 : Option Addr} {cp0_0 : Nat} {K : Hp} {r : Bool}
  (hm : ref43_stands rec2_0 n n' = some r) (hp0_0 : LiC S_ref43_Node.R K ap0_0 cp0_0 4 n'.Kids),
  Fn Tryd.prog 49 [.agg #[.int .i64 n'.Kind, str n'.Text, .slice ap0_0 n'.Kids.length cp0_0, .int .i64 n'.Line]] K [] (fun v K' H' => v = .bool r ∧ H' = []) := by
 intro n
 induction n with
 | zero =>
  intro n' ap0_0 cp0_0 K r hm hp0_0
  rw [ref43_stands.eq_1] at hm; cases hm
 | succ n ih =>
  intro n' ap0_0 cp0_0 K r hm hp0_0
  refine Fn.enter Tryd.func49 Tryd.call49 rfl fun F => ?_
  rw [ref43_stands.eq_2] at hm
  conv => whnf
  refine box_rule ?_
  intro b1
  conv => whnf
  refine field_addr rfl ?_
  conv => whnf
  refine RStep.of (load1_s r0 rfl rfl ?_)
  conv => whnf
  refine block_go rfl ?_
  conv => whnf
  refine eq_int ?_
  conv => whnf
  refine cond_go rfl ?_
  conv => whnf
  refine cond_s (fun w6 => ?_) (fun w6 => ?_)
  ·replace hm := ift w6 hm
   conv => whnf
   refine field_addr rfl ?_
   conv => whnf
   refine RStep.of (load1_s r0 rfl rfl ?_)
   conv => whnf
   refine RStep.of (len_slice rfl ?_)
   conv => whnf
   refine field_addr rfl ?_
   conv => whnf
   refine RStep.of (load1_s r0 rfl rfl ?_)
   conv => whnf
   refine neq_str ?_
   conv => whnf
   refine cond_s (fun g14_4 => ?_) (fun g14_4 => ?_)
   ·conv => whnf
    refine cond_t g14_4 ?_
    conv => whnf
    refine cond_t g14_4 ?_
    conv => whnf
    refine cond_T ?_
    conv => whnf
    refine cond_T ?_
    conv => whnf
    refine cond_T ?_
    obtain ⟨x29, e29, hm⟩ := bnd hm
    replace e29 := ift (or_t (or_t g14_4)) e29
    conv => whnf
    refine cond_T ?_
    conv => whnf
    refine cond_T ?_
    conv => whnf
    refine cond_T ?_
    conv => whnf
    refine cond_T ?_
    conv => whnf
    refine cond_T ?_
    conv => whnf
    refine cond_T ?_
    conv => whnf
    refine cond_T ?_
    obtain ⟨x37, e37, hm⟩ := bnd hm
    replace e37 := ift (si e29).symm e37
    conv => whnf
    refine cond_T ?_
    conv => whnf
    refine cond_T ?_
    conv => whnf
    refine cond_T ?_
    conv => whnf
    refine cond_T ?_
    conv => whnf
    refine cond_T ?_
    conv => whnf
    refine cond_T ?_
    conv => whnf
    refine cond_T ?_
    conv => whnf
    refine cond_go rfl ?_
    conv => whnf
    refine cond_T ?_
    replace hm := ift (si e37).symm hm
    obtain rfl := si hm
    conv => whnf
    refine EndStep.mk _ (Hp.Le.refl _) ⟨rfl, rfl⟩ (ConvH.of (.cons r1 .nil))
   ·conv => whnf
    refine cond_f g14_4 ?_
    conv => whnf
    refine cond_f g14_4 ?_
    conv => whnf
    refine cond_s (fun g18_4 => ?_) (fun g18_4 => ?_)
    ·conv => whnf
     refine cond_t g18_4 ?_
     conv => whnf
     refine cond_t g18_4 ?_
     obtain ⟨x29, e29, hm⟩ := bnd hm
     replace e29 := ift (or_t (or_u g14_4 g18_4)) e29
     conv => whnf
     refine cond_T ?_
     conv => whnf
     refine cond_T ?_
     conv => whnf
     refine cond_T ?_
     conv => whnf
     refine cond_T ?_
     conv => whnf
     refine cond_T ?_
     conv => whnf
     refine cond_T ?_
     conv => whnf
     refine cond_T ?_
     obtain ⟨x37, e37, hm⟩ := bnd hm
     replace e37 := ift (si e29).symm e37
     conv => whnf
     refine cond_T ?_
     conv => whnf
     refine cond_T ?_
     conv => whnf
     refine cond_T ?_
     conv => whnf
     refine cond_T ?_
     conv => whnf
     refine cond_T ?_
     conv => whnf
     refine cond_T ?_
     conv => whnf
     refine cond_T ?_
     conv => whnf
     refine cond_go rfl ?_
     conv => whnf
     refine cond_T ?_
     replace hm := ift (si e37).symm hm
     obtain rfl := si hm
     conv => whnf
     refine EndStep.mk _ (Hp.Le.refl _) ⟨rfl, rfl⟩ (ConvH.of (.cons r1 .nil))
    ·conv => whnf
     refine cond_f g18_4 ?_
     conv => whnf
     refine cond_f g18_4 ?_
     obtain ⟨x29, e29, hm⟩ := bnd hm
     conv => whnf
     refine cond_s (fun g22_4 => ?_) (fun g22_4 => ?_)
     ·replace e29 := ift (or_u (or_f g14_4 g18_4) g22_4) e29
      conv => whnf
      refine cond_t g22_4 ?_
      conv => whnf
      refine cond_t g22_4 ?_
      conv => whnf
      refine cond_t g22_4 ?_
      conv => whnf
      refine cond_t g22_4 ?_
      conv => whnf
      refine cond_t g22_4 ?_
      conv => whnf
      refine cond_t g22_4 ?_
      obtain ⟨x37, e37, hm⟩ := bnd hm
      replace e37 := ift (si e29).symm e37
      conv => whnf
      refine cond_T ?_
      conv => whnf
      refine cond_T ?_
      conv => whnf
      refine cond_T ?_
      conv => whnf
      refine cond_T ?_
      conv => whnf
      refine cond_T ?_
      conv => whnf
      refine cond_T ?_
      conv => whnf
      refine cond_T ?_
      conv => whnf
      refine cond_go rfl ?_
      conv => whnf
      refine cond_T ?_
      replace hm := ift (si e37).symm hm
      obtain rfl := si hm
      conv => whnf
      refine EndStep.mk _ (Hp.Le.refl _) ⟨rfl, rfl⟩ (ConvH.of (.cons r1 .nil))
     ·replace e29 := iff_ (or_f (or_f g14_4 g18_4) g22_4) e29
      conv => whnf
      refine field_addr rfl ?_
      conv => whnf
      refine cond_f g22_4 ?_
      conv => whnf
      refine RStep.of (load1_s r0 rfl rfl ?_)
      conv => whnf
      refine cond_f g22_4 ?_
      obtain ⟨x25, l25, k25, e29⟩ := ixb e29
      conv => whnf
      refine RStep.ofN (index_addr rfl rfl (hasR hp0_0.rd k25) l25 (lt_ofE rfl l25 k25) ?_)
      conv => whnf
      refine cond_f g22_4 ?_
      obtain ⟨ss26, cc26, hr26, hc26, hR26⟩ := LiR.get hp0_0.rd k25
      obtain ⟨a26_0, c26_0, rfl, h26_0⟩ := S_ref43_Node.out hR26
      conv => whnf
      refine RStep.of (load_rd_agg ((0 : Int).toNat) _ hr26 rfl hc26 rfl ?_)
      conv => whnf
      refine cond_f g22_4 ?_
      obtain ⟨x27, q27, e29⟩ := bnd e29
      conv => whnf
      refine call_fn (ref43_expression_ok (n' := x25) q27 h26_0) .nil ?_
      rintro _ K27 _ l27 ⟨rfl, rfl⟩
      conv => whnf
      refine cond_f g22_4 ?_
      conv => whnf
      refine un_not ?_
      conv => whnf
      refine cond_f g22_4 ?_
      obtain ⟨x37, e37, hm⟩ := bnd hm
      conv => whnf
      refine cond_s (fun g30_4 => ?_) (fun g30_4 => ?_)
      ·replace e37 := ift ((si e29).symm.trans (not_t (ni_t g30_4))) e37
       conv => whnf
       refine cond_t g30_4 ?_
       conv => whnf
       refine cond_t g30_4 ?_
       conv => whnf
       refine cond_t g30_4 ?_
       conv => whnf
       refine cond_t g30_4 ?_
       conv => whnf
       refine cond_t g30_4 ?_
       conv => whnf
       refine cond_t g30_4 ?_
       conv => whnf
       refine cond_go rfl ?_
       conv => whnf
       refine cond_T ?_
       replace hm := ift (si e37).symm hm
       obtain rfl := si hm
       conv => whnf
       refine EndStep.mk _ l27 ⟨rfl, rfl⟩ (ConvH.of (.cons r1 .nil))
      ·replace e37 := iff_ ((si e29).symm.trans (not_f (ni_f g30_4))) e37
       conv => whnf
       refine field_addr rfl ?_
       conv => whnf
       refine cond_f g30_4 ?_
       conv => whnf
       refine RStep.of (load1_s r0 rfl rfl ?_)
       conv => whnf
       refine cond_f g30_4 ?_
       obtain ⟨x33, l33, k33, e37⟩ := ixb e37
       conv => whnf
       refine RStep.ofN (index_addr rfl rfl (hasR (LiC.mono S_ref43_Node.R_ok l27 hp0_0).rd k33) l33 (lt_ofE rfl l33 k33) ?_)
       conv => whnf
       refine cond_f g30_4 ?_
       obtain ⟨ss34, cc34, hr34, hc34, hR34⟩ := LiR.get (LiC.mono S_ref43_Node.R_ok l27 hp0_0).rd k33
       obtain ⟨a34_0, c34_0, rfl, h34_0⟩ := S_ref43_Node.out hR34
       conv => whnf
       refine RStep.of (load_rd_agg ((1 : Int).toNat) _ hr34 rfl hc34 rfl ?_)
       conv => whnf
       refine cond_f g30_4 ?_
       obtain ⟨x35, q35, e37⟩ := bnd e37
       conv => whnf
       refine call_fn (ref43_blocks_ok ihrec2_0 (n' := x33) q35 h34_0) .nil ?_
       rintro _ K35 _ l35 ⟨rfl, rfl⟩
       conv => whnf
       refine cond_f g30_4 ?_
       conv => whnf
       refine un_not ?_
       conv => whnf
       refine cond_f g30_4 ?_
       conv => whnf
       refine cond_go rfl ?_
       conv => whnf
       refine cond_s (fun w37 => ?_) (fun w37 => ?_)
       ·replace hm := ift ((si e37).symm.trans (not_t (ni_t w37))) hm
        obtain rfl := si hm
        conv => whnf
        refine EndStep.mk _ (l27.trans l35) ⟨rfl, rfl⟩ (ConvH.of (.cons r1 .nil))
       ·replace hm := iff_ ((si e37).symm.trans (not_f (ni_f w37))) hm
        conv => whnf
        refine eq_int ?_
        obtain ⟨x46, e46, hm⟩ := bnd hm
        conv => whnf
        refine cond_s (fun g40_6 => ?_) (fun g40_6 => ?_)
        ·replace e46 := ift g40_6 e46
         conv => whnf
         refine cond_t g40_6 ?_
         conv => whnf
         refine cond_t g40_6 ?_
         conv => whnf
         refine cond_t g40_6 ?_
         conv => whnf
         refine cond_t g40_6 ?_
         conv => whnf
         refine cond_t g40_6 ?_
         replace hm := ift (si e46).symm hm
         conv => whnf
         refine cond_T ?_
         conv => whnf
         refine cond_T ?_
         conv => whnf
         refine cond_T ?_
         conv => whnf
         refine cond_T ?_
         conv => whnf
         refine cond_T ?_
         conv => whnf
         refine cond_T ?_
         conv => whnf
         refine cond_T ?_
         conv => whnf
         refine cond_T ?_
         conv => whnf
         refine cond_T ?_
         obtain rfl := si hm
         conv => whnf
         refine EndStep.mk _ (l27.trans l35) ⟨rfl, rfl⟩ (ConvH.of (.cons r1 .nil))
        ·replace e46 := iff_ g40_6 e46
         conv => whnf
         refine field_addr rfl ?_
         conv => whnf
         refine cond_f g40_6 ?_
         conv => whnf
         refine RStep.of (load1_s r0 rfl rfl ?_)
         conv => whnf
         refine cond_f g40_6 ?_
         obtain ⟨x43, l43, k43, e46⟩ := ixb e46
         conv => whnf
         refine RStep.ofN (index_addr rfl rfl (hasR (LiC.mono S_ref43_Node.R_ok (l27.trans l35) hp0_0).rd k43) l43 (lt_ofE rfl l43 k43) ?_)
         conv => whnf
         refine cond_f g40_6 ?_
         obtain ⟨ss44, cc44, hr44, hc44, hR44⟩ := LiR.get (LiC.mono S_ref43_Node.R_ok (l27.trans l35) hp0_0).rd k43
         obtain ⟨a44_0, c44_0, rfl, h44_0⟩ := S_ref43_Node.out hR44
         conv => whnf
         refine RStep.of (load_rd_agg ((2 : Int).toNat) _ hr44 rfl hc44 rfl ?_)
         conv => whnf
         refine cond_f g40_6 ?_
         obtain ⟨x45, q45, e46⟩ := bnd e46
         conv => whnf
         refine call_fn (ref43_blocks_ok ihrec2_0 (n' := x43) q45 h44_0) .nil ?_
         rintro _ K45 _ l45 ⟨rfl, rfl⟩
         conv => whnf
         refine cond_f g40_6 ?_
         conv => whnf
         refine cond_s (fun g47_6 => ?_) (fun g47_6 => ?_)
         ·replace hm := ift ((si e46).symm.trans g47_6) hm
          conv => whnf
          refine cond_t g47_6 ?_
          conv => whnf
          refine cond_t g47_6 ?_
          conv => whnf
          refine cond_t g47_6 ?_
          conv => whnf
          refine cond_t g47_6 ?_
          conv => whnf
          refine cond_t g47_6 ?_
          conv => whnf
          refine cond_t g47_6 ?_
          conv => whnf
          refine cond_t g47_6 ?_
          conv => whnf
          refine cond_t g47_6 ?_
          obtain rfl := si hm
          conv => whnf
          refine EndStep.mk _ ((l27.trans l35).trans l45) ⟨rfl, rfl⟩ (ConvH.of (.cons r1 .nil))
         ·replace hm := iff_ ((si e46).symm.trans g47_6) hm
          conv => whnf
          refine field_addr rfl ?_
          conv => whnf
          refine cond_f g47_6 ?_
          conv => whnf
          refine RStep.of (load1_s r0 rfl rfl ?_)
          conv => whnf
          refine cond_f g47_6 ?_
          obtain ⟨x50, l50, k50, hm⟩ := ixb hm
          conv => whnf
          refine RStep.ofN (index_addr rfl rfl (hasR (LiC.mono S_ref43_Node.R_ok ((l27.trans l35).trans l45) hp0_0).rd k50) l50 (lt_ofE rfl l50 k50) ?_)
          conv => whnf
          refine cond_f g47_6 ?_
          conv => whnf
          refine eptr_field rfl (hasR (LiC.mono S_ref43_Node.R_ok ((l27.trans l35).trans l45) hp0_0).rd k50) ?_
          conv => whnf
          refine cond_f g47_6 ?_
          obtain ⟨ss52, cc52, hr52, hc52, hR52⟩ := LiR.get (LiC.mono S_ref43_Node.R_ok ((l27.trans l35).trans l45) hp0_0).rd k50
          obtain ⟨a52_0, c52_0, rfl, h52_0⟩ := S_ref43_Node.out hR52
          conv => whnf
          refine RStep.of (load_rd ((2 : Int).toNat) 0 _ _ hr52 rfl hc52 rfl rfl ?_)
          conv => whnf
          refine cond_f g47_6 ?_
          conv => whnf
          refine eq_int ?_
          conv => whnf
          refine cond_f g47_6 ?_
          obtain ⟨x60, e60, hm⟩ := bnd hm
          conv => whnf
          refine cond_s (fun g54_6 => ?_) (fun g54_6 => ?_)
          ·replace e60 := ift g54_6 e60
           conv => whnf
           refine field_addr rfl ?_
           conv => whnf
           refine cond_t g54_6 ?_
           conv => whnf
           refine RStep.of (load1_s r0 rfl rfl ?_)
           conv => whnf
           refine cond_t g54_6 ?_
           obtain ⟨x57, l57, k57, e60⟩ := ixb e60
           conv => whnf
           refine RStep.ofN (index_addr rfl rfl (hasR (LiC.mono S_ref43_Node.R_ok ((l27.trans l35).trans l45) hp0_0).rd k57) l57 (lt_ofE rfl l57 k57) ?_)
           conv => whnf
           refine cond_t g54_6 ?_
           obtain ⟨ss58, cc58, hr58, hc58, hR58⟩ := LiR.get (LiC.mono S_ref43_Node.R_ok ((l27.trans l35).trans l45) hp0_0).rd k57
           obtain ⟨a58_0, c58_0, rfl, h58_0⟩ := S_ref43_Node.out hR58
           conv => whnf
           refine RStep.of (load_rd_agg ((2 : Int).toNat) _ hr58 rfl hc58 rfl ?_)
           conv => whnf
           refine cond_t g54_6 ?_
           obtain ⟨x59, q59, e60⟩ := bnd e60
           conv => whnf
           refine call_fn (ih (n' := x57) q59 h58_0) .nil ?_
           rintro _ K59 _ l59 ⟨rfl, rfl⟩
           conv => whnf
           refine cond_f g47_6 ?_
           conv => whnf
           refine cond_t g54_6 ?_
           conv => whnf
           refine cond_f g47_6 ?_
           obtain rfl := si hm
           conv => whnf
           refine EndStep.mk _ (((l27.trans l35).trans l45).trans l59) ⟨(by rw [← (si e60)] <;> rfl), rfl⟩ (ConvH.of (.cons r1 .nil))
          ·replace e60 := iff_ g54_6 e60
           conv => whnf
           refine cond_f g54_6 ?_
           conv => whnf
           refine cond_f g54_6 ?_
           conv => whnf
           refine cond_f g54_6 ?_
           conv => whnf
           refine cond_f g54_6 ?_
           conv => whnf
           refine cond_f g47_6 ?_
           conv => whnf
           refine cond_f g54_6 ?_
           conv => whnf
           refine cond_f g47_6 ?_
           obtain rfl := si hm
           conv => whnf
           refine EndStep.mk _ ((l27.trans l35).trans l45) ⟨(by rw [← ((si e60).symm).symm] <;> rfl), rfl⟩ (ConvH.of (.cons r1 .nil))
  ·replace hm := iff_ w6 hm
   conv => whnf
   refine eq_int ?_
   conv => whnf
   refine cond_go rfl ?_
   conv => whnf
   refine cond_s (fun w62 => ?_) (fun w62 => ?_)
   ·replace hm := ift w62 hm
    conv => whnf
    refine field_addr rfl ?_
    conv => whnf
    refine RStep.of (load1_s r0 rfl rfl ?_)
    obtain ⟨x66, q66, hm⟩ := bnd hm
    conv => whnf
    refine call_fn (ref43_named_ok (s := n'.Text) q66) .nil ?_
    rintro _ K66 _ l66 ⟨rfl, rfl⟩
    obtain ⟨x71, e71, hm⟩ := bnd hm
    conv => whnf
    refine cond_s (fun g67_8 => ?_) (fun g67_8 => ?_)
    ·replace e71 := ift g67_8 e71
     conv => whnf
     refine field_addr rfl ?_
     conv => whnf
     refine cond_t g67_8 ?_
     conv => whnf
     refine RStep.of (load1_s r0 rfl rfl ?_)
     conv => whnf
     refine cond_t g67_8 ?_
     obtain ⟨x70, q70, e71⟩ := bnd e71
     conv => whnf
     refine call_fn (ref43_exprs_ok (ref43_expression_ok (n := n)) (many := 1) q70 (LiC.mono S_ref43_Node.R_ok l66 hp0_0) rfl) .nil ?_
     rintro _ K70 _ l70 ⟨rfl, rfl⟩
     conv => whnf
     refine cond_t g67_8 ?_
     obtain rfl := si hm
     conv => whnf
     refine EndStep.mk _ (l66.trans l70) ⟨(by rw [← (si e71)] <;> rfl), rfl⟩ (ConvH.of (.cons r1 .nil))
    ·replace e71 := iff_ g67_8 e71
     conv => whnf
     refine cond_f g67_8 ?_
     conv => whnf
     refine cond_f g67_8 ?_
     conv => whnf
     refine cond_f g67_8 ?_
     obtain rfl := si hm
     conv => whnf
     refine EndStep.mk _ l66 ⟨(by rw [← ((si e71).symm).symm] <;> rfl), rfl⟩ (ConvH.of (.cons r1 .nil))
   ·replace hm := iff_ w62 hm
    conv => whnf
    refine eq_int ?_
    conv => whnf
    refine cond_go rfl ?_
    conv => whnf
    refine cond_s (fun w72 => ?_) (fun w72 => ?_)
    ·replace hm := ift w72 hm
     conv => whnf
     refine field_addr rfl ?_
     conv => whnf
     refine RStep.of (load1_s r0 rfl rfl ?_)
     conv => whnf
     refine eq_str ?_
     conv => whnf
     refine cond_s (fun g77_10 => ?_) (fun g77_10 => ?_)
     ·conv => whnf
      refine cond_t g77_10 ?_
      conv => whnf
      refine cond_t g77_10 ?_
      conv => whnf
      refine cond_t g77_10 ?_
      obtain ⟨x86, e86, hm⟩ := bnd hm
      replace e86 := ift (or_t g77_10) e86
      conv => whnf
      refine cond_T ?_
      conv => whnf
      refine field_addr rfl ?_
      conv => whnf
      refine cond_T ?_
      conv => whnf
      refine RStep.of (load1_s r0 rfl rfl ?_)
      conv => whnf
      refine cond_T ?_
      obtain ⟨x85, q85, e86⟩ := bnd e86
      conv => whnf
      refine call_fn (ref43_exprs_ok (ref43_expression_ok (n := n)) (many := 1) q85 hp0_0 rfl) .nil ?_
      rintro _ K85 _ l85 ⟨rfl, rfl⟩
      conv => whnf
      refine cond_T ?_
      obtain rfl := si hm
      conv => whnf
      refine EndStep.mk _ l85 ⟨(by rw [← (si e86)] <;> rfl), rfl⟩ (ConvH.of (.cons r1 .nil))
     ·conv => whnf
      refine field_addr rfl ?_
      conv => whnf
      refine cond_f g77_10 ?_
      conv => whnf
      refine RStep.of (load1_s r0 rfl rfl ?_)
      conv => whnf
      refine cond_f g77_10 ?_
      conv => whnf
      refine eq_str ?_
      conv => whnf
      refine cond_f g77_10 ?_
      obtain ⟨x86, e86, hm⟩ := bnd hm
      conv => whnf
      refine cond_s (fun g82_10 => ?_) (fun g82_10 => ?_)
      ·replace e86 := ift (or_u g77_10 g82_10) e86
       conv => whnf
       refine field_addr rfl ?_
       conv => whnf
       refine cond_t g82_10 ?_
       conv => whnf
       refine RStep.of (load1_s r0 rfl rfl ?_)
       conv => whnf
       refine cond_t g82_10 ?_
       obtain ⟨x85, q85, e86⟩ := bnd e86
       conv => whnf
       refine call_fn (ref43_exprs_ok (ref43_expression_ok (n := n)) (many := 1) q85 hp0_0 rfl) .nil ?_
       rintro _ K85 _ l85 ⟨rfl, rfl⟩
       conv => whnf
       refine cond_t g82_10 ?_
       obtain rfl := si hm
       conv => whnf
       refine EndStep.mk _ l85 ⟨(by rw [← (si e86)] <;> rfl), rfl⟩ (ConvH.of (.cons r1 .nil))
      ·replace e86 := iff_ (or_f g77_10 g82_10) e86
       conv => whnf
       refine cond_f g82_10 ?_
       conv => whnf
       refine cond_f g82_10 ?_
       conv => whnf
       refine cond_f g82_10 ?_
       obtain rfl := si hm
       conv => whnf
       refine EndStep.mk _ (Hp.Le.refl _) ⟨(by rw [← ((si e86).symm).symm] <;> rfl), rfl⟩ (ConvH.of (.cons r1 .nil))
    ·replace hm := iff_ w72 hm
     conv => whnf
     refine eq_int ?_
     conv => whnf
     refine cond_go rfl ?_
     conv => whnf
     refine cond_s (fun w87 => ?_) (fun w87 => ?_)
     ·replace hm := ift w87 hm
      conv => whnf
      refine field_addr rfl ?_
      conv => whnf
      refine RStep.of (load1_s r0 rfl rfl ?_)
      obtain ⟨x91, q91, hm⟩ := bnd hm
      conv => whnf
      refine call_fn (ref43_printable_ok (s := n'.Text) q91) .nil ?_
      rintro _ K91 _ l91 ⟨rfl, rfl⟩
      obtain ⟨x96, e96, hm⟩ := bnd hm
      conv => whnf
      refine cond_s (fun g92_12 => ?_) (fun g92_12 => ?_)
      ·replace e96 := ift g92_12 e96
       conv => whnf
       refine field_addr rfl ?_
       conv => whnf
       refine cond_t g92_12 ?_
       conv => whnf
       refine RStep.of (load1_s r0 rfl rfl ?_)
       conv => whnf
       refine cond_t g92_12 ?_
       obtain ⟨x95, q95, e96⟩ := bnd e96
       conv => whnf
       refine call_fn (ref43_exprs_ok (ref43_expression_ok (n := n)) (many := 1) q95 (LiC.mono S_ref43_Node.R_ok l91 hp0_0) rfl) .nil ?_
       rintro _ K95 _ l95 ⟨rfl, rfl⟩
       conv => whnf
       refine cond_t g92_12 ?_
       obtain rfl := si hm
       conv => whnf
       refine EndStep.mk _ (l91.trans l95) ⟨(by rw [← (si e96)] <;> rfl), rfl⟩ (ConvH.of (.cons r1 .nil))
      ·replace e96 := iff_ g92_12 e96
       conv => whnf
       refine cond_f g92_12 ?_
       conv => whnf
       refine cond_f g92_12 ?_
       conv => whnf
       refine cond_f g92_12 ?_
       obtain rfl := si hm
       conv => whnf
       refine EndStep.mk _ l91 ⟨(by rw [← ((si e96).symm).symm] <;> rfl), rfl⟩ (ConvH.of (.cons r1 .nil))
     ·replace hm := iff_ w87 hm
      conv => whnf
      refine eq_int ?_
      conv => whnf
      refine cond_go rfl ?_
      conv => whnf
      refine cond_s (fun w97 => ?_) (fun w97 => ?_)
      ·replace hm := ift w97 hm
       conv => whnf
       refine field_addr rfl ?_
       conv => whnf
       refine RStep.of (load1_s r0 rfl rfl ?_)
       obtain ⟨x101, q101, hm⟩ := bnd hm
       conv => whnf
       refine call_fn (ref43_printable_ok (s := n'.Text) q101) .nil ?_
       rintro _ K101 _ l101 ⟨rfl, rfl⟩
       conv => whnf
       refine cond_s (fun g102_14 => ?_) (fun g102_14 => ?_)
       ·conv => whnf
        refine field_addr rfl ?_
        conv => whnf
        refine cond_t g102_14 ?_
        conv => whnf
        refine RStep.of (load1_s r0 rfl rfl ?_)
        conv => whnf
        refine cond_t g102_14 ?_
        conv => whnf
        refine RStep.of (len_slice rfl ?_)
        conv => whnf
        refine cond_t g102_14 ?_
        conv => whnf
        refine eq_int ?_
        conv => whnf
        refine cond_t g102_14 ?_
        obtain rfl := si hm
        conv => whnf
        refine EndStep.mk _ l101 ⟨(by rw [← (and_e (b := decide ((n'.Kids.length : Int) = 0)) g102_14)] <;> rfl), rfl⟩ (ConvH.of (.cons r1 .nil))
       ·conv => whnf
        refine cond_f g102_14 ?_
        conv => whnf
        refine cond_f g102_14 ?_
        conv => whnf
        refine cond_f g102_14 ?_
        conv => whnf
        refine cond_f g102_14 ?_
        obtain rfl := si hm
        conv => whnf
        refine EndStep.mk _ l101 ⟨(by rw [← ((and_f g102_14)).symm] <;> rfl), rfl⟩ (ConvH.of (.cons r1 .nil))
      ·replace hm := iff_ w97 hm
       conv => whnf
       refine eq_int ?_
       conv => whnf
       refine cond_go rfl ?_
       conv => whnf
       refine cond_s (fun w108 => ?_) (fun w108 => ?_)
       ·replace hm := ift w108 hm
        conv => whnf
        refine cond_go rfl ?_
        conv => whnf
        refine cond_t w108 ?_
        conv => whnf
        refine field_addr rfl ?_
        conv => whnf
        refine RStep.of (load1_s r0 rfl rfl ?_)
        conv => whnf
        refine eq_str ?_
        obtain ⟨x119, e119, hm⟩ := bnd hm
        conv => whnf
        refine cond_s (fun g115_18 => ?_) (fun g115_18 => ?_)
        ·replace e119 := ift g115_18 e119
         conv => whnf
         refine field_addr rfl ?_
         conv => whnf
         refine cond_t g115_18 ?_
         conv => whnf
         refine RStep.of (load1_s r0 rfl rfl ?_)
         conv => whnf
         refine cond_t g115_18 ?_
         obtain ⟨x118, q118, e119⟩ := bnd e119
         conv => whnf
         refine call_fn (ref43_exprs_ok (ref43_expression_ok (n := n)) (many := 1) q118 hp0_0 rfl) .nil ?_
         rintro _ K118 _ l118 ⟨rfl, rfl⟩
         conv => whnf
         refine cond_t g115_18 ?_
         obtain rfl := si hm
         conv => whnf
         refine EndStep.mk _ l118 ⟨(by rw [← (si e119)] <;> rfl), rfl⟩ (ConvH.of (.cons r1 .nil))
        ·replace e119 := iff_ g115_18 e119
         conv => whnf
         refine cond_f g115_18 ?_
         conv => whnf
         refine cond_f g115_18 ?_
         conv => whnf
         refine cond_f g115_18 ?_
         obtain rfl := si hm
         conv => whnf
         refine EndStep.mk _ (Hp.Le.refl _) ⟨(by rw [← ((si e119).symm).symm] <;> rfl), rfl⟩ (ConvH.of (.cons r1 .nil))
       ·replace hm := iff_ w108 hm
        conv => whnf
        refine eq_int ?_
        conv => whnf
        refine cond_go rfl ?_
        conv => whnf
        refine cond_s (fun w108 => ?_) (fun w108 => ?_)
        ·replace hm := ift w108 hm
         conv => whnf
         refine cond_go rfl ?_
         conv => whnf
         refine cond_t w108 ?_
         conv => whnf
         refine field_addr rfl ?_
         conv => whnf
         refine RStep.of (load1_s r0 rfl rfl ?_)
         conv => whnf
         refine eq_str ?_
         obtain ⟨x119, e119, hm⟩ := bnd hm
         conv => whnf
         refine cond_s (fun g115_18 => ?_) (fun g115_18 => ?_)
         ·replace e119 := ift g115_18 e119
          conv => whnf
          refine field_addr rfl ?_
          conv => whnf
          refine cond_t g115_18 ?_
          conv => whnf
          refine RStep.of (load1_s r0 rfl rfl ?_)
          conv => whnf
          refine cond_t g115_18 ?_
          obtain ⟨x118, q118, e119⟩ := bnd e119
          conv => whnf
          refine call_fn (ref43_exprs_ok (ref43_expression_ok (n := n)) (many := 1) q118 hp0_0 rfl) .nil ?_
          rintro _ K118 _ l118 ⟨rfl, rfl⟩
          conv => whnf
          refine cond_t g115_18 ?_
          obtain rfl := si hm
          conv => whnf
          refine EndStep.mk _ l118 ⟨(by rw [← (si e119)] <;> rfl), rfl⟩ (ConvH.of (.cons r1 .nil))
         ·replace e119 := iff_ g115_18 e119
          conv => whnf
          refine cond_f g115_18 ?_
          conv => whnf
          refine cond_f g115_18 ?_
          conv => whnf
          refine cond_f g115_18 ?_
          obtain rfl := si hm
          conv => whnf
          refine EndStep.mk _ (Hp.Le.refl _) ⟨(by rw [← ((si e119).symm).symm] <;> rfl), rfl⟩ (ConvH.of (.cons r1 .nil))
        ·replace hm := iff_ w108 hm
         conv => whnf
         refine eq_int ?_
         conv => whnf
         refine cond_go rfl ?_
         conv => whnf
         refine cond_s (fun w108 => ?_) (fun w108 => ?_)
         ·replace hm := ift w108 hm
          conv => whnf
          refine field_addr rfl ?_
          conv => whnf
          refine RStep.of (load1_s r0 rfl rfl ?_)
          conv => whnf
          refine eq_str ?_
          obtain ⟨x119, e119, hm⟩ := bnd hm
          conv => whnf
          refine cond_s (fun g115_18 => ?_) (fun g115_18 => ?_)
          ·replace e119 := ift g115_18 e119
           conv => whnf
           refine field_addr rfl ?_
           conv => whnf
           refine cond_t g115_18 ?_
           conv => whnf
           refine RStep.of (load1_s r0 rfl rfl ?_)
           conv => whnf
           refine cond_t g115_18 ?_
           obtain ⟨x118, q118, e119⟩ := bnd e119
           conv => whnf
           refine call_fn (ref43_exprs_ok (ref43_expression_ok (n := n)) (many := 1) q118 hp0_0 rfl) .nil ?_
           rintro _ K118 _ l118 ⟨rfl, rfl⟩
           conv => whnf
           refine cond_t g115_18 ?_
           obtain rfl := si hm
           conv => whnf
           refine EndStep.mk _ l118 ⟨(by rw [← (si e119)] <;> rfl), rfl⟩ (ConvH.of (.cons r1 .nil))
          ·replace e119 := iff_ g115_18 e119
           conv => whnf
           refine cond_f g115_18 ?_
           conv => whnf
           refine cond_f g115_18 ?_
           conv => whnf
           refine cond_f g115_18 ?_
           obtain rfl := si hm
           conv => whnf
           refine EndStep.mk _ (Hp.Le.refl _) ⟨(by rw [← ((si e119).symm).symm] <;> rfl), rfl⟩ (ConvH.of (.cons r1 .nil))
         ·replace hm := iff_ w108 hm
          conv => whnf
          refine eq_int ?_
          conv => whnf
          refine cond_go rfl ?_
          conv => whnf
          refine cond_s (fun w120 => ?_) (fun w120 => ?_)
          ·replace hm := ift w120 hm
           conv => whnf
           refine cond_go rfl ?_
           conv => whnf
           refine cond_t w120 ?_
           conv => whnf
           refine field_addr rfl ?_
           conv => whnf
           refine RStep.of (load1_s r0 rfl rfl ?_)
           conv => whnf
           refine eq_str ?_
           conv => whnf
           refine cond_s (fun g126_21 => ?_) (fun g126_21 => ?_)
           ·conv => whnf
            refine field_addr rfl ?_
            conv => whnf
            refine cond_t g126_21 ?_
            conv => whnf
            refine RStep.of (load1_s r0 rfl rfl ?_)
            conv => whnf
            refine cond_t g126_21 ?_
            conv => whnf
            refine RStep.of (len_slice rfl ?_)
            conv => whnf
            refine cond_t g126_21 ?_
            conv => whnf
            refine eq_int ?_
            conv => whnf
            refine cond_t g126_21 ?_
            obtain rfl := si hm
            conv => whnf
            refine EndStep.mk _ (Hp.Le.refl _) ⟨(by rw [← (and_e (b := decide ((n'.Kids.length : Int) = 0)) g126_21)] <;> rfl), rfl⟩ (ConvH.of (.cons r1 .nil))
           ·conv => whnf
            refine cond_f g126_21 ?_
            conv => whnf
            refine cond_f g126_21 ?_
            conv => whnf
            refine cond_f g126_21 ?_
            conv => whnf
            refine cond_f g126_21 ?_
            obtain rfl := si hm
            conv => whnf
            refine EndStep.mk _ (Hp.Le.refl _) ⟨(by rw [← ((and_f g126_21)).symm] <;> rfl), rfl⟩ (ConvH.of (.cons r1 .nil))
          ·replace hm := iff_ w120 hm
           conv => whnf
           refine eq_int ?_
           conv => whnf
           refine cond_go rfl ?_
           conv => whnf
           refine cond_s (fun w120 => ?_) (fun w120 => ?_)
           ·replace hm := ift w120 hm
            conv => whnf
            refine field_addr rfl ?_
            conv => whnf
            refine RStep.of (load1_s r0 rfl rfl ?_)
            conv => whnf
            refine eq_str ?_
            conv => whnf
            refine cond_s (fun g126_21 => ?_) (fun g126_21 => ?_)
            ·conv => whnf
             refine field_addr rfl ?_
             conv => whnf
             refine cond_t g126_21 ?_
             conv => whnf
             refine RStep.of (load1_s r0 rfl rfl ?_)
             conv => whnf
             refine cond_t g126_21 ?_
             conv => whnf
             refine RStep.of (len_slice rfl ?_)
             conv => whnf
             refine cond_t g126_21 ?_
             conv => whnf
             refine eq_int ?_
             conv => whnf
             refine cond_t g126_21 ?_
             obtain rfl := si hm
             conv => whnf
             refine EndStep.mk _ (Hp.Le.refl _) ⟨(by rw [← (and_e (b := decide ((n'.Kids.length : Int) = 0)) g126_21)] <;> rfl), rfl⟩ (ConvH.of (.cons r1 .nil))
            ·conv => whnf
             refine cond_f g126_21 ?_
             conv => whnf
             refine cond_f g126_21 ?_
             conv => whnf
             refine cond_f g126_21 ?_
             conv => whnf
             refine cond_f g126_21 ?_
             obtain rfl := si hm
             conv => whnf
             refine EndStep.mk _ (Hp.Le.refl _) ⟨(by rw [← ((and_f g126_21)).symm] <;> rfl), rfl⟩ (ConvH.of (.cons r1 .nil))
           ·replace hm := iff_ w120 hm
            obtain rfl := si hm
            conv => whnf
            refine EndStep.mk _ (Hp.Le.refl _) ⟨rfl, rfl⟩ (ConvH.of (.cons r1 .nil))

noncomputable def ref43_all_L0 (rec_ : ((List S_ref43_Node) → Option (Bool))) (n : Nat) : List S_ref43_Node → Nat → Option (Fl (Bool) (Unit))
 | [], _ => some (Fl.go ())
 | e0 :: xs0, i0 =>
  (ref43_stands rec_ n e0).bind fun x13 =>
  if (!x13) then
  some (Fl.ret false)
  else
  ref43_all_L0 rec_ n xs0 (i0 + 1)
noncomputable def ref43_all : Nat → (List S_ref43_Node) → Option (Bool)
 | 0, _ => none
 | n + 1, l =>
  (chk (l.length ≤ szMax)).bind fun _ =>
  (ref43_all_L0 (ref43_all n) n l 0).bind fun s0 => s0.el some fun t0 =>
  some true
set_option maxHeartbeats 8000000 in
theorem ref43_all_ok : ∀ {n : Nat} {l : (List S_ref43_Node)} {ap0_0 : Option Addr} {cp0_0 : Nat} {n0 : Nat} {K : Hp} {r : Bool}
  (hm : ref43_all n l = some r) (hp0_0 : LiC S_ref43_Node.R K ap0_0 cp0_0 4 l) (en0 : n0 = l.length),
  Fn Tryd.prog 35 [.slice ap0_0 n0 cp0_0] K [] (fun v K' H' => v = .bool r ∧ H' = []) := by
 intro n
 induction n with
 | zero =>
  intro l ap0_0 cp0_0 n0 K r hm hp0_0 en0
  rw [ref43_all.eq_1] at hm; cases hm
 | succ n ih =>
  intro l ap0_0 cp0_0 n0 K r hm hp0_0 en0
  subst en0
  refine Fn.enter Tryd.func35 Tryd.call35 rfl fun F => ?_
  rw [ref43_all.eq_2] at hm
  conv => whnf
  refine RStep.of (len_slice rfl ?_)
  obtain ⟨hk0, hm⟩ := chkb hm
  obtain ⟨s0, hl0, hm⟩ := bnd hm
  conv => whnf
  refine code_cut (σ := (Unit)) [2, 3, 6, 7, 8, 9, 10, 11, 12, 13, 14, 15] (fun t0 => []) (fun t0 => [F]) (fun zz K1 => match zz with | t0 => s0 = Fl.go t0) ?_ ?_
  ·refine block_go rfl ?_
   conv => whnf
   refine loop_rule (σ := Nat) [2, 3, 6, 7, 8, 9, 10, 11, 12, 13, 14, 15] (fun i0 => [(6, .int .i64 (i0 : Int))]) (fun i0 => [F]) (fun zz K1 => match zz with | i0 => ref43_all_L0 (ref43_all n) n (l.drop i0) i0 = some s0) (fun zz => l.length - zz) (0) rfl ⟨rfl, trivial⟩ (ConvH.of (.cons r0 .nil)) hl0 ?_
   clear hl0
   rintro i0 Kb0 lk0 hl0 j0
   conv at hl0 => whnf
   conv => whnf
   refine cond_go rfl ?_
   conv => whnf
   refine cond_s (fun w0 => ?_) (fun w0 => ?_)
   ·obtain ⟨e0, hx0, hd0⟩ := ltx w0
    rw [hd0, ref43_all_L0.eq_2] at hl0
    conv => whnf
    refine block_go rfl ?_
    conv => whnf
    refine RStep.ofN (index_addr rfl rfl (hasR (LiC.mono S_ref43_Node.R_ok lk0 hp0_0).rd hx0) (nn _) (lt_ofN hx0) ?_)
    obtain ⟨ss12, cc12, hr12, hc12, hR12⟩ := LiR.get (LiC.mono S_ref43_Node.R_ok lk0 hp0_0).rd hx0
    obtain ⟨a12_0, c12_0, rfl, h12_0⟩ := S_ref43_Node.out hR12
    conv => whnf
    refine RStep.of (load_rd_agg i0 _ hr12 rfl hc12 rfl ?_)
    obtain ⟨x13, q13, hl0⟩ := bnd hl0
    conv => whnf
    refine call_fn (ref43_stands_ok ih (n' := e0) q13 h12_0) .nil ?_
    rintro _ K13 _ l13 ⟨rfl, rfl⟩
    conv => whnf
    refine un_not ?_
    conv => whnf
    refine cond_go rfl ?_
    conv => whnf
    refine cond_s (fun w14 => ?_) (fun w14 => ?_)
    ·replace hl0 := ift (not_t (ni_t w14)) hl0
     obtain rfl := si hl0
     replace hm := elr hm
     obtain rfl := si hm
     conv => whnf
     refine EndStep.mk _ (lk0.trans l13) ⟨rfl, rfl⟩ (ConvH.of (.cons r0 .nil))
    ·replace hl0 := iff_ (not_f (ni_f w14)) hl0
     conv => whnf
     refine int_in (cntz hx0 hk0) ?_
     conv => whnf
     refine RoundStep.mk (i0 + 1) ⟨rfl, trivial⟩ (by repeat (first | exact trivial | refine And.intro rfl ?_)) (ConvH.of (.cons r0 .nil)) (lk0.trans l13) (ltm hx0) hl0
   ·rw [lty w0, ref43_all_L0.eq_1] at hl0
    conv => whnf
    refine cond_T ?_
    conv => whnf
    refine MeetStep.mk (()) trivial (by repeat (first | exact trivial | refine And.intro rfl ?_)) (ConvH.of (.cons r0 .nil)) lk0 (si hl0).symm
  ·rintro t0 Kt0 lt0 rfl j0
   replace hm := elg hm
   obtain rfl := si hm
   conv => whnf
   refine EndStep.mk _ lt0 ⟨rfl, rfl⟩ (ConvH.of (.cons r0 .nil))

noncomputable def ref43_Valid (n : Nat) (n' : S_ref43_Node) : Option (Bool) :=
 (if (decide (n'.Kind = 1) && decide (n'.Text = ([] : Str))) then (ref43_Size n n').bind fun x13 =>
 some (decide (x13 ≤ 512)) else some false).bind fun x15 =>
 (if x15 then (ref43_Depth n n').bind fun x18 =>
 some (decide (x18 ≤ 32)) else some false).bind fun x20 =>
 (if x20 then (ref43_all n n'.Kids).bind fun x24 =>
 some x24 else some false).bind fun x25 =>
 some x25
set_option maxHeartbeats 8000000 in
theorem ref43_Valid_ok {n : Nat} {n' : S_ref43_Node} {ap0_0 : Option Addr} {cp0_0 : Nat} {K : Hp} {r : Bool}
  (hm : ref43_Valid n n' = some r) (hp0_0 : LiC S_ref43_Node.R K ap0_0 cp0_0 4 n'.Kids) :
  Fn Tryd.prog 17 [.agg #[.int .i64 n'.Kind, str n'.Text, .slice ap0_0 n'.Kids.length cp0_0, .int .i64 n'.Line]] K [] (fun v K' H' => v = .bool r ∧ H' = []) := by
 refine Fn.enter Tryd.func17 Tryd.call17 rfl fun F => ?_
 unfold ref43_Valid at hm
 conv => whnf
 refine box_rule ?_
 intro b1
 conv => whnf
 refine field_addr rfl ?_
 conv => whnf
 refine RStep.of (load1_s r0 rfl rfl ?_)
 conv => whnf
 refine eq_int ?_
 conv => whnf
 refine cond_s (fun g6_1 => ?_) (fun g6_1 => ?_)
 ·conv => whnf
  refine field_addr rfl ?_
  conv => whnf
  refine cond_t g6_1 ?_
  conv => whnf
  refine RStep.of (load1_s r0 rfl rfl ?_)
  conv => whnf
  refine cond_t g6_1 ?_
  conv => whnf
  refine eq_str ?_
  conv => whnf
  refine cond_t g6_1 ?_
  obtain ⟨x15, e15, hm⟩ := bnd hm
  conv => whnf
  refine cond_s (fun g11_1 => ?_) (fun g11_1 => ?_)
  ·replace e15 := ift (and_t g6_1 g11_1) e15
   conv => whnf
   refine RStep.of (loadn_s r0 rfl (Nat.le_of_ble_eq_true rfl) ?_)
   conv => whnf
   refine cond_t g11_1 ?_
   obtain ⟨x13, q13, e15⟩ := bnd e15
   conv => whnf
   refine call_fn (ref43_Size_ok (n' := n') q13 hp0_0) .nil ?_
   rintro _ K13 _ l13 ⟨rfl, rfl⟩
   conv => whnf
   refine cond_t g11_1 ?_
   conv => whnf
   refine cond_t g11_1 ?_
   obtain ⟨x20, e20, hm⟩ := bnd hm
   conv => whnf
   refine cond_s (fun g16_1 => ?_) (fun g16_1 => ?_)
   ·replace e20 := ift ((si e15).symm.trans g16_1) e20
    conv => whnf
    refine RStep.of (loadn_s r0 rfl (Nat.le_of_ble_eq_true rfl) ?_)
    conv => whnf
    refine cond_t g16_1 ?_
    obtain ⟨x18, q18, e20⟩ := bnd e20
    conv => whnf
    refine call_fn (ref43_Depth_ok (n' := n') q18 (LiC.mono S_ref43_Node.R_ok l13 hp0_0)) .nil ?_
    rintro _ K18 _ l18 ⟨rfl, rfl⟩
    conv => whnf
    refine cond_t g16_1 ?_
    conv => whnf
    refine cond_t g16_1 ?_
    obtain ⟨x25, e25, hm⟩ := bnd hm
    conv => whnf
    refine cond_s (fun g21_1 => ?_) (fun g21_1 => ?_)
    ·replace e25 := ift ((si e20).symm.trans g21_1) e25
     conv => whnf
     refine field_addr rfl ?_
     conv => whnf
     refine cond_t g21_1 ?_
     conv => whnf
     refine RStep.of (load1_s r0 rfl rfl ?_)
     conv => whnf
     refine cond_t g21_1 ?_
     obtain ⟨x24, q24, e25⟩ := bnd e25
     conv => whnf
     refine call_fn (ref43_all_ok q24 (LiC.mono S_ref43_Node.R_ok (l13.trans l18) hp0_0) rfl) .nil ?_
     rintro _ K24 _ l24 ⟨rfl, rfl⟩
     conv => whnf
     refine cond_t g21_1 ?_
     obtain rfl := si hm
     conv => whnf
     refine EndStep.mk _ ((l13.trans l18).trans l24) ⟨(by rw [← (si e25)] <;> rfl), rfl⟩ (ConvH.of (.cons r1 .nil))
    ·replace e25 := iff_ ((si e20).symm.trans g21_1) e25
     conv => whnf
     refine cond_f g21_1 ?_
     conv => whnf
     refine cond_f g21_1 ?_
     conv => whnf
     refine cond_f g21_1 ?_
     obtain rfl := si hm
     conv => whnf
     refine EndStep.mk _ (l13.trans l18) ⟨(by rw [← ((si e25).symm).symm] <;> rfl), rfl⟩ (ConvH.of (.cons r1 .nil))
   ·replace e20 := iff_ ((si e15).symm.trans g16_1) e20
    conv => whnf
    refine cond_f g16_1 ?_
    conv => whnf
    refine cond_f g16_1 ?_
    conv => whnf
    refine cond_f g16_1 ?_
    obtain ⟨x25, e25, hm⟩ := bnd hm
    replace e25 := iff_ (si e20).symm e25
    conv => whnf
    refine cond_F ?_
    conv => whnf
    refine cond_F ?_
    conv => whnf
    refine cond_F ?_
    conv => whnf
    refine cond_F ?_
    obtain rfl := si hm
    conv => whnf
    refine EndStep.mk _ l13 ⟨(by rw [← ((si e25).symm).symm] <;> rfl), rfl⟩ (ConvH.of (.cons r1 .nil))
  ·replace e15 := iff_ (and_g g6_1 g11_1) e15
   conv => whnf
   refine cond_f g11_1 ?_
   conv => whnf
   refine cond_f g11_1 ?_
   conv => whnf
   refine cond_f g11_1 ?_
   obtain ⟨x20, e20, hm⟩ := bnd hm
   replace e20 := iff_ (si e15).symm e20
   conv => whnf
   refine cond_F ?_
   conv => whnf
   refine cond_F ?_
   conv => whnf
   refine cond_F ?_
   conv => whnf
   refine cond_F ?_
   obtain ⟨x25, e25, hm⟩ := bnd hm
   replace e25 := iff_ (si e20).symm e25
   conv => whnf
   refine cond_F ?_
   conv => whnf
   refine cond_F ?_
   conv => whnf
   refine cond_F ?_
   conv => whnf
   refine cond_F ?_
   obtain rfl := si hm
   conv => whnf
   refine EndStep.mk _ (Hp.Le.refl _) ⟨(by rw [← ((si e25).symm).symm] <;> rfl), rfl⟩ (ConvH.of (.cons r1 .nil))
 ·conv => whnf
  refine cond_f g6_1 ?_
  conv => whnf
  refine cond_f g6_1 ?_
  conv => whnf
  refine cond_f g6_1 ?_
  obtain ⟨x15, e15, hm⟩ := bnd hm
  replace e15 := iff_ (and_f g6_1) e15
  conv => whnf
  refine cond_F ?_
  conv => whnf
  refine cond_F ?_
  conv => whnf
  refine cond_F ?_
  conv => whnf
  refine cond_F ?_
  obtain ⟨x20, e20, hm⟩ := bnd hm
  replace e20 := iff_ (si e15).symm e20
  conv => whnf
  refine cond_F ?_
  conv => whnf
  refine cond_F ?_
  conv => whnf
  refine cond_F ?_
  conv => whnf
  refine cond_F ?_
  obtain ⟨x25, e25, hm⟩ := bnd hm
  replace e25 := iff_ (si e20).symm e25
  conv => whnf
  refine cond_F ?_
  conv => whnf
  refine cond_F ?_
  conv => whnf
  refine cond_F ?_
  conv => whnf
  refine cond_F ?_
  obtain rfl := si hm
  conv => whnf
  refine EndStep.mk _ (Hp.Le.refl _) ⟨(by rw [← ((si e25).symm).symm] <;> rfl), rfl⟩ (ConvH.of (.cons r1 .nil))

noncomputable def ref44_Predeclared (s : Str) : Option (Bool) :=
 some (((decide (s = ([109, 101, 116, 104, 111, 100] : Str)) || decide (s = ([104, 111, 115, 116] : Str))) || decide (s = ([112, 97, 116, 104] : Str))) || decide (s = ([113, 117, 101, 114, 121] : Str)))
set_option maxHeartbeats 8000000 in
theorem ref44_Predeclared_ok {s : Str} {K : Hp} {r : Bool}
  (hm : ref44_Predeclared s = some r)  :
  Fn Tryd.prog 61 [str s] K [] (fun v K' H' => v = .bool r ∧ H' = []) := by
 refine Fn.enter Tryd.func61 Tryd.call61 rfl fun F => ?_
 unfold ref44_Predeclared at hm
 conv => whnf
 refine eq_str ?_
 conv => whnf
 refine cond_s (fun g5_1 => ?_) (fun g5_1 => ?_)
 ·conv => whnf
  refine cond_t g5_1 ?_
  conv => whnf
  refine cond_t g5_1 ?_
  conv => whnf
  refine cond_T ?_
  conv => whnf
  refine cond_T ?_
  conv => whnf
  refine cond_T ?_
  conv => whnf
  refine cond_T ?_
  conv => whnf
  refine cond_T ?_
  conv => whnf
  refine cond_T ?_
  obtain rfl := si hm
  conv => whnf
  refine EndStep.mk _ (Hp.Le.refl _) ⟨(by rw [← ((or_t (or_t (or_t g5_1)))).symm] <;> rfl), rfl⟩ (ConvH.of (.cons r0 .nil))
 ·conv => whnf
  refine cond_f g5_1 ?_
  conv => whnf
  refine eq_str ?_
  conv => whnf
  refine cond_f g5_1 ?_
  conv => whnf
  refine cond_s (fun g9_1 => ?_) (fun g9_1 => ?_)
  ·conv => whnf
   refine cond_t g9_1 ?_
   conv => whnf
   refine cond_t g9_1 ?_
   conv => whnf
   refine cond_T ?_
   conv => whnf
   refine cond_T ?_
   conv => whnf
   refine cond_T ?_
   obtain rfl := si hm
   conv => whnf
   refine EndStep.mk _ (Hp.Le.refl _) ⟨(by rw [← ((or_t (or_t (or_u g5_1 g9_1)))).symm] <;> rfl), rfl⟩ (ConvH.of (.cons r0 .nil))
  ·conv => whnf
   refine cond_f g9_1 ?_
   conv => whnf
   refine eq_str ?_
   conv => whnf
   refine cond_f g9_1 ?_
   conv => whnf
   refine cond_s (fun g13_1 => ?_) (fun g13_1 => ?_)
   ·conv => whnf
    refine cond_t g13_1 ?_
    conv => whnf
    refine cond_t g13_1 ?_
    obtain rfl := si hm
    conv => whnf
    refine EndStep.mk _ (Hp.Le.refl _) ⟨(by rw [← ((or_t (or_u (or_f g5_1 g9_1) g13_1))).symm] <;> rfl), rfl⟩ (ConvH.of (.cons r0 .nil))
   ·conv => whnf
    refine cond_f g13_1 ?_
    conv => whnf
    refine eq_str ?_
    conv => whnf
    refine cond_f g13_1 ?_
    obtain rfl := si hm
    conv => whnf
    refine EndStep.mk _ (Hp.Le.refl _) ⟨(by rw [← (or_e (b := decide (s = ([113, 117, 101, 114, 121] : Str))) (or_f (or_f g5_1 g9_1) g13_1))] <;> rfl), rfl⟩ (ConvH.of (.cons r0 .nil))

noncomputable def ref44_lookup_L0 (env : (List S_ref44_Binding)) (s : Str) : Nat → Int → Option (Fl (Int) (Int))
 | 0, _ => none
 | xs0 + 1, y0_0 =>
  if decide (y0_0 ≥ 0) then
  (ix env y0_0).bind fun x15 =>
  if decide (x15.Name = s) then
  (ix env y0_0).bind fun x22 =>
  some (Fl.ret x22.TypeZ)
  else
  (chk (InI (y0_0 - 1))).bind fun _ =>
  ref44_lookup_L0 env s xs0 (y0_0 - 1)
  else
  some (Fl.go y0_0)
noncomputable def ref44_lookup (n : Nat) (s : Str) (env : (List S_ref44_Binding)) : Option (Int) :=
 (chk (InI ((env.length : Int) - 1))).bind fun _ =>
 (ref44_lookup_L0 env s n ((env.length : Int) - 1)).bind fun s0 => s0.el some fun t0 =>
 (ref44_Predeclared s).bind fun x26 =>
 if x26 then
 some 1
 else
 some 0
set_option maxHeartbeats 8000000 in
theorem ref44_lookup_ok {n : Nat} {s : Str} {env : (List S_ref44_Binding)} {ap1_0 : Option Addr} {cp1_0 : Nat} {n1 : Nat} {K : Hp} {r : Int}
  (hm : ref44_lookup n s env = some r) (hp1_0 : RdC S_ref44_Binding.enc K ap1_0 cp1_0 2 env) (en1 : n1 = env.length) :
  Fn Tryd.prog 48 [str s, .slice ap1_0 n1 cp1_0] K [] (fun v K' H' => v = .int .i64 r ∧ H' = []) := by
 subst en1
 refine Fn.enter Tryd.func48 Tryd.call48 rfl fun F => ?_
 unfold ref44_lookup at hm
 conv => whnf
 refine RStep.of (len_slice rfl ?_)
 obtain ⟨h8, hm⟩ := chkb hm
 conv => whnf
 refine int_in h8 ?_
 obtain ⟨s0, hl0, hm⟩ := bnd hm
 conv => whnf
 refine code_cut (σ := (Int)) [4, 5, 9, 10, 11, 12, 13, 14, 15, 16, 17, 18, 19, 20, 21, 22, 23, 24] (fun t0 => [(5, .int .i64 t0)]) (fun t0 => [F]) (fun zz K1 => match zz with | t0 => s0 = Fl.go t0) ?_ ?_
 ·refine block_go rfl ?_
  conv => whnf
  refine loop_rule (σ := Nat × Int) [4, 5, 9, 10, 11, 12, 13, 14, 15, 16, 17, 18, 19, 20, 21, 22, 23, 24] (fun (i0, y0_0) => [(5, .int .i64 y0_0)]) (fun (i0, y0_0) => [F]) (fun zz K1 => match zz with | (i0, y0_0) => ref44_lookup_L0 env s i0 y0_0 = some s0) (fun zz => zz.1) (n, ((env.length : Int) - 1)) rfl ⟨rfl, trivial⟩ (ConvH.of (.cons r0 .nil)) hl0 ?_
  clear hl0
  rintro ⟨i0, y0_0⟩ Kb0 lk0 hl0 j0
  conv at hl0 => whnf
  cases i0 with
  | zero => rw [ref44_lookup_L0.eq_1] at hl0; cases hl0
  | succ i0 =>
   rw [ref44_lookup_L0.eq_2] at hl0
   conv => whnf
   refine cond_go rfl ?_
   conv => whnf
   refine cond_s (fun w10 => ?_) (fun w10 => ?_)
   ·replace hl0 := ift w10 hl0
    conv => whnf
    refine block_go rfl ?_
    obtain ⟨x15, l15, k15, hl0⟩ := ixb hl0
    conv => whnf
    refine RStep.ofN (index_addr rfl rfl (hasK (hp1_0.mono lk0).rd k15) l15 (lt_ofE rfl l15 k15) ?_)
    conv => whnf
    refine eptr_field rfl (hasK (hp1_0.mono lk0).rd k15) ?_
    conv => whnf
    refine RStep.of (load_rd ((y0_0).toNat) 0 _ _ (hp1_0.mono lk0).rd rfl (mp k15) rfl rfl ?_)
    conv => whnf
    refine eq_str ?_
    conv => whnf
    refine cond_go rfl ?_
    conv => whnf
    refine cond_s (fun w19 => ?_) (fun w19 => ?_)
    ·replace hl0 := ift w19 hl0
     obtain ⟨x22, l22, k22, hl0⟩ := ixb hl0
     conv => whnf
     refine RStep.ofN (index_addr rfl rfl (hasK (hp1_0.mono lk0).rd k22) l22 (lt_ofE rfl l22 k22) ?_)
     conv => whnf
     refine eptr_field rfl (hasK (hp1_0.mono lk0).rd k22) ?_
     conv => whnf
     refine RStep.of (load_rd ((y0_0).toNat) 1 _ _ (hp1_0.mono lk0).rd rfl (mp k22) rfl rfl ?_)
     obtain rfl := si hl0
     replace hm := elr hm
     obtain rfl := si hm
     conv => whnf
     refine EndStep.mk _ lk0 ⟨rfl, rfl⟩ (ConvH.of (.cons r0 .nil))
    ·replace hl0 := iff_ w19 hl0
     obtain ⟨h12, hl0⟩ := chkb hl0
     conv => whnf
     refine int_in h12 ?_
     conv => whnf
     refine RoundStep.mk (i0, (y0_0 - 1)) ⟨rfl, trivial⟩ (by repeat (first | exact trivial | refine And.intro rfl ?_)) (ConvH.of (.cons r0 .nil)) lk0 (Nat.lt_succ_self _) hl0
   ·replace hl0 := iff_ w10 hl0
    conv => whnf
    refine cond_T ?_
    conv => whnf
    refine MeetStep.mk (y0_0) ⟨rfl, trivial⟩ (by repeat (first | exact trivial | refine And.intro rfl ?_)) (ConvH.of (.cons r0 .nil)) lk0 (si hl0).symm
 ·rintro t0 Kt0 lt0 rfl j0
  replace hm := elg hm
  obtain ⟨x26, q26, hm⟩ := bnd hm
  conv => whnf
  refine call_fn (ref44_Predeclared_ok (s := s) q26) .nil ?_
  rintro _ K26 _ l26 ⟨rfl, rfl⟩
  conv => whnf
  refine cond_go rfl ?_
  conv => whnf
  refine cond_s (fun w26 => ?_) (fun w26 => ?_)
  ·replace hm := ift w26 hm
   obtain rfl := si hm
   conv => whnf
   refine EndStep.mk _ (lt0.trans l26) ⟨rfl, rfl⟩ (ConvH.of (.cons r0 .nil))
  ·replace hm := iff_ w26 hm
   obtain rfl := si hm
   conv => whnf
   refine EndStep.mk _ (lt0.trans l26) ⟨rfl, rfl⟩ (ConvH.of (.cons r0 .nil))

noncomputable def ref44_Function (s : Str) : Option (Int × Int × Bool) :=
 if decide (s = ([104, 101, 97, 100, 101, 114] : Str)) then
 some (1, 1, true)
 else
 if decide (s = ([97, 114, 103] : Str)) then
 some (1, 1, true)
 else
 if decide (s = ([108, 111, 119, 101, 114] : Str)) then
 some (1, 1, true)
 else
 if decide (s = ([104, 97, 115] : Str)) then
 some (1, 3, true)
 else
 if decide (s = ([108, 101, 110] : Str)) then
 some (1, 2, true)
 else
 if decide (s = ([110, 117, 109, 98, 101, 114] : Str)) then
 some (1, 2, true)
 else
 if decide (s = ([112, 97, 114, 116] : Str)) then
 some (2, 1, true)
 else
 if decide (s = ([116, 101, 120, 116] : Str)) then
 some (2, 1, true)
 else
 some (0, 0, false)
set_option maxHeartbeats 8000000 in
theorem ref44_Function_ok {s : Str} {K : Hp} {r : Int × Int × Bool}
  (hm : ref44_Function s = some r)  :
  Fn Tryd.prog 53 [str s] K [] (fun v K' H' => v = .tuple #[.int .i64 r.1, .int .i64 r.2.1, .bool r.2.2] ∧ H' = []) := by
 refine Fn.enter Tryd.func53 Tryd.call53 rfl fun F => ?_
 unfold ref44_Function at hm
 conv => whnf
 refine block_go rfl ?_
 conv => whnf
 refine eq_str ?_
 conv => whnf
 refine cond_go rfl ?_
 conv => whnf
 refine cond_s (fun w6 => ?_) (fun w6 => ?_)
 ·replace hm := ift w6 hm
  conv => whnf
  refine cond_go rfl ?_
  conv => whnf
  refine cond_t w6 ?_
  obtain rfl := si hm
  conv => whnf
  refine EndStep.mk _ (Hp.Le.refl _) ⟨rfl, rfl⟩ (ConvH.of (.cons r0 .nil))
 ·replace hm := iff_ w6 hm
  conv => whnf
  refine eq_str ?_
  conv => whnf
  refine cond_go rfl ?_
  conv => whnf
  refine cond_s (fun w6 => ?_) (fun w6 => ?_)
  ·replace hm := ift w6 hm
   conv => whnf
   refine cond_go rfl ?_
   conv => whnf
   refine cond_t w6 ?_
   obtain rfl := si hm
   conv => whnf
   refine EndStep.mk _ (Hp.Le.refl _) ⟨rfl, rfl⟩ (ConvH.of (.cons r0 .nil))
  ·replace hm := iff_ w6 hm
   conv => whnf
   refine eq_str ?_
   conv => whnf
   refine cond_go rfl ?_
   conv => whnf
   refine cond_s (fun w6 => ?_) (fun w6 => ?_)
   ·replace hm := ift w6 hm
    obtain rfl := si hm
    conv => whnf
    refine EndStep.mk _ (Hp.Le.refl _) ⟨rfl, rfl⟩ (ConvH.of (.cons r0 .nil))
   ·replace hm := iff_ w6 hm
    conv => whnf
    refine eq_str ?_
    conv => whnf
    refine cond_go rfl ?_
    conv => whnf
    refine cond_s (fun w10 => ?_) (fun w10 => ?_)
    ·replace hm := ift w10 hm
     obtain rfl := si hm
     conv => whnf
     refine EndStep.mk _ (Hp.Le.refl _) ⟨rfl, rfl⟩ (ConvH.of (.cons r0 .nil))
    ·replace hm := iff_ w10 hm
     conv => whnf
     refine eq_str ?_
     conv => whnf
     refine cond_go rfl ?_
     conv => whnf
     refine cond_s (fun w12 => ?_) (fun w12 => ?_)
     ·replace hm := ift w12 hm
      conv => whnf
      refine cond_go rfl ?_
      conv => whnf
      refine cond_t w12 ?_
      obtain rfl := si hm
      conv => whnf
      refine EndStep.mk _ (Hp.Le.refl _) ⟨rfl, rfl⟩ (ConvH.of (.cons r0 .nil))
     ·replace hm := iff_ w12 hm
      conv => whnf
      refine eq_str ?_
      conv => whnf
      refine cond_go rfl ?_
      conv => whnf
      refine cond_s (fun w12 => ?_) (fun w12 => ?_)
      ·replace hm := ift w12 hm
       obtain rfl := si hm
       conv => whnf
       refine EndStep.mk _ (Hp.Le.refl _) ⟨rfl, rfl⟩ (ConvH.of (.cons r0 .nil))
      ·replace hm := iff_ w12 hm
       conv => whnf
       refine eq_str ?_
       conv => whnf
       refine cond_go rfl ?_
       conv => whnf
       refine cond_s (fun w15 => ?_) (fun w15 => ?_)
       ·replace hm := ift w15 hm
        conv => whnf
        refine cond_go rfl ?_
        conv => whnf
        refine cond_t w15 ?_
        obtain rfl := si hm
        conv => whnf
        refine EndStep.mk _ (Hp.Le.refl _) ⟨rfl, rfl⟩ (ConvH.of (.cons r0 .nil))
       ·replace hm := iff_ w15 hm
        conv => whnf
        refine eq_str ?_
        conv => whnf
        refine cond_go rfl ?_
        conv => whnf
        refine cond_s (fun w15 => ?_) (fun w15 => ?_)
        ·replace hm := ift w15 hm
         obtain rfl := si hm
         conv => whnf
         refine EndStep.mk _ (Hp.Le.refl _) ⟨rfl, rfl⟩ (ConvH.of (.cons r0 .nil))
        ·replace hm := iff_ w15 hm
         obtain rfl := si hm
         conv => whnf
         refine EndStep.mk _ (Hp.Le.refl _) ⟨rfl, rfl⟩ (ConvH.of (.cons r0 .nil))
