/- Functions of the program: mirrors, and that a call returns what the mirror says. Printed by gen.py. -/
import Derived.Test.YtkpipkpdnbconaaGreatDoorG1
set_option linter.unusedVariables false
set_option linter.unusedSimpArgs false
open Go Go.SL Go.Proofs
set_option maxRecDepth 1000000
noncomputable def Jv : Nat → Ja → Option (Bool)
  | 0, _ => none
  | n + 1, n' =>
    if decide (n'.Kind = 2) then
    (if ((decide (n'.Text ≠ ([] : Str)) || decide ((n'.Kids.length : Int) < 2)) || decide ((n'.Kids.length : Int) > 3)) then some true else (ix n'.Kids 0).bind fun x25 =>
    (Jo n x25).bind fun x27 =>
    some (!x27)).bind fun x29 =>
    (if x29 then some true else (ix n'.Kids 1).bind fun x33 =>
    (JaE (Jv n) n x33).bind fun x35 =>
    some (!x35)).bind fun x37 =>
    if x37 then
    some false
    else
    (if decide ((n'.Kids.length : Int) = 2) then some true else (ix n'.Kids 2).bind fun x43 =>
    (JaE (Jv n) n x43).bind fun x45 =>
    some x45).bind fun x46 =>
    if x46 then
    some true
    else
    (ix n'.Kids 2).bind fun x50 =>
    (if decide (x50.Kind = 2) then (ix n'.Kids 2).bind fun x57 =>
    ((Jv n) x57).bind fun x59 =>
    some x59 else some false).bind fun x60 =>
    some x60
    else
    if decide (n'.Kind = 6) then
    (Jag n'.Text).bind fun x66 =>
    some (x66 && decide ((n'.Kids.length : Int) = 0))
    else
    if decide (n'.Kind = 10) then
    some (decide (n'.Text = ([] : Str)) && decide ((n'.Kids.length : Int) = 0))
    else
    if decide (n'.Kind = 11) then
    some (decide (n'.Text = ([] : Str)) && decide ((n'.Kids.length : Int) = 0))
    else
    if decide (n'.Kind = 3) then
    (Ja8 n n'.Text).bind fun x89 =>
    if (!x89) then
    some false
    else
    (if decide ((n'.Kids.length : Int) = 1) then (ix n'.Kids 0).bind fun x121 =>
    (Jo n x121).bind fun x123 =>
    some x123 else some false).bind fun x124 =>
    some x124
    else
    if decide (n'.Kind = 4) then
    if (decide (n'.Text ≠ ([112, 97, 116, 104] : Str)) && decide (n'.Text ≠ ([113, 117, 101, 114, 121] : Str))) then
    some false
    else
    (if decide ((n'.Kids.length : Int) = 1) then (ix n'.Kids 0).bind fun x121 =>
    (Jo n x121).bind fun x123 =>
    some x123 else some false).bind fun x124 =>
    some x124
    else
    if decide (n'.Kind = 5) then
    (Jag n'.Text).bind fun x105 =>
    if (!x105) then
    some false
    else
    (if decide ((n'.Kids.length : Int) = 1) then (ix n'.Kids 0).bind fun x121 =>
    (Jo n x121).bind fun x123 =>
    some x123 else some false).bind fun x124 =>
    some x124
    else
    if decide (n'.Kind = 7) then
    if decide (n'.Text ≠ ([] : Str)) then
    some false
    else
    (if decide ((n'.Kids.length : Int) = 1) then (ix n'.Kids 0).bind fun x121 =>
    (Jo n x121).bind fun x123 =>
    some x123 else some false).bind fun x124 =>
    some x124
    else
    if decide (n'.Kind = 8) then
    if decide (n'.Text ≠ ([] : Str)) then
    some false
    else
    (if decide ((n'.Kids.length : Int) = 1) then (ix n'.Kids 0).bind fun x121 =>
    (Jo n x121).bind fun x123 =>
    some x123 else some false).bind fun x124 =>
    some x124
    else
    if decide (n'.Kind = 9) then
    if decide (n'.Text ≠ ([] : Str)) then
    some false
    else
    (if decide ((n'.Kids.length : Int) = 1) then (ix n'.Kids 0).bind fun x121 =>
    (Jo n x121).bind fun x123 =>
    some x123 else some false).bind fun x124 =>
    some x124
    else
    some false
set_option maxHeartbeats 8000000 in
theorem Jcd : ∀ {n : Nat} {n' : Ja} {ap0_0 : Option Addr} {cp0_0 : Nat} {K : Hp} {r : Bool}
    (hm : Jv n n' = some r) (hp0_0 : LiC Ja.R K ap0_0 cp0_0 4 n'.Kids) (hG1 : GlL eS 1 1 Js K) (hG2 : GlL eS 1 2 Jx K) (hG3 : GlL eS 1 3 JD K) (hG4 : GlL eS 1 4 gkw0 K),
    Fn Tryz.prog 55 [.agg #[.int .i64 n'.Kind, str n'.Text, .slice ap0_0 n'.Kids.length cp0_0, .int .i64 n'.Line]] K [] (fun v K' H' => v = .bool r ∧ H' = []) := by
 intro n
 induction n with
 | zero =>
   intro n' ap0_0 cp0_0 K r hm hp0_0 hG1 hG2 hG3 hG4
   rw [Jv.eq_1] at hm; cases hm
 | succ n ih =>
   intro n' ap0_0 cp0_0 K r hm hp0_0 hG1 hG2 hG3 hG4
   obtain ⟨ga1, gn1, gc1, gn_, gs1, gd1⟩ := id hG1
   subst gn_
   obtain ⟨ga2, gn2, gc2, gn_, gs2, gd2⟩ := id hG2
   subst gn_
   obtain ⟨ga3, gn3, gc3, gn_, gs3, gd3⟩ := id hG3
   subst gn_
   obtain ⟨ga4, gn4, gc4, gn_, gs4, gd4⟩ := id hG4
   subst gn_
   refine Fn.enter Tryz.func55 Tryz.call55 rfl fun F => ?_
   rw [Jv.eq_2] at hm
   refine box_rule ?_
   intro b1
   refine Jb rfl (RStep.of (load1_s r0 rfl rfl ?_))
   refine block_go rfl ?_
   refine eq_int (cond_go rfl ?_)
   refine cond_s (fun w6 => ?_) (fun w6 => ?_)
   replace hm := ift w6 hm
   refine Jb rfl (RStep.of (load1_s r0 rfl rfl (RStep.of (len_slice rfl (Jb rfl (RStep.of (load1_s r0 rfl rfl (neq_str ?_))))))))
   refine cond_s (fun g14_5 => ?_) (fun g14_5 => ?_)
   refine cond_t g14_5 (cond_t g14_5 (cond_T (cond_T (cond_T ?_))))
   obtain ⟨x29, e29, hm⟩ := bnd hm
   replace e29 := ift (or_t (or_t g14_5)) e29
   refine cond_T (cond_T (cond_T (cond_T (cond_T (cond_T ?_)))))
   refine cond_T ?_
   obtain ⟨x37, e37, hm⟩ := bnd hm
   replace e37 := ift (si e29).symm e37
   refine cond_T (cond_T (cond_T (cond_T (cond_T (cond_T ?_)))))
   refine cond_T (cond_go rfl (cond_T ?_))
   replace hm := ift (si e37).symm hm
   obtain rfl := si hm
   refine EndStep.mk _ (Hp.Le.refl _) ⟨rfl, rfl⟩ (ConvH.of (.cons r1 .nil))
   refine cond_f g14_5 (cond_f g14_5 ?_)
   refine cond_s (fun g18_5 => ?_) (fun g18_5 => ?_)
   refine cond_t g18_5 (cond_t g18_5 ?_)
   obtain ⟨x29, e29, hm⟩ := bnd hm
   replace e29 := ift (or_t (or_u g14_5 g18_5)) e29
   refine cond_T (cond_T (cond_T (cond_T (cond_T (cond_T ?_)))))
   refine cond_T ?_
   obtain ⟨x37, e37, hm⟩ := bnd hm
   replace e37 := ift (si e29).symm e37
   refine cond_T (cond_T (cond_T (cond_T (cond_T (cond_T ?_)))))
   refine cond_T (cond_go rfl (cond_T ?_))
   replace hm := ift (si e37).symm hm
   obtain rfl := si hm
   refine EndStep.mk _ (Hp.Le.refl _) ⟨rfl, rfl⟩ (ConvH.of (.cons r1 .nil))
   refine cond_f g18_5 (cond_f g18_5 ?_)
   obtain ⟨x29, e29, hm⟩ := bnd hm
   refine cond_s (fun g22_5 => ?_) (fun g22_5 => ?_)
   replace e29 := ift (or_u (or_f g14_5 g18_5) g22_5) e29
   refine cond_t g22_5 (cond_t g22_5 (cond_t g22_5 (cond_t g22_5 (cond_t g22_5 (cond_t g22_5 ?_)))))
   obtain ⟨x37, e37, hm⟩ := bnd hm
   replace e37 := ift (si e29).symm e37
   refine cond_T (cond_T (cond_T (cond_T (cond_T (cond_T ?_)))))
   refine cond_T (cond_go rfl (cond_T ?_))
   replace hm := ift (si e37).symm hm
   obtain rfl := si hm
   refine EndStep.mk _ (Hp.Le.refl _) ⟨rfl, rfl⟩ (ConvH.of (.cons r1 .nil))
   replace e29 := iff_ (or_f (or_f g14_5 g18_5) g22_5) e29
   refine Jb rfl (cond_f g22_5 (RStep.of (load1_s r0 rfl rfl (cond_f g22_5 ?_))))
   obtain ⟨x25, l25, k25, e29⟩ := ixb e29
   refine RStep.ofN (index_addr rfl rfl (hasR hp0_0.rd k25) l25 (lt_ofE rfl l25 k25) (cond_f g22_5 ?_))
   obtain ⟨ss26, cc26, hr26, hc26, hR26⟩ := LiR.get hp0_0.rd k25
   obtain ⟨a26_0, c26_0, rfl, h26_0⟩ := Ja.out hR26
   refine RStep.of (load_rd_agg ((0 : Int).toNat) _ hr26 rfl hc26 rfl (cond_f g22_5 ?_))
   obtain ⟨x27, q27, e29⟩ := bnd e29
   refine call_fn (JV (n' := x25) q27 h26_0 hG1 hG2 hG3 hG4) .nil ?_
   rintro _ K27 _ l27 ⟨rfl, rfl⟩
   refine cond_f g22_5 (un_not (cond_f g22_5 ?_))
   obtain ⟨x37, e37, hm⟩ := bnd hm
   refine cond_s (fun g30_5 => ?_) (fun g30_5 => ?_)
   replace e37 := ift ((si e29).symm.trans (not_t (ni_t g30_5))) e37
   refine cond_t g30_5 (cond_t g30_5 (cond_t g30_5 (cond_t g30_5 (cond_t g30_5 (cond_t g30_5 ?_)))))
   refine cond_go rfl (cond_T ?_)
   replace hm := ift (si e37).symm hm
   obtain rfl := si hm
   refine EndStep.mk _ l27 ⟨rfl, rfl⟩ (ConvH.of (.cons r1 .nil))
   replace e37 := iff_ ((si e29).symm.trans (not_f (ni_f g30_5))) e37
   refine Jb rfl (cond_f g30_5 (RStep.of (load1_s r0 rfl rfl (cond_f g30_5 ?_))))
   obtain ⟨x33, l33, k33, e37⟩ := ixb e37
   refine RStep.ofN (index_addr rfl rfl (hasR (LiC.mono Ja.R_ok l27 hp0_0).rd k33) l33 (lt_ofE rfl l33 k33) (cond_f g30_5 ?_))
   obtain ⟨ss34, cc34, hr34, hc34, hR34⟩ := LiR.get (LiC.mono Ja.R_ok l27 hp0_0).rd k33
   obtain ⟨a34_0, c34_0, rfl, h34_0⟩ := Ja.out hR34
   refine RStep.of (load_rd_agg ((1 : Int).toNat) _ hr34 rfl hc34 rfl (cond_f g30_5 ?_))
   obtain ⟨x35, q35, e37⟩ := bnd e37
   refine call_fn (JbB ih (n' := x33) q35 h34_0 (hG1.mono l27) (hG2.mono l27) (hG3.mono l27) (hG4.mono l27)) .nil ?_
   rintro _ K35 _ l35 ⟨rfl, rfl⟩
   refine cond_f g30_5 (un_not (cond_f g30_5 (cond_go rfl ?_)))
   refine cond_s (fun w37 => ?_) (fun w37 => ?_)
   replace hm := ift ((si e37).symm.trans (not_t (ni_t w37))) hm
   obtain rfl := si hm
   refine EndStep.mk _ (l27.trans l35) ⟨rfl, rfl⟩ (ConvH.of (.cons r1 .nil))
   replace hm := iff_ ((si e37).symm.trans (not_f (ni_f w37))) hm
   refine eq_int ?_
   obtain ⟨x46, e46, hm⟩ := bnd hm
   refine cond_s (fun g40_7 => ?_) (fun g40_7 => ?_)
   replace e46 := ift g40_7 e46
   refine cond_t g40_7 (cond_t g40_7 (cond_t g40_7 (cond_t g40_7 (cond_t g40_7 ?_))))
   replace hm := ift (si e46).symm hm
   refine cond_T (cond_T (cond_T (cond_T (cond_T (cond_T ?_)))))
   refine cond_T (cond_T (cond_T ?_))
   obtain rfl := si hm
   refine EndStep.mk _ (l27.trans l35) ⟨rfl, rfl⟩ (ConvH.of (.cons r1 .nil))
   replace e46 := iff_ g40_7 e46
   refine Jb rfl (cond_f g40_7 (RStep.of (load1_s r0 rfl rfl (cond_f g40_7 ?_))))
   obtain ⟨x43, l43, k43, e46⟩ := ixb e46
   refine RStep.ofN (index_addr rfl rfl (hasR (LiC.mono Ja.R_ok (l27.trans l35) hp0_0).rd k43) l43 (lt_ofE rfl l43 k43) (cond_f g40_7 ?_))
   obtain ⟨ss44, cc44, hr44, hc44, hR44⟩ := LiR.get (LiC.mono Ja.R_ok (l27.trans l35) hp0_0).rd k43
   obtain ⟨a44_0, c44_0, rfl, h44_0⟩ := Ja.out hR44
   refine RStep.of (load_rd_agg ((2 : Int).toNat) _ hr44 rfl hc44 rfl (cond_f g40_7 ?_))
   obtain ⟨x45, q45, e46⟩ := bnd e46
   refine call_fn (JbB ih (n' := x43) q45 h44_0 (hG1.mono (l27.trans l35)) (hG2.mono (l27.trans l35)) (hG3.mono (l27.trans l35)) (hG4.mono (l27.trans l35))) .nil ?_
   rintro _ K45 _ l45 ⟨rfl, rfl⟩
   refine cond_f g40_7 ?_
   refine cond_s (fun g47_7 => ?_) (fun g47_7 => ?_)
   replace hm := ift ((si e46).symm.trans g47_7) hm
   refine cond_t g47_7 (cond_t g47_7 (cond_t g47_7 (cond_t g47_7 (cond_t g47_7 (cond_t g47_7 ?_)))))
   refine cond_t g47_7 (cond_t g47_7 ?_)
   obtain rfl := si hm
   refine EndStep.mk _ ((l27.trans l35).trans l45) ⟨rfl, rfl⟩ (ConvH.of (.cons r1 .nil))
   replace hm := iff_ ((si e46).symm.trans g47_7) hm
   refine Jb rfl (cond_f g47_7 (RStep.of (load1_s r0 rfl rfl (cond_f g47_7 ?_))))
   obtain ⟨x50, l50, k50, hm⟩ := ixb hm
   refine RStep.ofN (index_addr rfl rfl (hasR (LiC.mono Ja.R_ok ((l27.trans l35).trans l45) hp0_0).rd k50) l50 (lt_ofE rfl l50 k50) (cond_f g47_7 (eptr_field rfl (hasR (LiC.mono Ja.R_ok ((l27.trans l35).trans l45) hp0_0).rd k50) (cond_f g47_7 ?_))))
   obtain ⟨ss52, cc52, hr52, hc52, hR52⟩ := LiR.get (LiC.mono Ja.R_ok ((l27.trans l35).trans l45) hp0_0).rd k50
   obtain ⟨a52_0, c52_0, rfl, h52_0⟩ := Ja.out hR52
   refine RStep.of (load_rd ((2 : Int).toNat) 0 _ _ hr52 rfl hc52 rfl rfl (cond_f g47_7 (eq_int (cond_f g47_7 ?_))))
   obtain ⟨x60, e60, hm⟩ := bnd hm
   refine cond_s (fun g54_7 => ?_) (fun g54_7 => ?_)
   replace e60 := ift g54_7 e60
   refine Jb rfl (cond_t g54_7 (RStep.of (load1_s r0 rfl rfl (cond_t g54_7 ?_))))
   obtain ⟨x57, l57, k57, e60⟩ := ixb e60
   refine RStep.ofN (index_addr rfl rfl (hasR (LiC.mono Ja.R_ok ((l27.trans l35).trans l45) hp0_0).rd k57) l57 (lt_ofE rfl l57 k57) (cond_t g54_7 ?_))
   obtain ⟨ss58, cc58, hr58, hc58, hR58⟩ := LiR.get (LiC.mono Ja.R_ok ((l27.trans l35).trans l45) hp0_0).rd k57
   obtain ⟨a58_0, c58_0, rfl, h58_0⟩ := Ja.out hR58
   refine RStep.of (load_rd_agg ((2 : Int).toNat) _ hr58 rfl hc58 rfl (cond_t g54_7 ?_))
   obtain ⟨x59, q59, e60⟩ := bnd e60
   refine call_fn (ih (n' := x57) q59 h58_0 (hG1.mono ((l27.trans l35).trans l45)) (hG2.mono ((l27.trans l35).trans l45)) (hG3.mono ((l27.trans l35).trans l45)) (hG4.mono ((l27.trans l35).trans l45))) .nil ?_
   rintro _ K59 _ l59 ⟨rfl, rfl⟩
   refine cond_f g47_7 (cond_t g54_7 (cond_f g47_7 ?_))
   obtain rfl := si hm
   refine EndStep.mk _ (((l27.trans l35).trans l45).trans l59) ⟨(by rw [← (si e60)] <;> rfl), rfl⟩ (ConvH.of (.cons r1 .nil))
   replace e60 := iff_ g54_7 e60
   refine cond_f g54_7 (cond_f g54_7 (cond_f g54_7 (cond_f g54_7 (cond_f g47_7 (cond_f g54_7 ?_)))))
   refine cond_f g47_7 ?_
   obtain rfl := si hm
   refine EndStep.mk _ ((l27.trans l35).trans l45) ⟨(by rw [← ((si e60).symm).symm] <;> rfl), rfl⟩ (ConvH.of (.cons r1 .nil))
   replace hm := iff_ w6 hm
   refine eq_int (cond_go rfl ?_)
   refine cond_s (fun w62 => ?_) (fun w62 => ?_)
   replace hm := ift w62 hm
   refine Jb rfl (RStep.of (load1_s r0 rfl rfl ?_))
   obtain ⟨x66, q66, hm⟩ := bnd hm
   refine call_fn (Ja2 (s := n'.Text) q66) .nil ?_
   rintro _ K66 _ l66 ⟨rfl, rfl⟩
   refine cond_s (fun g67_9 => ?_) (fun g67_9 => ?_)
   refine Jb rfl (cond_t g67_9 (RStep.of (load1_s r0 rfl rfl (cond_t g67_9 (RStep.of (len_slice rfl (cond_t g67_9 ?_)))))))
   refine eq_int (cond_t g67_9 ?_)
   obtain rfl := si hm
   refine EndStep.mk _ l66 ⟨(by rw [← (and_e (b := decide ((n'.Kids.length : Int) = 0)) g67_9)] <;> rfl), rfl⟩ (ConvH.of (.cons r1 .nil))
   refine cond_f g67_9 (cond_f g67_9 (cond_f g67_9 (cond_f g67_9 ?_)))
   obtain rfl := si hm
   refine EndStep.mk _ l66 ⟨(by rw [← ((and_f g67_9)).symm] <;> rfl), rfl⟩ (ConvH.of (.cons r1 .nil))
   replace hm := iff_ w62 hm
   refine eq_int (cond_go rfl ?_)
   refine cond_s (fun w73 => ?_) (fun w73 => ?_)
   replace hm := ift w73 hm
   refine cond_go rfl (cond_t w73 (Jb rfl (RStep.of (load1_s r0 rfl rfl (eq_str ?_)))))
   refine cond_s (fun g79_12 => ?_) (fun g79_12 => ?_)
   refine Jb rfl (cond_t g79_12 (RStep.of (load1_s r0 rfl rfl (cond_t g79_12 (RStep.of (len_slice rfl (cond_t g79_12 ?_)))))))
   refine eq_int (cond_t g79_12 ?_)
   obtain rfl := si hm
   refine EndStep.mk _ (Hp.Le.refl _) ⟨(by rw [← (and_e (b := decide ((n'.Kids.length : Int) = 0)) g79_12)] <;> rfl), rfl⟩ (ConvH.of (.cons r1 .nil))
   refine cond_f g79_12 (cond_f g79_12 (cond_f g79_12 (cond_f g79_12 ?_)))
   obtain rfl := si hm
   refine EndStep.mk _ (Hp.Le.refl _) ⟨(by rw [← ((and_f g79_12)).symm] <;> rfl), rfl⟩ (ConvH.of (.cons r1 .nil))
   replace hm := iff_ w73 hm
   refine eq_int (cond_go rfl ?_)
   refine cond_s (fun w73 => ?_) (fun w73 => ?_)
   replace hm := ift w73 hm
   refine Jb rfl (RStep.of (load1_s r0 rfl rfl (eq_str ?_)))
   refine cond_s (fun g79_12 => ?_) (fun g79_12 => ?_)
   refine Jb rfl (cond_t g79_12 (RStep.of (load1_s r0 rfl rfl (cond_t g79_12 (RStep.of (len_slice rfl (cond_t g79_12 ?_)))))))
   refine eq_int (cond_t g79_12 ?_)
   obtain rfl := si hm
   refine EndStep.mk _ (Hp.Le.refl _) ⟨(by rw [← (and_e (b := decide ((n'.Kids.length : Int) = 0)) g79_12)] <;> rfl), rfl⟩ (ConvH.of (.cons r1 .nil))
   refine cond_f g79_12 (cond_f g79_12 (cond_f g79_12 (cond_f g79_12 ?_)))
   obtain rfl := si hm
   refine EndStep.mk _ (Hp.Le.refl _) ⟨(by rw [← ((and_f g79_12)).symm] <;> rfl), rfl⟩ (ConvH.of (.cons r1 .nil))
   replace hm := iff_ w73 hm
   refine eq_int (cond_go rfl ?_)
   refine cond_s (fun w85 => ?_) (fun w85 => ?_)
   replace hm := ift w85 hm
   refine Jb rfl (RStep.of (load1_s r0 rfl rfl ?_))
   obtain ⟨x89, q89, hm⟩ := bnd hm
   refine call_fn (Jbn (s := n'.Text) q89 hG1 hG2 hG3 hG4) .nil ?_
   rintro _ K89 _ l89 ⟨rfl, rfl⟩
   refine un_not (cond_go rfl ?_)
   refine cond_s (fun w90 => ?_) (fun w90 => ?_)
   replace hm := ift (not_t (ni_t w90)) hm
   obtain rfl := si hm
   refine EndStep.mk _ l89 ⟨rfl, rfl⟩ (ConvH.of (.cons r1 .nil))
   replace hm := iff_ (not_f (ni_f w90)) hm
   refine Jb rfl (RStep.of (load1_s r0 rfl rfl (RStep.of (len_slice rfl (eq_int ?_)))))
   obtain ⟨x124, e124, hm⟩ := bnd hm
   refine cond_s (fun g118_27 => ?_) (fun g118_27 => ?_)
   replace e124 := ift g118_27 e124
   refine Jb rfl (cond_t g118_27 (RStep.of (load1_s r0 rfl rfl (cond_t g118_27 ?_))))
   obtain ⟨x121, l121, k121, e124⟩ := ixb e124
   refine RStep.ofN (index_addr rfl rfl (hasR (LiC.mono Ja.R_ok l89 hp0_0).rd k121) l121 (lt_ofE rfl l121 k121) (cond_t g118_27 ?_))
   obtain ⟨ss122, cc122, hr122, hc122, hR122⟩ := LiR.get (LiC.mono Ja.R_ok l89 hp0_0).rd k121
   obtain ⟨a122_0, c122_0, rfl, h122_0⟩ := Ja.out hR122
   refine RStep.of (load_rd_agg ((0 : Int).toNat) _ hr122 rfl hc122 rfl (cond_t g118_27 ?_))
   obtain ⟨x123, q123, e124⟩ := bnd e124
   refine call_fn (JV (n' := x121) q123 h122_0 (hG1.mono l89) (hG2.mono l89) (hG3.mono l89) (hG4.mono l89)) .nil ?_
   rintro _ K123 _ l123 ⟨rfl, rfl⟩
   refine cond_t g118_27 ?_
   obtain rfl := si hm
   refine EndStep.mk _ (l89.trans l123) ⟨(by rw [← (si e124)] <;> rfl), rfl⟩ (ConvH.of (.cons r1 .nil))
   replace e124 := iff_ g118_27 e124
   refine cond_f g118_27 (cond_f g118_27 (cond_f g118_27 (cond_f g118_27 (cond_f g118_27 ?_))))
   obtain rfl := si hm
   refine EndStep.mk _ l89 ⟨(by rw [← ((si e124).symm).symm] <;> rfl), rfl⟩ (ConvH.of (.cons r1 .nil))
   replace hm := iff_ w85 hm
   refine eq_int (cond_go rfl ?_)
   refine cond_s (fun w91 => ?_) (fun w91 => ?_)
   replace hm := ift w91 hm
   refine Jb rfl (RStep.of (load1_s r0 rfl rfl (neq_str ?_)))
   refine cond_s (fun g96_17 => ?_) (fun g96_17 => ?_)
   refine Jb rfl (cond_t g96_17 (RStep.of (load1_s r0 rfl rfl (cond_t g96_17 (neq_str (cond_t g96_17 ?_))))))
   refine cond_go rfl ?_
   refine cond_s (fun w100 => ?_) (fun w100 => ?_)
   replace hm := ift (and_t g96_17 w100) hm
   obtain rfl := si hm
   refine EndStep.mk _ (Hp.Le.refl _) ⟨rfl, rfl⟩ (ConvH.of (.cons r1 .nil))
   replace hm := iff_ (and_g g96_17 w100) hm
   refine Jb rfl (RStep.of (load1_s r0 rfl rfl (RStep.of (len_slice rfl (eq_int ?_)))))
   obtain ⟨x124, e124, hm⟩ := bnd hm
   refine cond_s (fun g118_27 => ?_) (fun g118_27 => ?_)
   replace e124 := ift g118_27 e124
   refine Jb rfl (cond_t g118_27 (RStep.of (load1_s r0 rfl rfl (cond_t g118_27 ?_))))
   obtain ⟨x121, l121, k121, e124⟩ := ixb e124
   refine RStep.ofN (index_addr rfl rfl (hasR hp0_0.rd k121) l121 (lt_ofE rfl l121 k121) (cond_t g118_27 ?_))
   obtain ⟨ss122, cc122, hr122, hc122, hR122⟩ := LiR.get hp0_0.rd k121
   obtain ⟨a122_0, c122_0, rfl, h122_0⟩ := Ja.out hR122
   refine RStep.of (load_rd_agg ((0 : Int).toNat) _ hr122 rfl hc122 rfl (cond_t g118_27 ?_))
   obtain ⟨x123, q123, e124⟩ := bnd e124
   refine call_fn (JV (n' := x121) q123 h122_0 hG1 hG2 hG3 hG4) .nil ?_
   rintro _ K123 _ l123 ⟨rfl, rfl⟩
   refine cond_t g118_27 ?_
   obtain rfl := si hm
   refine EndStep.mk _ l123 ⟨(by rw [← (si e124)] <;> rfl), rfl⟩ (ConvH.of (.cons r1 .nil))
   replace e124 := iff_ g118_27 e124
   refine cond_f g118_27 (cond_f g118_27 (cond_f g118_27 (cond_f g118_27 (cond_f g118_27 ?_))))
   obtain rfl := si hm
   refine EndStep.mk _ (Hp.Le.refl _) ⟨(by rw [← ((si e124).symm).symm] <;> rfl), rfl⟩ (ConvH.of (.cons r1 .nil))
   refine cond_f g96_17 (cond_f g96_17 (cond_f g96_17 (cond_go rfl (cond_F ?_))))
   replace hm := iff_ (and_f g96_17) hm
   refine Jb rfl (RStep.of (load1_s r0 rfl rfl (RStep.of (len_slice rfl (eq_int ?_)))))
   obtain ⟨x124, e124, hm⟩ := bnd hm
   refine cond_s (fun g118_27 => ?_) (fun g118_27 => ?_)
   replace e124 := ift g118_27 e124
   refine Jb rfl (cond_t g118_27 (RStep.of (load1_s r0 rfl rfl (cond_t g118_27 ?_))))
   obtain ⟨x121, l121, k121, e124⟩ := ixb e124
   refine RStep.ofN (index_addr rfl rfl (hasR hp0_0.rd k121) l121 (lt_ofE rfl l121 k121) (cond_t g118_27 ?_))
   obtain ⟨ss122, cc122, hr122, hc122, hR122⟩ := LiR.get hp0_0.rd k121
   obtain ⟨a122_0, c122_0, rfl, h122_0⟩ := Ja.out hR122
   refine RStep.of (load_rd_agg ((0 : Int).toNat) _ hr122 rfl hc122 rfl (cond_t g118_27 ?_))
   obtain ⟨x123, q123, e124⟩ := bnd e124
   refine call_fn (JV (n' := x121) q123 h122_0 hG1 hG2 hG3 hG4) .nil ?_
   rintro _ K123 _ l123 ⟨rfl, rfl⟩
   refine cond_t g118_27 ?_
   obtain rfl := si hm
   refine EndStep.mk _ l123 ⟨(by rw [← (si e124)] <;> rfl), rfl⟩ (ConvH.of (.cons r1 .nil))
   replace e124 := iff_ g118_27 e124
   refine cond_f g118_27 (cond_f g118_27 (cond_f g118_27 (cond_f g118_27 (cond_f g118_27 ?_))))
   obtain rfl := si hm
   refine EndStep.mk _ (Hp.Le.refl _) ⟨(by rw [← ((si e124).symm).symm] <;> rfl), rfl⟩ (ConvH.of (.cons r1 .nil))
   replace hm := iff_ w91 hm
   refine eq_int (cond_go rfl ?_)
   refine cond_s (fun w101 => ?_) (fun w101 => ?_)
   replace hm := ift w101 hm
   refine Jb rfl (RStep.of (load1_s r0 rfl rfl ?_))
   obtain ⟨x105, q105, hm⟩ := bnd hm
   refine call_fn (Ja2 (s := n'.Text) q105) .nil ?_
   rintro _ K105 _ l105 ⟨rfl, rfl⟩
   refine un_not (cond_go rfl ?_)
   refine cond_s (fun w106 => ?_) (fun w106 => ?_)
   replace hm := ift (not_t (ni_t w106)) hm
   obtain rfl := si hm
   refine EndStep.mk _ l105 ⟨rfl, rfl⟩ (ConvH.of (.cons r1 .nil))
   replace hm := iff_ (not_f (ni_f w106)) hm
   refine Jb rfl (RStep.of (load1_s r0 rfl rfl (RStep.of (len_slice rfl (eq_int ?_)))))
   obtain ⟨x124, e124, hm⟩ := bnd hm
   refine cond_s (fun g118_27 => ?_) (fun g118_27 => ?_)
   replace e124 := ift g118_27 e124
   refine Jb rfl (cond_t g118_27 (RStep.of (load1_s r0 rfl rfl (cond_t g118_27 ?_))))
   obtain ⟨x121, l121, k121, e124⟩ := ixb e124
   refine RStep.ofN (index_addr rfl rfl (hasR (LiC.mono Ja.R_ok l105 hp0_0).rd k121) l121 (lt_ofE rfl l121 k121) (cond_t g118_27 ?_))
   obtain ⟨ss122, cc122, hr122, hc122, hR122⟩ := LiR.get (LiC.mono Ja.R_ok l105 hp0_0).rd k121
   obtain ⟨a122_0, c122_0, rfl, h122_0⟩ := Ja.out hR122
   refine RStep.of (load_rd_agg ((0 : Int).toNat) _ hr122 rfl hc122 rfl (cond_t g118_27 ?_))
   obtain ⟨x123, q123, e124⟩ := bnd e124
   refine call_fn (JV (n' := x121) q123 h122_0 (hG1.mono l105) (hG2.mono l105) (hG3.mono l105) (hG4.mono l105)) .nil ?_
   rintro _ K123 _ l123 ⟨rfl, rfl⟩
   refine cond_t g118_27 ?_
   obtain rfl := si hm
   refine EndStep.mk _ (l105.trans l123) ⟨(by rw [← (si e124)] <;> rfl), rfl⟩ (ConvH.of (.cons r1 .nil))
   replace e124 := iff_ g118_27 e124
   refine cond_f g118_27 (cond_f g118_27 (cond_f g118_27 (cond_f g118_27 (cond_f g118_27 ?_))))
   obtain rfl := si hm
   refine EndStep.mk _ l105 ⟨(by rw [← ((si e124).symm).symm] <;> rfl), rfl⟩ (ConvH.of (.cons r1 .nil))
   replace hm := iff_ w101 hm
   refine eq_int (cond_go rfl ?_)
   refine cond_s (fun w107 => ?_) (fun w107 => ?_)
   replace hm := ift w107 hm
   refine cond_go rfl (cond_t w107 (Jb rfl (RStep.of (load1_s r0 rfl rfl (neq_str (cond_go rfl ?_))))))
   refine cond_s (fun w113 => ?_) (fun w113 => ?_)
   replace hm := ift w113 hm
   obtain rfl := si hm
   refine EndStep.mk _ (Hp.Le.refl _) ⟨rfl, rfl⟩ (ConvH.of (.cons r1 .nil))
   replace hm := iff_ w113 hm
   refine Jb rfl (RStep.of (load1_s r0 rfl rfl (RStep.of (len_slice rfl (eq_int ?_)))))
   obtain ⟨x124, e124, hm⟩ := bnd hm
   refine cond_s (fun g118_27 => ?_) (fun g118_27 => ?_)
   replace e124 := ift g118_27 e124
   refine Jb rfl (cond_t g118_27 (RStep.of (load1_s r0 rfl rfl (cond_t g118_27 ?_))))
   obtain ⟨x121, l121, k121, e124⟩ := ixb e124
   refine RStep.ofN (index_addr rfl rfl (hasR hp0_0.rd k121) l121 (lt_ofE rfl l121 k121) (cond_t g118_27 ?_))
   obtain ⟨ss122, cc122, hr122, hc122, hR122⟩ := LiR.get hp0_0.rd k121
   obtain ⟨a122_0, c122_0, rfl, h122_0⟩ := Ja.out hR122
   refine RStep.of (load_rd_agg ((0 : Int).toNat) _ hr122 rfl hc122 rfl (cond_t g118_27 ?_))
   obtain ⟨x123, q123, e124⟩ := bnd e124
   refine call_fn (JV (n' := x121) q123 h122_0 hG1 hG2 hG3 hG4) .nil ?_
   rintro _ K123 _ l123 ⟨rfl, rfl⟩
   refine cond_t g118_27 ?_
   obtain rfl := si hm
   refine EndStep.mk _ l123 ⟨(by rw [← (si e124)] <;> rfl), rfl⟩ (ConvH.of (.cons r1 .nil))
   replace e124 := iff_ g118_27 e124
   refine cond_f g118_27 (cond_f g118_27 (cond_f g118_27 (cond_f g118_27 (cond_f g118_27 ?_))))
   obtain rfl := si hm
   refine EndStep.mk _ (Hp.Le.refl _) ⟨(by rw [← ((si e124).symm).symm] <;> rfl), rfl⟩ (ConvH.of (.cons r1 .nil))
   replace hm := iff_ w107 hm
   refine eq_int (cond_go rfl ?_)
   refine cond_s (fun w107 => ?_) (fun w107 => ?_)
   replace hm := ift w107 hm
   refine cond_go rfl (cond_t w107 (Jb rfl (RStep.of (load1_s r0 rfl rfl (neq_str (cond_go rfl ?_))))))
   refine cond_s (fun w113 => ?_) (fun w113 => ?_)
   replace hm := ift w113 hm
   obtain rfl := si hm
   refine EndStep.mk _ (Hp.Le.refl _) ⟨rfl, rfl⟩ (ConvH.of (.cons r1 .nil))
   replace hm := iff_ w113 hm
   refine Jb rfl (RStep.of (load1_s r0 rfl rfl (RStep.of (len_slice rfl (eq_int ?_)))))
   obtain ⟨x124, e124, hm⟩ := bnd hm
   refine cond_s (fun g118_27 => ?_) (fun g118_27 => ?_)
   replace e124 := ift g118_27 e124
   refine Jb rfl (cond_t g118_27 (RStep.of (load1_s r0 rfl rfl (cond_t g118_27 ?_))))
   obtain ⟨x121, l121, k121, e124⟩ := ixb e124
   refine RStep.ofN (index_addr rfl rfl (hasR hp0_0.rd k121) l121 (lt_ofE rfl l121 k121) (cond_t g118_27 ?_))
   obtain ⟨ss122, cc122, hr122, hc122, hR122⟩ := LiR.get hp0_0.rd k121
   obtain ⟨a122_0, c122_0, rfl, h122_0⟩ := Ja.out hR122
   refine RStep.of (load_rd_agg ((0 : Int).toNat) _ hr122 rfl hc122 rfl (cond_t g118_27 ?_))
   obtain ⟨x123, q123, e124⟩ := bnd e124
   refine call_fn (JV (n' := x121) q123 h122_0 hG1 hG2 hG3 hG4) .nil ?_
   rintro _ K123 _ l123 ⟨rfl, rfl⟩
   refine cond_t g118_27 ?_
   obtain rfl := si hm
   refine EndStep.mk _ l123 ⟨(by rw [← (si e124)] <;> rfl), rfl⟩ (ConvH.of (.cons r1 .nil))
   replace e124 := iff_ g118_27 e124
   refine cond_f g118_27 (cond_f g118_27 (cond_f g118_27 (cond_f g118_27 (cond_f g118_27 ?_))))
   obtain rfl := si hm
   refine EndStep.mk _ (Hp.Le.refl _) ⟨(by rw [← ((si e124).symm).symm] <;> rfl), rfl⟩ (ConvH.of (.cons r1 .nil))
   replace hm := iff_ w107 hm
   refine eq_int (cond_go rfl ?_)
   refine cond_s (fun w107 => ?_) (fun w107 => ?_)
   replace hm := ift w107 hm
   refine Jb rfl (RStep.of (load1_s r0 rfl rfl (neq_str (cond_go rfl ?_))))
   refine cond_s (fun w113 => ?_) (fun w113 => ?_)
   replace hm := ift w113 hm
   obtain rfl := si hm
   refine EndStep.mk _ (Hp.Le.refl _) ⟨rfl, rfl⟩ (ConvH.of (.cons r1 .nil))
   replace hm := iff_ w113 hm
   refine Jb rfl (RStep.of (load1_s r0 rfl rfl (RStep.of (len_slice rfl (eq_int ?_)))))
   obtain ⟨x124, e124, hm⟩ := bnd hm
   refine cond_s (fun g118_27 => ?_) (fun g118_27 => ?_)
   replace e124 := ift g118_27 e124
   refine Jb rfl (cond_t g118_27 (RStep.of (load1_s r0 rfl rfl (cond_t g118_27 ?_))))
   obtain ⟨x121, l121, k121, e124⟩ := ixb e124
   refine RStep.ofN (index_addr rfl rfl (hasR hp0_0.rd k121) l121 (lt_ofE rfl l121 k121) (cond_t g118_27 ?_))
   obtain ⟨ss122, cc122, hr122, hc122, hR122⟩ := LiR.get hp0_0.rd k121
   obtain ⟨a122_0, c122_0, rfl, h122_0⟩ := Ja.out hR122
   refine RStep.of (load_rd_agg ((0 : Int).toNat) _ hr122 rfl hc122 rfl (cond_t g118_27 ?_))
   obtain ⟨x123, q123, e124⟩ := bnd e124
   refine call_fn (JV (n' := x121) q123 h122_0 hG1 hG2 hG3 hG4) .nil ?_
   rintro _ K123 _ l123 ⟨rfl, rfl⟩
   refine cond_t g118_27 ?_
   obtain rfl := si hm
   refine EndStep.mk _ l123 ⟨(by rw [← (si e124)] <;> rfl), rfl⟩ (ConvH.of (.cons r1 .nil))
   replace e124 := iff_ g118_27 e124
   refine cond_f g118_27 (cond_f g118_27 (cond_f g118_27 (cond_f g118_27 (cond_f g118_27 ?_))))
   obtain rfl := si hm
   refine EndStep.mk _ (Hp.Le.refl _) ⟨(by rw [← ((si e124).symm).symm] <;> rfl), rfl⟩ (ConvH.of (.cons r1 .nil))
   replace hm := iff_ w107 hm
   obtain rfl := si hm
   refine EndStep.mk _ (Hp.Le.refl _) ⟨rfl, rfl⟩ (ConvH.of (.cons r1 .nil))

noncomputable def Jao (n : Nat) : List Ja → Nat → Option (Fl (Bool) (Unit))
  | [], _ => some (Fl.go ())
  | e0 :: xs0, i0 =>
    (Jv n e0).bind fun x27 =>
    if (!x27) then
    some (Fl.ret false)
    else
    Jao n xs0 (i0 + 1)
noncomputable def Jar (n : Nat) (n' : Ja) : Option (Bool) :=
  if (decide (n'.Kind ≠ 1) || decide (n'.Text ≠ ([] : Str))) then
  some false
  else
  (Jaq n n' 512 32).bind fun x16 =>
  if (!x16.1) then
  some false
  else
  (chk (n'.Kids.length ≤ szMax)).bind fun _ =>
  (Jao n n'.Kids 0).bind fun s0 => s0.el some fun t0 =>
  some true
set_option maxHeartbeats 8000000 in
theorem Jcg {n : Nat} {n' : Ja} {ap0_0 : Option Addr} {cp0_0 : Nat} {K : Hp} {r : Bool}
    (hm : Jar n n' = some r) (hp0_0 : LiC Ja.R K ap0_0 cp0_0 4 n'.Kids) (hG1 : GlL eS 1 1 Js K) (hG2 : GlL eS 1 2 Jx K) (hG3 : GlL eS 1 3 JD K) (hG4 : GlL eS 1 4 gkw0 K) :
    Fn Tryz.prog 34 [.agg #[.int .i64 n'.Kind, str n'.Text, .slice ap0_0 n'.Kids.length cp0_0, .int .i64 n'.Line]] K [] (fun v K' H' => v = .bool r ∧ H' = []) := by
 obtain ⟨ga1, gn1, gc1, gn_, gs1, gd1⟩ := id hG1
 subst gn_
 obtain ⟨ga2, gn2, gc2, gn_, gs2, gd2⟩ := id hG2
 subst gn_
 obtain ⟨ga3, gn3, gc3, gn_, gs3, gd3⟩ := id hG3
 subst gn_
 obtain ⟨ga4, gn4, gc4, gn_, gs4, gd4⟩ := id hG4
 subst gn_
 refine Fn.enter Tryz.func34 Tryz.call34 rfl fun F => ?_
 unfold Jar at hm
 refine box_rule ?_
 intro b1
 refine alloc_rule rfl ?_
 intro b3
 refine store_rule r0 rfl ?_
 refine ⟨rfl, rfl, (Nat.le_of_ble_eq_true rfl), ?_⟩
 refine Jb rfl (RStep.of (load1_s r1 rfl rfl (neq_int ?_)))
 refine cond_s (fun g9_2 => ?_) (fun g9_2 => ?_)
 refine cond_t g9_2 (cond_t g9_2 (cond_t g9_2 ?_))
 replace hm := ift (or_t g9_2) hm
 refine cond_T (cond_T (cond_T (cond_T (cond_go rfl (cond_T ?_)))))
 obtain rfl := si hm
 refine EndStep.mk _ (Hp.Le.refl _) ⟨rfl, rfl⟩ (ConvH.of (.cons r2 .nil))
 refine Jb rfl (cond_f g9_2 (RStep.of (load1_s r1 rfl rfl (cond_f g9_2 (neq_str (cond_f g9_2 ?_))))))
 refine cond_s (fun g14_2 => ?_) (fun g14_2 => ?_)
 replace hm := ift (or_u g9_2 g14_2) hm
 refine cond_t g14_2 (cond_t g14_2 (cond_t g14_2 (cond_go rfl (cond_T ?_))))
 obtain rfl := si hm
 refine EndStep.mk _ (Hp.Le.refl _) ⟨rfl, rfl⟩ (ConvH.of (.cons r2 .nil))
 replace hm := iff_ (or_f g9_2 g14_2) hm
 refine RStep.of (loadn_s r1 rfl (Nat.le_of_ble_eq_true rfl) (cond_f g14_2 ?_))
 obtain ⟨x16, q16, hm⟩ := bnd hm
 refine call_fn (Jce (n' := n') (nodes := 512) (depth := 32) q16 hp0_0) (.cons r0 .nil) ?_
 rintro _ K16 _ l16 ⟨rfl, rfl⟩
 refine cond_f g14_2 (un_not (cond_f g14_2 (cond_go rfl ?_)))
 refine cond_s (fun w18 => ?_) (fun w18 => ?_)
 replace hm := ift (not_t (ni_t w18)) hm
 obtain rfl := si hm
 refine EndStep.mk _ l16 ⟨rfl, rfl⟩ (ConvH.of (.cons r2 .nil))
 replace hm := iff_ (not_f (ni_f w18)) hm
 refine Jb rfl (RStep.of (load1_s r1 rfl rfl (RStep.of (len_slice rfl ?_))))
 obtain ⟨hk0, hm⟩ := chkb hm
 obtain ⟨s0, hl0, hm⟩ := bnd hm
 refine code_cut (σ := (Unit)) [2, 5, 22, 23, 24, 25, 26, 27, 28, 29] (fun t0 => []) (fun t0 => [Cells b3 3 [.int .i64 x16.2], Cells b1 34 [.int .i64 n'.Kind, str n'.Text, .slice ap0_0 n'.Kids.length cp0_0, .int .i64 n'.Line], F]) (fun zz K1 => match zz with | t0 => s0 = Fl.go t0) ?_ ?_
 refine block_go rfl ?_
 refine loop_rule (σ := Nat) [2, 5, 22, 23, 24, 25, 26, 27, 28, 29] (fun i0 => [(22, .int .i64 (i0 : Int))]) (fun i0 => [Cells b3 3 [.int .i64 x16.2], Cells b1 34 [.int .i64 n'.Kind, str n'.Text, .slice ap0_0 n'.Kids.length cp0_0, .int .i64 n'.Line], F]) (fun zz K1 => match zz with | i0 => Jao n (n'.Kids.drop i0) i0 = some s0) (fun zz => n'.Kids.length - zz) (0) rfl ⟨rfl, trivial⟩ (ConvH.of (.cons r0 (.cons r0 (.cons r0 .nil)))) hl0 ?_
 clear hl0
 rintro i0 Kb0 lk0 hl0 j0
 conv at hl0 => whnf
 refine cond_go rfl ?_
 refine cond_s (fun w0 => ?_) (fun w0 => ?_)
 obtain ⟨e0, hx0, hd0⟩ := ltx w0
 rw [hd0, Jao.eq_2] at hl0
 refine block_go rfl ?_
 refine RStep.ofN (index_addr rfl rfl (hasR (LiC.mono Ja.R_ok (l16.trans lk0) hp0_0).rd hx0) (nn _) (lt_ofN hx0) ?_)
 obtain ⟨ss25, cc25, hr25, hc25, hR25⟩ := LiR.get (LiC.mono Ja.R_ok (l16.trans lk0) hp0_0).rd hx0
 obtain ⟨a25_0, c25_0, rfl, h25_0⟩ := Ja.out hR25
 refine RStep.of (load_rd_agg i0 _ hr25 rfl hc25 rfl ?_)
 refine alloc_rule rfl ?_
 intro b5
 refine store_rule r0 rfl ?_
 refine ⟨rfl, rfl, (Nat.le_of_ble_eq_true rfl), ?_⟩
 refine RStep.of (loadn_s r0 rfl (Nat.le_of_ble_eq_true rfl) ?_)
 obtain ⟨x27, q27, hl0⟩ := bnd hl0
 refine call_fn (Jcd (n' := e0) q27 h25_0 (hG1.mono (l16.trans lk0)) (hG2.mono (l16.trans lk0)) (hG3.mono (l16.trans lk0)) (hG4.mono (l16.trans lk0))) .nil ?_
 rintro _ K27 _ l27 ⟨rfl, rfl⟩
 refine un_not (cond_go rfl ?_)
 refine cond_s (fun w28 => ?_) (fun w28 => ?_)
 replace hl0 := ift (not_t (ni_t w28)) hl0
 obtain rfl := si hl0
 replace hm := elr hm
 obtain rfl := si hm
 refine EndStep.mk _ ((l16.trans lk0).trans l27) ⟨rfl, rfl⟩ (ConvH.of (.cons r3 .nil))
 replace hl0 := iff_ (not_f (ni_f w28)) hl0
 refine int_in (cntz hx0 hk0) ?_
 refine RoundStep.mk (i0 + 1) ⟨rfl, trivial⟩ (by repeat (first | exact trivial | refine And.intro rfl ?_)) (ConvH.of (.cons r1 (.cons r1 (.cons r1 .nil)))) (lk0.trans l27) (ltm hx0) hl0
 rw [lty w0, Jao.eq_1] at hl0
 refine cond_T ?_
 refine MeetStep.mk (()) trivial (by repeat (first | exact trivial | refine And.intro rfl ?_)) (ConvH.of (.cons r0 (.cons r0 (.cons r0 .nil)))) lk0 (si hl0).symm
 rintro t0 Kt0 lt0 rfl j0
 replace hm := elg hm
 obtain rfl := si hm
 refine EndStep.mk _ (l16.trans lt0) ⟨rfl, rfl⟩ (ConvH.of (.cons r2 .nil))

noncomputable def Ja6 (name : Str) : Option (Bool) :=
  some (((decide (name = ([109, 101, 116, 104, 111, 100] : Str)) || decide (name = ([104, 111, 115, 116] : Str))) || decide (name = ([112, 97, 116, 104] : Str))) || decide (name = ([113, 117, 101, 114, 121] : Str)))
set_option maxHeartbeats 8000000 in
theorem JbX {name : Str} {K : Hp} {r : Bool}
    (hm : Ja6 name = some r)  :
    Fn Tryz.prog 107 [str name] K [] (fun v K' H' => v = .bool r ∧ H' = []) := by
 refine Fn.enter Tryz.func107 Tryz.call107 rfl fun F => ?_
 unfold Ja6 at hm
 refine eq_str ?_
 refine cond_s (fun g5_1 => ?_) (fun g5_1 => ?_)
 refine cond_t g5_1 (cond_t g5_1 (cond_T (cond_T (cond_T (cond_T ?_)))))
 refine cond_T (cond_T ?_)
 obtain rfl := si hm
 refine EndStep.mk _ (Hp.Le.refl _) ⟨(by rw [← ((or_t (or_t (or_t g5_1)))).symm] <;> rfl), rfl⟩ (ConvH.of (.cons r0 .nil))
 refine cond_f g5_1 (eq_str (cond_f g5_1 ?_))
 refine cond_s (fun g9_1 => ?_) (fun g9_1 => ?_)
 refine cond_t g9_1 (cond_t g9_1 (cond_T (cond_T (cond_T ?_))))
 obtain rfl := si hm
 refine EndStep.mk _ (Hp.Le.refl _) ⟨(by rw [← ((or_t (or_t (or_u g5_1 g9_1)))).symm] <;> rfl), rfl⟩ (ConvH.of (.cons r0 .nil))
 refine cond_f g9_1 (eq_str (cond_f g9_1 ?_))
 refine cond_s (fun g13_1 => ?_) (fun g13_1 => ?_)
 refine cond_t g13_1 (cond_t g13_1 ?_)
 obtain rfl := si hm
 refine EndStep.mk _ (Hp.Le.refl _) ⟨(by rw [← ((or_t (or_u (or_f g5_1 g9_1) g13_1))).symm] <;> rfl), rfl⟩ (ConvH.of (.cons r0 .nil))
 refine cond_f g13_1 (eq_str (cond_f g13_1 ?_))
 obtain rfl := si hm
 refine EndStep.mk _ (Hp.Le.refl _) ⟨(by rw [← (or_e (b := decide (name = ([113, 117, 101, 114, 121] : Str))) (or_f (or_f g5_1 g9_1) g13_1))] <;> rfl), rfl⟩ (ConvH.of (.cons r0 .nil))

noncomputable def JZ (env : (List Jh)) (name : Str) : Nat → Int → Option (Fl (Int) (Int))
  | 0, _ => none
  | xs0 + 1, y0_0 =>
    if decide (y0_0 ≥ 0) then
    (ix env y0_0).bind fun x15 =>
    if decide (x15.Name = name) then
    (ix env y0_0).bind fun x22 =>
    some (Fl.ret x22.TypeZ)
    else
    (chk (InI (y0_0 - 1))).bind fun _ =>
    JZ env name xs0 (y0_0 - 1)
    else
    some (Fl.go y0_0)
noncomputable def Jah (n : Nat) (name : Str) (env : (List Jh)) : Option (Int) :=
  (chk (InI ((env.length : Int) - 1))).bind fun _ =>
  (JZ env name n ((env.length : Int) - 1)).bind fun s0 => s0.el some fun t0 =>
  (Ja6 name).bind fun x26 =>
  if x26 then
  some 1
  else
  some 0
set_option maxHeartbeats 8000000 in
theorem Jbj {n : Nat} {name : Str} {env : (List Jh)} {ap1_0 : Option Addr} {cp1_0 : Nat} {n1 : Nat} {K : Hp} {r : Int}
    (hm : Jah n name env = some r) (hp1_0 : RdC Jh.enc K ap1_0 cp1_0 2 env) (en1 : n1 = env.length) :
    Fn Tryz.prog 89 [str name, .slice ap1_0 n1 cp1_0] K [] (fun v K' H' => v = .int .i64 r ∧ H' = []) := by
 subst en1
 refine Fn.enter Tryz.func89 Tryz.call89 rfl fun F => ?_
 unfold Jah at hm
 refine RStep.of (len_slice rfl ?_)
 obtain ⟨h8, hm⟩ := chkb hm
 refine int_in h8 ?_
 obtain ⟨s0, hl0, hm⟩ := bnd hm
 refine code_cut (σ := (Int)) [4, 5, 9, 10, 11, 12, 13, 14, 15, 16, 17, 18, 19, 20, 21, 22, 23, 24] (fun t0 => [(5, .int .i64 t0)]) (fun t0 => [F]) (fun zz K1 => match zz with | t0 => s0 = Fl.go t0) ?_ ?_
 refine block_go rfl ?_
 refine loop_rule (σ := Nat × Int) [4, 5, 9, 10, 11, 12, 13, 14, 15, 16, 17, 18, 19, 20, 21, 22, 23, 24] (fun (i0, y0_0) => [(5, .int .i64 y0_0)]) (fun (i0, y0_0) => [F]) (fun zz K1 => match zz with | (i0, y0_0) => JZ env name i0 y0_0 = some s0) (fun zz => zz.1) (n, ((env.length : Int) - 1)) rfl ⟨rfl, trivial⟩ (ConvH.of (.cons r0 .nil)) hl0 ?_
 clear hl0
 rintro ⟨i0, y0_0⟩ Kb0 lk0 hl0 j0
 conv at hl0 => whnf
 cases i0 with
 | zero => rw [JZ.eq_1] at hl0; cases hl0
 | succ i0 =>
  rw [JZ.eq_2] at hl0
  refine cond_go rfl ?_
  refine cond_s (fun w10 => ?_) (fun w10 => ?_)
  replace hl0 := ift w10 hl0
  refine block_go rfl ?_
  obtain ⟨x15, l15, k15, hl0⟩ := ixb hl0
  refine RStep.ofN (index_addr rfl rfl (hasK (hp1_0.mono lk0).rd k15) l15 (lt_ofE rfl l15 k15) (eptr_field rfl (hasK (hp1_0.mono lk0).rd k15) (RStep.of (load_rd ((y0_0).toNat) 0 _ _ (hp1_0.mono lk0).rd rfl (mp k15) rfl rfl (eq_str (cond_go rfl ?_))))))
  refine cond_s (fun w19 => ?_) (fun w19 => ?_)
  replace hl0 := ift w19 hl0
  obtain ⟨x22, l22, k22, hl0⟩ := ixb hl0
  refine RStep.ofN (index_addr rfl rfl (hasK (hp1_0.mono lk0).rd k22) l22 (lt_ofE rfl l22 k22) (eptr_field rfl (hasK (hp1_0.mono lk0).rd k22) (RStep.of (load_rd ((y0_0).toNat) 1 _ _ (hp1_0.mono lk0).rd rfl (mp k22) rfl rfl ?_))))
  obtain rfl := si hl0
  replace hm := elr hm
  obtain rfl := si hm
  refine EndStep.mk _ lk0 ⟨rfl, rfl⟩ (ConvH.of (.cons r0 .nil))
  replace hl0 := iff_ w19 hl0
  obtain ⟨h12, hl0⟩ := chkb hl0
  refine int_in h12 ?_
  refine RoundStep.mk (i0, (y0_0 - 1)) ⟨rfl, trivial⟩ (by repeat (first | exact trivial | refine And.intro rfl ?_)) (ConvH.of (.cons r0 .nil)) lk0 (Nat.lt_succ_self _) hl0
  replace hl0 := iff_ w10 hl0
  refine cond_T ?_
  refine MeetStep.mk (y0_0) ⟨rfl, trivial⟩ (by repeat (first | exact trivial | refine And.intro rfl ?_)) (ConvH.of (.cons r0 .nil)) lk0 (si hl0).symm
 rintro t0 Kt0 lt0 rfl j0
 replace hm := elg hm
 obtain ⟨x26, q26, hm⟩ := bnd hm
 refine call_fn (JbX (name := name) q26) .nil ?_
 rintro _ K26 _ l26 ⟨rfl, rfl⟩
 refine cond_go rfl ?_
 refine cond_s (fun w26 => ?_) (fun w26 => ?_)
 replace hm := ift w26 hm
 obtain rfl := si hm
 refine EndStep.mk _ (lt0.trans l26) ⟨rfl, rfl⟩ (ConvH.of (.cons r0 .nil))
 replace hm := iff_ w26 hm
 obtain rfl := si hm
 refine EndStep.mk _ (lt0.trans l26) ⟨rfl, rfl⟩ (ConvH.of (.cons r0 .nil))

noncomputable def JA (c : Ji) (n' : Ja) (err : Err) : Option (Ji) :=
  if c.err.isNone then
  some (⟨n'.Line, err⟩ : Ji)
  else
  some c
set_option maxHeartbeats 8000000 in
theorem JF {c : Ji} {n' : Ja} {err : Err} {b0 : Nat} {ap1_0 : Option Addr} {cp1_0 : Nat} {K : Hp} {r : Ji}
    (hm : JA c n' err = some r) (hp1_0 : LiC Ja.R K ap1_0 cp1_0 4 n'.Kids) :
    Fn Tryz.prog 58 [.pointer (some ⟨b0, 0, none⟩), .agg #[.int .i64 n'.Kind, str n'.Text, .slice ap1_0 n'.Kids.length cp1_0, .int .i64 n'.Line], errV 44 err] K [Cells b0 78 [.int .i64 c.line, errV 44 c.err]] (fun v K' H' => v = .tuple #[] ∧ H' = [Cells b0 78 [.int .i64 r.line, errV 44 r.err]]) := by
 refine Fn.enter Tryz.func58 Tryz.call58 rfl fun F => ?_
 unfold JA at hm
 refine box_rule ?_
 intro b4
 refine nil_check (Jb rfl (RStep.of (load1_s r1 rfl rfl (eq_err rfl (cond_go rfl ?_)))))
 refine cond_s (fun w10 => ?_) (fun w10 => ?_)
 replace hm := ift w10 hm
 refine Jb rfl (RStep.of (load1_s r0 rfl rfl (nil_check (Jb rfl ?_))))
 refine store_rule r1 rfl ?_
 refine ⟨rfl, rfl, (Nat.le_of_ble_eq_true rfl), ?_⟩
 refine nil_check (Jb rfl ?_)
 refine store_err r0 rfl rfl ?_
 obtain rfl := si hm
 refine EndStep.mk _ (Hp.Le.refl _) ⟨rfl, rfl⟩ (ConvH.of (.cons r0 (.cons r1 .nil)))
 replace hm := iff_ w10 hm
 obtain rfl := si hm
 refine EndStep.mk _ (Hp.Le.refl _) ⟨rfl, rfl⟩ (ConvH.of (.cons r1 (.cons r1 .nil)))

noncomputable def J4 (name : Str) : Option (Int × Int) :=
  if decide (name = ([104, 101, 97, 100, 101, 114] : Str)) then
  some (1, 1)
  else
  if decide (name = ([97, 114, 103] : Str)) then
  some (1, 1)
  else
  if decide (name = ([108, 111, 119, 101, 114] : Str)) then
  some (1, 1)
  else
  if decide (name = ([104, 97, 115] : Str)) then
  some (1, 3)
  else
  if decide (name = ([108, 101, 110] : Str)) then
  some (1, 2)
  else
  if decide (name = ([110, 117, 109, 98, 101, 114] : Str)) then
  some (1, 2)
  else
  if decide (name = ([112, 97, 114, 116] : Str)) then
  some (2, 1)
  else
  if decide (name = ([116, 101, 120, 116] : Str)) then
  some (2, 1)
  else
  some (0, 0)
set_option maxHeartbeats 8000000 in
theorem Jb9 {name : Str} {K : Hp} {r : Int × Int}
    (hm : J4 name = some r)  :
    Fn Tryz.prog 108 [str name] K [] (fun v K' H' => v = .tuple #[.int .i64 r.1, .int .i64 r.2] ∧ H' = []) := by
 refine Fn.enter Tryz.func108 Tryz.call108 rfl fun F => ?_
 unfold J4 at hm
 refine block_go rfl ?_
 refine eq_str (cond_go rfl ?_)
 refine cond_s (fun w5 => ?_) (fun w5 => ?_)
 replace hm := ift w5 hm
 refine cond_go rfl (cond_t w5 ?_)
 obtain rfl := si hm
 refine EndStep.mk _ (Hp.Le.refl _) ⟨rfl, rfl⟩ (ConvH.of (.cons r0 .nil))
 replace hm := iff_ w5 hm
 refine eq_str (cond_go rfl ?_)
 refine cond_s (fun w5 => ?_) (fun w5 => ?_)
 replace hm := ift w5 hm
 refine cond_go rfl (cond_t w5 ?_)
 obtain rfl := si hm
 refine EndStep.mk _ (Hp.Le.refl _) ⟨rfl, rfl⟩ (ConvH.of (.cons r0 .nil))
 replace hm := iff_ w5 hm
 refine eq_str (cond_go rfl ?_)
 refine cond_s (fun w5 => ?_) (fun w5 => ?_)
 replace hm := ift w5 hm
 obtain rfl := si hm
 refine EndStep.mk _ (Hp.Le.refl _) ⟨rfl, rfl⟩ (ConvH.of (.cons r0 .nil))
 replace hm := iff_ w5 hm
 refine eq_str (cond_go rfl ?_)
 refine cond_s (fun w9 => ?_) (fun w9 => ?_)
 replace hm := ift w9 hm
 obtain rfl := si hm
 refine EndStep.mk _ (Hp.Le.refl _) ⟨rfl, rfl⟩ (ConvH.of (.cons r0 .nil))
 replace hm := iff_ w9 hm
 refine eq_str (cond_go rfl ?_)
 refine cond_s (fun w11 => ?_) (fun w11 => ?_)
 replace hm := ift w11 hm
 refine cond_go rfl (cond_t w11 ?_)
 obtain rfl := si hm
 refine EndStep.mk _ (Hp.Le.refl _) ⟨rfl, rfl⟩ (ConvH.of (.cons r0 .nil))
 replace hm := iff_ w11 hm
 refine eq_str (cond_go rfl ?_)
 refine cond_s (fun w11 => ?_) (fun w11 => ?_)
 replace hm := ift w11 hm
 obtain rfl := si hm
 refine EndStep.mk _ (Hp.Le.refl _) ⟨rfl, rfl⟩ (ConvH.of (.cons r0 .nil))
 replace hm := iff_ w11 hm
 refine eq_str (cond_go rfl ?_)
 refine cond_s (fun w14 => ?_) (fun w14 => ?_)
 replace hm := ift w14 hm
 refine cond_go rfl (cond_t w14 ?_)
 obtain rfl := si hm
 refine EndStep.mk _ (Hp.Le.refl _) ⟨rfl, rfl⟩ (ConvH.of (.cons r0 .nil))
 replace hm := iff_ w14 hm
 refine eq_str (cond_go rfl ?_)
 refine cond_s (fun w14 => ?_) (fun w14 => ?_)
 replace hm := ift w14 hm
 obtain rfl := si hm
 refine EndStep.mk _ (Hp.Le.refl _) ⟨rfl, rfl⟩ (ConvH.of (.cons r0 .nil))
 replace hm := iff_ w14 hm
 obtain rfl := si hm
 refine EndStep.mk _ (Hp.Le.refl _) ⟨rfl, rfl⟩ (ConvH.of (.cons r0 .nil))

noncomputable def JM (c : Ji) (n' : Ja) (args : (List Int)) : Option (Int × Ji) :=
  (J4 n'.Text).bind fun x12 =>
  if decide (x12.2 = 0) then
  (JA c n' (some 8)).bind fun x20 =>
  some (x12.2, x20)
  else
  (if decide ((args.length : Int) ≠ 1) then some true else (ix args 0).bind fun x26 =>
  some (decide (x26 ≠ x12.1))).bind fun x30 =>
  if x30 then
  (JA c n' (some 9)).bind fun x34 =>
  some (x12.2, x34)
  else
  some (x12.2, c)
set_option maxHeartbeats 8000000 in
theorem Jbe {c : Ji} {n' : Ja} {args : (List Int)} {b0 : Nat} {ap1_0 : Option Addr} {cp1_0 : Nat} {ap2_0 : Option Addr} {cp2_0 : Nat} {n2 : Nat} {K : Hp} {r : Int × Ji}
    (hm : JM c n' args = some r) (hp1_0 : LiC Ja.R K ap1_0 cp1_0 4 n'.Kids) (hp2_0 : RdC eN K ap2_0 cp2_0 1 args) (en2 : n2 = args.length) :
    Fn Tryz.prog 90 [.pointer (some ⟨b0, 0, none⟩), .agg #[.int .i64 n'.Kind, str n'.Text, .slice ap1_0 n'.Kids.length cp1_0, .int .i64 n'.Line], .slice ap2_0 n2 cp2_0] K [Cells b0 78 [.int .i64 c.line, errV 44 c.err]] (fun v K' H' => v = .int .i64 r.1 ∧ H' = [Cells b0 78 [.int .i64 r.2.line, errV 44 r.2.err]]) := by
 subst en2
 refine Fn.enter Tryz.func90 Tryz.call90 rfl fun F => ?_
 unfold JM at hm
 refine box_rule ?_
 intro b4
 refine Jb rfl (RStep.of (load1_s r0 rfl rfl ?_))
 obtain ⟨x12, q12, hm⟩ := bnd hm
 refine call_fn (Jb9 (name := n'.Text) q12) .nil ?_
 rintro _ K12 _ l12 ⟨rfl, rfl⟩
 refine eq_int (cond_go rfl ?_)
 refine cond_s (fun w16 => ?_) (fun w16 => ?_)
 replace hm := ift w16 hm
 refine RStep.of (loadn_s r0 rfl (Nat.le_of_ble_eq_true rfl) ?_)
 refine mk_iface rfl ?_
 obtain ⟨x20, q20, hm⟩ := bnd hm
 refine call_fn (JF (c := c) (n' := n') (err := (some 8)) q20 (LiC.mono Ja.R_ok l12 hp1_0)) (.cons r1 .nil) ?_
 rintro _ K20 _ l20 ⟨rfl, rfl⟩
 obtain rfl := si hm
 refine EndStep.mk _ (l12.trans l20) ⟨rfl, rfl⟩ (ConvH.of (.cons r0 (.cons r1 .nil)))
 replace hm := iff_ w16 hm
 refine RStep.of (len_slice rfl (neq_int ?_))
 obtain ⟨x30, e30, hm⟩ := bnd hm
 refine cond_s (fun g24_4 => ?_) (fun g24_4 => ?_)
 replace e30 := ift g24_4 e30
 refine cond_t g24_4 (cond_t g24_4 (cond_t g24_4 (cond_t g24_4 (cond_t g24_4 (cond_go rfl ?_)))))
 refine cond_T ?_
 replace hm := ift (si e30).symm hm
 refine RStep.of (loadn_s r0 rfl (Nat.le_of_ble_eq_true rfl) ?_)
 refine mk_iface rfl ?_
 obtain ⟨x34, q34, hm⟩ := bnd hm
 refine call_fn (JF (c := c) (n' := n') (err := (some 9)) q34 (LiC.mono Ja.R_ok l12 hp1_0)) (.cons r1 .nil) ?_
 rintro _ K34 _ l34 ⟨rfl, rfl⟩
 obtain rfl := si hm
 refine EndStep.mk _ (l12.trans l34) ⟨rfl, rfl⟩ (ConvH.of (.cons r0 (.cons r1 .nil)))
 replace e30 := iff_ g24_4 e30
 refine cond_f g24_4 ?_
 obtain ⟨x26, l26, k26, e30⟩ := ixb e30
 refine RStep.ofN (index_addr rfl rfl (hasK (hp2_0.mono l12).rd k26) l26 (lt_ofE rfl l26 k26) (cond_f g24_4 (RStep.of (load_rd ((0 : Int).toNat) 0 _ _ (hp2_0.mono l12).rd rfl (mp k26) rfl rfl (cond_f g24_4 (cond_f g24_4 (neq_int ?_)))))))
 refine cond_f g24_4 (cond_go rfl ?_)
 refine cond_s (fun w30 => ?_) (fun w30 => ?_)
 replace hm := ift ((si e30).symm.trans w30) hm
 refine RStep.of (loadn_s r0 rfl (Nat.le_of_ble_eq_true rfl) ?_)
 refine mk_iface rfl ?_
 obtain ⟨x34, q34, hm⟩ := bnd hm
 refine call_fn (JF (c := c) (n' := n') (err := (some 9)) q34 (LiC.mono Ja.R_ok l12 hp1_0)) (.cons r1 .nil) ?_
 rintro _ K34 _ l34 ⟨rfl, rfl⟩
 obtain rfl := si hm
 refine EndStep.mk _ (l12.trans l34) ⟨rfl, rfl⟩ (ConvH.of (.cons r0 (.cons r1 .nil)))
 replace hm := iff_ ((si e30).symm.trans w30) hm
 obtain rfl := si hm
 refine EndStep.mk _ l12 ⟨rfl, rfl⟩ (ConvH.of (.cons r1 (.cons r1 .nil)))

noncomputable def J0 (t : Int) : List Int → Nat → Option (Fl (Bool) (Unit))
  | [], _ => some (Fl.go ())
  | e0 :: xs0, i0 =>
    if decide (e0 ≠ t) then
    some (Fl.ret false)
    else
    J0 t xs0 (i0 + 1)
noncomputable def JB (t : Int) (p1' : (List Int)) : Option (Bool) :=
  (chk (p1'.length ≤ szMax)).bind fun _ =>
  (J0 t p1' 0).bind fun s0 => s0.el some fun t0 =>
  some true
set_option maxHeartbeats 8000000 in
theorem JK {t : Int} {p1' : (List Int)} {b1 : Nat} {ap1_0 : Option Addr} {cp1_0 : Nat} {K : Hp} {r : Bool}
    (hm : JB t p1' = some r) (hp1_0 : RdC eN K ap1_0 cp1_0 1 p1') :
    Fn Tryz.prog 109 [.int .i64 t, .pointer (some ⟨b1, 0, none⟩)] K [Cells b1 81 [.slice ap1_0 p1'.length cp1_0]] (fun v K' H' => v = .bool r ∧ H' = [Cells b1 81 [.slice ap1_0 p1'.length cp1_0]]) := by
 refine Fn.enter Tryz.func109 Tryz.call109 rfl fun F => ?_
 unfold JB at hm
 refine RStep.of (load1_s r0 rfl rfl (RStep.of (len_slice rfl ?_)))
 obtain ⟨hk0, hm⟩ := chkb hm
 obtain ⟨s0, hl0, hm⟩ := bnd hm
 refine code_cut (σ := (Unit)) [3, 5, 8, 9, 10, 11, 12, 13, 14, 15] (fun t0 => []) (fun t0 => [Cells b1 81 [.slice ap1_0 p1'.length cp1_0], F]) (fun zz K1 => match zz with | t0 => s0 = Fl.go t0) ?_ ?_
 refine block_go rfl ?_
 refine loop_rule (σ := Nat) [3, 5, 8, 9, 10, 11, 12, 13, 14, 15] (fun i0 => [(8, .int .i64 (i0 : Int))]) (fun i0 => [Cells b1 81 [.slice ap1_0 p1'.length cp1_0], F]) (fun zz K1 => match zz with | i0 => J0 t (p1'.drop i0) i0 = some s0) (fun zz => p1'.length - zz) (0) rfl ⟨rfl, trivial⟩ (ConvH.of (.cons r0 (.cons r0 .nil))) hl0 ?_
 clear hl0
 rintro i0 Kb0 lk0 hl0 j0
 conv at hl0 => whnf
 refine cond_go rfl ?_
 refine cond_s (fun w0 => ?_) (fun w0 => ?_)
 obtain ⟨e0, hx0, hd0⟩ := ltx w0
 rw [hd0, J0.eq_2] at hl0
 refine block_go rfl ?_
 refine RStep.ofN (index_addr rfl rfl (hasK (hp1_0.mono lk0).rd hx0) (nn _) (lt_ofN hx0) (RStep.of (load_rd i0 0 _ _ (hp1_0.mono lk0).rd rfl (mp hx0) rfl rfl (neq_int (cond_go rfl ?_)))))
 refine cond_s (fun w14 => ?_) (fun w14 => ?_)
 replace hl0 := ift w14 hl0
 obtain rfl := si hl0
 replace hm := elr hm
 obtain rfl := si hm
 refine EndStep.mk _ lk0 ⟨rfl, rfl⟩ (ConvH.of (.cons r0 (.cons r0 .nil)))
 replace hl0 := iff_ w14 hl0
 refine int_in (cntz hx0 hk0) ?_
 refine RoundStep.mk (i0 + 1) ⟨rfl, trivial⟩ (by repeat (first | exact trivial | refine And.intro rfl ?_)) (ConvH.of (.cons r0 (.cons r0 .nil))) lk0 (ltm hx0) hl0
 rw [lty w0, J0.eq_1] at hl0
 refine cond_T ?_
 refine MeetStep.mk (()) trivial (by repeat (first | exact trivial | refine And.intro rfl ?_)) (ConvH.of (.cons r0 (.cons r0 .nil))) lk0 (si hl0).symm
 rintro t0 Kt0 lt0 rfl j0
 replace hm := elg hm
 obtain rfl := si hm
 refine EndStep.mk _ lt0 ⟨rfl, rfl⟩ (ConvH.of (.cons r0 (.cons r0 .nil)))

noncomputable def JH (n' : Ja) (args : (List Int)) : Option (Int) :=
  if decide (n'.Kind = 17) then
  (JB 1 args).bind fun x12 =>
  if x12 then
  some 1
  else
  (JB 2 args).bind fun x14 =>
  if x14 then
  some 2
  else
  some 0
  else
  if decide (n'.Kind = 18) then
  (JB 2 args).bind fun x19 =>
  if x19 then
  some 2
  else
  some 0
  else
  if decide (n'.Kind = 19) then
  (JB 2 args).bind fun x19 =>
  if x19 then
  some 2
  else
  some 0
  else
  if decide (n'.Kind = 13) then
  (JB 3 args).bind fun x25 =>
  if x25 then
  some 3
  else
  some 0
  else
  if decide (n'.Kind = 14) then
  (JB 3 args).bind fun x25 =>
  if x25 then
  some 3
  else
  some 0
  else
  if decide (n'.Kind = 15) then
  (JB 3 args).bind fun x25 =>
  if x25 then
  some 3
  else
  some 0
  else
  if decide (n'.Kind = 16) then
  if decide (n'.Text = ([61, 61] : Str)) then
  (ix args 0).bind fun x36 =>
  (ix args 1).bind fun x39 =>
  if decide (x36 = x39) then
  some 3
  else
  some 0
  else
  if decide (n'.Text = ([33, 61] : Str)) then
  (ix args 0).bind fun x36 =>
  (ix args 1).bind fun x39 =>
  if decide (x36 = x39) then
  some 3
  else
  some 0
  else
  if decide (n'.Text = ([60] : Str)) then
  (JB 2 args).bind fun x46 =>
  if x46 then
  some 3
  else
  some 0
  else
  if decide (n'.Text = ([60, 61] : Str)) then
  (JB 2 args).bind fun x46 =>
  if x46 then
  some 3
  else
  some 0
  else
  (JB 1 args).bind fun x31 =>
  if x31 then
  some 3
  else
  some 0
  else
  some 0
set_option maxHeartbeats 8000000 in
theorem Jbw {n' : Ja} {args : (List Int)} {ap0_0 : Option Addr} {cp0_0 : Nat} {ap1_0 : Option Addr} {cp1_0 : Nat} {n1 : Nat} {K : Hp} {r : Int}
    (hm : JH n' args = some r) (hp0_0 : LiC Ja.R K ap0_0 cp0_0 4 n'.Kids) (hp1_0 : RdC eN K ap1_0 cp1_0 1 args) (en1 : n1 = args.length) :
    Fn Tryz.prog 91 [.agg #[.int .i64 n'.Kind, str n'.Text, .slice ap0_0 n'.Kids.length cp0_0, .int .i64 n'.Line], .slice ap1_0 n1 cp1_0] K [] (fun v K' H' => v = .int .i64 r ∧ H' = []) := by
 subst en1
 refine Fn.enter Tryz.func91 Tryz.call91 rfl fun F => ?_
 unfold JH at hm
 refine box_rule ?_
 intro b2
 refine box_rule ?_
 intro b3
 refine mkFunc ?_
 refine Jb rfl (RStep.of (load1_s r1 rfl rfl ?_))
 refine block_go rfl ?_
 refine eq_int (cond_go rfl ?_)
 refine cond_s (fun w9 => ?_) (fun w9 => ?_)
 replace hm := ift w9 hm
 obtain ⟨x12, q12, hm⟩ := bnd hm
 refine call_fn (JK (t := 1) (p1' := args) q12 hp1_0) (.cons r0 .nil) ?_
 rintro _ K12 _ l12 ⟨rfl, rfl⟩
 refine cond_go rfl ?_
 refine cond_s (fun w12 => ?_) (fun w12 => ?_)
 replace hm := ift w12 hm
 obtain rfl := si hm
 refine EndStep.mk _ l12 ⟨rfl, rfl⟩ (ConvH.of (.cons r2 .nil))
 replace hm := iff_ w12 hm
 obtain ⟨x14, q14, hm⟩ := bnd hm
 refine call_fn (JK (t := 2) (p1' := args) q14 (hp1_0.mono l12)) (.cons r0 .nil) ?_
 rintro _ K14 _ l14 ⟨rfl, rfl⟩
 refine cond_go rfl ?_
 refine cond_s (fun w14 => ?_) (fun w14 => ?_)
 replace hm := ift w14 hm
 obtain rfl := si hm
 refine EndStep.mk _ (l12.trans l14) ⟨rfl, rfl⟩ (ConvH.of (.cons r2 .nil))
 replace hm := iff_ w14 hm
 obtain rfl := si hm
 refine EndStep.mk _ (l12.trans l14) ⟨rfl, rfl⟩ (ConvH.of (.cons r2 .nil))
 replace hm := iff_ w9 hm
 refine eq_int (cond_go rfl ?_)
 refine cond_s (fun w15 => ?_) (fun w15 => ?_)
 replace hm := ift w15 hm
 refine cond_go rfl (cond_t w15 ?_)
 obtain ⟨x19, q19, hm⟩ := bnd hm
 refine call_fn (JK (t := 2) (p1' := args) q19 hp1_0) (.cons r0 .nil) ?_
 rintro _ K19 _ l19 ⟨rfl, rfl⟩
 refine cond_go rfl ?_
 refine cond_s (fun w19 => ?_) (fun w19 => ?_)
 replace hm := ift w19 hm
 obtain rfl := si hm
 refine EndStep.mk _ l19 ⟨rfl, rfl⟩ (ConvH.of (.cons r2 .nil))
 replace hm := iff_ w19 hm
 obtain rfl := si hm
 refine EndStep.mk _ l19 ⟨rfl, rfl⟩ (ConvH.of (.cons r2 .nil))
 replace hm := iff_ w15 hm
 refine eq_int (cond_go rfl ?_)
 refine cond_s (fun w15 => ?_) (fun w15 => ?_)
 replace hm := ift w15 hm
 obtain ⟨x19, q19, hm⟩ := bnd hm
 refine call_fn (JK (t := 2) (p1' := args) q19 hp1_0) (.cons r0 .nil) ?_
 rintro _ K19 _ l19 ⟨rfl, rfl⟩
 refine cond_go rfl ?_
 refine cond_s (fun w19 => ?_) (fun w19 => ?_)
 replace hm := ift w19 hm
 obtain rfl := si hm
 refine EndStep.mk _ l19 ⟨rfl, rfl⟩ (ConvH.of (.cons r2 .nil))
 replace hm := iff_ w19 hm
 obtain rfl := si hm
 refine EndStep.mk _ l19 ⟨rfl, rfl⟩ (ConvH.of (.cons r2 .nil))
 replace hm := iff_ w15 hm
 refine eq_int (cond_go rfl ?_)
 refine cond_s (fun w20 => ?_) (fun w20 => ?_)
 replace hm := ift w20 hm
 refine cond_go rfl (cond_t w20 ?_)
 obtain ⟨x25, q25, hm⟩ := bnd hm
 refine call_fn (JK (t := 3) (p1' := args) q25 hp1_0) (.cons r0 .nil) ?_
 rintro _ K25 _ l25 ⟨rfl, rfl⟩
 refine cond_go rfl ?_
 refine cond_s (fun w25 => ?_) (fun w25 => ?_)
 replace hm := ift w25 hm
 obtain rfl := si hm
 refine EndStep.mk _ l25 ⟨rfl, rfl⟩ (ConvH.of (.cons r2 .nil))
 replace hm := iff_ w25 hm
 obtain rfl := si hm
 refine EndStep.mk _ l25 ⟨rfl, rfl⟩ (ConvH.of (.cons r2 .nil))
 replace hm := iff_ w20 hm
 refine eq_int (cond_go rfl ?_)
 refine cond_s (fun w20 => ?_) (fun w20 => ?_)
 replace hm := ift w20 hm
 refine cond_go rfl (cond_t w20 ?_)
 obtain ⟨x25, q25, hm⟩ := bnd hm
 refine call_fn (JK (t := 3) (p1' := args) q25 hp1_0) (.cons r0 .nil) ?_
 rintro _ K25 _ l25 ⟨rfl, rfl⟩
 refine cond_go rfl ?_
 refine cond_s (fun w25 => ?_) (fun w25 => ?_)
 replace hm := ift w25 hm
 obtain rfl := si hm
 refine EndStep.mk _ l25 ⟨rfl, rfl⟩ (ConvH.of (.cons r2 .nil))
 replace hm := iff_ w25 hm
 obtain rfl := si hm
 refine EndStep.mk _ l25 ⟨rfl, rfl⟩ (ConvH.of (.cons r2 .nil))
 replace hm := iff_ w20 hm
 refine eq_int (cond_go rfl ?_)
 refine cond_s (fun w20 => ?_) (fun w20 => ?_)
 replace hm := ift w20 hm
 obtain ⟨x25, q25, hm⟩ := bnd hm
 refine call_fn (JK (t := 3) (p1' := args) q25 hp1_0) (.cons r0 .nil) ?_
 rintro _ K25 _ l25 ⟨rfl, rfl⟩
 refine cond_go rfl ?_
 refine cond_s (fun w25 => ?_) (fun w25 => ?_)
 replace hm := ift w25 hm
 obtain rfl := si hm
 refine EndStep.mk _ l25 ⟨rfl, rfl⟩ (ConvH.of (.cons r2 .nil))
 replace hm := iff_ w25 hm
 obtain rfl := si hm
 refine EndStep.mk _ l25 ⟨rfl, rfl⟩ (ConvH.of (.cons r2 .nil))
 replace hm := iff_ w20 hm
 refine eq_int (cond_go rfl ?_)
 refine cond_s (fun w26 => ?_) (fun w26 => ?_)
 replace hm := ift w26 hm
 refine Jb rfl (RStep.of (load1_s r1 rfl rfl ?_))
 refine block_go rfl ?_
 refine eq_str (cond_go rfl ?_)
 refine cond_s (fun w32 => ?_) (fun w32 => ?_)
 replace hm := ift w32 hm
 refine cond_go rfl (cond_t w32 ?_)
 refine draw_go ⟨⟨[], false⟩, _, [(_, _)]⟩ (by kernel_rfl) ⟨Hp.Le.refl _, (ConvH.of (.cons r0 .nil))⟩ ?_
 refine load1_l m0 rfl rfl ?_
 obtain ⟨x36, l36, k36, hm⟩ := ixb hm
 refine index_addr rfl rfl (hasK hp1_0.rd k36) l36 (lt_ofE rfl l36 k36) (load_rd_l ((0 : Int).toNat) 0 _ _ hp1_0.rd rfl (mp k36) rfl rfl (load1_l m0 rfl rfl ?_))
 obtain ⟨x39, l39, k39, hm⟩ := ixb hm
 refine index_addr rfl rfl (hasK hp1_0.rd k39) l39 (lt_ofE rfl l39 k39) (load_rd_l ((1 : Int).toNat) 0 _ _ hp1_0.rd rfl (mp k39) rfl rfl (eq_int (cond_go rfl ?_)))
 refine cond_s (fun w41 => ?_) (fun w41 => ?_)
 replace hm := ift w41 hm
 obtain rfl := si hm
 refine EndStep.mk _ (Hp.Le.refl _) ⟨rfl, rfl⟩ (ConvH.of (.cons r2 .nil))
 replace hm := iff_ w41 hm
 obtain rfl := si hm
 refine EndStep.mk _ (Hp.Le.refl _) ⟨rfl, rfl⟩ (ConvH.of (.cons r2 .nil))
 replace hm := iff_ w32 hm
 refine eq_str (cond_go rfl ?_)
 refine cond_s (fun w32 => ?_) (fun w32 => ?_)
 replace hm := ift w32 hm
 refine draw_go ⟨⟨[], false⟩, _, [(_, _)]⟩ (by kernel_rfl) ⟨Hp.Le.refl _, (ConvH.of (.cons r0 .nil))⟩ ?_
 refine load1_l m0 rfl rfl ?_
 obtain ⟨x36, l36, k36, hm⟩ := ixb hm
 refine index_addr rfl rfl (hasK hp1_0.rd k36) l36 (lt_ofE rfl l36 k36) (load_rd_l ((0 : Int).toNat) 0 _ _ hp1_0.rd rfl (mp k36) rfl rfl (load1_l m0 rfl rfl ?_))
 obtain ⟨x39, l39, k39, hm⟩ := ixb hm
 refine index_addr rfl rfl (hasK hp1_0.rd k39) l39 (lt_ofE rfl l39 k39) (load_rd_l ((1 : Int).toNat) 0 _ _ hp1_0.rd rfl (mp k39) rfl rfl (eq_int (cond_go rfl ?_)))
 refine cond_s (fun w41 => ?_) (fun w41 => ?_)
 replace hm := ift w41 hm
 obtain rfl := si hm
 refine EndStep.mk _ (Hp.Le.refl _) ⟨rfl, rfl⟩ (ConvH.of (.cons r2 .nil))
 replace hm := iff_ w41 hm
 obtain rfl := si hm
 refine EndStep.mk _ (Hp.Le.refl _) ⟨rfl, rfl⟩ (ConvH.of (.cons r2 .nil))
 replace hm := iff_ w32 hm
 refine eq_str (cond_go rfl ?_)
 refine cond_s (fun w42 => ?_) (fun w42 => ?_)
 replace hm := ift w42 hm
 refine cond_go rfl (cond_t w42 ?_)
 obtain ⟨x46, q46, hm⟩ := bnd hm
 refine call_fn (JK (t := 2) (p1' := args) q46 hp1_0) (.cons r0 .nil) ?_
 rintro _ K46 _ l46 ⟨rfl, rfl⟩
 refine cond_go rfl ?_
 refine cond_s (fun w46 => ?_) (fun w46 => ?_)
 replace hm := ift w46 hm
 obtain rfl := si hm
 refine EndStep.mk _ l46 ⟨rfl, rfl⟩ (ConvH.of (.cons r2 .nil))
 replace hm := iff_ w46 hm
 obtain rfl := si hm
 refine EndStep.mk _ l46 ⟨rfl, rfl⟩ (ConvH.of (.cons r2 .nil))
 replace hm := iff_ w42 hm
 refine eq_str (cond_go rfl ?_)
 refine cond_s (fun w42 => ?_) (fun w42 => ?_)
 replace hm := ift w42 hm
 obtain ⟨x46, q46, hm⟩ := bnd hm
 refine call_fn (JK (t := 2) (p1' := args) q46 hp1_0) (.cons r0 .nil) ?_
 rintro _ K46 _ l46 ⟨rfl, rfl⟩
 refine cond_go rfl ?_
 refine cond_s (fun w46 => ?_) (fun w46 => ?_)
 replace hm := ift w46 hm
 obtain rfl := si hm
 refine EndStep.mk _ l46 ⟨rfl, rfl⟩ (ConvH.of (.cons r2 .nil))
 replace hm := iff_ w46 hm
 obtain rfl := si hm
 refine EndStep.mk _ l46 ⟨rfl, rfl⟩ (ConvH.of (.cons r2 .nil))
 replace hm := iff_ w42 hm
 obtain ⟨x31, q31, hm⟩ := bnd hm
 refine call_fn (JK (t := 1) (p1' := args) q31 hp1_0) (.cons r0 .nil) ?_
 rintro _ K31 _ l31 ⟨rfl, rfl⟩
 refine cond_go rfl ?_
 refine cond_s (fun w31 => ?_) (fun w31 => ?_)
 replace hm := ift w31 hm
 obtain rfl := si hm
 refine EndStep.mk _ l31 ⟨rfl, rfl⟩ (ConvH.of (.cons r2 .nil))
 replace hm := iff_ w31 hm
 obtain rfl := si hm
 refine EndStep.mk _ l31 ⟨rfl, rfl⟩ (ConvH.of (.cons r2 .nil))
 replace hm := iff_ w26 hm
 obtain rfl := si hm
 refine EndStep.mk _ (Hp.Le.refl _) ⟨rfl, rfl⟩ (ConvH.of (.cons r2 .nil))

noncomputable def JC (rec_ : (Ji → Ja → (List Jh) → Option (Int × Ji))) (env : (List Jh)) : List Ja → Nat → (List Int) → Int → Err → Option (Fl (Int × Ji) ((List Int) × Int × Err))
  | [], _, y0_0, y0_1, y0_2 => some (Fl.go (y0_0, y0_1, y0_2))
  | e0 :: xs0, i0, y0_0, y0_1, y0_2 =>
    (rec_ (⟨y0_1, y0_2⟩ : Ji) e0 env).bind fun x23 =>
    (chk (y0_0.length + [x23.1].length ≤ lim)).bind fun _ =>
    if x23.2.err.isSome then
    some (Fl.ret (0, x23.2))
    else
    JC rec_ env xs0 (i0 + 1) (y0_0 ++ [x23.1]) x23.2.line x23.2.err
noncomputable def Jy : Nat → Ji → Ja → (List Jh) → Option (Int × Ji)
  | 0, _, _, _ => none
  | n + 1, c, n', env =>
    (chk (n'.Kids.length ≤ szMax)).bind fun _ =>
    (JC (Jy n) env n'.Kids 0 [] c.line c.err).bind fun s0 => s0.el some fun t0 =>
    if decide (n'.Kind = 20) then
    some (2, (⟨t0.2.1, t0.2.2⟩ : Ji))
    else
    if decide (n'.Kind = 21) then
    some (1, (⟨t0.2.1, t0.2.2⟩ : Ji))
    else
    if decide (n'.Kind = 22) then
    some (3, (⟨t0.2.1, t0.2.2⟩ : Ji))
    else
    if decide (n'.Kind = 23) then
    (Jah n n'.Text env).bind fun x45 =>
    if decide (x45 = 0) then
    (JA (⟨t0.2.1, t0.2.2⟩ : Ji) n' (some 8)).bind fun x51 =>
    some (x45, x51)
    else
    some (x45, (⟨t0.2.1, t0.2.2⟩ : Ji))
    else
    if decide (n'.Kind = 24) then
    (JM (⟨t0.2.1, t0.2.2⟩ : Ji) n' t0.1).bind fun x58 =>
    some (x58.1, x58.2)
    else
    (JH n' t0.1).bind fun x61 =>
    if decide (x61 = 0) then
    (JA (⟨t0.2.1, t0.2.2⟩ : Ji) n' (some 9)).bind fun x67 =>
    some (x61, x67)
    else
    some (x61, (⟨t0.2.1, t0.2.2⟩ : Ji))
set_option maxHeartbeats 8000000 in
theorem JbR : ∀ {n : Nat} {c : Ji} {n' : Ja} {env : (List Jh)} {b0 : Nat} {ap1_0 : Option Addr} {cp1_0 : Nat} {ap2_0 : Option Addr} {cp2_0 : Nat} {n2 : Nat} {K : Hp} {r : Int × Ji}
    (hm : Jy n c n' env = some r) (hp1_0 : LiC Ja.R K ap1_0 cp1_0 4 n'.Kids) (hp2_0 : RdC Jh.enc K ap2_0 cp2_0 2 env) (en2 : n2 = env.length),
    Fn Tryz.prog 56 [.pointer (some ⟨b0, 0, none⟩), .agg #[.int .i64 n'.Kind, str n'.Text, .slice ap1_0 n'.Kids.length cp1_0, .int .i64 n'.Line], .slice ap2_0 n2 cp2_0] K [Cells b0 78 [.int .i64 c.line, errV 44 c.err]] (fun v K' H' => v = .int .i64 r.1 ∧ H' = [Cells b0 78 [.int .i64 r.2.line, errV 44 r.2.err]]) := by
 intro n
 induction n with
 | zero =>
   intro c n' env b0 ap1_0 cp1_0 ap2_0 cp2_0 n2 K r hm hp1_0 hp2_0 en2
   rw [Jy.eq_1] at hm; cases hm
 | succ n ih =>
   intro c n' env b0 ap1_0 cp1_0 ap2_0 cp2_0 n2 K r hm hp1_0 hp2_0 en2
   subst en2
   refine Fn.enter Tryz.func56 Tryz.call56 rfl fun F => ?_
   rw [Jy.eq_2] at hm
   refine box_rule ?_
   intro b4
   refine Jb rfl (RStep.of (load1_s r0 rfl rfl (RStep.of (len_slice rfl ?_))))
   obtain ⟨hk0, hm⟩ := chkb hm
   obtain ⟨s0, hl0, hm⟩ := bnd hm
   refine nilC eN 3 1 ?_
   refine code_cut (σ := ((List Int) × Int × Err) × Option Addr × Nat) [6, 7, 9, 15, 16, 17, 18, 19, 20, 21, 22, 23, 24, 25, 26, 27, 28, 29, 30, 31] (fun (t0, t0_a0, t0_c0) => [(7, .slice t0_a0 t0.1.length t0_c0)]) (fun (t0, t0_a0, t0_c0) => [OwnL eN t0_a0 3 1 t0_c0 t0.1, Cells b4 34 [.int .i64 n'.Kind, str n'.Text, .slice ap1_0 n'.Kids.length cp1_0, .int .i64 n'.Line], Cells b0 78 [.int .i64 t0.2.1, errV 44 t0.2.2], F]) (fun zz K1 => match zz with | (t0, t0_a0, t0_c0) => (0 < t0.1.length → Has t0_a0) ∧ s0 = Fl.go t0) ?_ ?_
   refine block_go rfl ?_
   refine loop_rule (σ := Nat × (List Int) × Int × Err × Option Addr × Nat) [6, 7, 9, 15, 16, 17, 18, 19, 20, 21, 22, 23, 24, 25, 26, 27, 28, 29, 30, 31] (fun (i0, y0_0, y0_1, y0_2, y0_a0, y0_c0) => [(15, .int .i64 (i0 : Int)), (7, .slice y0_a0 y0_0.length y0_c0)]) (fun (i0, y0_0, y0_1, y0_2, y0_a0, y0_c0) => [OwnL eN y0_a0 3 1 y0_c0 y0_0, Cells b4 34 [.int .i64 n'.Kind, str n'.Text, .slice ap1_0 n'.Kids.length cp1_0, .int .i64 n'.Line], Cells b0 78 [.int .i64 y0_1, errV 44 y0_2], F]) (fun zz K1 => match zz with | (i0, y0_0, y0_1, y0_2, y0_a0, y0_c0) => (0 < y0_0.length → Has y0_a0) ∧ JC (Jy n) env (n'.Kids.drop i0) i0 y0_0 y0_1 y0_2 = some s0) (fun zz => n'.Kids.length - zz.1) (0, [], c.line, c.err, none, 0) rfl ⟨rfl, rfl, trivial⟩ (ConvH.of (.cons r0 (.cons r0 (.cons r0 (.cons r0 .nil))))) ⟨(fun h => by simp at h), hl0⟩ ?_
   clear hl0
   rintro ⟨i0, y0_0, y0_1, y0_2, y0_a0, y0_c0⟩ Kb0 lk0 ⟨y0_h0, hl0⟩ j0
   refine cond_go rfl ?_
   refine cond_s (fun w0 => ?_) (fun w0 => ?_)
   obtain ⟨e0, hx0, hd0⟩ := ltx w0
   rw [hd0, JC.eq_2] at hl0
   refine block_go rfl ?_
   refine RStep.ofN (index_addr rfl rfl (hasR (LiC.mono Ja.R_ok lk0 hp1_0).rd hx0) (nn _) (lt_ofN hx0) ?_)
   obtain ⟨ss18, cc18, hr18, hc18, hR18⟩ := LiR.get (LiC.mono Ja.R_ok lk0 hp1_0).rd hx0
   obtain ⟨a18_0, c18_0, rfl, h18_0⟩ := Ja.out hR18
   refine RStep.of (load_rd_agg i0 _ hr18 rfl hc18 rfl ?_)
   refine alloc_rule rfl ?_
   intro b9
   refine store_rule r0 rfl ?_
   refine ⟨rfl, rfl, (Nat.le_of_ble_eq_true rfl), ?_⟩
   refine RStep.of (loadn_s r0 rfl (Nat.le_of_ble_eq_true rfl) ?_)
   obtain ⟨x23, q23, hl0⟩ := bnd hl0
   refine call_fn (ih (c := (⟨y0_1, y0_2⟩ : Ji)) (n' := e0) q23 h18_0 (hp2_0.mono lk0) rfl) (.cons r3 .nil) ?_
   rintro _ K23 _ l23 ⟨rfl, rfl⟩
   refine bsO (len := 1) (enc := eN) (l := [x23.1]) (cl := [.int .i64 x23.1]) elT81 rfl rfl (fun _ _ => rfl) rfl rfl rfl ?_ fun b24 => ?_
   · conv => whnf
     refine cond_T ?_
     first | done | rfl
   obtain ⟨h25, hl0⟩ := chkb hl0
   refine apE rfl r3 elT81 (src_own' rfl r0 rfl (fun _ => rfl) (fun _ => rfl)) h25 ?_
   intro a25 c25 o25
   refine nil_check (Jb rfl (RStep.of (load1_s r2 rfl rfl (neq_err rfl (cond_go rfl ?_)))))
   refine cond_s (fun w30 => ?_) (fun w30 => ?_)
   replace hl0 := ift w30 hl0
   obtain rfl := si hl0
   replace hm := elr hm
   obtain rfl := si hm
   refine EndStep.mk _ (lk0.trans l23) ⟨rfl, rfl⟩ (ConvH.of (.cons r2 (.cons r4 .nil)))
   replace hl0 := iff_ w30 hl0
   refine int_in (cntz hx0 hk0) ?_
   refine RoundStep.mk (i0 + 1, (y0_0 ++ [x23.1]), x23.2.line, x23.2.err, a25, c25) ⟨rfl, rfl, trivial⟩ (by repeat (first | exact trivial | refine And.intro rfl ?_)) (ConvH.of (.cons r0 (.cons r3 (.cons r1 (.cons r2 .nil))))) (lk0.trans l23) (ltm hx0) ⟨o25, hl0⟩
   rw [lty w0, JC.eq_1] at hl0
   refine cond_T ?_
   refine MeetStep.mk ((y0_0, y0_1, y0_2), y0_a0, y0_c0) ⟨rfl, trivial⟩ (by repeat (first | exact trivial | refine And.intro rfl ?_)) (ConvH.of (.cons r0 (.cons r0 (.cons r0 (.cons r0 .nil))))) lk0 ⟨y0_h0, (si hl0).symm⟩
   rintro ⟨t0, t0_a0, t0_c0⟩ Kt0 lt0 ⟨t0_h0, rfl⟩ j0
   replace hm := elg hm
   refine Jb rfl (RStep.of (load1_s r1 rfl rfl ?_))
   refine block_go rfl ?_
   refine eq_int (cond_go rfl ?_)
   refine cond_s (fun w34 => ?_) (fun w34 => ?_)
   replace hm := ift w34 hm
   obtain rfl := si hm
   refine EndStep.mk _ lt0 ⟨rfl, rfl⟩ (ConvH.of (.cons r2 (.cons r2 .nil)))
   replace hm := iff_ w34 hm
   refine eq_int (cond_go rfl ?_)
   refine cond_s (fun w36 => ?_) (fun w36 => ?_)
   replace hm := ift w36 hm
   obtain rfl := si hm
   refine EndStep.mk _ lt0 ⟨rfl, rfl⟩ (ConvH.of (.cons r2 (.cons r2 .nil)))
   replace hm := iff_ w36 hm
   refine eq_int (cond_go rfl ?_)
   refine cond_s (fun w38 => ?_) (fun w38 => ?_)
   replace hm := ift w38 hm
   obtain rfl := si hm
   refine EndStep.mk _ lt0 ⟨rfl, rfl⟩ (ConvH.of (.cons r2 (.cons r2 .nil)))
   replace hm := iff_ w38 hm
   refine eq_int (cond_go rfl ?_)
   refine cond_s (fun w40 => ?_) (fun w40 => ?_)
   replace hm := ift w40 hm
   refine Jb rfl (RStep.of (load1_s r1 rfl rfl ?_))
   obtain ⟨x45, q45, hm⟩ := bnd hm
   refine call_fn (Jbj (name := n'.Text) q45 (hp2_0.mono lt0) rfl) .nil ?_
   rintro _ K45 _ l45 ⟨rfl, rfl⟩
   refine eq_int (cond_go rfl ?_)
   refine cond_s (fun w47 => ?_) (fun w47 => ?_)
   replace hm := ift w47 hm
   refine RStep.of (loadn_s r1 rfl (Nat.le_of_ble_eq_true rfl) ?_)
   refine mk_iface rfl ?_
   obtain ⟨x51, q51, hm⟩ := bnd hm
   refine call_fn (JF (c := (⟨t0.2.1, t0.2.2⟩ : Ji)) (n' := n') (err := (some 8)) q51 (LiC.mono Ja.R_ok (lt0.trans l45) hp1_0)) (.cons r2 .nil) ?_
   rintro _ K51 _ l51 ⟨rfl, rfl⟩
   obtain rfl := si hm
   refine EndStep.mk _ ((lt0.trans l45).trans l51) ⟨rfl, rfl⟩ (ConvH.of (.cons r0 (.cons r2 .nil)))
   replace hm := iff_ w47 hm
   obtain rfl := si hm
   refine EndStep.mk _ (lt0.trans l45) ⟨rfl, rfl⟩ (ConvH.of (.cons r2 (.cons r2 .nil)))
   replace hm := iff_ w40 hm
   refine eq_int (cond_go rfl ?_)
   refine cond_s (fun w53 => ?_) (fun w53 => ?_)
   replace hm := ift w53 hm
   refine RStep.of (loadn_s r1 rfl (Nat.le_of_ble_eq_true rfl) ?_)
   obtain ⟨x58, q58, hm⟩ := bnd hm
   refine call_fn (Fn.lend Tryz.call90 (fun K58_2 l58_2 f58_2 => (Jbe (c := (⟨t0.2.1, t0.2.2⟩ : Ji)) (n' := n') q58 (LiC.mono Ja.R_ok (lt0.trans l58_2) hp1_0) f58_2 rfl)) (by exact fun _ _ _ _ h => h)) (.cons r0 (.cons r1 .nil)) ?_
   rintro _ K58 _ l58 ⟨_, rfl, rfl, rfl⟩
   obtain rfl := si hm
   refine EndStep.mk _ (lt0.trans l58) ⟨rfl, rfl⟩ (ConvH.of (.cons r1 (.cons r2 .nil)))
   replace hm := iff_ w53 hm
   refine RStep.of (loadn_s r1 rfl (Nat.le_of_ble_eq_true rfl) ?_)
   obtain ⟨x61, q61, hm⟩ := bnd hm
   refine call_fn (Fn.lend Tryz.call91 (fun K61_1 l61_1 f61_1 => (Jbw (n' := n') q61 (LiC.mono Ja.R_ok (lt0.trans l61_1) hp1_0) f61_1 rfl)) (by exact fun _ _ _ _ h => h)) (.cons r0 .nil) ?_
   rintro _ K61 _ l61 ⟨_, rfl, rfl, rfl⟩
   refine eq_int (cond_go rfl ?_)
   refine cond_s (fun w63 => ?_) (fun w63 => ?_)
   replace hm := ift w63 hm
   refine RStep.of (loadn_s r1 rfl (Nat.le_of_ble_eq_true rfl) ?_)
   refine mk_iface rfl ?_
   obtain ⟨x67, q67, hm⟩ := bnd hm
   refine call_fn (JF (c := (⟨t0.2.1, t0.2.2⟩ : Ji)) (n' := n') (err := (some 9)) q67 (LiC.mono Ja.R_ok (lt0.trans l61) hp1_0)) (.cons r2 .nil) ?_
   rintro _ K67 _ l67 ⟨rfl, rfl⟩
   obtain rfl := si hm
   refine EndStep.mk _ ((lt0.trans l61).trans l67) ⟨rfl, rfl⟩ (ConvH.of (.cons r0 (.cons r2 .nil)))
   replace hm := iff_ w63 hm
   obtain rfl := si hm
   refine EndStep.mk _ (lt0.trans l61) ⟨rfl, rfl⟩ (ConvH.of (.cons r2 (.cons r2 .nil)))

noncomputable def JaL (n' : Ja) : Option (Int) :=
  if decide (n'.Kind = 2) then
  some 3
  else
  if decide (n'.Kind = 4) then
  some 1
  else
  if decide (n'.Kind = 5) then
  some 1
  else
  if decide (n'.Kind = 7) then
  some 1
  else
  if decide (n'.Kind = 8) then
  some 2
  else
  if decide (n'.Kind = 9) then
  some 2
  else
  some 0
set_option maxHeartbeats 8000000 in
theorem Jch {n' : Ja} {ap0_0 : Option Addr} {cp0_0 : Nat} {K : Hp} {r : Int}
    (hm : JaL n' = some r) (hp0_0 : LiC Ja.R K ap0_0 cp0_0 4 n'.Kids) :
    Fn Tryz.prog 57 [.agg #[.int .i64 n'.Kind, str n'.Text, .slice ap0_0 n'.Kids.length cp0_0, .int .i64 n'.Line]] K [] (fun v K' H' => v = .int .i64 r ∧ H' = []) := by
 refine Fn.enter Tryz.func57 Tryz.call57 rfl fun F => ?_
 unfold JaL at hm
 refine box_rule ?_
 intro b1
 refine Jb rfl (RStep.of (load1_s r0 rfl rfl ?_))
 refine block_go rfl ?_
 refine eq_int (cond_go rfl ?_)
 refine cond_s (fun w5 => ?_) (fun w5 => ?_)
 replace hm := ift w5 hm
 obtain rfl := si hm
 refine EndStep.mk _ (Hp.Le.refl _) ⟨rfl, rfl⟩ (ConvH.of (.cons r1 .nil))
 replace hm := iff_ w5 hm
 refine eq_int (cond_go rfl ?_)
 refine cond_s (fun w7 => ?_) (fun w7 => ?_)
 replace hm := ift w7 hm
 refine cond_go rfl (cond_t w7 ?_)
 obtain rfl := si hm
 refine EndStep.mk _ (Hp.Le.refl _) ⟨rfl, rfl⟩ (ConvH.of (.cons r1 .nil))
 replace hm := iff_ w7 hm
 refine eq_int (cond_go rfl ?_)
 refine cond_s (fun w7 => ?_) (fun w7 => ?_)
 replace hm := ift w7 hm
 refine cond_go rfl (cond_t w7 ?_)
 obtain rfl := si hm
 refine EndStep.mk _ (Hp.Le.refl _) ⟨rfl, rfl⟩ (ConvH.of (.cons r1 .nil))
 replace hm := iff_ w7 hm
 refine eq_int (cond_go rfl ?_)
 refine cond_s (fun w7 => ?_) (fun w7 => ?_)
 replace hm := ift w7 hm
 obtain rfl := si hm
 refine EndStep.mk _ (Hp.Le.refl _) ⟨rfl, rfl⟩ (ConvH.of (.cons r1 .nil))
 replace hm := iff_ w7 hm
 refine eq_int (cond_go rfl ?_)
 refine cond_s (fun w11 => ?_) (fun w11 => ?_)
 replace hm := ift w11 hm
 refine cond_go rfl (cond_t w11 ?_)
 obtain rfl := si hm
 refine EndStep.mk _ (Hp.Le.refl _) ⟨rfl, rfl⟩ (ConvH.of (.cons r1 .nil))
 replace hm := iff_ w11 hm
 refine eq_int (cond_go rfl ?_)
 refine cond_s (fun w11 => ?_) (fun w11 => ?_)
 replace hm := ift w11 hm
 obtain rfl := si hm
 refine EndStep.mk _ (Hp.Le.refl _) ⟨rfl, rfl⟩ (ConvH.of (.cons r1 .nil))
 replace hm := iff_ w11 hm
 obtain rfl := si hm
 refine EndStep.mk _ (Hp.Le.refl _) ⟨rfl, rfl⟩ (ConvH.of (.cons r1 .nil))

noncomputable def Jac (n : Nat) (name : Str) (env : (List Jh)) : Option (Bool) :=
  (Jah n name env).bind fun x7 =>
  some (decide (x7 ≠ 0))
set_option maxHeartbeats 8000000 in
theorem JaM {n : Nat} {name : Str} {env : (List Jh)} {ap1_0 : Option Addr} {cp1_0 : Nat} {n1 : Nat} {K : Hp} {r : Bool}
    (hm : Jac n name env = some r) (hp1_0 : RdC Jh.enc K ap1_0 cp1_0 2 env) (en1 : n1 = env.length) :
    Fn Tryz.prog 59 [str name, .slice ap1_0 n1 cp1_0] K [] (fun v K' H' => v = .bool r ∧ H' = []) := by
 subst en1
 refine Fn.enter Tryz.func59 Tryz.call59 rfl fun F => ?_
 unfold Jac at hm
 obtain ⟨x7, q7, hm⟩ := bnd hm
 refine call_fn (Jbj (name := name) q7 hp1_0 rfl) .nil ?_
 rintro _ K7 _ l7 ⟨rfl, rfl⟩
 refine neq_int ?_
 obtain rfl := si hm
 refine EndStep.mk _ l7 ⟨rfl, rfl⟩ (ConvH.of (.cons r0 .nil))

noncomputable def JX (env : (List Jh)) (name : Str) (t : Int) : Option ((List Jh)) :=
  (chk (InI ((env.length : Int) + 1))).bind fun _ =>
  (chk (0 ≤ ((env.length : Int) + 1) ∧ ((env.length : Int) + 1) ≤ (lim : Int))).bind fun _ =>
  (chk (([] : List Jh).length + env.length ≤ lim)).bind fun _ =>
  (chk ((([] : List Jh) ++ env).length + [(⟨name, t⟩ : Jh)].length ≤ lim)).bind fun _ =>
  some ((([] : List Jh) ++ env) ++ [(⟨name, t⟩ : Jh)])
set_option maxHeartbeats 8000000 in
theorem JW {env : (List Jh)} {name : Str} {t : Int} {ap0_0 : Option Addr} {cp0_0 : Nat} {n0 : Nat} {K : Hp} {r : (List Jh)}
    (hm : JX env name t = some r) (hp0_0 : RdC Jh.enc K ap0_0 cp0_0 2 env) (en0 : n0 = env.length) :
    Fn Tryz.prog 60 [.slice ap0_0 n0 cp0_0, str name, .int .i64 t] K [] (fun v K' H' => ∃ ar_0 : Option Addr, ∃ cr_0 : Nat, v = .slice ar_0 r.length cr_0 ∧ (0 < r.length → Has ar_0) ∧ H' = [OwnL Jh.enc ar_0 149 2 cr_0 r]) := by
 subst en0
 refine Fn.enter Tryz.func60 Tryz.call60 rfl fun F => ?_
 unfold JX at hm
 refine RStep.of (len_slice rfl ?_)
 obtain ⟨h10, hm⟩ := chkb hm
 refine int_in h10 ?_
 obtain ⟨h11, hm⟩ := chkb hm
 refine mk_room (enc := Jh.enc) elT110 rfl h11 fun b11 => ?_
 obtain ⟨h14, hm⟩ := chkb hm
 refine apE rfl r0 elT110 (src_k rfl hp0_0.rd rfl) h14 ?_
 intro a14 c14 o14
 refine build_struct rfl rfl (cond_T (cond_T ?_))
 refine bsO (len := 1) (enc := Jh.enc) (l := [(⟨name, t⟩ : Jh)]) (cl := [str name, .int .i64 t]) elT110 rfl rfl (fun _ _ => rfl) rfl rfl rfl ?_ fun b18 => ?_
 · conv => whnf
   refine cond_T ?_
   first | done | rfl
 obtain ⟨h19, hm⟩ := chkb hm
 refine apE rfl r1 elT110 (src_own' rfl r0 rfl (fun _ => rfl) (fun _ => rfl)) h19 ?_
 intro a19 c19 o19
 obtain rfl := si hm
 refine EndStep.mk _ (Hp.Le.refl _) ⟨a19, c19, rfl, o19, rfl⟩ (ConvH.of (.cons r0 (.cons r1 .nil)))

noncomputable def J1 (n' : Ja) : Option ((List Ja)) :=
  if decide (n'.Kind = 12) then
  some n'.Kids
  else
  some [n']
set_option maxHeartbeats 8000000 in
theorem Jay {n' : Ja} {ap0_0 : Option Addr} {cp0_0 : Nat} {K : Hp} {r : (List Ja)}
    (hm : J1 n' = some r) (hp0_0 : LiC Ja.R K ap0_0 cp0_0 4 n'.Kids) :
    Fn Tryz.prog 61 [.agg #[.int .i64 n'.Kind, str n'.Text, .slice ap0_0 n'.Kids.length cp0_0, .int .i64 n'.Line]] K [] (fun v K' H' => ∃ ar_0 : Option Addr, ∃ cr_0 : Nat, v = .slice ar_0 r.length cr_0 ∧ LiC Ja.R K' ar_0 cr_0 4 r ∧ H' = []) := by
 refine Fn.enter Tryz.func61 Tryz.call61 rfl fun F => ?_
 unfold J1 at hm
 refine box_rule ?_
 intro b1
 refine Jb rfl (RStep.of (load1_s r0 rfl rfl (eq_int (cond_go rfl ?_))))
 refine cond_s (fun w5 => ?_) (fun w5 => ?_)
 replace hm := ift w5 hm
 refine Jb rfl (RStep.of (load1_s r0 rfl rfl ?_))
 obtain rfl := si hm
 refine EndStep.mk _ (Hp.Le.refl _) ⟨ap0_0, cp0_0, rfl, hp0_0, rfl⟩ (ConvH.of (.cons r1 .nil))
 replace hm := iff_ w5 hm
 refine RStep.of (loadn_s r0 rfl (Nat.le_of_ble_eq_true rfl) ?_)
 refine bsOR (R := Ja.R) (len := 1) (l := [n']) (css := [[.int .i64 n'.Kind, str n'.Text, .slice ap0_0 n'.Kids.length cp0_0, .int .i64 n'.Line]]) (cl := [.int .i64 n'.Kind, str n'.Text, .slice ap0_0 n'.Kids.length cp0_0, .int .i64 n'.Line]) Ja.R_ok elT32 rfl rfl (LR.snoc LR.nil (Ja.of (x := n') ⟨ap0_0, cp0_0, rfl, hp0_0⟩)) rfl rfl rfl ?_ fun b9 => ?_
 · conv => whnf
   refine cond_T ?_
   first | done | rfl
 obtain rfl := si hm
 refine fzER Ja.R_ok r0 (show LR Ja.R _ [[.int .i64 n'.Kind, str n'.Text, .slice ap0_0 n'.Kids.length cp0_0, .int .i64 n'.Line]] [n'] from (LR.snoc LR.nil (Ja.of (x := n') ⟨ap0_0, cp0_0, rfl, hp0_0⟩))) fun Kz1 lz1 fz1 => ?_
 refine EndStep.mk _ lz1 ⟨(some ⟨b9, 0, none⟩), 1, rfl, fz1, rfl⟩ (ConvH.of (.cons r1 .nil))
