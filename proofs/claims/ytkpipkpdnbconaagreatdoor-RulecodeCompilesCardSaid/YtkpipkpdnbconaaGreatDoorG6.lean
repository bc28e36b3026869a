/- Functions of the program: mirrors, and that a call returns what the mirror says. Printed by gen.py. -/
import Derived.Test.YtkpipkpdnbconaaGreatDoorG5
set_option linter.unusedVariables false
set_option linter.unusedSimpArgs false
open Go Go.SL Go.Proofs
set_option maxRecDepth 1000000
noncomputable def JaM (env : (List Ju)) (s : Str) : Nat → Int → Option (Fl (Int) (Int))
  | 0, _ => none
  | xs0 + 1, y0_0 =>
    if decide (y0_0 ≥ 0) then
    (ix env y0_0).bind fun x15 =>
    if decide (x15.Name = s) then
    (ix env y0_0).bind fun x22 =>
    some (Fl.ret x22.TypeZ)
    else
    (chk (InI (y0_0 - 1))).bind fun _ =>
    JaM env s xs0 (y0_0 - 1)
    else
    some (Fl.go y0_0)
noncomputable def JbL (n : Nat) (s : Str) (env : (List Ju)) : Option (Int) :=
  (chk (InI ((env.length : Int) - 1))).bind fun _ =>
  (JaM env s n ((env.length : Int) - 1)).bind fun s0 => s0.el some fun t0 =>
  (Jbm s).bind fun x26 =>
  if x26 then
  some 1
  else
  some 0
set_option maxHeartbeats 8000000 in
theorem Jcc {n : Nat} {s : Str} {env : (List Ju)} {ap1_0 : Option Addr} {cp1_0 : Nat} {n1 : Nat} {K : Hp} {r : Int}
    (hm : JbL n s env = some r) (hp1_0 : RdC Ju.enc K ap1_0 cp1_0 2 env) (en1 : n1 = env.length) :
    Fn Tryz.prog 80 [str s, .slice ap1_0 n1 cp1_0] K [] (fun v K' H' => v = .int .i64 r ∧ H' = []) := by
 subst en1
 refine Fn.enter Tryz.func80 Tryz.call80 rfl fun F => ?_
 unfold JbL at hm
 refine RStep.of (len_slice rfl ?_)
 obtain ⟨h8, hm⟩ := chkb hm
 refine int_in h8 ?_
 obtain ⟨s0, hl0, hm⟩ := bnd hm
 refine code_cut (σ := (Int)) [4, 5, 9, 10, 11, 12, 13, 14, 15, 16, 17, 18, 19, 20, 21, 22, 23, 24] (fun t0 => [(5, .int .i64 t0)]) (fun t0 => [F]) (fun zz K1 => match zz with | t0 => s0 = Fl.go t0) ?_ ?_
 refine block_go rfl ?_
 refine loop_rule (σ := Nat × Int) [4, 5, 9, 10, 11, 12, 13, 14, 15, 16, 17, 18, 19, 20, 21, 22, 23, 24] (fun (i0, y0_0) => [(5, .int .i64 y0_0)]) (fun (i0, y0_0) => [F]) (fun zz K1 => match zz with | (i0, y0_0) => JaM env s i0 y0_0 = some s0) (fun zz => zz.1) (n, ((env.length : Int) - 1)) rfl ⟨rfl, trivial⟩ (ConvH.of (.cons r0 .nil)) hl0 ?_
 clear hl0
 rintro ⟨i0, y0_0⟩ Kb0 lk0 hl0 j0
 conv at hl0 => whnf
 cases i0 with
 | zero => rw [JaM.eq_1] at hl0; cases hl0
 | succ i0 =>
  rw [JaM.eq_2] at hl0
  refine cond_go rfl ?_
  refine cond_s (fun w10 => ?_) (fun w10 => ?_)
  replace hl0 := ift w10 hl0
  refine block_go rfl ?_
  obtain ⟨x15, l15, k15, hl0⟩ := ixb hl0
  refine RStep.ofN (index_addr rfl rfl (hasK (hp1_0.mono lk0).rd k15) l15 (lt_ofE rfl l15 k15) (eptr_field rfl (hasK (hp1_0.mono lk0).rd k15) (RStep.of (load_rd ((y0_0).toNat) 0 _ _ (hp1_0.mono lk0).rd rfl (mp k15) rfl rfl (eq_str (cond_go rfl ?_))))))
  refine cond_s (fun w19 => ?_) (fun w19 => ?_)
  replace hl0 := ift w19 hl0
  obtain ⟨x22, l22, k22, hl0⟩ := ixb hl0
  refine RStep.ofN (index_addr rfl rfl (hasK (hp1_0.mono lk0).rd k22) l22 (lt_ofE rfl l22 k22) (eptr_field rfl (hasK (hp1_0.mono lk0).rd k22) (RStep.of (load_rd ((y0_0).toNat) 1 _ _ (hp1_0.mono lk0).rd rfl (mp k22) rfl rfl ?_))))
  obtain rfl := si hl0
  replace hm := elr hm
  obtain rfl := si hm
  refine EndStep.mk _ lk0 ⟨rfl, rfl⟩ (ConvH.of (.cons r0 .nil))
  replace hl0 := iff_ w19 hl0
  obtain ⟨h12, hl0⟩ := chkb hl0
  refine int_in h12 ?_
  refine RoundStep.mk (i0, (y0_0 - 1)) ⟨rfl, trivial⟩ (by repeat (first | exact trivial | refine And.intro rfl ?_)) (ConvH.of (.cons r0 .nil)) lk0 (Nat.lt_succ_self _) hl0
  replace hl0 := iff_ w10 hl0
  refine cond_T ?_
  refine MeetStep.mk (y0_0) ⟨rfl, trivial⟩ (by repeat (first | exact trivial | refine And.intro rfl ?_)) (ConvH.of (.cons r0 .nil)) lk0 (si hl0).symm
 rintro t0 Kt0 lt0 rfl j0
 replace hm := elg hm
 obtain ⟨x26, q26, hm⟩ := bnd hm
 refine call_fn (Jb5 (s := s) q26) .nil ?_
 rintro _ K26 _ l26 ⟨rfl, rfl⟩
 refine cond_go rfl ?_
 refine cond_s (fun w26 => ?_) (fun w26 => ?_)
 replace hm := ift w26 hm
 obtain rfl := si hm
 refine EndStep.mk _ (lt0.trans l26) ⟨rfl, rfl⟩ (ConvH.of (.cons r0 .nil))
 replace hm := iff_ w26 hm
 obtain rfl := si hm
 refine EndStep.mk _ (lt0.trans l26) ⟨rfl, rfl⟩ (ConvH.of (.cons r0 .nil))

noncomputable def Jbj (s : Str) : Option (Int × Int × Bool) :=
  if decide (s = ([104, 101, 97, 100, 101, 114] : Str)) then
  some (1, 1, true)
  else
  if decide (s = ([97, 114, 103] : Str)) then
  some (1, 1, true)
  else
  if decide (s = ([108, 111, 119, 101, 114] : Str)) then
  some (1, 1, true)
  else
  if decide (s = ([104, 97, 115] : Str)) then
  some (1, 3, true)
  else
  if decide (s = ([108, 101, 110] : Str)) then
  some (1, 2, true)
  else
  if decide (s = ([110, 117, 109, 98, 101, 114] : Str)) then
  some (1, 2, true)
  else
  if decide (s = ([112, 97, 114, 116] : Str)) then
  some (2, 1, true)
  else
  if decide (s = ([116, 101, 120, 116] : Str)) then
  some (2, 1, true)
  else
  some (0, 0, false)
set_option maxHeartbeats 8000000 in
theorem JbU {s : Str} {K : Hp} {r : Int × Int × Bool}
    (hm : Jbj s = some r)  :
    Fn Tryz.prog 64 [str s] K [] (fun v K' H' => v = .tuple #[.int .i64 r.1, .int .i64 r.2.1, .bool r.2.2] ∧ H' = []) := by
 refine Fn.enter Tryz.func64 Tryz.call64 rfl fun F => ?_
 unfold Jbj at hm
 refine block_go rfl ?_
 refine eq_str (cond_go rfl ?_)
 refine cond_s (fun w6 => ?_) (fun w6 => ?_)
 replace hm := ift w6 hm
 refine cond_go rfl (cond_t w6 ?_)
 obtain rfl := si hm
 refine EndStep.mk _ (Hp.Le.refl _) ⟨rfl, rfl⟩ (ConvH.of (.cons r0 .nil))
 replace hm := iff_ w6 hm
 refine eq_str (cond_go rfl ?_)
 refine cond_s (fun w6 => ?_) (fun w6 => ?_)
 replace hm := ift w6 hm
 refine cond_go rfl (cond_t w6 ?_)
 obtain rfl := si hm
 refine EndStep.mk _ (Hp.Le.refl _) ⟨rfl, rfl⟩ (ConvH.of (.cons r0 .nil))
 replace hm := iff_ w6 hm
 refine eq_str (cond_go rfl ?_)
 refine cond_s (fun w6 => ?_) (fun w6 => ?_)
 replace hm := ift w6 hm
 obtain rfl := si hm
 refine EndStep.mk _ (Hp.Le.refl _) ⟨rfl, rfl⟩ (ConvH.of (.cons r0 .nil))
 replace hm := iff_ w6 hm
 refine eq_str (cond_go rfl ?_)
 refine cond_s (fun w10 => ?_) (fun w10 => ?_)
 replace hm := ift w10 hm
 obtain rfl := si hm
 refine EndStep.mk _ (Hp.Le.refl _) ⟨rfl, rfl⟩ (ConvH.of (.cons r0 .nil))
 replace hm := iff_ w10 hm
 refine eq_str (cond_go rfl ?_)
 refine cond_s (fun w12 => ?_) (fun w12 => ?_)
 replace hm := ift w12 hm
 refine cond_go rfl (cond_t w12 ?_)
 obtain rfl := si hm
 refine EndStep.mk _ (Hp.Le.refl _) ⟨rfl, rfl⟩ (ConvH.of (.cons r0 .nil))
 replace hm := iff_ w12 hm
 refine eq_str (cond_go rfl ?_)
 refine cond_s (fun w12 => ?_) (fun w12 => ?_)
 replace hm := ift w12 hm
 obtain rfl := si hm
 refine EndStep.mk _ (Hp.Le.refl _) ⟨rfl, rfl⟩ (ConvH.of (.cons r0 .nil))
 replace hm := iff_ w12 hm
 refine eq_str (cond_go rfl ?_)
 refine cond_s (fun w15 => ?_) (fun w15 => ?_)
 replace hm := ift w15 hm
 refine cond_go rfl (cond_t w15 ?_)
 obtain rfl := si hm
 refine EndStep.mk _ (Hp.Le.refl _) ⟨rfl, rfl⟩ (ConvH.of (.cons r0 .nil))
 replace hm := iff_ w15 hm
 refine eq_str (cond_go rfl ?_)
 refine cond_s (fun w15 => ?_) (fun w15 => ?_)
 replace hm := ift w15 hm
 obtain rfl := si hm
 refine EndStep.mk _ (Hp.Le.refl _) ⟨rfl, rfl⟩ (ConvH.of (.cons r0 .nil))
 replace hm := iff_ w15 hm
 obtain rfl := si hm
 refine EndStep.mk _ (Hp.Le.refl _) ⟨rfl, rfl⟩ (ConvH.of (.cons r0 .nil))

noncomputable def Jah (n' : Jc) (kids : (List Int)) : Option (Int) :=
  (if decide ((kids.length : Int) = 2) then (ix kids 0).bind fun x16 =>
  (ix kids 1).bind fun x19 =>
  some (decide (x16 = x19)) else some false).bind fun x22 =>
  if decide (n'.Kind = 20) then
  some 2
  else
  if decide (n'.Kind = 21) then
  some 1
  else
  if decide (n'.Kind = 22) then
  some 3
  else
  if decide (n'.Kind = 17) then
  (if x22 then (ix kids 0).bind fun x36 =>
  some (decide (x36 ≠ 3)) else some false).bind fun x39 =>
  if x39 then
  (ix kids 0).bind fun x41 =>
  some x41
  else
  some 0
  else
  if decide (n'.Kind = 18) then
  (if x22 then (ix kids 0).bind fun x49 =>
  some (decide (x49 = 2)) else some false).bind fun x52 =>
  if x52 then
  some 2
  else
  some 0
  else
  if decide (n'.Kind = 19) then
  (if x22 then (ix kids 0).bind fun x49 =>
  some (decide (x49 = 2)) else some false).bind fun x52 =>
  if x52 then
  some 2
  else
  some 0
  else
  if decide (n'.Kind = 13) then
  (if x22 then (ix kids 0).bind fun x59 =>
  some (decide (x59 = 3)) else some false).bind fun x62 =>
  if x62 then
  some 3
  else
  some 0
  else
  if decide (n'.Kind = 14) then
  (if x22 then (ix kids 0).bind fun x59 =>
  some (decide (x59 = 3)) else some false).bind fun x62 =>
  if x62 then
  some 3
  else
  some 0
  else
  if decide (n'.Kind = 15) then
  (ix kids 0).bind fun x66 =>
  if decide (x66 = 3) then
  some 3
  else
  some 0
  else
  if decide (n'.Kind = 16) then
  if x22 then
  (if (!(decide (n'.Text = ([60] : Str)) || decide (n'.Text = ([60, 61] : Str)))) then some true else (ix kids 0).bind fun x98 =>
  some (decide (x98 = 2))).bind fun x101 =>
  if x101 then
  (if (!((decide (n'.Text = ([115, 116, 97, 114, 116, 115] : Str)) || decide (n'.Text = ([101, 110, 100, 115] : Str))) || decide (n'.Text = ([99, 111, 110, 116, 97, 105, 110, 115] : Str)))) then some true else (ix kids 0).bind fun x108 =>
  some (decide (x108 = 1))).bind fun x111 =>
  if x111 then
  some 3
  else
  some 0
  else
  some 0
  else
  some 0
  else
  if decide (n'.Kind = 24) then
  (Jbj n'.Text).bind fun x118 =>
  (if decide ((kids.length : Int) = 1) then (ix kids 0).bind fun x127 =>
  some (decide (x127 = x118.1)) else some false).bind fun x131 =>
  if x131 then
  some x118.2.1
  else
  some 0
  else
  some 0
set_option maxHeartbeats 8000000 in
theorem JcH {n' : Jc} {kids : (List Int)} {ap0_0 : Option Addr} {cp0_0 : Nat} {ap1_0 : Option Addr} {cp1_0 : Nat} {n1 : Nat} {K : Hp} {r : Int}
    (hm : Jah n' kids = some r) (hp0_0 : LiC Jc.R K ap0_0 cp0_0 4 n'.Kids) (hp1_0 : RdC eN K ap1_0 cp1_0 1 kids) (en1 : n1 = kids.length) :
    Fn Tryz.prog 103 [.agg #[.int .i64 n'.Kind, str n'.Text, .slice ap0_0 n'.Kids.length cp0_0, .int .i64 n'.Line], .slice ap1_0 n1 cp1_0] K [] (fun v K' H' => v = .int .i64 r ∧ H' = []) := by
 subst en1
 refine Fn.enter Tryz.func103 Tryz.call103 rfl fun F => ?_
 unfold Jah at hm
 refine box_rule ?_
 intro b2
 refine draw_go ⟨⟨[], false⟩, _, []⟩ (by kernel_rfl) ⟨Hp.Le.refl _, (ConvH.of .nil)⟩ ?_
 refine len_sliceN rfl (eq_int ?_)
 obtain ⟨x22, e22, hm⟩ := bnd hm
 refine cond_s (fun g14_1 => ?_) (fun g14_1 => ?_)
 replace e22 := ift g14_1 e22
 refine cond_t g14_1 ?_
 obtain ⟨x16, l16, k16, e22⟩ := ixb e22
 refine index_addr rfl rfl (hasK hp1_0.rd k16) l16 (lt_ofE rfl l16 k16) (cond_t g14_1 (load_rd_l ((0 : Int).toNat) 0 _ _ hp1_0.rd rfl (mp k16) rfl rfl (cond_t g14_1 (cond_t g14_1 ?_))))
 obtain ⟨x19, l19, k19, e22⟩ := ixb e22
 refine index_addr rfl rfl (hasK hp1_0.rd k19) l19 (lt_ofE rfl l19 k19) (cond_t g14_1 (load_rd_l ((1 : Int).toNat) 0 _ _ hp1_0.rd rfl (mp k19) rfl rfl (cond_t g14_1 (eq_int (cond_t g14_1 ?_)))))
 refine Jb rfl (RStep.of (load1_s r0 rfl rfl ?_))
 refine block_go rfl ?_
 refine eq_int (cond_go rfl ?_)
 refine cond_s (fun w25 => ?_) (fun w25 => ?_)
 replace hm := ift w25 hm
 obtain rfl := si hm
 refine EndStep.mk _ (Hp.Le.refl _) ⟨rfl, rfl⟩ (ConvH.of (.cons r1 .nil))
 replace hm := iff_ w25 hm
 refine eq_int (cond_go rfl ?_)
 refine cond_s (fun w27 => ?_) (fun w27 => ?_)
 replace hm := ift w27 hm
 obtain rfl := si hm
 refine EndStep.mk _ (Hp.Le.refl _) ⟨rfl, rfl⟩ (ConvH.of (.cons r1 .nil))
 replace hm := iff_ w27 hm
 refine eq_int (cond_go rfl ?_)
 refine cond_s (fun w29 => ?_) (fun w29 => ?_)
 replace hm := ift w29 hm
 obtain rfl := si hm
 refine EndStep.mk _ (Hp.Le.refl _) ⟨rfl, rfl⟩ (ConvH.of (.cons r1 .nil))
 replace hm := iff_ w29 hm
 refine eq_int (cond_go rfl ?_)
 refine cond_s (fun w31 => ?_) (fun w31 => ?_)
 replace hm := ift w31 hm
 obtain ⟨x39, e39, hm⟩ := bnd hm
 refine cond_s (fun g34_10 => ?_) (fun g34_10 => ?_)
 replace e39 := ift ((si e22).symm.trans g34_10) e39
 refine cond_t g34_10 ?_
 obtain ⟨x36, l36, k36, e39⟩ := ixb e39
 refine RStep.ofN (index_addr rfl rfl (hasK hp1_0.rd k36) l36 (lt_ofE rfl l36 k36) (cond_t g34_10 (RStep.of (load_rd ((0 : Int).toNat) 0 _ _ hp1_0.rd rfl (mp k36) rfl rfl (cond_t g34_10 (neq_int (cond_t g34_10 ?_)))))))
 refine cond_go rfl ?_
 refine cond_s (fun w39 => ?_) (fun w39 => ?_)
 replace hm := ift ((si e39).symm.trans w39) hm
 obtain ⟨x41, l41, k41, hm⟩ := ixb hm
 refine RStep.ofN (index_addr rfl rfl (hasK hp1_0.rd k41) l41 (lt_ofE rfl l41 k41) (RStep.of (load_rd ((0 : Int).toNat) 0 _ _ hp1_0.rd rfl (mp k41) rfl rfl ?_)))
 obtain rfl := si hm
 refine EndStep.mk _ (Hp.Le.refl _) ⟨rfl, rfl⟩ (ConvH.of (.cons r1 .nil))
 replace hm := iff_ ((si e39).symm.trans w39) hm
 obtain rfl := si hm
 refine EndStep.mk _ (Hp.Le.refl _) ⟨rfl, rfl⟩ (ConvH.of (.cons r1 .nil))
 replace e39 := iff_ ((si e22).symm.trans g34_10) e39
 refine cond_f g34_10 (cond_f g34_10 (cond_f g34_10 (cond_f g34_10 (cond_go rfl (cond_F ?_)))))
 replace hm := iff_ (si e39).symm hm
 obtain rfl := si hm
 refine EndStep.mk _ (Hp.Le.refl _) ⟨rfl, rfl⟩ (ConvH.of (.cons r1 .nil))
 replace hm := iff_ w31 hm
 refine eq_int (cond_go rfl ?_)
 refine cond_s (fun w43 => ?_) (fun w43 => ?_)
 replace hm := ift w43 hm
 refine cond_go rfl (cond_t w43 ?_)
 obtain ⟨x52, e52, hm⟩ := bnd hm
 refine cond_s (fun g47_14 => ?_) (fun g47_14 => ?_)
 replace e52 := ift ((si e22).symm.trans g47_14) e52
 refine cond_t g47_14 ?_
 obtain ⟨x49, l49, k49, e52⟩ := ixb e52
 refine RStep.ofN (index_addr rfl rfl (hasK hp1_0.rd k49) l49 (lt_ofE rfl l49 k49) (cond_t g47_14 (RStep.of (load_rd ((0 : Int).toNat) 0 _ _ hp1_0.rd rfl (mp k49) rfl rfl (cond_t g47_14 (eq_int (cond_t g47_14 ?_)))))))
 refine cond_go rfl ?_
 refine cond_s (fun w52 => ?_) (fun w52 => ?_)
 replace hm := ift ((si e52).symm.trans w52) hm
 obtain rfl := si hm
 refine EndStep.mk _ (Hp.Le.refl _) ⟨rfl, rfl⟩ (ConvH.of (.cons r1 .nil))
 replace hm := iff_ ((si e52).symm.trans w52) hm
 obtain rfl := si hm
 refine EndStep.mk _ (Hp.Le.refl _) ⟨rfl, rfl⟩ (ConvH.of (.cons r1 .nil))
 replace e52 := iff_ ((si e22).symm.trans g47_14) e52
 refine cond_f g47_14 (cond_f g47_14 (cond_f g47_14 (cond_f g47_14 (cond_go rfl (cond_F ?_)))))
 replace hm := iff_ (si e52).symm hm
 obtain rfl := si hm
 refine EndStep.mk _ (Hp.Le.refl _) ⟨rfl, rfl⟩ (ConvH.of (.cons r1 .nil))
 replace hm := iff_ w43 hm
 refine eq_int (cond_go rfl ?_)
 refine cond_s (fun w43 => ?_) (fun w43 => ?_)
 replace hm := ift w43 hm
 obtain ⟨x52, e52, hm⟩ := bnd hm
 refine cond_s (fun g47_14 => ?_) (fun g47_14 => ?_)
 replace e52 := ift ((si e22).symm.trans g47_14) e52
 refine cond_t g47_14 ?_
 obtain ⟨x49, l49, k49, e52⟩ := ixb e52
 refine RStep.ofN (index_addr rfl rfl (hasK hp1_0.rd k49) l49 (lt_ofE rfl l49 k49) (cond_t g47_14 (RStep.of (load_rd ((0 : Int).toNat) 0 _ _ hp1_0.rd rfl (mp k49) rfl rfl (cond_t g47_14 (eq_int (cond_t g47_14 ?_)))))))
 refine cond_go rfl ?_
 refine cond_s (fun w52 => ?_) (fun w52 => ?_)
 replace hm := ift ((si e52).symm.trans w52) hm
 obtain rfl := si hm
 refine EndStep.mk _ (Hp.Le.refl _) ⟨rfl, rfl⟩ (ConvH.of (.cons r1 .nil))
 replace hm := iff_ ((si e52).symm.trans w52) hm
 obtain rfl := si hm
 refine EndStep.mk _ (Hp.Le.refl _) ⟨rfl, rfl⟩ (ConvH.of (.cons r1 .nil))
 replace e52 := iff_ ((si e22).symm.trans g47_14) e52
 refine cond_f g47_14 (cond_f g47_14 (cond_f g47_14 (cond_f g47_14 (cond_go rfl (cond_F ?_)))))
 replace hm := iff_ (si e52).symm hm
 obtain rfl := si hm
 refine EndStep.mk _ (Hp.Le.refl _) ⟨rfl, rfl⟩ (ConvH.of (.cons r1 .nil))
 replace hm := iff_ w43 hm
 refine eq_int (cond_go rfl ?_)
 refine cond_s (fun w53 => ?_) (fun w53 => ?_)
 replace hm := ift w53 hm
 refine cond_go rfl (cond_t w53 ?_)
 obtain ⟨x62, e62, hm⟩ := bnd hm
 refine cond_s (fun g57_18 => ?_) (fun g57_18 => ?_)
 replace e62 := ift ((si e22).symm.trans g57_18) e62
 refine cond_t g57_18 ?_
 obtain ⟨x59, l59, k59, e62⟩ := ixb e62
 refine RStep.ofN (index_addr rfl rfl (hasK hp1_0.rd k59) l59 (lt_ofE rfl l59 k59) (cond_t g57_18 (RStep.of (load_rd ((0 : Int).toNat) 0 _ _ hp1_0.rd rfl (mp k59) rfl rfl (cond_t g57_18 (eq_int (cond_t g57_18 ?_)))))))
 refine cond_go rfl ?_
 refine cond_s (fun w62 => ?_) (fun w62 => ?_)
 replace hm := ift ((si e62).symm.trans w62) hm
 obtain rfl := si hm
 refine EndStep.mk _ (Hp.Le.refl _) ⟨rfl, rfl⟩ (ConvH.of (.cons r1 .nil))
 replace hm := iff_ ((si e62).symm.trans w62) hm
 obtain rfl := si hm
 refine EndStep.mk _ (Hp.Le.refl _) ⟨rfl, rfl⟩ (ConvH.of (.cons r1 .nil))
 replace e62 := iff_ ((si e22).symm.trans g57_18) e62
 refine cond_f g57_18 (cond_f g57_18 (cond_f g57_18 (cond_f g57_18 (cond_go rfl (cond_F ?_)))))
 replace hm := iff_ (si e62).symm hm
 obtain rfl := si hm
 refine EndStep.mk _ (Hp.Le.refl _) ⟨rfl, rfl⟩ (ConvH.of (.cons r1 .nil))
 replace hm := iff_ w53 hm
 refine eq_int (cond_go rfl ?_)
 refine cond_s (fun w53 => ?_) (fun w53 => ?_)
 replace hm := ift w53 hm
 obtain ⟨x62, e62, hm⟩ := bnd hm
 refine cond_s (fun g57_18 => ?_) (fun g57_18 => ?_)
 replace e62 := ift ((si e22).symm.trans g57_18) e62
 refine cond_t g57_18 ?_
 obtain ⟨x59, l59, k59, e62⟩ := ixb e62
 refine RStep.ofN (index_addr rfl rfl (hasK hp1_0.rd k59) l59 (lt_ofE rfl l59 k59) (cond_t g57_18 (RStep.of (load_rd ((0 : Int).toNat) 0 _ _ hp1_0.rd rfl (mp k59) rfl rfl (cond_t g57_18 (eq_int (cond_t g57_18 ?_)))))))
 refine cond_go rfl ?_
 refine cond_s (fun w62 => ?_) (fun w62 => ?_)
 replace hm := ift ((si e62).symm.trans w62) hm
 obtain rfl := si hm
 refine EndStep.mk _ (Hp.Le.refl _) ⟨rfl, rfl⟩ (ConvH.of (.cons r1 .nil))
 replace hm := iff_ ((si e62).symm.trans w62) hm
 obtain rfl := si hm
 refine EndStep.mk _ (Hp.Le.refl _) ⟨rfl, rfl⟩ (ConvH.of (.cons r1 .nil))
 replace e62 := iff_ ((si e22).symm.trans g57_18) e62
 refine cond_f g57_18 (cond_f g57_18 (cond_f g57_18 (cond_f g57_18 (cond_go rfl (cond_F ?_)))))
 replace hm := iff_ (si e62).symm hm
 obtain rfl := si hm
 refine EndStep.mk _ (Hp.Le.refl _) ⟨rfl, rfl⟩ (ConvH.of (.cons r1 .nil))
 replace hm := iff_ w53 hm
 refine eq_int (cond_go rfl ?_)
 refine cond_s (fun w63 => ?_) (fun w63 => ?_)
 replace hm := ift w63 hm
 obtain ⟨x66, l66, k66, hm⟩ := ixb hm
 refine RStep.ofN (index_addr rfl rfl (hasK hp1_0.rd k66) l66 (lt_ofE rfl l66 k66) (RStep.of (load_rd ((0 : Int).toNat) 0 _ _ hp1_0.rd rfl (mp k66) rfl rfl (eq_int (cond_go rfl ?_)))))
 refine cond_s (fun w68 => ?_) (fun w68 => ?_)
 replace hm := ift w68 hm
 obtain rfl := si hm
 refine EndStep.mk _ (Hp.Le.refl _) ⟨rfl, rfl⟩ (ConvH.of (.cons r1 .nil))
 replace hm := iff_ w68 hm
 obtain rfl := si hm
 refine EndStep.mk _ (Hp.Le.refl _) ⟨rfl, rfl⟩ (ConvH.of (.cons r1 .nil))
 replace hm := iff_ w63 hm
 refine eq_int (cond_go rfl ?_)
 refine cond_s (fun w69 => ?_) (fun w69 => ?_)
 replace hm := ift w69 hm
 refine Jb rfl (RStep.of (load1_s r0 rfl rfl (eq_str ?_)))
 refine cond_s (fun g74_24 => ?_) (fun g74_24 => ?_)
 refine cond_t g74_24 (cond_t g74_24 (cond_t g74_24 (Jb rfl (RStep.of (load1_s r0 rfl rfl (eq_str ?_))))))
 refine cond_s (fun g82_25 => ?_) (fun g82_25 => ?_)
 refine cond_t g82_25 (cond_t g82_25 (cond_t g82_25 (cond_T (cond_T (cond_T ?_)))))
 refine cond_T ?_
 refine cond_s (fun g93_26 => ?_) (fun g93_26 => ?_)
 replace hm := ift ((si e22).symm.trans g93_26) hm
 refine cond_t g93_26 (un_not (cond_t g93_26 ?_))
 obtain ⟨x101, e101, hm⟩ := bnd hm
 replace e101 := iff_ (not_f (or_t g74_24)) e101
 refine cond_F (cond_F ?_)
 obtain ⟨x98, l98, k98, e101⟩ := ixb e101
 refine RStep.ofN (index_addr rfl rfl (hasK hp1_0.rd k98) l98 (lt_ofE rfl l98 k98) (cond_F (RStep.of (load_rd ((0 : Int).toNat) 0 _ _ hp1_0.rd rfl (mp k98) rfl rfl (cond_F (eq_int (cond_t g93_26 ?_)))))))
 refine cond_F (cond_t g93_26 ?_)
 refine cond_s (fun g103_26 => ?_) (fun g103_26 => ?_)
 replace hm := ift ((si e101).symm.trans g103_26) hm
 refine cond_t g103_26 (un_not (cond_t g103_26 ?_))
 obtain ⟨x111, e111, hm⟩ := bnd hm
 replace e111 := iff_ (not_f (or_t (or_t g82_25))) e111
 refine cond_F (cond_F ?_)
 obtain ⟨x108, l108, k108, e111⟩ := ixb e111
 refine RStep.ofN (index_addr rfl rfl (hasK hp1_0.rd k108) l108 (lt_ofE rfl l108 k108) (cond_F (RStep.of (load_rd ((0 : Int).toNat) 0 _ _ hp1_0.rd rfl (mp k108) rfl rfl (cond_F (eq_int (cond_t g103_26 ?_)))))))
 refine cond_F (cond_t g103_26 (cond_go rfl ?_))
 refine cond_s (fun w112 => ?_) (fun w112 => ?_)
 replace hm := ift ((si e111).symm.trans w112) hm
 obtain rfl := si hm
 refine EndStep.mk _ (Hp.Le.refl _) ⟨rfl, rfl⟩ (ConvH.of (.cons r1 .nil))
 replace hm := iff_ ((si e111).symm.trans w112) hm
 obtain rfl := si hm
 refine EndStep.mk _ (Hp.Le.refl _) ⟨rfl, rfl⟩ (ConvH.of (.cons r1 .nil))
 replace hm := iff_ ((si e101).symm.trans g103_26) hm
 refine cond_f g103_26 (cond_f g103_26 (cond_f g103_26 (cond_f g103_26 (cond_go rfl (cond_F ?_)))))
 obtain rfl := si hm
 refine EndStep.mk _ (Hp.Le.refl _) ⟨rfl, rfl⟩ (ConvH.of (.cons r1 .nil))
 replace hm := iff_ ((si e22).symm.trans g93_26) hm
 refine cond_f g93_26 (cond_f g93_26 (cond_f g93_26 (cond_f g93_26 (cond_F (cond_F ?_)))))
 refine cond_F (cond_F (cond_F (cond_go rfl (cond_F ?_))))
 obtain rfl := si hm
 refine EndStep.mk _ (Hp.Le.refl _) ⟨rfl, rfl⟩ (ConvH.of (.cons r1 .nil))
 refine Jb rfl (cond_f g82_25 (RStep.of (load1_s r0 rfl rfl (cond_f g82_25 (eq_str (cond_f g82_25 ?_))))))
 refine cond_s (fun g87_25 => ?_) (fun g87_25 => ?_)
 refine cond_t g87_25 (cond_t g87_25 (cond_t g87_25 ?_))
 refine cond_s (fun g93_26 => ?_) (fun g93_26 => ?_)
 replace hm := ift ((si e22).symm.trans g93_26) hm
 refine cond_t g93_26 (un_not (cond_t g93_26 ?_))
 obtain ⟨x101, e101, hm⟩ := bnd hm
 replace e101 := iff_ (not_f (or_t g74_24)) e101
 refine cond_F (cond_F ?_)
 obtain ⟨x98, l98, k98, e101⟩ := ixb e101
 refine RStep.ofN (index_addr rfl rfl (hasK hp1_0.rd k98) l98 (lt_ofE rfl l98 k98) (cond_F (RStep.of (load_rd ((0 : Int).toNat) 0 _ _ hp1_0.rd rfl (mp k98) rfl rfl (cond_F (eq_int (cond_t g93_26 ?_)))))))
 refine cond_F (cond_t g93_26 ?_)
 refine cond_s (fun g103_26 => ?_) (fun g103_26 => ?_)
 replace hm := ift ((si e101).symm.trans g103_26) hm
 refine cond_t g103_26 (un_not (cond_t g103_26 ?_))
 obtain ⟨x111, e111, hm⟩ := bnd hm
 replace e111 := iff_ (not_f (or_t (or_u g82_25 g87_25))) e111
 refine cond_F (cond_F ?_)
 obtain ⟨x108, l108, k108, e111⟩ := ixb e111
 refine RStep.ofN (index_addr rfl rfl (hasK hp1_0.rd k108) l108 (lt_ofE rfl l108 k108) (cond_F (RStep.of (load_rd ((0 : Int).toNat) 0 _ _ hp1_0.rd rfl (mp k108) rfl rfl (cond_F (eq_int (cond_t g103_26 ?_)))))))
 refine cond_F (cond_t g103_26 (cond_go rfl ?_))
 refine cond_s (fun w112 => ?_) (fun w112 => ?_)
 replace hm := ift ((si e111).symm.trans w112) hm
 obtain rfl := si hm
 refine EndStep.mk _ (Hp.Le.refl _) ⟨rfl, rfl⟩ (ConvH.of (.cons r1 .nil))
 replace hm := iff_ ((si e111).symm.trans w112) hm
 obtain rfl := si hm
 refine EndStep.mk _ (Hp.Le.refl _) ⟨rfl, rfl⟩ (ConvH.of (.cons r1 .nil))
 replace hm := iff_ ((si e101).symm.trans g103_26) hm
 refine cond_f g103_26 (cond_f g103_26 (cond_f g103_26 (cond_f g103_26 (cond_go rfl (cond_F ?_)))))
 obtain rfl := si hm
 refine EndStep.mk _ (Hp.Le.refl _) ⟨rfl, rfl⟩ (ConvH.of (.cons r1 .nil))
 replace hm := iff_ ((si e22).symm.trans g93_26) hm
 refine cond_f g93_26 (cond_f g93_26 (cond_f g93_26 (cond_f g93_26 (cond_F (cond_F ?_)))))
 refine cond_F (cond_F (cond_F (cond_go rfl (cond_F ?_))))
 obtain rfl := si hm
 refine EndStep.mk _ (Hp.Le.refl _) ⟨rfl, rfl⟩ (ConvH.of (.cons r1 .nil))
 refine Jb rfl (cond_f g87_25 (RStep.of (load1_s r0 rfl rfl (cond_f g87_25 (eq_str (cond_f g87_25 ?_))))))
 refine cond_s (fun g93_26 => ?_) (fun g93_26 => ?_)
 replace hm := ift ((si e22).symm.trans g93_26) hm
 refine cond_t g93_26 (un_not (cond_t g93_26 ?_))
 obtain ⟨x101, e101, hm⟩ := bnd hm
 replace e101 := iff_ (not_f (or_t g74_24)) e101
 refine cond_F (cond_F ?_)
 obtain ⟨x98, l98, k98, e101⟩ := ixb e101
 refine RStep.ofN (index_addr rfl rfl (hasK hp1_0.rd k98) l98 (lt_ofE rfl l98 k98) (cond_F (RStep.of (load_rd ((0 : Int).toNat) 0 _ _ hp1_0.rd rfl (mp k98) rfl rfl (cond_F (eq_int (cond_t g93_26 ?_)))))))
 refine cond_F (cond_t g93_26 ?_)
 refine cond_s (fun g103_26 => ?_) (fun g103_26 => ?_)
 replace hm := ift ((si e101).symm.trans g103_26) hm
 refine cond_t g103_26 (un_not (cond_t g103_26 ?_))
 obtain ⟨x111, e111, hm⟩ := bnd hm
 refine cond_s (fun g106_26 => ?_) (fun g106_26 => ?_)
 replace e111 := ift (not_t (or_f (or_f g82_25 g87_25) (ni_t g106_26))) e111
 refine cond_t g106_26 (cond_t g106_26 (cond_t g106_26 (cond_t g103_26 (cond_t g106_26 (cond_t g103_26 ?_)))))
 refine cond_go rfl (cond_T ?_)
 replace hm := ift (si e111).symm hm
 obtain rfl := si hm
 refine EndStep.mk _ (Hp.Le.refl _) ⟨rfl, rfl⟩ (ConvH.of (.cons r1 .nil))
 replace e111 := iff_ (not_f (or_u (or_f g82_25 g87_25) (ni_f g106_26))) e111
 refine cond_f g106_26 ?_
 obtain ⟨x108, l108, k108, e111⟩ := ixb e111
 refine RStep.ofN (index_addr rfl rfl (hasK hp1_0.rd k108) l108 (lt_ofE rfl l108 k108) (cond_f g106_26 (RStep.of (load_rd ((0 : Int).toNat) 0 _ _ hp1_0.rd rfl (mp k108) rfl rfl (cond_f g106_26 (eq_int (cond_t g103_26 ?_)))))))
 refine cond_f g106_26 (cond_t g103_26 (cond_go rfl ?_))
 refine cond_s (fun w112 => ?_) (fun w112 => ?_)
 replace hm := ift ((si e111).symm.trans w112) hm
 obtain rfl := si hm
 refine EndStep.mk _ (Hp.Le.refl _) ⟨rfl, rfl⟩ (ConvH.of (.cons r1 .nil))
 replace hm := iff_ ((si e111).symm.trans w112) hm
 obtain rfl := si hm
 refine EndStep.mk _ (Hp.Le.refl _) ⟨rfl, rfl⟩ (ConvH.of (.cons r1 .nil))
 replace hm := iff_ ((si e101).symm.trans g103_26) hm
 refine cond_f g103_26 (cond_f g103_26 (cond_f g103_26 (cond_f g103_26 (cond_go rfl (cond_F ?_)))))
 obtain rfl := si hm
 refine EndStep.mk _ (Hp.Le.refl _) ⟨rfl, rfl⟩ (ConvH.of (.cons r1 .nil))
 replace hm := iff_ ((si e22).symm.trans g93_26) hm
 refine cond_f g93_26 (cond_f g93_26 (cond_f g93_26 (cond_f g93_26 (cond_F (cond_F ?_)))))
 refine cond_F (cond_F (cond_F (cond_go rfl (cond_F ?_))))
 obtain rfl := si hm
 refine EndStep.mk _ (Hp.Le.refl _) ⟨rfl, rfl⟩ (ConvH.of (.cons r1 .nil))
 refine Jb rfl (cond_f g74_24 (RStep.of (load1_s r0 rfl rfl (cond_f g74_24 (eq_str (cond_f g74_24 ?_))))))
 refine Jb rfl (RStep.of (load1_s r0 rfl rfl (eq_str ?_)))
 refine cond_s (fun g82_25 => ?_) (fun g82_25 => ?_)
 refine cond_t g82_25 (cond_t g82_25 (cond_t g82_25 (cond_T (cond_T (cond_T ?_)))))
 refine cond_T ?_
 refine cond_s (fun g93_26 => ?_) (fun g93_26 => ?_)
 replace hm := ift ((si e22).symm.trans g93_26) hm
 refine cond_t g93_26 (un_not (cond_t g93_26 ?_))
 obtain ⟨x101, e101, hm⟩ := bnd hm
 refine cond_s (fun g96_26 => ?_) (fun g96_26 => ?_)
 replace e101 := ift (not_t (or_f g74_24 (ni_t g96_26))) e101
 refine cond_t g96_26 (cond_t g96_26 (cond_t g96_26 (cond_t g93_26 (cond_t g96_26 (cond_t g93_26 ?_)))))
 replace hm := ift (si e101).symm hm
 refine cond_T (cond_T (un_not (cond_T ?_)))
 obtain ⟨x111, e111, hm⟩ := bnd hm
 replace e111 := iff_ (not_f (or_t (or_t g82_25))) e111
 refine cond_F (cond_F ?_)
 obtain ⟨x108, l108, k108, e111⟩ := ixb e111
 refine RStep.ofN (index_addr rfl rfl (hasK hp1_0.rd k108) l108 (lt_ofE rfl l108 k108) (cond_F (RStep.of (load_rd ((0 : Int).toNat) 0 _ _ hp1_0.rd rfl (mp k108) rfl rfl (cond_F (eq_int (cond_T ?_)))))))
 refine cond_F (cond_T (cond_go rfl ?_))
 refine cond_s (fun w112 => ?_) (fun w112 => ?_)
 replace hm := ift ((si e111).symm.trans w112) hm
 obtain rfl := si hm
 refine EndStep.mk _ (Hp.Le.refl _) ⟨rfl, rfl⟩ (ConvH.of (.cons r1 .nil))
 replace hm := iff_ ((si e111).symm.trans w112) hm
 obtain rfl := si hm
 refine EndStep.mk _ (Hp.Le.refl _) ⟨rfl, rfl⟩ (ConvH.of (.cons r1 .nil))
 replace e101 := iff_ (not_f (or_u g74_24 (ni_f g96_26))) e101
 refine cond_f g96_26 ?_
 obtain ⟨x98, l98, k98, e101⟩ := ixb e101
 refine RStep.ofN (index_addr rfl rfl (hasK hp1_0.rd k98) l98 (lt_ofE rfl l98 k98) (cond_f g96_26 (RStep.of (load_rd ((0 : Int).toNat) 0 _ _ hp1_0.rd rfl (mp k98) rfl rfl (cond_f g96_26 (eq_int (cond_t g93_26 ?_)))))))
 refine cond_f g96_26 (cond_t g93_26 ?_)
 refine cond_s (fun g103_26 => ?_) (fun g103_26 => ?_)
 replace hm := ift ((si e101).symm.trans g103_26) hm
 refine cond_t g103_26 (un_not (cond_t g103_26 ?_))
 obtain ⟨x111, e111, hm⟩ := bnd hm
 replace e111 := iff_ (not_f (or_t (or_t g82_25))) e111
 refine cond_F (cond_F ?_)
 obtain ⟨x108, l108, k108, e111⟩ := ixb e111
 refine RStep.ofN (index_addr rfl rfl (hasK hp1_0.rd k108) l108 (lt_ofE rfl l108 k108) (cond_F (RStep.of (load_rd ((0 : Int).toNat) 0 _ _ hp1_0.rd rfl (mp k108) rfl rfl (cond_F (eq_int (cond_t g103_26 ?_)))))))
 refine cond_F (cond_t g103_26 (cond_go rfl ?_))
 refine cond_s (fun w112 => ?_) (fun w112 => ?_)
 replace hm := ift ((si e111).symm.trans w112) hm
 obtain rfl := si hm
 refine EndStep.mk _ (Hp.Le.refl _) ⟨rfl, rfl⟩ (ConvH.of (.cons r1 .nil))
 replace hm := iff_ ((si e111).symm.trans w112) hm
 obtain rfl := si hm
 refine EndStep.mk _ (Hp.Le.refl _) ⟨rfl, rfl⟩ (ConvH.of (.cons r1 .nil))
 replace hm := iff_ ((si e101).symm.trans g103_26) hm
 refine cond_f g103_26 (cond_f g103_26 (cond_f g103_26 (cond_f g103_26 (cond_go rfl (cond_F ?_)))))
 obtain rfl := si hm
 refine EndStep.mk _ (Hp.Le.refl _) ⟨rfl, rfl⟩ (ConvH.of (.cons r1 .nil))
 replace hm := iff_ ((si e22).symm.trans g93_26) hm
 refine cond_f g93_26 (cond_f g93_26 (cond_f g93_26 (cond_f g93_26 (cond_F (cond_F ?_)))))
 refine cond_F (cond_F (cond_F (cond_go rfl (cond_F ?_))))
 obtain rfl := si hm
 refine EndStep.mk _ (Hp.Le.refl _) ⟨rfl, rfl⟩ (ConvH.of (.cons r1 .nil))
 refine Jb rfl (cond_f g82_25 (RStep.of (load1_s r0 rfl rfl (cond_f g82_25 (eq_str (cond_f g82_25 ?_))))))
 refine cond_s (fun g87_25 => ?_) (fun g87_25 => ?_)
 refine cond_t g87_25 (cond_t g87_25 (cond_t g87_25 ?_))
 refine cond_s (fun g93_26 => ?_) (fun g93_26 => ?_)
 replace hm := ift ((si e22).symm.trans g93_26) hm
 refine cond_t g93_26 (un_not (cond_t g93_26 ?_))
 obtain ⟨x101, e101, hm⟩ := bnd hm
 refine cond_s (fun g96_26 => ?_) (fun g96_26 => ?_)
 replace e101 := ift (not_t (or_f g74_24 (ni_t g96_26))) e101
 refine cond_t g96_26 (cond_t g96_26 (cond_t g96_26 (cond_t g93_26 (cond_t g96_26 (cond_t g93_26 ?_)))))
 replace hm := ift (si e101).symm hm
 refine cond_T (cond_T (un_not (cond_T ?_)))
 obtain ⟨x111, e111, hm⟩ := bnd hm
 replace e111 := iff_ (not_f (or_t (or_u g82_25 g87_25))) e111
 refine cond_F (cond_F ?_)
 obtain ⟨x108, l108, k108, e111⟩ := ixb e111
 refine RStep.ofN (index_addr rfl rfl (hasK hp1_0.rd k108) l108 (lt_ofE rfl l108 k108) (cond_F (RStep.of (load_rd ((0 : Int).toNat) 0 _ _ hp1_0.rd rfl (mp k108) rfl rfl (cond_F (eq_int (cond_T ?_)))))))
 refine cond_F (cond_T (cond_go rfl ?_))
 refine cond_s (fun w112 => ?_) (fun w112 => ?_)
 replace hm := ift ((si e111).symm.trans w112) hm
 obtain rfl := si hm
 refine EndStep.mk _ (Hp.Le.refl _) ⟨rfl, rfl⟩ (ConvH.of (.cons r1 .nil))
 replace hm := iff_ ((si e111).symm.trans w112) hm
 obtain rfl := si hm
 refine EndStep.mk _ (Hp.Le.refl _) ⟨rfl, rfl⟩ (ConvH.of (.cons r1 .nil))
 replace e101 := iff_ (not_f (or_u g74_24 (ni_f g96_26))) e101
 refine cond_f g96_26 ?_
 obtain ⟨x98, l98, k98, e101⟩ := ixb e101
 refine RStep.ofN (index_addr rfl rfl (hasK hp1_0.rd k98) l98 (lt_ofE rfl l98 k98) (cond_f g96_26 (RStep.of (load_rd ((0 : Int).toNat) 0 _ _ hp1_0.rd rfl (mp k98) rfl rfl (cond_f g96_26 (eq_int (cond_t g93_26 ?_)))))))
 refine cond_f g96_26 (cond_t g93_26 ?_)
 refine cond_s (fun g103_26 => ?_) (fun g103_26 => ?_)
 replace hm := ift ((si e101).symm.trans g103_26) hm
 refine cond_t g103_26 (un_not (cond_t g103_26 ?_))
 obtain ⟨x111, e111, hm⟩ := bnd hm
 replace e111 := iff_ (not_f (or_t (or_u g82_25 g87_25))) e111
 refine cond_F (cond_F ?_)
 obtain ⟨x108, l108, k108, e111⟩ := ixb e111
 refine RStep.ofN (index_addr rfl rfl (hasK hp1_0.rd k108) l108 (lt_ofE rfl l108 k108) (cond_F (RStep.of (load_rd ((0 : Int).toNat) 0 _ _ hp1_0.rd rfl (mp k108) rfl rfl (cond_F (eq_int (cond_t g103_26 ?_)))))))
 refine cond_F (cond_t g103_26 (cond_go rfl ?_))
 refine cond_s (fun w112 => ?_) (fun w112 => ?_)
 replace hm := ift ((si e111).symm.trans w112) hm
 obtain rfl := si hm
 refine EndStep.mk _ (Hp.Le.refl _) ⟨rfl, rfl⟩ (ConvH.of (.cons r1 .nil))
 replace hm := iff_ ((si e111).symm.trans w112) hm
 obtain rfl := si hm
 refine EndStep.mk _ (Hp.Le.refl _) ⟨rfl, rfl⟩ (ConvH.of (.cons r1 .nil))
 replace hm := iff_ ((si e101).symm.trans g103_26) hm
 refine cond_f g103_26 (cond_f g103_26 (cond_f g103_26 (cond_f g103_26 (cond_go rfl (cond_F ?_)))))
 obtain rfl := si hm
 refine EndStep.mk _ (Hp.Le.refl _) ⟨rfl, rfl⟩ (ConvH.of (.cons r1 .nil))
 replace hm := iff_ ((si e22).symm.trans g93_26) hm
 refine cond_f g93_26 (cond_f g93_26 (cond_f g93_26 (cond_f g93_26 (cond_F (cond_F ?_)))))
 refine cond_F (cond_F (cond_F (cond_go rfl (cond_F ?_))))
 obtain rfl := si hm
 refine EndStep.mk _ (Hp.Le.refl _) ⟨rfl, rfl⟩ (ConvH.of (.cons r1 .nil))
 refine Jb rfl (cond_f g87_25 (RStep.of (load1_s r0 rfl rfl (cond_f g87_25 (eq_str (cond_f g87_25 ?_))))))
 refine cond_s (fun g93_26 => ?_) (fun g93_26 => ?_)
 replace hm := ift ((si e22).symm.trans g93_26) hm
 refine cond_t g93_26 (un_not (cond_t g93_26 ?_))
 obtain ⟨x101, e101, hm⟩ := bnd hm
 refine cond_s (fun g96_26 => ?_) (fun g96_26 => ?_)
 replace e101 := ift (not_t (or_f g74_24 (ni_t g96_26))) e101
 refine cond_t g96_26 (cond_t g96_26 (cond_t g96_26 (cond_t g93_26 (cond_t g96_26 (cond_t g93_26 ?_)))))
 replace hm := ift (si e101).symm hm
 refine cond_T (cond_T (un_not (cond_T ?_)))
 obtain ⟨x111, e111, hm⟩ := bnd hm
 refine cond_s (fun g106_26 => ?_) (fun g106_26 => ?_)
 replace e111 := ift (not_t (or_f (or_f g82_25 g87_25) (ni_t g106_26))) e111
 refine cond_t g106_26 (cond_t g106_26 (cond_t g106_26 (cond_T (cond_t g106_26 (cond_T ?_)))))
 refine cond_go rfl (cond_T ?_)
 replace hm := ift (si e111).symm hm
 obtain rfl := si hm
 refine EndStep.mk _ (Hp.Le.refl _) ⟨rfl, rfl⟩ (ConvH.of (.cons r1 .nil))
 replace e111 := iff_ (not_f (or_u (or_f g82_25 g87_25) (ni_f g106_26))) e111
 refine cond_f g106_26 ?_
 obtain ⟨x108, l108, k108, e111⟩ := ixb e111
 refine RStep.ofN (index_addr rfl rfl (hasK hp1_0.rd k108) l108 (lt_ofE rfl l108 k108) (cond_f g106_26 (RStep.of (load_rd ((0 : Int).toNat) 0 _ _ hp1_0.rd rfl (mp k108) rfl rfl (cond_f g106_26 (eq_int (cond_T ?_)))))))
 refine cond_f g106_26 (cond_T (cond_go rfl ?_))
 refine cond_s (fun w112 => ?_) (fun w112 => ?_)
 replace hm := ift ((si e111).symm.trans w112) hm
 obtain rfl := si hm
 refine EndStep.mk _ (Hp.Le.refl _) ⟨rfl, rfl⟩ (ConvH.of (.cons r1 .nil))
 replace hm := iff_ ((si e111).symm.trans w112) hm
 obtain rfl := si hm
 refine EndStep.mk _ (Hp.Le.refl _) ⟨rfl, rfl⟩ (ConvH.of (.cons r1 .nil))
 replace e101 := iff_ (not_f (or_u g74_24 (ni_f g96_26))) e101
 refine cond_f g96_26 ?_
 obtain ⟨x98, l98, k98, e101⟩ := ixb e101
 refine RStep.ofN (index_addr rfl rfl (hasK hp1_0.rd k98) l98 (lt_ofE rfl l98 k98) (cond_f g96_26 (RStep.of (load_rd ((0 : Int).toNat) 0 _ _ hp1_0.rd rfl (mp k98) rfl rfl (cond_f g96_26 (eq_int (cond_t g93_26 ?_)))))))
 refine cond_f g96_26 (cond_t g93_26 ?_)
 refine cond_s (fun g103_26 => ?_) (fun g103_26 => ?_)
 replace hm := ift ((si e101).symm.trans g103_26) hm
 refine cond_t g103_26 (un_not (cond_t g103_26 ?_))
 obtain ⟨x111, e111, hm⟩ := bnd hm
 refine cond_s (fun g106_26 => ?_) (fun g106_26 => ?_)
 replace e111 := ift (not_t (or_f (or_f g82_25 g87_25) (ni_t g106_26))) e111
 refine cond_t g106_26 (cond_t g106_26 (cond_t g106_26 (cond_t g103_26 (cond_t g106_26 (cond_t g103_26 ?_)))))
 refine cond_go rfl (cond_T ?_)
 replace hm := ift (si e111).symm hm
 obtain rfl := si hm
 refine EndStep.mk _ (Hp.Le.refl _) ⟨rfl, rfl⟩ (ConvH.of (.cons r1 .nil))
 replace e111 := iff_ (not_f (or_u (or_f g82_25 g87_25) (ni_f g106_26))) e111
 refine cond_f g106_26 ?_
 obtain ⟨x108, l108, k108, e111⟩ := ixb e111
 refine RStep.ofN (index_addr rfl rfl (hasK hp1_0.rd k108) l108 (lt_ofE rfl l108 k108) (cond_f g106_26 (RStep.of (load_rd ((0 : Int).toNat) 0 _ _ hp1_0.rd rfl (mp k108) rfl rfl (cond_f g106_26 (eq_int (cond_t g103_26 ?_)))))))
 refine cond_f g106_26 (cond_t g103_26 (cond_go rfl ?_))
 refine cond_s (fun w112 => ?_) (fun w112 => ?_)
 replace hm := ift ((si e111).symm.trans w112) hm
 obtain rfl := si hm
 refine EndStep.mk _ (Hp.Le.refl _) ⟨rfl, rfl⟩ (ConvH.of (.cons r1 .nil))
 replace hm := iff_ ((si e111).symm.trans w112) hm
 obtain rfl := si hm
 refine EndStep.mk _ (Hp.Le.refl _) ⟨rfl, rfl⟩ (ConvH.of (.cons r1 .nil))
 replace hm := iff_ ((si e101).symm.trans g103_26) hm
 refine cond_f g103_26 (cond_f g103_26 (cond_f g103_26 (cond_f g103_26 (cond_go rfl (cond_F ?_)))))
 obtain rfl := si hm
 refine EndStep.mk _ (Hp.Le.refl _) ⟨rfl, rfl⟩ (ConvH.of (.cons r1 .nil))
 replace hm := iff_ ((si e22).symm.trans g93_26) hm
 refine cond_f g93_26 (cond_f g93_26 (cond_f g93_26 (cond_f g93_26 (cond_F (cond_F ?_)))))
 refine cond_F (cond_F (cond_F (cond_go rfl (cond_F ?_))))
 obtain rfl := si hm
 refine EndStep.mk _ (Hp.Le.refl _) ⟨rfl, rfl⟩ (ConvH.of (.cons r1 .nil))
 replace hm := iff_ w69 hm
 refine eq_int (cond_go rfl ?_)
 refine cond_s (fun w113 => ?_) (fun w113 => ?_)
 replace hm := ift w113 hm
 refine Jb rfl (RStep.of (load1_s r0 rfl rfl ?_))
 obtain ⟨x118, q118, hm⟩ := bnd hm
 refine call_fn (JbU (s := n'.Text) q118) .nil ?_
 rintro _ K118 _ l118 ⟨rfl, rfl⟩
 refine RStep.of (len_slice rfl (eq_int ?_))
 obtain ⟨x131, e131, hm⟩ := bnd hm
 refine cond_s (fun g125_30 => ?_) (fun g125_30 => ?_)
 replace e131 := ift g125_30 e131
 refine cond_t g125_30 ?_
 obtain ⟨x127, l127, k127, e131⟩ := ixb e131
 refine RStep.ofN (index_addr rfl rfl (hasK (hp1_0.mono l118).rd k127) l127 (lt_ofE rfl l127 k127) (cond_t g125_30 (RStep.of (load_rd ((0 : Int).toNat) 0 _ _ (hp1_0.mono l118).rd rfl (mp k127) rfl rfl (cond_t g125_30 (cond_t g125_30 (eq_int ?_)))))))
 refine cond_t g125_30 (cond_go rfl ?_)
 refine cond_s (fun w131 => ?_) (fun w131 => ?_)
 replace hm := ift ((si e131).symm.trans w131) hm
 obtain rfl := si hm
 refine EndStep.mk _ l118 ⟨rfl, rfl⟩ (ConvH.of (.cons r1 .nil))
 replace hm := iff_ ((si e131).symm.trans w131) hm
 obtain rfl := si hm
 refine EndStep.mk _ l118 ⟨rfl, rfl⟩ (ConvH.of (.cons r1 .nil))
 replace e131 := iff_ g125_30 e131
 refine cond_f g125_30 (cond_f g125_30 (cond_f g125_30 (cond_f g125_30 (cond_f g125_30 (cond_go rfl ?_)))))
 refine cond_F ?_
 replace hm := iff_ (si e131).symm hm
 obtain rfl := si hm
 refine EndStep.mk _ l118 ⟨rfl, rfl⟩ (ConvH.of (.cons r1 .nil))
 replace hm := iff_ w113 hm
 obtain rfl := si hm
 refine EndStep.mk _ (Hp.Le.refl _) ⟨rfl, rfl⟩ (ConvH.of (.cons r1 .nil))
 replace e22 := iff_ g14_1 e22
 refine cond_f g14_1 (cond_f g14_1 (cond_f g14_1 (cond_f g14_1 (cond_f g14_1 (cond_f g14_1 ?_)))))
 refine cond_f g14_1 (Jb rfl (RStep.of (load1_s r0 rfl rfl ?_)))
 refine block_go rfl ?_
 refine eq_int (cond_go rfl ?_)
 refine cond_s (fun w25 => ?_) (fun w25 => ?_)
 replace hm := ift w25 hm
 obtain rfl := si hm
 refine EndStep.mk _ (Hp.Le.refl _) ⟨rfl, rfl⟩ (ConvH.of (.cons r1 .nil))
 replace hm := iff_ w25 hm
 refine eq_int (cond_go rfl ?_)
 refine cond_s (fun w27 => ?_) (fun w27 => ?_)
 replace hm := ift w27 hm
 obtain rfl := si hm
 refine EndStep.mk _ (Hp.Le.refl _) ⟨rfl, rfl⟩ (ConvH.of (.cons r1 .nil))
 replace hm := iff_ w27 hm
 refine eq_int (cond_go rfl ?_)
 refine cond_s (fun w29 => ?_) (fun w29 => ?_)
 replace hm := ift w29 hm
 obtain rfl := si hm
 refine EndStep.mk _ (Hp.Le.refl _) ⟨rfl, rfl⟩ (ConvH.of (.cons r1 .nil))
 replace hm := iff_ w29 hm
 refine eq_int (cond_go rfl ?_)
 refine cond_s (fun w31 => ?_) (fun w31 => ?_)
 replace hm := ift w31 hm
 obtain ⟨x39, e39, hm⟩ := bnd hm
 replace e39 := iff_ (si e22).symm e39
 refine cond_F (cond_F (cond_F (cond_F (cond_F (cond_go rfl ?_)))))
 refine cond_F ?_
 replace hm := iff_ (si e39).symm hm
 obtain rfl := si hm
 refine EndStep.mk _ (Hp.Le.refl _) ⟨rfl, rfl⟩ (ConvH.of (.cons r1 .nil))
 replace hm := iff_ w31 hm
 refine eq_int (cond_go rfl ?_)
 refine cond_s (fun w43 => ?_) (fun w43 => ?_)
 replace hm := ift w43 hm
 refine cond_go rfl (cond_t w43 ?_)
 obtain ⟨x52, e52, hm⟩ := bnd hm
 replace e52 := iff_ (si e22).symm e52
 refine cond_F (cond_F (cond_F (cond_F (cond_F (cond_go rfl ?_)))))
 refine cond_F ?_
 replace hm := iff_ (si e52).symm hm
 obtain rfl := si hm
 refine EndStep.mk _ (Hp.Le.refl _) ⟨rfl, rfl⟩ (ConvH.of (.cons r1 .nil))
 replace hm := iff_ w43 hm
 refine eq_int (cond_go rfl ?_)
 refine cond_s (fun w43 => ?_) (fun w43 => ?_)
 replace hm := ift w43 hm
 obtain ⟨x52, e52, hm⟩ := bnd hm
 replace e52 := iff_ (si e22).symm e52
 refine cond_F (cond_F (cond_F (cond_F (cond_F (cond_go rfl ?_)))))
 refine cond_F ?_
 replace hm := iff_ (si e52).symm hm
 obtain rfl := si hm
 refine EndStep.mk _ (Hp.Le.refl _) ⟨rfl, rfl⟩ (ConvH.of (.cons r1 .nil))
 replace hm := iff_ w43 hm
 refine eq_int (cond_go rfl ?_)
 refine cond_s (fun w53 => ?_) (fun w53 => ?_)
 replace hm := ift w53 hm
 refine cond_go rfl (cond_t w53 ?_)
 obtain ⟨x62, e62, hm⟩ := bnd hm
 replace e62 := iff_ (si e22).symm e62
 refine cond_F (cond_F (cond_F (cond_F (cond_F (cond_go rfl ?_)))))
 refine cond_F ?_
 replace hm := iff_ (si e62).symm hm
 obtain rfl := si hm
 refine EndStep.mk _ (Hp.Le.refl _) ⟨rfl, rfl⟩ (ConvH.of (.cons r1 .nil))
 replace hm := iff_ w53 hm
 refine eq_int (cond_go rfl ?_)
 refine cond_s (fun w53 => ?_) (fun w53 => ?_)
 replace hm := ift w53 hm
 obtain ⟨x62, e62, hm⟩ := bnd hm
 replace e62 := iff_ (si e22).symm e62
 refine cond_F (cond_F (cond_F (cond_F (cond_F (cond_go rfl ?_)))))
 refine cond_F ?_
 replace hm := iff_ (si e62).symm hm
 obtain rfl := si hm
 refine EndStep.mk _ (Hp.Le.refl _) ⟨rfl, rfl⟩ (ConvH.of (.cons r1 .nil))
 replace hm := iff_ w53 hm
 refine eq_int (cond_go rfl ?_)
 refine cond_s (fun w63 => ?_) (fun w63 => ?_)
 replace hm := ift w63 hm
 obtain ⟨x66, l66, k66, hm⟩ := ixb hm
 refine RStep.ofN (index_addr rfl rfl (hasK hp1_0.rd k66) l66 (lt_ofE rfl l66 k66) (RStep.of (load_rd ((0 : Int).toNat) 0 _ _ hp1_0.rd rfl (mp k66) rfl rfl (eq_int (cond_go rfl ?_)))))
 refine cond_s (fun w68 => ?_) (fun w68 => ?_)
 replace hm := ift w68 hm
 obtain rfl := si hm
 refine EndStep.mk _ (Hp.Le.refl _) ⟨rfl, rfl⟩ (ConvH.of (.cons r1 .nil))
 replace hm := iff_ w68 hm
 obtain rfl := si hm
 refine EndStep.mk _ (Hp.Le.refl _) ⟨rfl, rfl⟩ (ConvH.of (.cons r1 .nil))
 replace hm := iff_ w63 hm
 refine eq_int (cond_go rfl ?_)
 refine cond_s (fun w69 => ?_) (fun w69 => ?_)
 replace hm := ift w69 hm
 refine Jb rfl (RStep.of (load1_s r0 rfl rfl (eq_str ?_)))
 refine cond_s (fun g74_24 => ?_) (fun g74_24 => ?_)
 refine cond_t g74_24 (cond_t g74_24 (cond_t g74_24 (Jb rfl (RStep.of (load1_s r0 rfl rfl (eq_str ?_))))))
 refine cond_s (fun g82_25 => ?_) (fun g82_25 => ?_)
 refine cond_t g82_25 (cond_t g82_25 (cond_t g82_25 (cond_T (cond_T (cond_T ?_)))))
 refine cond_T ?_
 replace hm := iff_ (si e22).symm hm
 refine cond_F (cond_F (cond_F (cond_F (cond_F (cond_F ?_)))))
 refine cond_F (cond_F (cond_F (cond_F (cond_go rfl (cond_F ?_)))))
 obtain rfl := si hm
 refine EndStep.mk _ (Hp.Le.refl _) ⟨rfl, rfl⟩ (ConvH.of (.cons r1 .nil))
 refine Jb rfl (cond_f g82_25 (RStep.of (load1_s r0 rfl rfl (cond_f g82_25 (eq_str (cond_f g82_25 ?_))))))
 refine cond_s (fun g87_25 => ?_) (fun g87_25 => ?_)
 refine cond_t g87_25 (cond_t g87_25 (cond_t g87_25 ?_))
 replace hm := iff_ (si e22).symm hm
 refine cond_F (cond_F (cond_F (cond_F (cond_F (cond_F ?_)))))
 refine cond_F (cond_F (cond_F (cond_F (cond_go rfl (cond_F ?_)))))
 obtain rfl := si hm
 refine EndStep.mk _ (Hp.Le.refl _) ⟨rfl, rfl⟩ (ConvH.of (.cons r1 .nil))
 refine Jb rfl (cond_f g87_25 (RStep.of (load1_s r0 rfl rfl (cond_f g87_25 (eq_str (cond_f g87_25 ?_))))))
 replace hm := iff_ (si e22).symm hm
 refine cond_F (cond_F (cond_F (cond_F (cond_F (cond_F ?_)))))
 refine cond_F (cond_F (cond_F (cond_F (cond_go rfl (cond_F ?_)))))
 obtain rfl := si hm
 refine EndStep.mk _ (Hp.Le.refl _) ⟨rfl, rfl⟩ (ConvH.of (.cons r1 .nil))
 refine Jb rfl (cond_f g74_24 (RStep.of (load1_s r0 rfl rfl (cond_f g74_24 (eq_str (cond_f g74_24 ?_))))))
 refine Jb rfl (RStep.of (load1_s r0 rfl rfl (eq_str ?_)))
 refine cond_s (fun g82_25 => ?_) (fun g82_25 => ?_)
 refine cond_t g82_25 (cond_t g82_25 (cond_t g82_25 (cond_T (cond_T (cond_T ?_)))))
 refine cond_T ?_
 replace hm := iff_ (si e22).symm hm
 refine cond_F (cond_F (cond_F (cond_F (cond_F (cond_F ?_)))))
 refine cond_F (cond_F (cond_F (cond_F (cond_go rfl (cond_F ?_)))))
 obtain rfl := si hm
 refine EndStep.mk _ (Hp.Le.refl _) ⟨rfl, rfl⟩ (ConvH.of (.cons r1 .nil))
 refine Jb rfl (cond_f g82_25 (RStep.of (load1_s r0 rfl rfl (cond_f g82_25 (eq_str (cond_f g82_25 ?_))))))
 refine cond_s (fun g87_25 => ?_) (fun g87_25 => ?_)
 refine cond_t g87_25 (cond_t g87_25 (cond_t g87_25 ?_))
 replace hm := iff_ (si e22).symm hm
 refine cond_F (cond_F (cond_F (cond_F (cond_F (cond_F ?_)))))
 refine cond_F (cond_F (cond_F (cond_F (cond_go rfl (cond_F ?_)))))
 obtain rfl := si hm
 refine EndStep.mk _ (Hp.Le.refl _) ⟨rfl, rfl⟩ (ConvH.of (.cons r1 .nil))
 refine Jb rfl (cond_f g87_25 (RStep.of (load1_s r0 rfl rfl (cond_f g87_25 (eq_str (cond_f g87_25 ?_))))))
 replace hm := iff_ (si e22).symm hm
 refine cond_F (cond_F (cond_F (cond_F (cond_F (cond_F ?_)))))
 refine cond_F (cond_F (cond_F (cond_F (cond_go rfl (cond_F ?_)))))
 obtain rfl := si hm
 refine EndStep.mk _ (Hp.Le.refl _) ⟨rfl, rfl⟩ (ConvH.of (.cons r1 .nil))
 replace hm := iff_ w69 hm
 refine eq_int (cond_go rfl ?_)
 refine cond_s (fun w113 => ?_) (fun w113 => ?_)
 replace hm := ift w113 hm
 refine Jb rfl (RStep.of (load1_s r0 rfl rfl ?_))
 obtain ⟨x118, q118, hm⟩ := bnd hm
 refine call_fn (JbU (s := n'.Text) q118) .nil ?_
 rintro _ K118 _ l118 ⟨rfl, rfl⟩
 refine RStep.of (len_slice rfl (eq_int ?_))
 obtain ⟨x131, e131, hm⟩ := bnd hm
 refine cond_s (fun g125_30 => ?_) (fun g125_30 => ?_)
 replace e131 := ift g125_30 e131
 refine cond_t g125_30 ?_
 obtain ⟨x127, l127, k127, e131⟩ := ixb e131
 refine RStep.ofN (index_addr rfl rfl (hasK (hp1_0.mono l118).rd k127) l127 (lt_ofE rfl l127 k127) (cond_t g125_30 (RStep.of (load_rd ((0 : Int).toNat) 0 _ _ (hp1_0.mono l118).rd rfl (mp k127) rfl rfl (cond_t g125_30 (cond_t g125_30 (eq_int ?_)))))))
 refine cond_t g125_30 (cond_go rfl ?_)
 refine cond_s (fun w131 => ?_) (fun w131 => ?_)
 replace hm := ift ((si e131).symm.trans w131) hm
 obtain rfl := si hm
 refine EndStep.mk _ l118 ⟨rfl, rfl⟩ (ConvH.of (.cons r1 .nil))
 replace hm := iff_ ((si e131).symm.trans w131) hm
 obtain rfl := si hm
 refine EndStep.mk _ l118 ⟨rfl, rfl⟩ (ConvH.of (.cons r1 .nil))
 replace e131 := iff_ g125_30 e131
 refine cond_f g125_30 (cond_f g125_30 (cond_f g125_30 (cond_f g125_30 (cond_f g125_30 (cond_go rfl ?_)))))
 refine cond_F ?_
 replace hm := iff_ (si e131).symm hm
 obtain rfl := si hm
 refine EndStep.mk _ l118 ⟨rfl, rfl⟩ (ConvH.of (.cons r1 .nil))
 replace hm := iff_ w113 hm
 obtain rfl := si hm
 refine EndStep.mk _ (Hp.Le.refl _) ⟨rfl, rfl⟩ (ConvH.of (.cons r1 .nil))

noncomputable def Jba (rec_ : (Jc → (List Ju) → Option (Int × JA))) (env : (List Ju)) : List Jc → Nat → (List Int) → Option (Fl (Int × JA) ((List Int)))
  | [], _, y0_0 => some (Fl.go y0_0)
  | e0 :: xs0, i0, y0_0 =>
    (rec_ e0 env).bind fun x26 =>
    if decide (x26.2.Code ≠ 0) then
    some (Fl.ret (0, x26.2))
    else
    (chk (y0_0.length + [x26.1].length ≤ lim)).bind fun _ =>
    Jba rec_ env xs0 (i0 + 1) (y0_0 ++ [x26.1])
noncomputable def Ja3 : Nat → Jc → (List Ju) → Option (Int × JA)
  | 0, _, _ => none
  | n + 1, n', env =>
    (chk (n'.Kids.length ≤ szMax)).bind fun _ =>
    (Jba (Ja3 n) env n'.Kids 0 []).bind fun s0 => s0.el some fun t0 =>
    if decide (n'.Kind = 23) then
    (JbL n n'.Text env).bind fun x44 =>
    if decide (x44 ≠ 0) then
    some (x44, (⟨0, 0⟩ : JA))
    else
    some (0, (⟨n'.Line, 8⟩ : JA))
    else
    if decide (n'.Kind = 24) then
    (Jbj n'.Text).bind fun x58 =>
    if (!x58.2.2) then
    some (0, (⟨n'.Line, 8⟩ : JA))
    else
    (Jah n' t0).bind fun x69 =>
    if decide (x69 = 0) then
    some (0, (⟨n'.Line, 9⟩ : JA))
    else
    some (x69, (⟨0, 0⟩ : JA))
    else
    (Jah n' t0).bind fun x69 =>
    if decide (x69 = 0) then
    some (0, (⟨n'.Line, 9⟩ : JA))
    else
    some (x69, (⟨0, 0⟩ : JA))
set_option maxHeartbeats 8000000 in
theorem Jdm : ∀ {n : Nat} {n' : Jc} {env : (List Ju)} {ap0_0 : Option Addr} {cp0_0 : Nat} {ap1_0 : Option Addr} {cp1_0 : Nat} {n1 : Nat} {K : Hp} {r : Int × JA}
    (hm : Ja3 n n' env = some r) (hp0_0 : LiC Jc.R K ap0_0 cp0_0 4 n'.Kids) (hp1_0 : RdC Ju.enc K ap1_0 cp1_0 2 env) (en1 : n1 = env.length),
    Fn Tryz.prog 78 [.agg #[.int .i64 n'.Kind, str n'.Text, .slice ap0_0 n'.Kids.length cp0_0, .int .i64 n'.Line], .slice ap1_0 n1 cp1_0] K [] (fun v K' H' => v = .tuple #[.int .i64 r.1, .agg #[.int .i64 r.2.Line, .int .i64 r.2.Code]] ∧ H' = []) := by
 intro n
 induction n with
 | zero =>
   intro n' env ap0_0 cp0_0 ap1_0 cp1_0 n1 K r hm hp0_0 hp1_0 en1
   rw [Ja3.eq_1] at hm; cases hm
 | succ n ih =>
   intro n' env ap0_0 cp0_0 ap1_0 cp1_0 n1 K r hm hp0_0 hp1_0 en1
   subst en1
   refine Fn.enter Tryz.func78 Tryz.call78 rfl fun F => ?_
   rw [Ja3.eq_2] at hm
   refine box_rule ?_
   intro b2
   refine alloc_rule rfl ?_
   intro b5
   refine Jb rfl (RStep.of (load1_s r1 rfl rfl (RStep.of (len_slice rfl ?_))))
   obtain ⟨hk0, hm⟩ := chkb hm
   obtain ⟨s0, hl0, hm⟩ := bnd hm
   refine nilC eN 3 1 ?_
   refine code_cut (σ := ((List Int)) × Option Addr × Nat) [4, 6, 8, 9, 10, 19, 20, 21, 22, 23, 24, 25, 26, 27, 28, 29, 30, 31, 32, 33, 34, 35, 36, 37] (fun (t0, t0_a0, t0_c0) => [(6, .slice t0_a0 t0.length t0_c0)]) (fun (t0, t0_a0, t0_c0) => [OwnL eN t0_a0 3 1 t0_c0 t0, Cells b5 68 [.int .i64 0, .int .i64 0], Cells b2 24 [.int .i64 n'.Kind, str n'.Text, .slice ap0_0 n'.Kids.length cp0_0, .int .i64 n'.Line], F]) (fun zz K1 => match zz with | (t0, t0_a0, t0_c0) => (0 < t0.length → Has t0_a0) ∧ s0 = Fl.go t0) ?_ ?_
   refine block_go rfl ?_
   refine loop_rule (σ := Nat × (List Int) × Option Addr × Nat) [4, 6, 8, 9, 10, 19, 20, 21, 22, 23, 24, 25, 26, 27, 28, 29, 30, 31, 32, 33, 34, 35, 36, 37] (fun (i0, y0_0, y0_a0, y0_c0) => [(19, .int .i64 (i0 : Int)), (6, .slice y0_a0 y0_0.length y0_c0)]) (fun (i0, y0_0, y0_a0, y0_c0) => [OwnL eN y0_a0 3 1 y0_c0 y0_0, Cells b5 68 [.int .i64 0, .int .i64 0], Cells b2 24 [.int .i64 n'.Kind, str n'.Text, .slice ap0_0 n'.Kids.length cp0_0, .int .i64 n'.Line], F]) (fun zz K1 => match zz with | (i0, y0_0, y0_a0, y0_c0) => (0 < y0_0.length → Has y0_a0) ∧ Jba (Ja3 n) env (n'.Kids.drop i0) i0 y0_0 = some s0) (fun zz => n'.Kids.length - zz.1) (0, [], none, 0) rfl ⟨rfl, rfl, trivial⟩ (ConvH.of (.cons r0 (.cons r0 (.cons r0 (.cons r0 .nil))))) ⟨(fun h => by simp at h), hl0⟩ ?_
   clear hl0
   rintro ⟨i0, y0_0, y0_a0, y0_c0⟩ Kb0 lk0 ⟨y0_h0, hl0⟩ j0
   refine cond_go rfl ?_
   refine cond_s (fun w0 => ?_) (fun w0 => ?_)
   obtain ⟨e0, hx0, hd0⟩ := ltx w0
   rw [hd0, Jba.eq_2] at hl0
   refine block_go rfl ?_
   refine RStep.ofN (index_addr rfl rfl (hasR (LiC.mono Jc.R_ok lk0 hp0_0).rd hx0) (nn _) (lt_ofN hx0) ?_)
   obtain ⟨ss22, cc22, hr22, hc22, hR22⟩ := LiR.get (LiC.mono Jc.R_ok lk0 hp0_0).rd hx0
   obtain ⟨a22_0, c22_0, rfl, h22_0⟩ := Jc.out hR22
   refine RStep.of (load_rd_agg i0 _ hr22 rfl hc22 rfl ?_)
   refine alloc_rule rfl ?_
   intro b8
   refine store_rule r0 rfl ?_
   refine ⟨rfl, rfl, (Nat.le_of_ble_eq_true rfl), ?_⟩
   refine RStep.of (loadn_s r0 rfl (Nat.le_of_ble_eq_true rfl) ?_)
   obtain ⟨x26, q26, hl0⟩ := bnd hl0
   refine call_fn (ih (n' := e0) q26 h22_0 (hp1_0.mono lk0) rfl) .nil ?_
   rintro _ K26 _ l26 ⟨rfl, rfl⟩
   refine alloc_rule rfl ?_
   intro b10
   refine store_rule r0 rfl ?_
   refine ⟨rfl, rfl, (Nat.le_of_ble_eq_true rfl), ?_⟩
   refine Jb rfl (RStep.of (load1_s r0 rfl rfl (neq_int (cond_go rfl ?_))))
   refine cond_s (fun w31 => ?_) (fun w31 => ?_)
   replace hl0 := ift w31 hl0
   refine draw_go ⟨⟨[], false⟩, _, [(_, _)]⟩ (by kernel_rfl) ⟨Hp.Le.refl _, (ConvH.of (.cons r0 .nil))⟩ ?_
   refine loadn_l m0 rfl (Nat.le_of_ble_eq_true rfl) ?_
   refine store_rule r3 rfl ?_
   refine ⟨rfl, rfl, (Nat.le_of_ble_eq_true rfl), ?_⟩
   refine ⟨⟨(Hp.Le.refl _), (ConvH.of (.cons r1 .nil))⟩, ?_⟩
   obtain rfl := si hl0
   replace hm := elr hm
   obtain rfl := si hm
   refine RStep.of (loadn_s r0 rfl (Nat.le_of_ble_eq_true rfl) ?_)
   refine EndStep.mk _ (lk0.trans l26) ⟨rfl, rfl⟩ (ConvH.of (.cons r5 .nil))
   replace hl0 := iff_ w31 hl0
   refine bsO (len := 1) (enc := eN) (l := [x26.1]) (cl := [.int .i64 x26.1]) elT81 rfl rfl (fun _ _ => rfl) rfl rfl rfl ?_ fun b35 => ?_
   · conv => whnf
     refine cond_T ?_
     first | done | rfl
   obtain ⟨h36, hl0⟩ := chkb hl0
   refine apE rfl r3 elT81 (src_own' rfl r0 rfl (fun _ => rfl) (fun _ => rfl)) h36 ?_
   intro a36 c36 o36
   refine int_in (cntz hx0 hk0) ?_
   refine RoundStep.mk (i0 + 1, (y0_0 ++ [x26.1]), a36, c36) ⟨rfl, rfl, trivial⟩ (by repeat (first | exact trivial | refine And.intro rfl ?_)) (ConvH.of (.cons r0 (.cons r3 (.cons r3 (.cons r3 .nil))))) (lk0.trans l26) (ltm hx0) ⟨o36, hl0⟩
   rw [lty w0, Jba.eq_1] at hl0
   refine cond_T ?_
   refine MeetStep.mk (y0_0, y0_a0, y0_c0) ⟨rfl, trivial⟩ (by repeat (first | exact trivial | refine And.intro rfl ?_)) (ConvH.of (.cons r0 (.cons r0 (.cons r0 (.cons r0 .nil))))) lk0 ⟨y0_h0, (si hl0).symm⟩
   rintro ⟨t0, t0_a0, t0_c0⟩ Kt0 lt0 ⟨t0_h0, rfl⟩ j0
   replace hm := elg hm
   refine Jb rfl (RStep.of (load1_s r2 rfl rfl (eq_int (cond_go rfl ?_))))
   refine cond_s (fun w40 => ?_) (fun w40 => ?_)
   replace hm := ift w40 hm
   refine Jb rfl (RStep.of (load1_s r2 rfl rfl ?_))
   obtain ⟨x44, q44, hm⟩ := bnd hm
   refine call_fn (Jcc (s := n'.Text) q44 (hp1_0.mono lt0) rfl) .nil ?_
   rintro _ K44 _ l44 ⟨rfl, rfl⟩
   refine neq_int (cond_go rfl ?_)
   refine cond_s (fun w46 => ?_) (fun w46 => ?_)
   replace hm := ift w46 hm
   refine build_struct rfl rfl ?_
   refine store_rule r1 rfl ?_
   refine ⟨rfl, rfl, (Nat.le_of_ble_eq_true rfl), ?_⟩
   obtain rfl := si hm
   refine RStep.of (loadn_s r0 rfl (Nat.le_of_ble_eq_true rfl) ?_)
   refine EndStep.mk _ (lt0.trans l44) ⟨rfl, rfl⟩ (ConvH.of (.cons r3 .nil))
   replace hm := iff_ w46 hm
   refine draw_go ⟨⟨[], false⟩, _, [(_, _)]⟩ (by kernel_rfl) ⟨Hp.Le.refl _, (ConvH.of (.cons r2 .nil))⟩ ?_
   refine Jb rfl (load1_l m0 rfl rfl (build_struct rfl rfl (cond_T (cond_T ?_))))
   refine store_rule r1 rfl ?_
   refine ⟨rfl, rfl, (Nat.le_of_ble_eq_true rfl), ?_⟩
   refine ⟨⟨(Hp.Le.refl _), (ConvH.of (.cons r2 .nil))⟩, ?_⟩
   obtain rfl := si hm
   refine RStep.of (loadn_s r0 rfl (Nat.le_of_ble_eq_true rfl) ?_)
   refine EndStep.mk _ (lt0.trans l44) ⟨rfl, rfl⟩ (ConvH.of (.cons r3 .nil))
   replace hm := iff_ w40 hm
   refine Jb rfl (RStep.of (load1_s r2 rfl rfl (eq_int (cond_go rfl ?_))))
   refine cond_s (fun w54 => ?_) (fun w54 => ?_)
   replace hm := ift w54 hm
   refine Jb rfl (RStep.of (load1_s r2 rfl rfl ?_))
   obtain ⟨x58, q58, hm⟩ := bnd hm
   refine call_fn (JbU (s := n'.Text) q58) .nil ?_
   rintro _ K58 _ l58 ⟨rfl, rfl⟩
   refine un_not (cond_go rfl ?_)
   refine cond_s (fun w63 => ?_) (fun w63 => ?_)
   replace hm := ift (not_t (ni_t w63)) hm
   refine draw_go ⟨⟨[], false⟩, _, [(_, _)]⟩ (by kernel_rfl) ⟨Hp.Le.refl _, (ConvH.of (.cons r2 .nil))⟩ ?_
   refine Jb rfl (load1_l m0 rfl rfl (build_struct rfl rfl (cond_T (cond_T ?_))))
   refine store_rule r1 rfl ?_
   refine ⟨rfl, rfl, (Nat.le_of_ble_eq_true rfl), ?_⟩
   refine ⟨⟨(Hp.Le.refl _), (ConvH.of (.cons r2 .nil))⟩, ?_⟩
   obtain rfl := si hm
   refine RStep.of (loadn_s r0 rfl (Nat.le_of_ble_eq_true rfl) ?_)
   refine EndStep.mk _ (lt0.trans l58) ⟨rfl, rfl⟩ (ConvH.of (.cons r3 .nil))
   replace hm := iff_ (not_f (ni_f w63)) hm
   refine RStep.of (loadn_s r2 rfl (Nat.le_of_ble_eq_true rfl) ?_)
   obtain ⟨x69, q69, hm⟩ := bnd hm
   refine call_fn (Fn.lend Tryz.call103 (fun K69_1 l69_1 f69_1 => (JcH (n' := n') q69 (LiC.mono Jc.R_ok ((lt0.trans l58).trans l69_1) hp0_0) f69_1 rfl)) (by exact fun _ _ _ _ h => h)) (.cons r0 .nil) ?_
   rintro _ K69 _ l69 ⟨_, rfl, rfl, rfl⟩
   refine eq_int (cond_go rfl ?_)
   refine cond_s (fun w71 => ?_) (fun w71 => ?_)
   replace hm := ift w71 hm
   refine draw_go ⟨⟨[], false⟩, _, [(_, _)]⟩ (by kernel_rfl) ⟨Hp.Le.refl _, (ConvH.of (.cons r2 .nil))⟩ ?_
   refine Jb rfl (load1_l m0 rfl rfl (build_struct rfl rfl (cond_T (cond_T ?_))))
   refine store_rule r1 rfl ?_
   refine ⟨rfl, rfl, (Nat.le_of_ble_eq_true rfl), ?_⟩
   refine ⟨⟨(Hp.Le.refl _), (ConvH.of (.cons r2 .nil))⟩, ?_⟩
   obtain rfl := si hm
   refine RStep.of (loadn_s r0 rfl (Nat.le_of_ble_eq_true rfl) ?_)
   refine EndStep.mk _ ((lt0.trans l58).trans l69) ⟨rfl, rfl⟩ (ConvH.of (.cons r3 .nil))
   replace hm := iff_ w71 hm
   refine build_struct rfl rfl ?_
   refine store_rule r1 rfl ?_
   refine ⟨rfl, rfl, (Nat.le_of_ble_eq_true rfl), ?_⟩
   obtain rfl := si hm
   refine RStep.of (loadn_s r0 rfl (Nat.le_of_ble_eq_true rfl) ?_)
   refine EndStep.mk _ ((lt0.trans l58).trans l69) ⟨rfl, rfl⟩ (ConvH.of (.cons r3 .nil))
   replace hm := iff_ w54 hm
   refine RStep.of (loadn_s r2 rfl (Nat.le_of_ble_eq_true rfl) ?_)
   obtain ⟨x69, q69, hm⟩ := bnd hm
   refine call_fn (Fn.lend Tryz.call103 (fun K69_1 l69_1 f69_1 => (JcH (n' := n') q69 (LiC.mono Jc.R_ok (lt0.trans l69_1) hp0_0) f69_1 rfl)) (by exact fun _ _ _ _ h => h)) (.cons r0 .nil) ?_
   rintro _ K69 _ l69 ⟨_, rfl, rfl, rfl⟩
   refine eq_int (cond_go rfl ?_)
   refine cond_s (fun w71 => ?_) (fun w71 => ?_)
   replace hm := ift w71 hm
   refine draw_go ⟨⟨[], false⟩, _, [(_, _)]⟩ (by kernel_rfl) ⟨Hp.Le.refl _, (ConvH.of (.cons r2 .nil))⟩ ?_
   refine Jb rfl (load1_l m0 rfl rfl (build_struct rfl rfl (cond_T (cond_T ?_))))
   refine store_rule r1 rfl ?_
   refine ⟨rfl, rfl, (Nat.le_of_ble_eq_true rfl), ?_⟩
   refine ⟨⟨(Hp.Le.refl _), (ConvH.of (.cons r2 .nil))⟩, ?_⟩
   obtain rfl := si hm
   refine RStep.of (loadn_s r0 rfl (Nat.le_of_ble_eq_true rfl) ?_)
   refine EndStep.mk _ (lt0.trans l69) ⟨rfl, rfl⟩ (ConvH.of (.cons r3 .nil))
   replace hm := iff_ w71 hm
   refine build_struct rfl rfl ?_
   refine store_rule r1 rfl ?_
   refine ⟨rfl, rfl, (Nat.le_of_ble_eq_true rfl), ?_⟩
   obtain rfl := si hm
   refine RStep.of (loadn_s r0 rfl (Nat.le_of_ble_eq_true rfl) ?_)
   refine EndStep.mk _ (lt0.trans l69) ⟨rfl, rfl⟩ (ConvH.of (.cons r3 .nil))

noncomputable def Jcd (kind : Int) : Option (Int) :=
  if decide (kind = 4) then
  some 1
  else
  if decide (kind = 5) then
  some 1
  else
  if decide (kind = 7) then
  some 1
  else
  if decide (kind = 8) then
  some 2
  else
  if decide (kind = 9) then
  some 2
  else
  if decide (kind = 2) then
  some 3
  else
  some 0
set_option maxHeartbeats 8000000 in
theorem Jdi {kind : Int} {K : Hp} {r : Int}
    (hm : Jcd kind = some r)  :
    Fn Tryz.prog 79 [.int .i64 kind] K [] (fun v K' H' => v = .int .i64 r ∧ H' = []) := by
 refine Fn.enter Tryz.func79 Tryz.call79 rfl fun F => ?_
 unfold Jcd at hm
 refine block_go rfl ?_
 refine eq_int (cond_go rfl ?_)
 refine cond_s (fun w4 => ?_) (fun w4 => ?_)
 replace hm := ift w4 hm
 refine cond_go rfl (cond_t w4 ?_)
 obtain rfl := si hm
 refine EndStep.mk _ (Hp.Le.refl _) ⟨rfl, rfl⟩ (ConvH.of (.cons r0 .nil))
 replace hm := iff_ w4 hm
 refine eq_int (cond_go rfl ?_)
 refine cond_s (fun w4 => ?_) (fun w4 => ?_)
 replace hm := ift w4 hm
 refine cond_go rfl (cond_t w4 ?_)
 obtain rfl := si hm
 refine EndStep.mk _ (Hp.Le.refl _) ⟨rfl, rfl⟩ (ConvH.of (.cons r0 .nil))
 replace hm := iff_ w4 hm
 refine eq_int (cond_go rfl ?_)
 refine cond_s (fun w4 => ?_) (fun w4 => ?_)
 replace hm := ift w4 hm
 obtain rfl := si hm
 refine EndStep.mk _ (Hp.Le.refl _) ⟨rfl, rfl⟩ (ConvH.of (.cons r0 .nil))
 replace hm := iff_ w4 hm
 refine eq_int (cond_go rfl ?_)
 refine cond_s (fun w8 => ?_) (fun w8 => ?_)
 replace hm := ift w8 hm
 refine cond_go rfl (cond_t w8 ?_)
 obtain rfl := si hm
 refine EndStep.mk _ (Hp.Le.refl _) ⟨rfl, rfl⟩ (ConvH.of (.cons r0 .nil))
 replace hm := iff_ w8 hm
 refine eq_int (cond_go rfl ?_)
 refine cond_s (fun w8 => ?_) (fun w8 => ?_)
 replace hm := ift w8 hm
 obtain rfl := si hm
 refine EndStep.mk _ (Hp.Le.refl _) ⟨rfl, rfl⟩ (ConvH.of (.cons r0 .nil))
 replace hm := iff_ w8 hm
 refine eq_int (cond_go rfl ?_)
 refine cond_s (fun w11 => ?_) (fun w11 => ?_)
 replace hm := ift w11 hm
 obtain rfl := si hm
 refine EndStep.mk _ (Hp.Le.refl _) ⟨rfl, rfl⟩ (ConvH.of (.cons r0 .nil))
 replace hm := iff_ w11 hm
 obtain rfl := si hm
 refine EndStep.mk _ (Hp.Le.refl _) ⟨rfl, rfl⟩ (ConvH.of (.cons r0 .nil))

noncomputable def JJ (rec_ : ((List Jc) → (List Ju) → Option (JA))) (y0_0 : (List Ju)) : List Jc → Nat → Option (Fl (JA) (Unit))
  | [], _ => some (Fl.go ())
  | e3 :: xs3, i3 =>
    if decide (e3.Kind = 2) then
    (rec_ [e3] y0_0).bind fun x90 =>
    if decide (x90.Code ≠ 0) then
    some (Fl.ret x90)
    else
    JJ rec_ y0_0 xs3 (i3 + 1)
    else
    (rec_ e3.Kids y0_0).bind fun x90 =>
    if decide (x90.Code ≠ 0) then
    some (Fl.ret x90)
    else
    JJ rec_ y0_0 xs3 (i3 + 1)
noncomputable def JV (n : Nat) (rec_ : ((List Jc) → (List Ju) → Option (JA))) : List Jc → Nat → (List Ju) → Option (Fl (JA) ((List Ju)))
  | [], _, y0_0 => some (Fl.go y0_0)
  | e0 :: xs0, i0, y0_0 =>
    if decide ((e0.Kids.length : Int) = 0) then
    JV n rec_ xs0 (i0 + 1) y0_0
    else
    (ix e0.Kids 0).bind fun x27 =>
    (Ja3 n x27 y0_0).bind fun x30 =>
    if decide (x30.2.Code ≠ 0) then
    some (Fl.ret x30.2)
    else
    (Jcd e0.Kind).bind fun x39 =>
    if (decide (x39 ≠ 0) && decide (x39 ≠ x30.1)) then
    some (Fl.ret (⟨e0.Line, 9⟩ : JA))
    else
    if decide (e0.Kind = 3) then
    (JbL n e0.Text y0_0).bind fun x57 =>
    if decide (x57 ≠ 0) then
    some (Fl.ret (⟨e0.Line, 4⟩ : JA))
    else
    (chk (y0_0.length ≤ lim)).bind fun _ =>
    (chk (y0_0.length + [(⟨e0.Text, x30.1⟩ : Ju)].length ≤ lim)).bind fun _ =>
    JV n rec_ xs0 (i0 + 1) (y0_0 ++ [(⟨e0.Text, x30.1⟩ : Ju)])
    else
    if decide (e0.Kind = 2) then
    (chk (0 ≤ (1 : Int) ∧ (1 : Int) ≤ (e0.Kids.length : Int) ∧ (e0.Kids.length : Int) ≤ (e0.Kids.length : Int))).bind fun _ =>
    (chk ((subL e0.Kids (1 : Int) (e0.Kids.length : Int)).length ≤ szMax)).bind fun _ =>
    (JJ rec_ y0_0 (subL e0.Kids (1 : Int) (e0.Kids.length : Int)) 0).bind fun s3 => s3.el (fun r => some (Fl.ret r)) fun t3 =>
    JV n rec_ xs0 (i0 + 1) y0_0
    else
    JV n rec_ xs0 (i0 + 1) y0_0
noncomputable def J5 : Nat → (List Jc) → (List Ju) → Option (JA)
  | 0, _, _ => none
  | n + 1, list, env =>
    (chk (list.length ≤ szMax)).bind fun _ =>
    (JV n (J5 n) list 0 env).bind fun s0 => s0.el some fun t0 =>
    some (⟨0, 0⟩ : JA)
set_option maxHeartbeats 8000000 in
theorem JcN : ∀ {n : Nat} {list : (List Jc)} {env : (List Ju)} {ap0_0 : Option Addr} {cp0_0 : Nat} {n0 : Nat} {ap1_0 : Option Addr} {cp1_0 : Nat} {n1 : Nat} {K : Hp} {r : JA}
    (hm : J5 n list env = some r) (hp0_0 : LiC Jc.R K ap0_0 cp0_0 4 list) (en0 : n0 = list.length) (hp1_0 : RdC Ju.enc K ap1_0 cp1_0 2 env) (en1 : n1 = env.length),
    Fn Tryz.prog 51 [.slice ap0_0 n0 cp0_0, .slice ap1_0 n1 cp1_0] K [] (fun v K' H' => v = .agg #[.int .i64 r.Line, .int .i64 r.Code] ∧ H' = []) := by
 intro n
 induction n with
 | zero =>
   intro list env ap0_0 cp0_0 n0 ap1_0 cp1_0 n1 K r hm hp0_0 en0 hp1_0 en1
   rw [J5.eq_1] at hm; cases hm
 | succ n ih =>
   intro list env ap0_0 cp0_0 n0 ap1_0 cp1_0 n1 K r hm hp0_0 en0 hp1_0 en1
   subst en0
   subst en1
   refine Fn.enter Tryz.func51 Tryz.call51 rfl fun F => ?_
   rw [J5.eq_2] at hm
   refine alloc_rule rfl ?_
   intro b4
   refine RStep.of (len_slice rfl ?_)
   obtain ⟨hk0, hm⟩ := chkb hm
   obtain ⟨s0, hl0, hm⟩ := bnd hm
   refine code_cut (σ := ((List Ju)) × Option Addr × Nat) [1, 6, 7, 8, 9, 11, 12, 13, 16, 17, 18, 19, 20, 21, 22, 23, 24, 25, 26, 27, 28, 29, 30, 31, 32, 33, 34, 35, 36, 37, 38, 39, 40, 41, 42, 43, 44, 45, 46, 47, 48, 49, 50, 51, 52, 53, 54, 55, 56, 57, 58, 59, 60, 61, 62, 63, 64, 65, 66, 67, 68, 69, 70, 71, 72, 73, 74, 75, 76, 77, 78, 79, 80, 81, 82, 83, 84, 85, 86, 87, 88, 89, 90, 91, 92, 93, 94, 95, 96] (fun (t0, t0_a0, t0_c0) => [(1, .slice t0_a0 t0.length t0_c0)]) (fun (t0, t0_a0, t0_c0) => [Cells b4 68 [.int .i64 0, .int .i64 0], F]) (fun zz K1 => match zz with | (t0, t0_a0, t0_c0) => RdC Ju.enc K1 t0_a0 t0_c0 2 t0 ∧ s0 = Fl.go t0) ?_ ?_
   refine block_go rfl ?_
   refine loop_rule (σ := Nat × (List Ju) × Option Addr × Nat) [1, 6, 7, 8, 9, 11, 12, 13, 16, 17, 18, 19, 20, 21, 22, 23, 24, 25, 26, 27, 28, 29, 30, 31, 32, 33, 34, 35, 36, 37, 38, 39, 40, 41, 42, 43, 44, 45, 46, 47, 48, 49, 50, 51, 52, 53, 54, 55, 56, 57, 58, 59, 60, 61, 62, 63, 64, 65, 66, 67, 68, 69, 70, 71, 72, 73, 74, 75, 76, 77, 78, 79, 80, 81, 82, 83, 84, 85, 86, 87, 88, 89, 90, 91, 92, 93, 94, 95, 96] (fun (i0, y0_0, y0_a0, y0_c0) => [(16, .int .i64 (i0 : Int)), (1, .slice y0_a0 y0_0.length y0_c0)]) (fun (i0, y0_0, y0_a0, y0_c0) => [Cells b4 68 [.int .i64 0, .int .i64 0], F]) (fun zz K1 => match zz with | (i0, y0_0, y0_a0, y0_c0) => RdC Ju.enc K1 y0_a0 y0_c0 2 y0_0 ∧ JV n (J5 n) (list.drop i0) i0 y0_0 = some s0) (fun zz => list.length - zz.1) (0, env, ap1_0, cp1_0) rfl ⟨rfl, rfl, trivial⟩ (ConvH.of (.cons r0 (.cons r0 .nil))) ⟨hp1_0, hl0⟩ ?_
   clear hl0
   rintro ⟨i0, y0_0, y0_a0, y0_c0⟩ Kb0 lk0 ⟨y0_h0, hl0⟩ j0
   refine cond_go rfl ?_
   refine cond_s (fun w0 => ?_) (fun w0 => ?_)
   obtain ⟨e0, hx0, hd0⟩ := ltx w0
   rw [hd0, JV.eq_2] at hl0
   refine block_go rfl ?_
   refine RStep.ofN (index_addr rfl rfl (hasR (LiC.mono Jc.R_ok lk0 hp0_0).rd hx0) (nn _) (lt_ofN hx0) ?_)
   obtain ⟨ss19, cc19, hr19, hc19, hR19⟩ := LiR.get (LiC.mono Jc.R_ok lk0 hp0_0).rd hx0
   obtain ⟨a19_0, c19_0, rfl, h19_0⟩ := Jc.out hR19
   refine RStep.of (load_rd_agg i0 _ hr19 rfl hc19 rfl ?_)
   refine alloc_rule rfl ?_
   intro b6
   refine store_rule r0 rfl ?_
   refine ⟨rfl, rfl, (Nat.le_of_ble_eq_true rfl), ?_⟩
   refine Jb rfl (RStep.of (load1_s r0 rfl rfl (RStep.of (len_slice rfl (eq_int (cond_go rfl ?_))))))
   refine cond_s (fun w23 => ?_) (fun w23 => ?_)
   replace hl0 := ift w23 hl0
   refine cond_T (int_in (cntz hx0 hk0) ?_)
   refine RoundStep.mk (i0 + 1, y0_0, y0_a0, y0_c0) ⟨rfl, rfl, trivial⟩ (by repeat (first | exact trivial | refine And.intro rfl ?_)) (ConvH.of (.cons r1 (.cons r1 .nil))) lk0 (ltm hx0) ⟨y0_h0, hl0⟩
   replace hl0 := iff_ w23 hl0
   refine Jb rfl (RStep.of (load1_s r0 rfl rfl ?_))
   obtain ⟨x27, l27, k27, hl0⟩ := ixb hl0
   refine RStep.ofN (index_addr rfl rfl (hasR h19_0.rd k27) l27 (lt_ofE rfl l27 k27) ?_)
   obtain ⟨ss28, cc28, hr28, hc28, hR28⟩ := LiR.get h19_0.rd k27
   obtain ⟨a28_0, c28_0, rfl, h28_0⟩ := Jc.out hR28
   refine RStep.of (load_rd_agg ((0 : Int).toNat) _ hr28 rfl hc28 rfl ?_)
   obtain ⟨x30, q30, hl0⟩ := bnd hl0
   refine call_fn (Jdm (n' := x27) q30 h28_0 y0_h0 rfl) .nil ?_
   rintro _ K30 _ l30 ⟨rfl, rfl⟩
   refine alloc_rule rfl ?_
   intro b8
   refine store_rule r0 rfl ?_
   refine ⟨rfl, rfl, (Nat.le_of_ble_eq_true rfl), ?_⟩
   refine Jb rfl (RStep.of (load1_s r0 rfl rfl (neq_int (cond_go rfl ?_))))
   refine cond_s (fun w35 => ?_) (fun w35 => ?_)
   replace hl0 := ift w35 hl0
   refine RStep.of (loadn_s r0 rfl (Nat.le_of_ble_eq_true rfl) ?_)
   refine store_rule r2 rfl ?_
   refine ⟨rfl, rfl, (Nat.le_of_ble_eq_true rfl), ?_⟩
   obtain rfl := si hl0
   replace hm := elr hm
   obtain rfl := si hm
   refine RStep.of (loadn_s r0 rfl (Nat.le_of_ble_eq_true rfl) ?_)
   refine EndStep.mk _ (lk0.trans l30) ⟨rfl, rfl⟩ (ConvH.of (.cons r3 .nil))
   replace hl0 := iff_ w35 hl0
   refine Jb rfl (RStep.of (load1_s r1 rfl rfl ?_))
   obtain ⟨x39, q39, hl0⟩ := bnd hl0
   refine call_fn (Jdi (kind := e0.Kind) q39) .nil ?_
   rintro _ K39 _ l39 ⟨rfl, rfl⟩
   refine neq_int ?_
   refine cond_s (fun g42_9 => ?_) (fun g42_9 => ?_)
   refine cond_t g42_9 (cond_t g42_9 (neq_int (cond_t g42_9 (cond_go rfl ?_))))
   refine cond_s (fun w46 => ?_) (fun w46 => ?_)
   replace hl0 := ift (and_t g42_9 w46) hl0
   refine Jb rfl (RStep.of (load1_s r1 rfl rfl (build_struct rfl rfl (cond_T (cond_T ?_)))))
   refine store_rule r2 rfl ?_
   refine ⟨rfl, rfl, (Nat.le_of_ble_eq_true rfl), ?_⟩
   obtain rfl := si hl0
   replace hm := elr hm
   obtain rfl := si hm
   refine RStep.of (loadn_s r0 rfl (Nat.le_of_ble_eq_true rfl) ?_)
   refine EndStep.mk _ ((lk0.trans l30).trans l39) ⟨rfl, rfl⟩ (ConvH.of (.cons r3 .nil))
   replace hl0 := iff_ (and_g g42_9 w46) hl0
   refine Jb rfl (RStep.of (load1_s r1 rfl rfl ?_))
   refine block_go rfl ?_
   refine eq_int (cond_go rfl ?_)
   refine cond_s (fun w52 => ?_) (fun w52 => ?_)
   replace hl0 := ift w52 hl0
   refine Jb rfl (RStep.of (load1_s r1 rfl rfl ?_))
   obtain ⟨x57, q57, hl0⟩ := bnd hl0
   refine call_fn (Jcc (s := e0.Text) q57 (y0_h0.mono (l30.trans l39)) rfl) .nil ?_
   rintro _ K57 _ l57 ⟨rfl, rfl⟩
   refine neq_int (cond_go rfl ?_)
   refine cond_s (fun w58 => ?_) (fun w58 => ?_)
   replace hl0 := ift w58 hl0
   refine Jb rfl (RStep.of (load1_s r1 rfl rfl (build_struct rfl rfl (cond_T (cond_T ?_)))))
   refine store_rule r2 rfl ?_
   refine ⟨rfl, rfl, (Nat.le_of_ble_eq_true rfl), ?_⟩
   obtain rfl := si hl0
   replace hm := elr hm
   obtain rfl := si hm
   refine RStep.of (loadn_s r0 rfl (Nat.le_of_ble_eq_true rfl) ?_)
   refine EndStep.mk _ (((lk0.trans l30).trans l39).trans l57) ⟨rfl, rfl⟩ (ConvH.of (.cons r3 .nil))
   replace hl0 := iff_ w58 hl0
   refine draw_go_F ⟨⟨[], false⟩, _, [(_, _)]⟩ 10 rfl (by kernel_rfl) ⟨Hp.Le.refl _, (ConvH.of (.cons r1 .nil))⟩ ?_
   refine bsA (len := 0) (cl := []) elT135 rfl rfl ?_ fun b62 => ?_
   · conv => whnf
     first | done | rfl
   intro GG2
   obtain ⟨h64, hl0⟩ := chkb hl0
   refine ape (enc := Ju.enc) r0 elT135 (src_k rfl (y0_h0.mono ((l30.trans l39).trans l57)).rd rfl) h64 ?_
   intro a64 c64 o64
   refine ⟨⟨(Hp.Le.refl _), (ConvH.of (.cons r2 .nil))⟩, ?_⟩
   refine ⟨_, .cons r5 .nil, ⟨(Hp.Le.refl _), (ConvH.of (.cons r2 .nil))⟩, ?_⟩
   refine Jb rfl (load1_l m0 rfl rfl (build_struct rfl rfl (cond_T (cond_T ?_))))
   refine bsA (len := 1) (cl := [str e0.Text, .int .i64 x30.1]) elT135 rfl rfl ?_ fun b69 => ?_
   · conv => whnf
     refine cond_T ?_
     first | done | rfl
   intro GG8
   obtain ⟨h70, hl0⟩ := chkb hl0
   refine apE rfl r1 elT135 (src_lit rfl r0 rfl rfl (fun _ _ => rfl) rfl) h70 ?_
   intro a70 c70 o70
   refine ⟨⟨(Hp.Le.refl _), (ConvH.of (.cons r3 .nil))⟩, ?_⟩
   refine ⟨_, .cons r6 .nil, ⟨(Hp.Le.refl _), (ConvH.of (.cons r3 .nil))⟩, ?_⟩
   refine int_in (cntz hx0 hk0) ?_
   refine fRo r0 fun Kr0_0 lr0_0 fr0_0 => ?_
   refine RoundStep.mk (i0 + 1, (y0_0 ++ [(⟨e0.Text, x30.1⟩ : Ju)]), a70, c70) ⟨rfl, rfl, trivial⟩ (by repeat (first | exact trivial | refine And.intro rfl ?_)) (ConvH.of (.cons r3 (.cons r3 .nil))) ((((lk0.trans l30).trans l39).trans l57).trans lr0_0) (ltm hx0) ⟨fr0_0, hl0⟩
   replace hl0 := iff_ w52 hl0
   refine eq_int (cond_go rfl ?_)
   refine cond_s (fun w71 => ?_) (fun w71 => ?_)
   replace hl0 := ift w71 hl0
   refine Jb rfl (RStep.of (load1_s r1 rfl rfl ?_))
   obtain ⟨h75, hl0⟩ := chkb hl0
   have h75_ := (LiC.mono Jc.R_ok (l30.trans l39) h19_0).subC h75
   refine RStep.ofN (sl_slN (l := e0.Kids) (lo := (some 1)) (hi := none) (lo' := (1 : Int)) (hi' := (e0.Kids.length : Int)) rfl rfl rfl rfl rfl (LiC.mono Jc.R_ok (l30.trans l39) h19_0).le h75 (RStep.of (len_slice rfl ?_)))
   obtain ⟨hk3, hl0⟩ := chkb hl0
   obtain ⟨s3, hl3, hl0⟩ := bnd hl0
   refine code_cut (σ := (Unit)) [11, 12, 13, 77, 78, 79, 80, 81, 82, 83, 84, 85, 86, 87, 88, 89, 90, 91, 92, 93, 94, 95] (fun t3 => []) (fun t3 => [Cells b8 68 [.int .i64 x30.2.Line, .int .i64 x30.2.Code], Cells b6 24 [.int .i64 e0.Kind, str e0.Text, .slice a19_0 e0.Kids.length c19_0, .int .i64 e0.Line], Cells b4 68 [.int .i64 0, .int .i64 0], F]) (fun zz K1 => match zz with | t3 => s3 = Fl.go t3) ?_ ?_
   refine block_go rfl ?_
   refine loop_rule (σ := Nat) [11, 12, 13, 77, 78, 79, 80, 81, 82, 83, 84, 85, 86, 87, 88, 89, 90, 91, 92, 93, 94, 95] (fun i3 => [(77, .int .i64 (i3 : Int))]) (fun i3 => [Cells b8 68 [.int .i64 x30.2.Line, .int .i64 x30.2.Code], Cells b6 24 [.int .i64 e0.Kind, str e0.Text, .slice a19_0 e0.Kids.length c19_0, .int .i64 e0.Line], Cells b4 68 [.int .i64 0, .int .i64 0], F]) (fun zz K1 => match zz with | i3 => JJ (J5 n) y0_0 ((subL e0.Kids (1 : Int) (e0.Kids.length : Int)).drop i3) i3 = some s3) (fun zz => (subL e0.Kids (1 : Int) (e0.Kids.length : Int)).length - zz) (0) rfl ⟨rfl, trivial⟩ (ConvH.of (.cons r0 (.cons r0 (.cons r0 (.cons r0 .nil))))) hl3 ?_
   clear hl3
   rintro i3 Kb3 lk3 hl3 j3
   conv at hl3 => whnf
   refine cond_go rfl ?_
   refine cond_s (fun w3 => ?_) (fun w3 => ?_)
   obtain ⟨e3, hx3, hd3⟩ := ltx w3
   rw [hd3, JJ.eq_2] at hl3
   refine block_go rfl ?_
   refine RStep.ofN (index_addr rfl rfl (hasR (LiC.mono Jc.R_ok lk3 h75_).rd hx3) (nn _) (lt_ofN hx3) ?_)
   obtain ⟨ss80, cc80, hr80, hc80, hR80⟩ := LiR.get (LiC.mono Jc.R_ok lk3 h75_).rd hx3
   obtain ⟨a80_0, c80_0, rfl, h80_0⟩ := Jc.out hR80
   refine RStep.of (load_rd_agg i3 _ hr80 rfl hc80 rfl ?_)
   refine alloc_rule rfl ?_
   intro b11
   refine store_rule r0 rfl ?_
   refine ⟨rfl, rfl, (Nat.le_of_ble_eq_true rfl), ?_⟩
   refine Jb rfl (RStep.of (load1_s r0 rfl rfl (Jb rfl (RStep.of (load1_s r0 rfl rfl (eq_int (cond_go rfl ?_)))))))
   refine cond_s (fun w85 => ?_) (fun w85 => ?_)
   replace hl3 := ift w85 hl3
   refine RStep.of (loadn_s r0 rfl (Nat.le_of_ble_eq_true rfl) ?_)
   refine bsOR (R := Jc.R) (len := 1) (l := [e3]) (css := [[.int .i64 e3.Kind, str e3.Text, .slice a80_0 e3.Kids.length c80_0, .int .i64 e3.Line]]) (cl := [.int .i64 e3.Kind, str e3.Text, .slice a80_0 e3.Kids.length c80_0, .int .i64 e3.Line]) Jc.R_ok elT22 rfl rfl (LR.snoc LR.nil (Jc.of (x := e3) ⟨a80_0, c80_0, rfl, h80_0⟩)) rfl rfl rfl ?_ fun b87 => ?_
   · conv => whnf
     refine cond_T ?_
     first | done | rfl
   obtain ⟨x90, q90, hl3⟩ := bnd hl3
   refine call_fn (Fn.lendR Jc.R_ok (show LR Jc.R _ [[.int .i64 e3.Kind, str e3.Text, .slice a80_0 e3.Kids.length c80_0, .int .i64 e3.Line]] [e3] from (LR.snoc LR.nil (Jc.of (x := e3) ⟨a80_0, c80_0, rfl, h80_0⟩))) Tryz.call51 (fun K90_0 l90_0 f90_0 => (ih q90 f90_0 rfl (y0_h0.mono (((l30.trans l39).trans lk3).trans l90_0)) rfl)) (by exact fun _ _ _ _ h => h)) (.cons r0 .nil) ?_
   rintro _ K90 _ l90 ⟨_, rfl, rfl, rfl⟩
   refine alloc_rule rfl ?_
   intro b13
   refine store_rule r0 rfl ?_
   refine ⟨rfl, rfl, (Nat.le_of_ble_eq_true rfl), ?_⟩
   refine Jb rfl (RStep.of (load1_s r0 rfl rfl (neq_int (cond_go rfl ?_))))
   refine cond_s (fun w93 => ?_) (fun w93 => ?_)
   replace hl3 := ift w93 hl3
   refine RStep.of (loadn_s r0 rfl (Nat.le_of_ble_eq_true rfl) ?_)
   refine store_rule r5 rfl ?_
   refine ⟨rfl, rfl, (Nat.le_of_ble_eq_true rfl), ?_⟩
   obtain rfl := si hl3
   replace hl0 := elr hl0
   obtain rfl := si hl0
   replace hm := elr hm
   obtain rfl := si hm
   refine RStep.of (loadn_s r0 rfl (Nat.le_of_ble_eq_true rfl) ?_)
   refine EndStep.mk _ ((((lk0.trans l30).trans l39).trans lk3).trans l90) ⟨rfl, rfl⟩ (ConvH.of (.cons r6 .nil))
   replace hl3 := iff_ w93 hl3
   refine int_in (cntz hx3 hk3) ?_
   refine RoundStep.mk (i3 + 1) ⟨rfl, trivial⟩ (by repeat (first | exact trivial | refine And.intro rfl ?_)) (ConvH.of (.cons r3 (.cons r3 (.cons r3 (.cons r3 .nil))))) (lk3.trans l90) (ltm hx3) hl3
   replace hl3 := iff_ w85 hl3
   obtain ⟨x90, q90, hl3⟩ := bnd hl3
   refine call_fn (ih q90 h80_0 rfl (y0_h0.mono ((l30.trans l39).trans lk3)) rfl) .nil ?_
   rintro _ K90 _ l90 ⟨rfl, rfl⟩
   refine alloc_rule rfl ?_
   intro b13
   refine store_rule r0 rfl ?_
   refine ⟨rfl, rfl, (Nat.le_of_ble_eq_true rfl), ?_⟩
   refine Jb rfl (RStep.of (load1_s r0 rfl rfl (neq_int (cond_go rfl ?_))))
   refine cond_s (fun w93 => ?_) (fun w93 => ?_)
   replace hl3 := ift w93 hl3
   refine RStep.of (loadn_s r0 rfl (Nat.le_of_ble_eq_true rfl) ?_)
   refine store_rule r4 rfl ?_
   refine ⟨rfl, rfl, (Nat.le_of_ble_eq_true rfl), ?_⟩
   obtain rfl := si hl3
   replace hl0 := elr hl0
   obtain rfl := si hl0
   replace hm := elr hm
   obtain rfl := si hm
   refine RStep.of (loadn_s r0 rfl (Nat.le_of_ble_eq_true rfl) ?_)
   refine EndStep.mk _ ((((lk0.trans l30).trans l39).trans lk3).trans l90) ⟨rfl, rfl⟩ (ConvH.of (.cons r5 .nil))
   replace hl3 := iff_ w93 hl3
   refine int_in (cntz hx3 hk3) ?_
   refine RoundStep.mk (i3 + 1) ⟨rfl, trivial⟩ (by repeat (first | exact trivial | refine And.intro rfl ?_)) (ConvH.of (.cons r2 (.cons r2 (.cons r2 (.cons r2 .nil))))) (lk3.trans l90) (ltm hx3) hl3
   rw [lty w3, JJ.eq_1] at hl3
   refine cond_T ?_
   refine MeetStep.mk (()) trivial (by repeat (first | exact trivial | refine And.intro rfl ?_)) (ConvH.of (.cons r0 (.cons r0 (.cons r0 (.cons r0 .nil))))) lk3 (si hl3).symm
   rintro t3 Kt3 lt3 rfl j3
   replace hl0 := elg hl0
   refine int_in (cntz hx0 hk0) ?_
   refine RoundStep.mk (i0 + 1, y0_0, y0_a0, y0_c0) ⟨rfl, rfl, trivial⟩ (by repeat (first | exact trivial | refine And.intro rfl ?_)) (ConvH.of (.cons r2 (.cons r2 .nil))) (((lk0.trans l30).trans l39).trans lt3) (ltm hx0) ⟨(y0_h0.mono ((l30.trans l39).trans lt3)), hl0⟩
   replace hl0 := iff_ w71 hl0
   refine int_in (cntz hx0 hk0) ?_
   refine RoundStep.mk (i0 + 1, y0_0, y0_a0, y0_c0) ⟨rfl, rfl, trivial⟩ (by repeat (first | exact trivial | refine And.intro rfl ?_)) (ConvH.of (.cons r2 (.cons r2 .nil))) ((lk0.trans l30).trans l39) (ltm hx0) ⟨(y0_h0.mono (l30.trans l39)), hl0⟩
   refine cond_f g42_9 (cond_f g42_9 (cond_f g42_9 (cond_go rfl (cond_F ?_))))
   replace hl0 := iff_ (and_f g42_9) hl0
   refine Jb rfl (RStep.of (load1_s r1 rfl rfl ?_))
   refine block_go rfl ?_
   refine eq_int (cond_go rfl ?_)
   refine cond_s (fun w52 => ?_) (fun w52 => ?_)
   replace hl0 := ift w52 hl0
   refine Jb rfl (RStep.of (load1_s r1 rfl rfl ?_))
   obtain ⟨x57, q57, hl0⟩ := bnd hl0
   refine call_fn (Jcc (s := e0.Text) q57 (y0_h0.mono (l30.trans l39)) rfl) .nil ?_
   rintro _ K57 _ l57 ⟨rfl, rfl⟩
   refine neq_int (cond_go rfl ?_)
   refine cond_s (fun w58 => ?_) (fun w58 => ?_)
   replace hl0 := ift w58 hl0
   refine Jb rfl (RStep.of (load1_s r1 rfl rfl (build_struct rfl rfl (cond_T (cond_T ?_)))))
   refine store_rule r2 rfl ?_
   refine ⟨rfl, rfl, (Nat.le_of_ble_eq_true rfl), ?_⟩
   obtain rfl := si hl0
   replace hm := elr hm
   obtain rfl := si hm
   refine RStep.of (loadn_s r0 rfl (Nat.le_of_ble_eq_true rfl) ?_)
   refine EndStep.mk _ (((lk0.trans l30).trans l39).trans l57) ⟨rfl, rfl⟩ (ConvH.of (.cons r3 .nil))
   replace hl0 := iff_ w58 hl0
   refine draw_go_F ⟨⟨[], false⟩, _, [(_, _)]⟩ 10 rfl (by kernel_rfl) ⟨Hp.Le.refl _, (ConvH.of (.cons r1 .nil))⟩ ?_
   refine bsA (len := 0) (cl := []) elT135 rfl rfl ?_ fun b62 => ?_
   · conv => whnf
     first | done | rfl
   intro GG2
   obtain ⟨h64, hl0⟩ := chkb hl0
   refine ape (enc := Ju.enc) r0 elT135 (src_k rfl (y0_h0.mono ((l30.trans l39).trans l57)).rd rfl) h64 ?_
   intro a64 c64 o64
   refine ⟨⟨(Hp.Le.refl _), (ConvH.of (.cons r2 .nil))⟩, ?_⟩
   refine ⟨_, .cons r5 .nil, ⟨(Hp.Le.refl _), (ConvH.of (.cons r2 .nil))⟩, ?_⟩
   refine Jb rfl (load1_l m0 rfl rfl (build_struct rfl rfl (cond_T (cond_T ?_))))
   refine bsA (len := 1) (cl := [str e0.Text, .int .i64 x30.1]) elT135 rfl rfl ?_ fun b69 => ?_
   · conv => whnf
     refine cond_T ?_
     first | done | rfl
   intro GG8
   obtain ⟨h70, hl0⟩ := chkb hl0
   refine apE rfl r1 elT135 (src_lit rfl r0 rfl rfl (fun _ _ => rfl) rfl) h70 ?_
   intro a70 c70 o70
   refine ⟨⟨(Hp.Le.refl _), (ConvH.of (.cons r3 .nil))⟩, ?_⟩
   refine ⟨_, .cons r6 .nil, ⟨(Hp.Le.refl _), (ConvH.of (.cons r3 .nil))⟩, ?_⟩
   refine int_in (cntz hx0 hk0) ?_
   refine fRo r0 fun Kr0_0 lr0_0 fr0_0 => ?_
   refine RoundStep.mk (i0 + 1, (y0_0 ++ [(⟨e0.Text, x30.1⟩ : Ju)]), a70, c70) ⟨rfl, rfl, trivial⟩ (by repeat (first | exact trivial | refine And.intro rfl ?_)) (ConvH.of (.cons r3 (.cons r3 .nil))) ((((lk0.trans l30).trans l39).trans l57).trans lr0_0) (ltm hx0) ⟨fr0_0, hl0⟩
   replace hl0 := iff_ w52 hl0
   refine eq_int (cond_go rfl ?_)
   refine cond_s (fun w71 => ?_) (fun w71 => ?_)
   replace hl0 := ift w71 hl0
   refine Jb rfl (RStep.of (load1_s r1 rfl rfl ?_))
   obtain ⟨h75, hl0⟩ := chkb hl0
   have h75_ := (LiC.mono Jc.R_ok (l30.trans l39) h19_0).subC h75
   refine RStep.ofN (sl_slN (l := e0.Kids) (lo := (some 1)) (hi := none) (lo' := (1 : Int)) (hi' := (e0.Kids.length : Int)) rfl rfl rfl rfl rfl (LiC.mono Jc.R_ok (l30.trans l39) h19_0).le h75 (RStep.of (len_slice rfl ?_)))
   obtain ⟨hk3, hl0⟩ := chkb hl0
   obtain ⟨s3, hl3, hl0⟩ := bnd hl0
   refine code_cut (σ := (Unit)) [11, 12, 13, 77, 78, 79, 80, 81, 82, 83, 84, 85, 86, 87, 88, 89, 90, 91, 92, 93, 94, 95] (fun t3 => []) (fun t3 => [Cells b8 68 [.int .i64 x30.2.Line, .int .i64 x30.2.Code], Cells b6 24 [.int .i64 e0.Kind, str e0.Text, .slice a19_0 e0.Kids.length c19_0, .int .i64 e0.Line], Cells b4 68 [.int .i64 0, .int .i64 0], F]) (fun zz K1 => match zz with | t3 => s3 = Fl.go t3) ?_ ?_
   refine block_go rfl ?_
   refine loop_rule (σ := Nat) [11, 12, 13, 77, 78, 79, 80, 81, 82, 83, 84, 85, 86, 87, 88, 89, 90, 91, 92, 93, 94, 95] (fun i3 => [(77, .int .i64 (i3 : Int))]) (fun i3 => [Cells b8 68 [.int .i64 x30.2.Line, .int .i64 x30.2.Code], Cells b6 24 [.int .i64 e0.Kind, str e0.Text, .slice a19_0 e0.Kids.length c19_0, .int .i64 e0.Line], Cells b4 68 [.int .i64 0, .int .i64 0], F]) (fun zz K1 => match zz with | i3 => JJ (J5 n) y0_0 ((subL e0.Kids (1 : Int) (e0.Kids.length : Int)).drop i3) i3 = some s3) (fun zz => (subL e0.Kids (1 : Int) (e0.Kids.length : Int)).length - zz) (0) rfl ⟨rfl, trivial⟩ (ConvH.of (.cons r0 (.cons r0 (.cons r0 (.cons r0 .nil))))) hl3 ?_
   clear hl3
   rintro i3 Kb3 lk3 hl3 j3
   conv at hl3 => whnf
   refine cond_go rfl ?_
   refine cond_s (fun w3 => ?_) (fun w3 => ?_)
   obtain ⟨e3, hx3, hd3⟩ := ltx w3
   rw [hd3, JJ.eq_2] at hl3
   refine block_go rfl ?_
   refine RStep.ofN (index_addr rfl rfl (hasR (LiC.mono Jc.R_ok lk3 h75_).rd hx3) (nn _) (lt_ofN hx3) ?_)
   obtain ⟨ss80, cc80, hr80, hc80, hR80⟩ := LiR.get (LiC.mono Jc.R_ok lk3 h75_).rd hx3
   obtain ⟨a80_0, c80_0, rfl, h80_0⟩ := Jc.out hR80
   refine RStep.of (load_rd_agg i3 _ hr80 rfl hc80 rfl ?_)
   refine alloc_rule rfl ?_
   intro b11
   refine store_rule r0 rfl ?_
   refine ⟨rfl, rfl, (Nat.le_of_ble_eq_true rfl), ?_⟩
   refine Jb rfl (RStep.of (load1_s r0 rfl rfl (Jb rfl (RStep.of (load1_s r0 rfl rfl (eq_int (cond_go rfl ?_)))))))
   refine cond_s (fun w85 => ?_) (fun w85 => ?_)
   replace hl3 := ift w85 hl3
   refine RStep.of (loadn_s r0 rfl (Nat.le_of_ble_eq_true rfl) ?_)
   refine bsOR (R := Jc.R) (len := 1) (l := [e3]) (css := [[.int .i64 e3.Kind, str e3.Text, .slice a80_0 e3.Kids.length c80_0, .int .i64 e3.Line]]) (cl := [.int .i64 e3.Kind, str e3.Text, .slice a80_0 e3.Kids.length c80_0, .int .i64 e3.Line]) Jc.R_ok elT22 rfl rfl (LR.snoc LR.nil (Jc.of (x := e3) ⟨a80_0, c80_0, rfl, h80_0⟩)) rfl rfl rfl ?_ fun b87 => ?_
   · conv => whnf
     refine cond_T ?_
     first | done | rfl
   obtain ⟨x90, q90, hl3⟩ := bnd hl3
   refine call_fn (Fn.lendR Jc.R_ok (show LR Jc.R _ [[.int .i64 e3.Kind, str e3.Text, .slice a80_0 e3.Kids.length c80_0, .int .i64 e3.Line]] [e3] from (LR.snoc LR.nil (Jc.of (x := e3) ⟨a80_0, c80_0, rfl, h80_0⟩))) Tryz.call51 (fun K90_0 l90_0 f90_0 => (ih q90 f90_0 rfl (y0_h0.mono (((l30.trans l39).trans lk3).trans l90_0)) rfl)) (by exact fun _ _ _ _ h => h)) (.cons r0 .nil) ?_
   rintro _ K90 _ l90 ⟨_, rfl, rfl, rfl⟩
   refine alloc_rule rfl ?_
   intro b13
   refine store_rule r0 rfl ?_
   refine ⟨rfl, rfl, (Nat.le_of_ble_eq_true rfl), ?_⟩
   refine Jb rfl (RStep.of (load1_s r0 rfl rfl (neq_int (cond_go rfl ?_))))
   refine cond_s (fun w93 => ?_) (fun w93 => ?_)
   replace hl3 := ift w93 hl3
   refine RStep.of (loadn_s r0 rfl (Nat.le_of_ble_eq_true rfl) ?_)
   refine store_rule r5 rfl ?_
   refine ⟨rfl, rfl, (Nat.le_of_ble_eq_true rfl), ?_⟩
   obtain rfl := si hl3
   replace hl0 := elr hl0
   obtain rfl := si hl0
   replace hm := elr hm
   obtain rfl := si hm
   refine RStep.of (loadn_s r0 rfl (Nat.le_of_ble_eq_true rfl) ?_)
   refine EndStep.mk _ ((((lk0.trans l30).trans l39).trans lk3).trans l90) ⟨rfl, rfl⟩ (ConvH.of (.cons r6 .nil))
   replace hl3 := iff_ w93 hl3
   refine int_in (cntz hx3 hk3) ?_
   refine RoundStep.mk (i3 + 1) ⟨rfl, trivial⟩ (by repeat (first | exact trivial | refine And.intro rfl ?_)) (ConvH.of (.cons r3 (.cons r3 (.cons r3 (.cons r3 .nil))))) (lk3.trans l90) (ltm hx3) hl3
   replace hl3 := iff_ w85 hl3
   obtain ⟨x90, q90, hl3⟩ := bnd hl3
   refine call_fn (ih q90 h80_0 rfl (y0_h0.mono ((l30.trans l39).trans lk3)) rfl) .nil ?_
   rintro _ K90 _ l90 ⟨rfl, rfl⟩
   refine alloc_rule rfl ?_
   intro b13
   refine store_rule r0 rfl ?_
   refine ⟨rfl, rfl, (Nat.le_of_ble_eq_true rfl), ?_⟩
   refine Jb rfl (RStep.of (load1_s r0 rfl rfl (neq_int (cond_go rfl ?_))))
   refine cond_s (fun w93 => ?_) (fun w93 => ?_)
   replace hl3 := ift w93 hl3
   refine RStep.of (loadn_s r0 rfl (Nat.le_of_ble_eq_true rfl) ?_)
   refine store_rule r4 rfl ?_
   refine ⟨rfl, rfl, (Nat.le_of_ble_eq_true rfl), ?_⟩
   obtain rfl := si hl3
   replace hl0 := elr hl0
   obtain rfl := si hl0
   replace hm := elr hm
   obtain rfl := si hm
   refine RStep.of (loadn_s r0 rfl (Nat.le_of_ble_eq_true rfl) ?_)
   refine EndStep.mk _ ((((lk0.trans l30).trans l39).trans lk3).trans l90) ⟨rfl, rfl⟩ (ConvH.of (.cons r5 .nil))
   replace hl3 := iff_ w93 hl3
   refine int_in (cntz hx3 hk3) ?_
   refine RoundStep.mk (i3 + 1) ⟨rfl, trivial⟩ (by repeat (first | exact trivial | refine And.intro rfl ?_)) (ConvH.of (.cons r2 (.cons r2 (.cons r2 (.cons r2 .nil))))) (lk3.trans l90) (ltm hx3) hl3
   rw [lty w3, JJ.eq_1] at hl3
   refine cond_T ?_
   refine MeetStep.mk (()) trivial (by repeat (first | exact trivial | refine And.intro rfl ?_)) (ConvH.of (.cons r0 (.cons r0 (.cons r0 (.cons r0 .nil))))) lk3 (si hl3).symm
   rintro t3 Kt3 lt3 rfl j3
   replace hl0 := elg hl0
   refine int_in (cntz hx0 hk0) ?_
   refine RoundStep.mk (i0 + 1, y0_0, y0_a0, y0_c0) ⟨rfl, rfl, trivial⟩ (by repeat (first | exact trivial | refine And.intro rfl ?_)) (ConvH.of (.cons r2 (.cons r2 .nil))) (((lk0.trans l30).trans l39).trans lt3) (ltm hx0) ⟨(y0_h0.mono ((l30.trans l39).trans lt3)), hl0⟩
   replace hl0 := iff_ w71 hl0
   refine int_in (cntz hx0 hk0) ?_
   refine RoundStep.mk (i0 + 1, y0_0, y0_a0, y0_c0) ⟨rfl, rfl, trivial⟩ (by repeat (first | exact trivial | refine And.intro rfl ?_)) (ConvH.of (.cons r2 (.cons r2 .nil))) ((lk0.trans l30).trans l39) (ltm hx0) ⟨(y0_h0.mono (l30.trans l39)), hl0⟩
   rw [lty w0, JV.eq_1] at hl0
   refine cond_T ?_
   refine MeetStep.mk (y0_0, y0_a0, y0_c0) ⟨rfl, trivial⟩ (by repeat (first | exact trivial | refine And.intro rfl ?_)) (ConvH.of (.cons r0 (.cons r0 .nil))) lk0 ⟨y0_h0, (si hl0).symm⟩
   rintro ⟨t0, t0_a0, t0_c0⟩ Kt0 lt0 ⟨t0_h0, rfl⟩ j0
   replace hm := elg hm
   refine build_struct rfl rfl ?_
   refine store_rule r0 rfl ?_
   refine ⟨rfl, rfl, (Nat.le_of_ble_eq_true rfl), ?_⟩
   obtain rfl := si hm
   refine RStep.of (loadn_s r0 rfl (Nat.le_of_ble_eq_true rfl) ?_)
   refine EndStep.mk _ lt0 ⟨rfl, rfl⟩ (ConvH.of (.cons r1 .nil))

noncomputable def Jce (n : Nat) (program : Jc) : Option (JA) :=
  (JbI n program).bind fun x4 =>
  if (!x4) then
  some (⟨0, 2⟩ : JA)
  else
  (J5 n program.Kids []).bind fun x9 =>
  some x9
set_option maxHeartbeats 8000000 in
theorem Jdj {n : Nat} {program : Jc} {ap0_0 : Option Addr} {cp0_0 : Nat} {K : Hp} {r : JA}
    (hm : Jce n program = some r) (hp0_0 : LiC Jc.R K ap0_0 cp0_0 4 program.Kids) :
    Fn Tryz.prog 32 [.agg #[.int .i64 program.Kind, str program.Text, .slice ap0_0 program.Kids.length cp0_0, .int .i64 program.Line]] K [] (fun v K' H' => v = .agg #[.int .i64 r.Line, .int .i64 r.Code] ∧ H' = []) := by
 refine Fn.enter Tryz.func32 Tryz.call32 rfl fun F => ?_
 unfold Jce at hm
 refine box_rule ?_
 intro b1
 refine alloc_rule rfl ?_
 intro b2
 refine RStep.of (loadn_s r1 rfl (Nat.le_of_ble_eq_true rfl) ?_)
 obtain ⟨x4, q4, hm⟩ := bnd hm
 refine call_fn (Jdh (n' := program) q4 hp0_0) .nil ?_
 rintro _ K4 _ l4 ⟨rfl, rfl⟩
 refine un_not (cond_go rfl ?_)
 refine cond_s (fun w5 => ?_) (fun w5 => ?_)
 replace hm := ift (not_t (ni_t w5)) hm
 refine build_struct rfl rfl (cond_T (cond_T ?_))
 refine store_rule r0 rfl ?_
 refine ⟨rfl, rfl, (Nat.le_of_ble_eq_true rfl), ?_⟩
 obtain rfl := si hm
 refine RStep.of (loadn_s r0 rfl (Nat.le_of_ble_eq_true rfl) ?_)
 refine EndStep.mk _ l4 ⟨rfl, rfl⟩ (ConvH.of (.cons r2 .nil))
 replace hm := iff_ (not_f (ni_f w5)) hm
 refine Jb rfl (RStep.of (load1_s r1 rfl rfl ?_))
 obtain ⟨x9, q9, hm⟩ := bnd hm
 refine call_fn (JcN q9 (LiC.mono Jc.R_ok l4 hp0_0) rfl RdC.nil rfl) .nil ?_
 rintro _ K9 _ l9 ⟨rfl, rfl⟩
 refine store_rule r0 rfl ?_
 refine ⟨rfl, rfl, (Nat.le_of_ble_eq_true rfl), ?_⟩
 obtain rfl := si hm
 refine RStep.of (loadn_s r0 rfl (Nat.le_of_ble_eq_true rfl) ?_)
 refine EndStep.mk _ (l4.trans l9) ⟨rfl, rfl⟩ (ConvH.of (.cons r2 .nil))

noncomputable def JaX : List UInt8 → Nat → Int → Option (Int)
  | [], _, y0_0 => some y0_0
  | e0 :: xs0, i0, y0_0 =>
    (chk (InI (10 * y0_0))).bind fun _ =>
    (chk (InI ((10 * y0_0) + ((e0 - (48 : UInt8)).toNat : Int)))).bind fun _ =>
    JaX xs0 (i0 + 1) ((10 * y0_0) + ((e0 - (48 : UInt8)).toNat : Int))
noncomputable def Jb1 (s : Str) : Option (Int) :=
  (chk (s.length ≤ szMax)).bind fun _ =>
  (JaX s 0 0).bind fun t0 =>
  some t0
set_option maxHeartbeats 8000000 in
theorem Jdb {s : Str} {K : Hp} {r : Int}
    (hm : Jb1 s = some r)  :
    Fn Tryz.prog 81 [str s] K [] (fun v K' H' => v = .int .i64 r ∧ H' = []) := by
 refine Fn.enter Tryz.func81 Tryz.call81 rfl fun F => ?_
 unfold Jb1 at hm
 refine RStep.of (len_str rfl ?_)
 obtain ⟨hk0, hm⟩ := chkb hm
 obtain ⟨s0, hl0, hm⟩ := bnd hm
 refine code_cut (σ := (Int)) [3, 4, 7, 8, 9, 10, 11, 12, 13, 14, 15, 16, 17, 18] (fun t0 => [(3, .int .i64 t0)]) (fun t0 => [F]) (fun zz K1 => match zz with | t0 => t0 = s0) ?_ ?_
 refine block_go rfl ?_
 refine loop_rule (σ := Nat × Int) [3, 4, 7, 8, 9, 10, 11, 12, 13, 14, 15, 16, 17, 18] (fun (i0, y0_0) => [(7, .int .i64 (i0 : Int)), (3, .int .i64 y0_0)]) (fun (i0, y0_0) => [F]) (fun zz K1 => match zz with | (i0, y0_0) => JaX (s.drop i0) i0 y0_0 = some s0) (fun zz => s.length - zz.1) (0, 0) rfl ⟨rfl, rfl, trivial⟩ (ConvH.of (.cons r0 .nil)) hl0 ?_
 clear hl0
 rintro ⟨i0, y0_0⟩ Kb0 lk0 hl0 j0
 conv at hl0 => whnf
 refine cond_go rfl ?_
 refine cond_s (fun w0 => ?_) (fun w0 => ?_)
 obtain ⟨e0, hx0, hd0⟩ := ltx w0
 rw [hd0, JaX.eq_2] at hl0
 refine block_go rfl ?_
 obtain ⟨h11, hl0⟩ := chkb hl0
 refine int_in h11 (idx_str rfl (nn _) hx0 (u8_subS (x := e0) (y := (48 : UInt8)) rfl rfl (conv_int rfl rfl (u8in (e0 - (48 : UInt8))) ?_)))
 obtain ⟨h17, hl0⟩ := chkb hl0
 refine int_in h17 (int_in (cntz hx0 hk0) ?_)
 refine RoundStep.mk (i0 + 1, ((10 * y0_0) + ((e0 - (48 : UInt8)).toNat : Int))) ⟨rfl, rfl, trivial⟩ (by repeat (first | exact trivial | refine And.intro rfl ?_)) (ConvH.of (.cons r0 .nil)) lk0 (ltm hx0) hl0
 rw [lty w0, JaX.eq_1] at hl0
 refine cond_T ?_
 refine MeetStep.mk (y0_0) ⟨rfl, trivial⟩ (by repeat (first | exact trivial | refine And.intro rfl ?_)) (ConvH.of (.cons r0 .nil)) lk0 (si hl0)
 rintro t0 Kt0 lt0 rfl j0
 obtain rfl := si hm
 refine EndStep.mk _ lt0 ⟨rfl, rfl⟩ (ConvH.of (.cons r0 .nil))

noncomputable def JbV (isZ : Bool) : Option ((List Jd)) :=
  if isZ then
  some ([(⟨1, 0, ([] : Str)⟩ : Jd), (⟨1, 0, ([] : Str)⟩ : Jd), (⟨7, 0, ([61, 61] : Str)⟩ : Jd)])
  else
  some ([(⟨1, 0, ([] : Str)⟩ : Jd), (⟨1, 1, ([] : Str)⟩ : Jd), (⟨7, 0, ([61, 61] : Str)⟩ : Jd)])
set_option maxHeartbeats 8000000 in
theorem Jcp {isZ : Bool} {K : Hp} {r : (List Jd)}
    (hm : JbV isZ = some r)  :
    Fn Tryz.prog 82 [.bool isZ] K [] (fun v K' H' => ∃ ar_0 : Option Addr, ∃ cr_0 : Nat, v = .slice ar_0 r.length cr_0 ∧ (0 < r.length → Has ar_0) ∧ H' = [OwnL Jd.enc ar_0 73 3 cr_0 r]) := by
 refine Fn.enter Tryz.func82 Tryz.call82 rfl fun F => ?_
 unfold JbV at hm
 refine cond_go rfl ?_
 refine cond_s (fun w4 => ?_) (fun w4 => ?_)
 replace hm := ift w4 hm
 refine build_struct rfl rfl (cond_T (build_struct rfl rfl (cond_T (cond_T (build_struct rfl rfl ?_)))))
 refine cond_T (cond_T ?_)
 refine bsO (len := 3) (enc := Jd.enc) (l := [(⟨1, 0, ([] : Str)⟩ : Jd), (⟨1, 0, ([] : Str)⟩ : Jd), (⟨7, 0, ([61, 61] : Str)⟩ : Jd)]) (cl := [.int .i64 1, .int .i64 0, str ([] : Str), .int .i64 1, .int .i64 0, str ([] : Str), .int .i64 7, .int .i64 0, str ([61, 61] : Str)]) elT36 rfl rfl (fun _ _ => rfl) rfl rfl rfl ?_ fun b9 => ?_
 · conv => whnf
   refine cond_T (cond_T (cond_T ?_))
   first | done | rfl
 obtain rfl := si hm
 refine EndStep.mk _ (Hp.Le.refl _) ⟨(some ⟨b9, 0, none⟩), 3, rfl, (fun _ => ⟨_, _, rfl⟩), rfl⟩ (ConvH.of (.cons r0 (.cons r0 .nil)))
 replace hm := iff_ w4 hm
 refine build_struct rfl rfl (cond_T (build_struct rfl rfl (cond_T (cond_T (build_struct rfl rfl ?_)))))
 refine cond_T (cond_T ?_)
 refine bsO (len := 3) (enc := Jd.enc) (l := [(⟨1, 0, ([] : Str)⟩ : Jd), (⟨1, 1, ([] : Str)⟩ : Jd), (⟨7, 0, ([61, 61] : Str)⟩ : Jd)]) (cl := [.int .i64 1, .int .i64 0, str ([] : Str), .int .i64 1, .int .i64 1, str ([] : Str), .int .i64 7, .int .i64 0, str ([61, 61] : Str)]) elT36 rfl rfl (fun _ _ => rfl) rfl rfl rfl ?_ fun b9 => ?_
 · conv => whnf
   refine cond_T (cond_T (cond_T ?_))
   first | done | rfl
 obtain rfl := si hm
 refine EndStep.mk _ (Hp.Le.refl _) ⟨(some ⟨b9, 0, none⟩), 3, rfl, (fun _ => ⟨_, _, rfl⟩), rfl⟩ (ConvH.of (.cons r0 (.cons r0 .nil)))

noncomputable def Jbb (visible : (List Int)) (names : (List Str)) (name : Str) : Nat → Int → Option (Fl (Int) (Int))
  | 0, _ => none
  | xs0 + 1, y0_0 =>
    if decide (y0_0 ≥ 0) then
    (ix visible y0_0).bind fun x18 =>
    (ix names x18).bind fun x20 =>
    if decide (x20 = name) then
    (ix visible y0_0).bind fun x26 =>
    some (Fl.ret x26)
    else
    (chk (InI (y0_0 - 1))).bind fun _ =>
    Jbb visible names name xs0 (y0_0 - 1)
    else
    some (Fl.go y0_0)
noncomputable def Jcu (n : Nat) (visible : (List Int)) (names : (List Str)) (name : Str) : Option (Int) :=
  (chk (InI ((visible.length : Int) - 1))).bind fun _ =>
  (Jbb visible names name n ((visible.length : Int) - 1)).bind fun s0 => s0.el some fun t0 =>
  some 0
set_option maxHeartbeats 8000000 in
theorem Jdn {n : Nat} {visible : (List Int)} {names : (List Str)} {name : Str} {ap0_0 : Option Addr} {cp0_0 : Nat} {n0 : Nat} {ap1_0 : Option Addr} {cp1_0 : Nat} {n1 : Nat} {K : Hp} {r : Int}
    (hm : Jcu n visible names name = some r) (hp0_0 : RdC eN K ap0_0 cp0_0 1 visible) (en0 : n0 = visible.length) (hp1_0 : RdC eS K ap1_0 cp1_0 1 names) (en1 : n1 = names.length) :
    Fn Tryz.prog 83 [.slice ap0_0 n0 cp0_0, .slice ap1_0 n1 cp1_0, str name] K [] (fun v K' H' => v = .int .i64 r ∧ H' = []) := by
 subst en0
 subst en1
 refine Fn.enter Tryz.func83 Tryz.call83 rfl fun F => ?_
 unfold Jcu at hm
 refine RStep.of (len_slice rfl ?_)
 obtain ⟨h10, hm⟩ := chkb hm
 refine int_in h10 ?_
 obtain ⟨s0, hl0, hm⟩ := bnd hm
 refine code_cut (σ := (Int)) [6, 7, 11, 12, 13, 14, 15, 16, 17, 18, 19, 20, 21, 22, 23, 24, 25, 26, 27] (fun t0 => [(7, .int .i64 t0)]) (fun t0 => [F]) (fun zz K1 => match zz with | t0 => s0 = Fl.go t0) ?_ ?_
 refine block_go rfl ?_
 refine loop_rule (σ := Nat × Int) [6, 7, 11, 12, 13, 14, 15, 16, 17, 18, 19, 20, 21, 22, 23, 24, 25, 26, 27] (fun (i0, y0_0) => [(7, .int .i64 y0_0)]) (fun (i0, y0_0) => [F]) (fun zz K1 => match zz with | (i0, y0_0) => Jbb visible names name i0 y0_0 = some s0) (fun zz => zz.1) (n, ((visible.length : Int) - 1)) rfl ⟨rfl, trivial⟩ (ConvH.of (.cons r0 .nil)) hl0 ?_
 clear hl0
 rintro ⟨i0, y0_0⟩ Kb0 lk0 hl0 j0
 conv at hl0 => whnf
 cases i0 with
 | zero => rw [Jbb.eq_1] at hl0; cases hl0
 | succ i0 =>
  rw [Jbb.eq_2] at hl0
  refine cond_go rfl ?_
  refine cond_s (fun w12 => ?_) (fun w12 => ?_)
  replace hl0 := ift w12 hl0
  refine block_go rfl ?_
  obtain ⟨x18, l18, k18, hl0⟩ := ixb hl0
  refine RStep.ofN (index_addr rfl rfl (hasK (hp0_0.mono lk0).rd k18) l18 (lt_ofE rfl l18 k18) (RStep.of (load_rd ((y0_0).toNat) 0 _ _ (hp0_0.mono lk0).rd rfl (mp k18) rfl rfl ?_)))
  obtain ⟨x20, l20, k20, hl0⟩ := ixb hl0
  refine RStep.ofN (index_addr rfl rfl (hasK (hp1_0.mono lk0).rd k20) l20 (lt_ofE rfl l20 k20) (RStep.of (load_rd ((x18).toNat) 0 _ _ (hp1_0.mono lk0).rd rfl (mp k20) rfl rfl (eq_str (cond_go rfl ?_)))))
  refine cond_s (fun w23 => ?_) (fun w23 => ?_)
  replace hl0 := ift w23 hl0
  obtain ⟨x26, l26, k26, hl0⟩ := ixb hl0
  refine RStep.ofN (index_addr rfl rfl (hasK (hp0_0.mono lk0).rd k26) l26 (lt_ofE rfl l26 k26) (RStep.of (load_rd ((y0_0).toNat) 0 _ _ (hp0_0.mono lk0).rd rfl (mp k26) rfl rfl ?_)))
  obtain rfl := si hl0
  replace hm := elr hm
  obtain rfl := si hm
  refine EndStep.mk _ lk0 ⟨rfl, rfl⟩ (ConvH.of (.cons r0 .nil))
  replace hl0 := iff_ w23 hl0
  obtain ⟨h14, hl0⟩ := chkb hl0
  refine int_in h14 ?_
  refine RoundStep.mk (i0, (y0_0 - 1)) ⟨rfl, trivial⟩ (by repeat (first | exact trivial | refine And.intro rfl ?_)) (ConvH.of (.cons r0 .nil)) lk0 (Nat.lt_succ_self _) hl0
  replace hl0 := iff_ w12 hl0
  refine cond_T ?_
  refine MeetStep.mk (y0_0) ⟨rfl, trivial⟩ (by repeat (first | exact trivial | refine And.intro rfl ?_)) (ConvH.of (.cons r0 .nil)) lk0 (si hl0).symm
 rintro t0 Kt0 lt0 rfl j0
 replace hm := elg hm
 obtain rfl := si hm
 refine EndStep.mk _ lt0 ⟨rfl, rfl⟩ (ConvH.of (.cons r0 .nil))

noncomputable def Jap (byZ : Int) : Nat → Nat → (List Jd) → Option ((List Jd))
  | 0, _, y0_0 => some y0_0
  | xs0 + 1, i0, y0_0 =>
    (ix y0_0 (i0 : Int)).bind fun x17 =>
    (if decide (x17.Op = 9) then some true else (ix y0_0 (i0 : Int)).bind fun x24 =>
    some (decide (x24.Op = 10))).bind fun x28 =>
    if x28 then
    (ix y0_0 (i0 : Int)).bind fun x31 =>
    (chk (InI (x31.N + byZ))).bind fun _ =>
    (ix y0_0 (i0 : Int)).bind fun x36 =>
    Jap byZ xs0 (i0 + 1) (y0_0.set (((i0 : Int)).toNat) (⟨x36.Op, (x31.N + byZ), x36.S⟩ : Jd))
    else
    Jap byZ xs0 (i0 + 1) y0_0
noncomputable def JN (code : (List Jd)) (byZ : Int) : Option ((List Jd)) :=
  (chk (([] : List Jd).length + code.length ≤ lim)).bind fun _ =>
  (chk (InI (((([] : List Jd) ++ code).length) : Int))).bind fun _ =>
  (Jap byZ (((([] : List Jd) ++ code).length) : Int).toNat 0 (([] : List Jd) ++ code)).bind fun t0 =>
  some t0
set_option maxHeartbeats 8000000 in
theorem JaR {code : (List Jd)} {byZ : Int} {ap0_0 : Option Addr} {cp0_0 : Nat} {n0 : Nat} {K : Hp} {r : (List Jd)}
    (hm : JN code byZ = some r) (hp0_0 : RdC Jd.enc K ap0_0 cp0_0 3 code) (en0 : n0 = code.length) :
    Fn Tryz.prog 53 [.slice ap0_0 n0 cp0_0, .int .i64 byZ] K [] (fun v K' H' => ∃ ar_0 : Option Addr, ∃ cr_0 : Nat, v = .slice ar_0 r.length cr_0 ∧ (0 < r.length → Has ar_0) ∧ H' = [OwnL Jd.enc ar_0 73 3 cr_0 r]) := by
 subst en0
 refine Fn.enter Tryz.func53 Tryz.call53 rfl fun F => ?_
 unfold JN at hm
 refine bsO (len := 0) (enc := Jd.enc) (l := ([] : List Jd)) (cl := []) elT36 rfl rfl (fun _ _ => rfl) rfl rfl rfl ?_ fun b7 => ?_
 · conv => whnf
   first | done | rfl
 obtain ⟨h9, hm⟩ := chkb hm
 refine apE rfl r0 elT36 (src_k rfl hp0_0.rd rfl) h9 ?_
 intro a9 c9 o9
 refine RStep.of (len_slice rfl ?_)
 obtain ⟨hk0, hm⟩ := chkb hm
 obtain ⟨s0, hl0, hm⟩ := bnd hm
 refine code_cut (σ := ((List Jd))) [6, 12, 13, 14, 15, 16, 17, 18, 19, 20, 21, 22, 23, 24, 25, 26, 27, 28, 29, 30, 31, 32, 33, 34, 35, 36, 37, 38] (fun t0 => []) (fun t0 => [OwnL Jd.enc a9 73 3 c9 t0, F]) (fun zz K1 => match zz with | t0 => (0 < t0.length → Has a9) ∧ (([] : List Jd) ++ code).length = t0.length ∧ t0 = s0) ?_ ?_
 refine block_go rfl ?_
 refine loop_rule (σ := Nat × (List Jd)) [6, 12, 13, 14, 15, 16, 17, 18, 19, 20, 21, 22, 23, 24, 25, 26, 27, 28, 29, 30, 31, 32, 33, 34, 35, 36, 37, 38] (fun (i0, y0_0) => [(12, .int .i64 (i0 : Int))]) (fun (i0, y0_0) => [OwnL Jd.enc a9 73 3 c9 y0_0, F]) (fun zz K1 => match zz with | (i0, y0_0) => (0 < y0_0.length → Has a9) ∧ (([] : List Jd) ++ code).length = y0_0.length ∧ Jap byZ ((((([] : List Jd) ++ code).length) : Int).toNat - i0) i0 y0_0 = some s0) (fun zz => (((([] : List Jd) ++ code).length) : Int).toNat - zz.1) (0, (([] : List Jd) ++ code)) rfl ⟨rfl, trivial⟩ (ConvH.of (.cons r0 (.cons r0 .nil))) ⟨o9, rfl, hl0⟩ ?_
 clear hl0
 rintro ⟨i0, y0_0⟩ Kb0 lk0 ⟨y0_h0, y0_n0, hl0⟩ j0
 refine cond_go rfl ?_
 refine cond_s (fun w0 => ?_) (fun w0 => ?_)
 rw [ltn w0, Jap.eq_2] at hl0
 refine block_go rfl ?_
 obtain ⟨x17, l17, k17, hl0⟩ := ixb hl0
 refine RStep.ofN (index_addr rfl rfl (hasO y0_h0 k17) l17 (lt_ofE y0_n0 l17 k17) (eptr_field rfl (hasO y0_h0 k17) (RStep.of (ld_own (i := ((i0 : Int)).toNat) (o := 0) r0 rfl k17 rfl rfl (eq_int ?_)))))
 obtain ⟨x28, e28, hl0⟩ := bnd hl0
 refine cond_s (fun g21_5 => ?_) (fun g21_5 => ?_)
 replace e28 := ift g21_5 e28
 refine cond_t g21_5 (cond_t g21_5 (cond_t g21_5 (cond_t g21_5 (cond_t g21_5 (cond_t g21_5 ?_)))))
 refine cond_go rfl (cond_T ?_)
 replace hl0 := ift (si e28).symm hl0
 obtain ⟨x31, l31, k31, hl0⟩ := ixb hl0
 refine RStep.ofN (index_addr rfl rfl (hasO y0_h0 k31) l31 (lt_ofE y0_n0 l31 k31) (eptr_field rfl (hasO y0_h0 k31) (RStep.of (ld_own (i := ((i0 : Int)).toNat) (o := 1) r0 rfl k31 rfl rfl ?_))))
 obtain ⟨h35, hl0⟩ := chkb hl0
 refine int_in h35 ?_
 obtain ⟨x36, l36, k36, hl0⟩ := ixb hl0
 refine RStep.ofN (index_addr rfl rfl (hasO y0_h0 k36) l36 (lt_ofE y0_n0 l36 k36) (eptr_field rfl (hasO y0_h0 k36) ?_))
 refine st_own (o := 1) (y := (⟨x36.Op, (x31.N + byZ), x36.S⟩ : Jd)) x36 r0 rfl k36 rfl (by (conv => whnf); exact ⟨rfl, rfl, (Nat.le_of_ble_eq_true rfl), rfl, rfl, rfl⟩) ?_
 refine int_in (cntn w0 hk0) ?_
 refine RoundStep.mk (i0 + 1, (y0_0.set (((i0 : Int)).toNat) (⟨x36.Op, (x31.N + byZ), x36.S⟩ : Jd))) ⟨rfl, trivial⟩ (by repeat (first | exact trivial | refine And.intro rfl ?_)) (ConvH.of (.cons r0 (.cons r0 .nil))) lk0 (ltnm w0) ⟨(by simpa using y0_h0), ((y0_n0).trans List.length_set.symm), hl0⟩
 replace e28 := iff_ g21_5 e28
 refine cond_f g21_5 (cond_f g21_5 ?_)
 obtain ⟨x24, l24, k24, e28⟩ := ixb e28
 refine RStep.ofN (index_addr rfl rfl (hasO y0_h0 k24) l24 (lt_ofE y0_n0 l24 k24) (cond_f g21_5 (eptr_field rfl (hasO y0_h0 k24) (cond_f g21_5 (RStep.of (ld_own (i := ((i0 : Int)).toNat) (o := 0) r0 rfl k24 rfl rfl (cond_f g21_5 ?_)))))))
 refine eq_int (cond_f g21_5 (cond_go rfl ?_))
 refine cond_s (fun w28 => ?_) (fun w28 => ?_)
 replace hl0 := ift ((si e28).symm.trans w28) hl0
 obtain ⟨x31, l31, k31, hl0⟩ := ixb hl0
 refine RStep.ofN (index_addr rfl rfl (hasO y0_h0 k31) l31 (lt_ofE y0_n0 l31 k31) (eptr_field rfl (hasO y0_h0 k31) (RStep.of (ld_own (i := ((i0 : Int)).toNat) (o := 1) r0 rfl k31 rfl rfl ?_))))
 obtain ⟨h35, hl0⟩ := chkb hl0
 refine int_in h35 ?_
 obtain ⟨x36, l36, k36, hl0⟩ := ixb hl0
 refine RStep.ofN (index_addr rfl rfl (hasO y0_h0 k36) l36 (lt_ofE y0_n0 l36 k36) (eptr_field rfl (hasO y0_h0 k36) ?_))
 refine st_own (o := 1) (y := (⟨x36.Op, (x31.N + byZ), x36.S⟩ : Jd)) x36 r0 rfl k36 rfl (by (conv => whnf); exact ⟨rfl, rfl, (Nat.le_of_ble_eq_true rfl), rfl, rfl, rfl⟩) ?_
 refine int_in (cntn w0 hk0) ?_
 refine RoundStep.mk (i0 + 1, (y0_0.set (((i0 : Int)).toNat) (⟨x36.Op, (x31.N + byZ), x36.S⟩ : Jd))) ⟨rfl, trivial⟩ (by repeat (first | exact trivial | refine And.intro rfl ?_)) (ConvH.of (.cons r0 (.cons r0 .nil))) lk0 (ltnm w0) ⟨(by simpa using y0_h0), ((y0_n0).trans List.length_set.symm), hl0⟩
 replace hl0 := iff_ ((si e28).symm.trans w28) hl0
 refine int_in (cntn w0 hk0) ?_
 refine RoundStep.mk (i0 + 1, y0_0) ⟨rfl, trivial⟩ (by repeat (first | exact trivial | refine And.intro rfl ?_)) (ConvH.of (.cons r0 (.cons r0 .nil))) lk0 (ltnm w0) ⟨y0_h0, y0_n0, hl0⟩
 rw [lto w0, Jap.eq_1] at hl0
 refine cond_T ?_
 refine MeetStep.mk (y0_0) trivial (by repeat (first | exact trivial | refine And.intro rfl ?_)) (ConvH.of (.cons r0 (.cons r0 .nil))) lk0 ⟨y0_h0, y0_n0, (si hl0)⟩
 rintro t0 Kt0 lt0 ⟨t0_h0, t0_n0, rfl⟩ j0
 obtain rfl := si hm
 refine EndStep.mk _ lt0 ⟨a9, c9, (by rw [← (show t0.length = (([] : List Jd) ++ code).length from Eq.symm (t0_n0))] <;> rfl), t0_h0, rfl⟩ (ConvH.of (.cons r0 (.cons r0 .nil)))

noncomputable def JaN : List (List Jd) → Nat → (List Jd) → Option ((List Jd))
  | [], _, y0_0 => some y0_0
  | e0 :: xs0, i0, y0_0 =>
    (JN e0 (y0_0.length : Int)).bind fun x16 =>
    (chk (y0_0.length + x16.length ≤ lim)).bind fun _ =>
    JaN xs0 (i0 + 1) (y0_0 ++ x16)
noncomputable def Jbc (codes : (List (List Jd))) : Option ((List Jd)) :=
  (chk (codes.length ≤ szMax)).bind fun _ =>
  (JaN codes 0 []).bind fun t0 =>
  some t0
set_option maxHeartbeats 8000000 in
theorem JbR {codes : (List (List Jd))} {ap0_0 : Option Addr} {cp0_0 : Nat} {n0 : Nat} {K : Hp} {r : (List Jd)}
    (hm : Jbc codes = some r) (hp0_0 : LiC (sliL Jd.enc 3) K ap0_0 cp0_0 1 codes) (en0 : n0 = codes.length) :
    Fn Tryz.prog 84 [.slice ap0_0 n0 cp0_0] K [] (fun v K' H' => ∃ ar_0 : Option Addr, ∃ cr_0 : Nat, v = .slice ar_0 r.length cr_0 ∧ (0 < r.length → Has ar_0) ∧ H' = [OwnL Jd.enc ar_0 73 3 cr_0 r]) := by
 subst en0
 refine Fn.enter Tryz.func84 Tryz.call84 rfl fun F => ?_
 unfold Jbc at hm
 refine RStep.of (len_slice rfl ?_)
 obtain ⟨hk0, hm⟩ := chkb hm
 obtain ⟨s0, hl0, hm⟩ := bnd hm
 refine nilC Jd.enc 73 3 ?_
 refine code_cut (σ := ((List Jd)) × Option Addr × Nat) [3, 5, 8, 9, 10, 11, 12, 13, 14, 15, 16, 17, 18] (fun (t0, t0_a0, t0_c0) => [(3, .slice t0_a0 t0.length t0_c0)]) (fun (t0, t0_a0, t0_c0) => [OwnL Jd.enc t0_a0 73 3 t0_c0 t0, F]) (fun zz K1 => match zz with | (t0, t0_a0, t0_c0) => (0 < t0.length → Has t0_a0) ∧ t0 = s0) ?_ ?_
 refine block_go rfl ?_
 refine loop_rule (σ := Nat × (List Jd) × Option Addr × Nat) [3, 5, 8, 9, 10, 11, 12, 13, 14, 15, 16, 17, 18] (fun (i0, y0_0, y0_a0, y0_c0) => [(8, .int .i64 (i0 : Int)), (3, .slice y0_a0 y0_0.length y0_c0)]) (fun (i0, y0_0, y0_a0, y0_c0) => [OwnL Jd.enc y0_a0 73 3 y0_c0 y0_0, F]) (fun zz K1 => match zz with | (i0, y0_0, y0_a0, y0_c0) => (0 < y0_0.length → Has y0_a0) ∧ JaN (codes.drop i0) i0 y0_0 = some s0) (fun zz => codes.length - zz.1) (0, [], none, 0) rfl ⟨rfl, rfl, trivial⟩ (ConvH.of (.cons r0 (.cons r0 .nil))) ⟨(fun h => by simp at h), hl0⟩ ?_
 clear hl0
 rintro ⟨i0, y0_0, y0_a0, y0_c0⟩ Kb0 lk0 ⟨y0_h0, hl0⟩ j0
 refine cond_go rfl ?_
 refine cond_s (fun w0 => ?_) (fun w0 => ?_)
 obtain ⟨e0, hx0, hd0⟩ := ltx w0
 rw [hd0, JaN.eq_2] at hl0
 refine block_go rfl ?_
 refine RStep.ofN (index_addr rfl rfl (hasR (LiC.mono sliL_ok lk0 hp0_0).rd hx0) (nn _) (lt_ofN hx0) ?_)
 obtain ⟨ss11, cc11, hr11, hc11, hR11⟩ := LiR.get (LiC.mono sliL_ok lk0 hp0_0).rd hx0
 obtain ⟨a11_0, c11_0, rfl, h11_0⟩ := hR11
 refine RStep.of (load_rd i0 0 _ _ hr11 rfl hc11 rfl rfl (RStep.of (len_slice rfl ?_)))
 obtain ⟨x16, q16, hl0⟩ := bnd hl0
 refine call_fn (JaR (byZ := (y0_0.length : Int)) q16 h11_0 rfl) .nil ?_
 rintro _ K16 _ l16 ⟨a16_0, c16_0, rfl, h16_0, rfl⟩
 obtain ⟨h17, hl0⟩ := chkb hl0
 refine apE rfl r1 elT36 (src_own' rfl r0 rfl (fun _ => rfl) (fun _ => rfl)) h17 ?_
 intro a17 c17 o17
 refine int_in (cntz hx0 hk0) ?_
 refine RoundStep.mk (i0 + 1, (y0_0 ++ x16), a17, c17) ⟨rfl, rfl, trivial⟩ (by repeat (first | exact trivial | refine And.intro rfl ?_)) (ConvH.of (.cons r0 (.cons r1 .nil))) (lk0.trans l16) (ltm hx0) ⟨o17, hl0⟩
 rw [lty w0, JaN.eq_1] at hl0
 refine cond_T ?_
 refine MeetStep.mk (y0_0, y0_a0, y0_c0) ⟨rfl, trivial⟩ (by repeat (first | exact trivial | refine And.intro rfl ?_)) (ConvH.of (.cons r0 (.cons r0 .nil))) lk0 ⟨y0_h0, (si hl0)⟩
 rintro ⟨t0, t0_a0, t0_c0⟩ Kt0 lt0 ⟨t0_h0, rfl⟩ j0
 obtain rfl := si hm
 refine EndStep.mk _ lt0 ⟨t0_a0, t0_c0, rfl, t0_h0, rfl⟩ (ConvH.of (.cons r0 (.cons r0 .nil)))
