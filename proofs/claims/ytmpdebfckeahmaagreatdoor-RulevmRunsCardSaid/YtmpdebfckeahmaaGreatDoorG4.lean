/- Functions of the program: mirrors, and that a call returns what the mirror says. Printed by gen.py. -/
import Derived.Test.YtmpdebfckeahmaaGreatDoorG3
set_option linter.unusedVariables false
set_option linter.unusedSimpArgs false
open Go Go.SL Go.Proofs
set_option maxRecDepth 1000000
noncomputable def Jp (i0 : Nat) (code : (List Jm)) (e0 : Jm) (x48 : Jj) (x42 : Int × Int × Bool) (t908 : (List Int)) : List Int → Nat → (List Jj) → Option (Fl (Int × Bool) ((List Jj)))
  | [], _, y2_0 => some (Fl.go y2_0)
  | e2 :: xs2, i2, y2_0 =>
    if decide (e2 ≤ (i0 : Int)) then
    some (Fl.ret (0, false))
    else
    if (decide (e2 ≥ (code.length : Int)) && decide (e0.Op ≠ 12)) then
    some (Fl.ret (0, false))
    else
    (ix y2_0 e2).bind fun x162 =>
    (Jba x162 ((x48.depth - x42.1) + x42.2.1) t908).bind fun x166 =>
    (ix y2_0 e2).bind fun x169 =>
    if (!x166.2) then
    some (Fl.ret (0, false))
    else
    Jp i0 code e0 x48 x42 t908 xs2 (i2 + 1) (y2_0.set ((e2).toNat) x166.1)
noncomputable def Jad (code : (List Jm)) : List Jm → Nat → Int → (List Jj) → Option (Fl (Int × Bool) (Int × (List Jj)))
  | [], _, y0_0, y0_1 => some (Fl.go (y0_0, y0_1))
  | e0 :: xs0, i0, y0_0, y0_1 =>
    (JaR e0).bind fun x42 =>
    (ix y0_1 (i0 : Int)).bind fun x48 =>
    (if (((!x42.2.2) || (!x48.reached)) || decide (x48.depth < x42.1)) then some true else (chk (InI ((code.length : Int) - 1))).bind fun _ =>
    some (!((decide (e0.Op = 12)) == (decide ((i0 : Int) = ((code.length : Int) - 1)))))).bind fun x73 =>
    if x73 then
    some (Fl.ret (0, false))
    else
    if (decide (e0.Op = 12) && decide (x48.depth > 0)) then
    some (Fl.ret (0, false))
    else
    (if decide (e0.Op = 3) then (Jbk x48.stored [e0.N]).bind fun x93 =>
    (JbB x93 [e0.N]).bind fun x97 =>
    some (!x97) else some false).bind fun t926 =>
    if t926 then
    some (Fl.ret (0, false))
    else
    (chk (InI (x48.depth - x42.1))).bind fun _ =>
    (chk (InI ((x48.depth - x42.1) + x42.2.1))).bind fun _ =>
    ((if decide (e0.Op = 4) then
    (Jbu x48.stored e0.N).bind fun x114 =>
    some x114
    else
    some x48.stored : Option ((List Int)))).bind fun t928 =>
    ((if decide (e0.Op = 9) then
    some [e0.N]
    else
    some [((i0 : Int) + 1)] : Option ((List Int)))).bind fun t930 =>
    ((if decide (e0.Op = 10) then
    (chk (t930.length + [e0.N].length ≤ lim)).bind fun _ =>
    some (t930 ++ [e0.N])
    else
    some t930 : Option ((List Int)))).bind fun t932 =>
    (chk (t932.length ≤ szMax)).bind fun _ =>
    (Jp i0 code e0 x48 x42 t928 t932 0 y0_1).bind fun s2 => s2.el (fun r => some (Fl.ret r)) fun t2 =>
    Jad code xs0 (i0 + 1) (max (max y0_0 x48.depth) ((x48.depth - x42.1) + x42.2.1)) t2
noncomputable def JbC (code : (List Jm)) : Option (Int × Bool) :=
  if (decide ((code.length : Int) < 1) || decide ((code.length : Int) > 2048)) then
  some (0, false)
  else
  (chk (InI ((code.length : Int) + 1))).bind fun _ =>
  (chk ((0 : Int) ≤ ((code.length : Int) + 1) ∧ ((code.length : Int) + 1) ≤ (lim : Int))).bind fun _ =>
  (ix (List.replicate (Int.toNat ((code.length : Int) + 1)) ((⟨false, 0, []⟩ : Jj) : Jj)) 0).bind fun x31 =>
  (chk (code.length ≤ szMax)).bind fun _ =>
  (Jad code code 0 0 ((List.replicate (Int.toNat ((code.length : Int) + 1)) ((⟨false, 0, []⟩ : Jj) : Jj)).set ((0 : Int).toNat) (⟨true, x31.depth, x31.stored⟩ : Jj))).bind fun s0 => s0.el some fun t0 =>
  some (t0.1, true)
set_option maxHeartbeats 8000000 in
theorem JcX {code : (List Jm)} {ap0_0 : Option Addr} {cp0_0 : Nat} {n0 : Nat} {K : Hp} {r : Int × Bool}
    (hm : JbC code = some r) (hp0_0 : RdC Jm.enc K ap0_0 cp0_0 3 code) (en0 : n0 = code.length) :
    Fn Tryz.prog 35 [.slice ap0_0 n0 cp0_0] K [] (fun v K' H' => v = .tuple #[.int .i64 r.1, .bool r.2] ∧ H' = []) := by
 subst en0
 refine Fn.enter Tryz.func35 Tryz.call35 rfl fun F => ?_
 unfold JbC at hm
 refine code_cut (σ := Unit) [18, 19, 20, 21, 22, 23, 24, 25] (fun _ => [(25, .bool (decide ((code.length : Int) < 1) || decide ((code.length : Int) > 2048)))]) (fun _ => [F]) (fun t901 K1 => K1 = K) ?_ ?_
 refine guard_go rfl ?_
 refine RStep.of (len_slice rfl ?_)
 refine cond_s (fun g21_1 => ?_) (fun g21_1 => ?_)
 refine cond_t g21_1 (cond_t g21_1 (cond_t g21_1 ?_))
 refine MeetStep.mk (()) ⟨(by rw [← ((or_t g21_1)).symm] <;> rfl), trivial⟩ (by repeat (first | exact trivial | refine And.intro rfl ?_)) (ConvH.of (.cons r0 .nil)) (Hp.Le.refl _) rfl
 refine cond_f g21_1 (RStep.of (len_slice rfl (cond_f g21_1 (cond_f g21_1 ?_))))
 refine MeetStep.mk (()) ⟨(by rw [← (or_e (b := decide ((code.length : Int) > 2048)) g21_1)] <;> rfl), trivial⟩ (by repeat (first | exact trivial | refine And.intro rfl ?_)) (ConvH.of (.cons r0 .nil)) (Hp.Le.refl _) rfl
 rintro _ _ _ rfl j901
 refine cs rfl rfl hm (fun w25 hm => ?_) fun w25 hm => ?_
 obtain rfl := si hm
 refine EndStep.mk _ (Hp.Le.refl _) ⟨rfl, rfl⟩ (ConvH.of (.cons r0 .nil))
 refine RStep.of (len_slice rfl ?_)
 obtain ⟨h28, hm⟩ := chkb hm
 refine int_in h28 ?_
 obtain ⟨h29, hm⟩ := chkb hm
 refine mk_sliceR [.bool false, .int .i64 0, .slice none 0 0] elT149 rfl rfl rfl h29 fun b29 => ?_
 obtain ⟨x31, l31, k31, hm⟩ := ixb hm
 refine RStep.ofN (index_addr rfl rfl (hasO (fun _ => ⟨_, _, rfl⟩) k31) l31 (lt_ofE List.length_replicate.symm l31 k31) (eptr_field rfl (hasO (fun _ => ⟨_, _, rfl⟩) k31) ?_))
 obtain ⟨ccw3, hcw3, hRw3⟩ := LR.get (show LR Jj.R _ (List.replicate (Int.toNat ((code.length : Int) + 1)) [.bool false, .int .i64 0, .slice none 0 0]) (List.replicate (Int.toNat ((code.length : Int) + 1)) ((⟨false, 0, []⟩ : Jj) : Jj)) from LR.repl _ ⟨none, 0, rfl, RdC.nil⟩) k31
 obtain ⟨aw3_0, cw3_0, rfl, hw3_0⟩ := hRw3
 refine stA (o := 0) [.bool true, .int .i64 x31.depth, .slice aw3_0 x31.stored.length cw3_0] r0 rfl hcw3 rfl (by (conv => whnf); exact ⟨rfl, rfl, (Nat.le_of_ble_eq_true rfl), rfl, rfl, rfl⟩) ?_
 refine RStep.of (len_slice rfl ?_)
 obtain ⟨hk0, hm⟩ := chkb hm
 obtain ⟨s0, hl0, hm⟩ := bnd hm
 refine code_cut (σ := (Int × (List Jj)) × List (List Value)) [2, 3, 5, 6, 7, 8, 9, 10, 11, 12, 13, 14, 16, 17, 35, 36, 37, 38, 39, 40, 41, 42, 43, 44, 45, 46, 47, 48, 49, 50, 51, 52, 53, 54, 55, 56, 57, 58, 59, 60, 61, 62, 63, 64, 65, 66, 67, 68, 69, 70, 71, 72, 73, 74, 75, 76, 77, 78, 79, 80, 81, 82, 83, 84, 85, 86, 87, 88, 89, 90, 91, 92, 93, 94, 95, 96, 97, 98, 99, 100, 101, 102, 103, 104, 105, 106, 107, 108, 109, 110, 111, 112, 113, 114, 115, 116, 117, 118, 119, 120, 121, 122, 123, 124, 125, 126, 127, 128, 129, 130, 131, 132, 133, 134, 135, 136, 137, 138, 139, 140, 141, 142, 143, 144, 145, 146, 147, 148, 149, 150, 151, 152, 153, 154, 155, 156, 157, 158, 159, 160, 161, 162, 163, 164, 165, 166, 167, 168, 169, 170, 171, 172, 173] (fun (t0, t0_s1) => [(5, .int .i64 t0.1)]) (fun (t0, t0_s1) => [OwnA (some ⟨b29, 0, none⟩) 152 3 (Int.toNat ((code.length : Int) + 1)) t0_s1, F]) (fun zz K1 => match zz with | (t0, t0_s1) => LR Jj.R K1 t0_s1 t0.2 ∧ (0 < t0.2.length → Has (some ⟨b29, 0, none⟩)) ∧ (Int.toNat ((code.length : Int) + 1)) = t0.2.length ∧ s0 = Fl.go t0) ?_ ?_
 refine block_go rfl ?_
 refine loop_rule (σ := Nat × Int × (List Jj) × List (List Value)) [2, 3, 5, 6, 7, 8, 9, 10, 11, 12, 13, 14, 16, 17, 35, 36, 37, 38, 39, 40, 41, 42, 43, 44, 45, 46, 47, 48, 49, 50, 51, 52, 53, 54, 55, 56, 57, 58, 59, 60, 61, 62, 63, 64, 65, 66, 67, 68, 69, 70, 71, 72, 73, 74, 75, 76, 77, 78, 79, 80, 81, 82, 83, 84, 85, 86, 87, 88, 89, 90, 91, 92, 93, 94, 95, 96, 97, 98, 99, 100, 101, 102, 103, 104, 105, 106, 107, 108, 109, 110, 111, 112, 113, 114, 115, 116, 117, 118, 119, 120, 121, 122, 123, 124, 125, 126, 127, 128, 129, 130, 131, 132, 133, 134, 135, 136, 137, 138, 139, 140, 141, 142, 143, 144, 145, 146, 147, 148, 149, 150, 151, 152, 153, 154, 155, 156, 157, 158, 159, 160, 161, 162, 163, 164, 165, 166, 167, 168, 169, 170, 171, 172, 173] (fun (i0, y0_0, y0_1, y0_s1) => [(35, .int .i64 (i0 : Int)), (5, .int .i64 y0_0)]) (fun (i0, y0_0, y0_1, y0_s1) => [OwnA (some ⟨b29, 0, none⟩) 152 3 (Int.toNat ((code.length : Int) + 1)) y0_s1, F]) (fun zz K1 => match zz with | (i0, y0_0, y0_1, y0_s1) => LR Jj.R K1 y0_s1 y0_1 ∧ (0 < y0_1.length → Has (some ⟨b29, 0, none⟩)) ∧ (Int.toNat ((code.length : Int) + 1)) = y0_1.length ∧ Jad code (code.drop i0) i0 y0_0 y0_1 = some s0) (fun zz => code.length - zz.1) (0, 0, ((List.replicate (Int.toNat ((code.length : Int) + 1)) ((⟨false, 0, []⟩ : Jj) : Jj)).set ((0 : Int).toNat) (⟨true, x31.depth, x31.stored⟩ : Jj)), ((List.replicate (Int.toNat ((code.length : Int) + 1)) [.bool false, .int .i64 0, .slice none 0 0]).set ((0 : Int).toNat) [.bool true, .int .i64 x31.depth, .slice aw3_0 x31.stored.length cw3_0])) rfl ⟨rfl, rfl, trivial⟩ (ConvH.of (.cons r0 (.cons r0 .nil))) ⟨(LR.set (show LR Jj.R _ (List.replicate (Int.toNat ((code.length : Int) + 1)) [.bool false, .int .i64 0, .slice none 0 0]) (List.replicate (Int.toNat ((code.length : Int) + 1)) ((⟨false, 0, []⟩ : Jj) : Jj)) from LR.repl _ ⟨none, 0, rfl, RdC.nil⟩) ⟨aw3_0, cw3_0, rfl, hw3_0⟩), (by first | simpa using (fun _ => ⟨_, _, rfl⟩) | exact fun _ => ⟨_, _, rfl⟩), ((List.length_replicate.symm).trans List.length_set.symm), hl0⟩ ?_
 clear hl0
 rintro ⟨i0, y0_0, y0_1, y0_s1⟩ Kb0 lk0 ⟨y0_r1, y0_h1, y0_n1, hl0⟩ j0
 refine cond_go rfl ?_
 refine cond_s (fun w0 => ?_) (fun w0 => ?_)
 obtain ⟨e0, hx0, hd0⟩ := ltx w0
 rw [hd0, Jad.eq_2] at hl0
 refine block_go rfl ?_
 refine RStep.ofN (index_addr rfl rfl (hasK (hp0_0.mono lk0).rd hx0) (nn _) (lt_ofN hx0) (RStep.of (load_rd_agg i0 _ (hp0_0.mono lk0).rd rfl (mp hx0) rfl ?_)))
 refine alloc_rule rfl ?_
 intro b7
 refine store_rule r0 rfl ?_
 refine ⟨rfl, rfl, (Nat.le_of_ble_eq_true rfl), ?_⟩
 refine RStep.of (loadn_s r0 rfl (Nat.le_of_ble_eq_true rfl) ?_)
 obtain ⟨x42, q42, hl0⟩ := bnd hl0
 refine call_fn (Jcb (x := e0) q42) .nil ?_
 rintro _ K42 _ l42 ⟨rfl, rfl⟩
 obtain ⟨x48, l48, k48, hl0⟩ := ixb hl0
 refine RStep.ofN (index_addr rfl rfl (hasO y0_h1 k48) l48 (lt_ofE y0_n1 l48 k48) ?_)
 obtain ⟨cc49, hc49, hR49⟩ := LR.get (LR.mono Jj.R_ok l42 y0_r1) k48
 obtain ⟨a49_0, c49_0, rfl, h49_0⟩ := hR49
 refine RStep.of (ldnA (i := ((i0 : Int)).toNat) r1 rfl hc49 rfl ?_)
 refine alloc_rule rfl ?_
 intro b11
 refine store_rule r0 rfl ?_
 refine ⟨rfl, rfl, (Nat.le_of_ble_eq_true rfl), ?_⟩
 refine guard_go rfl ?_
 refine un_not ?_
 refine cond_s (fun g52_11 => ?_) (fun g52_11 => ?_)
 refine cond_t g52_11 (cond_t g52_11 (cond_t g52_11 (cond_T (cond_T (cond_T ?_)))))
 refine cond_T (cond_T ?_)
 obtain ⟨x73, e73, hl0⟩ := bnd hl0
 replace e73 := ift (or_t (or_t (not_t (ni_t g52_11)))) e73
 refine cond_T (cond_T (cond_T (cond_T (cond_T (cond_T ?_)))))
 refine cond_T (cond_T (cond_T (cond_T ?_)))
 replace hl0 := ift (si e73).symm hl0
 refine cond_T (cond_T (cond_T (cond_T (cond_T (cond_T ?_)))))
 refine cond_go rfl (cond_T ?_)
 obtain rfl := si hl0
 replace hm := elr hm
 obtain rfl := si hm
 refine EndStep.mk _ (lk0.trans l42) ⟨rfl, rfl⟩ (ConvH.of (.cons r3 .nil))
 refine Ja rfl (cond_f g52_11 (RStep.of (load1_s r0 rfl rfl (cond_f g52_11 (un_not (cond_f g52_11 ?_))))))
 refine cond_s (fun g57_11 => ?_) (fun g57_11 => ?_)
 refine cond_t g57_11 (cond_t g57_11 (cond_t g57_11 (cond_t g57_11 ?_)))
 obtain ⟨x73, e73, hl0⟩ := bnd hl0
 replace e73 := ift (or_t (or_u (not_f (ni_f g52_11)) (not_t (ni_t g57_11)))) e73
 refine cond_T (cond_T (cond_T (cond_T (cond_T (cond_T ?_)))))
 refine cond_T (cond_T (cond_T (cond_T ?_)))
 replace hl0 := ift (si e73).symm hl0
 refine cond_T (cond_T (cond_T (cond_T (cond_T (cond_T ?_)))))
 refine cond_go rfl (cond_T ?_)
 obtain rfl := si hl0
 replace hm := elr hm
 obtain rfl := si hm
 refine EndStep.mk _ (lk0.trans l42) ⟨rfl, rfl⟩ (ConvH.of (.cons r3 .nil))
 refine Ja rfl (cond_f g57_11 (RStep.of (load1_s r0 rfl rfl (cond_f g57_11 (cond_f g57_11 (cond_f g57_11 ?_))))))
 obtain ⟨x73, e73, hl0⟩ := bnd hl0
 refine cond_s (fun g63_11 => ?_) (fun g63_11 => ?_)
 replace e73 := ift (or_u (or_f (not_f (ni_f g52_11)) (not_f (ni_f g57_11))) g63_11) e73
 refine cond_t g63_11 (cond_t g63_11 (cond_t g63_11 (cond_t g63_11 (cond_t g63_11 (cond_t g63_11 ?_)))))
 refine cond_t g63_11 (cond_t g63_11 (cond_t g63_11 ?_))
 replace hl0 := ift (si e73).symm hl0
 refine cond_T (cond_T (cond_T (cond_T (cond_T (cond_T ?_)))))
 refine cond_go rfl (cond_T ?_)
 obtain rfl := si hl0
 replace hm := elr hm
 obtain rfl := si hm
 refine EndStep.mk _ (lk0.trans l42) ⟨rfl, rfl⟩ (ConvH.of (.cons r3 .nil))
 replace e73 := iff_ (or_f (or_f (not_f (ni_f g52_11)) (not_f (ni_f g57_11))) g63_11) e73
 refine Ja rfl (cond_f g63_11 (RStep.of (load1_s r1 rfl rfl (cond_f g63_11 (eq_int (cond_f g63_11 ?_))))))
 refine cond_f g63_11 (cond_f g63_11 (RStep.of (len_slice rfl (cond_f g63_11 ?_))))
 obtain ⟨h70, e73⟩ := chkb e73
 refine int_in h70 (cond_f g63_11 (eq_int (cond_f g63_11 (neq_bool rfl (cond_f g63_11 ?_)))))
 refine cond_s (fun g74_11 => ?_) (fun g74_11 => ?_)
 replace hl0 := ift ((si e73).symm.trans g74_11) hl0
 refine cond_t g74_11 (cond_t g74_11 (cond_t g74_11 (cond_t g74_11 (cond_t g74_11 (cond_go rfl ?_)))))
 refine cond_T ?_
 obtain rfl := si hl0
 replace hm := elr hm
 obtain rfl := si hm
 refine EndStep.mk _ (lk0.trans l42) ⟨rfl, rfl⟩ (ConvH.of (.cons r3 .nil))
 replace hl0 := iff_ ((si e73).symm.trans g74_11) hl0
 refine Ja rfl (cond_f g74_11 (RStep.of (load1_s r1 rfl rfl (cond_f g74_11 (eq_int (cond_f g74_11 ?_))))))
 refine cond_s (fun g78_11 => ?_) (fun g78_11 => ?_)
 refine Ja rfl (cond_t g78_11 (RStep.of (load1_s r0 rfl rfl (cond_t g78_11 (cond_f g74_11 (cond_t g78_11 ?_))))))
 refine cond_f g74_11 (cond_go rfl ?_)
 refine cond_s (fun w83 => ?_) (fun w83 => ?_)
 replace hl0 := ift (and_t g78_11 w83) hl0
 obtain rfl := si hl0
 replace hm := elr hm
 obtain rfl := si hm
 refine EndStep.mk _ (lk0.trans l42) ⟨rfl, rfl⟩ (ConvH.of (.cons r3 .nil))
 replace hl0 := iff_ (and_g g78_11 w83) hl0
 obtain ⟨s926, hl926, hl0⟩ := bnd hl0
 refine draw_cut (σ := Bool) [84, 85, 86, 87, 88, 89, 90, 91, 92, 93, 94, 95, 96, 97, 98, 99] (fun t926 => [(99, .bool t926)]) (fun _ => [Cells b11 152 [.bool x48.reached, .int .i64 x48.depth, .slice a49_0 x48.stored.length c49_0], Cells b7 89 [.int .i64 e0.Op, .int .i64 e0.N, str e0.S], OwnA (some ⟨b29, 0, none⟩) 152 3 (Int.toNat ((code.length : Int) + 1)) y0_s1, F]) (fun t926 K1 => t926 = s926) ?_ ?_
 replace hl926 := bsm hl926
 refine draw_go_F ⟨⟨[], false⟩, _, [(_, _), (_, _)], []⟩ 16 rfl (by kernel_rfl) ⟨Hp.Le.refl _, (ConvH.of (.cons r1 (.cons r0 .nil))), ci0⟩ ?_
 refine Ja rfl (load1_l m0 rfl rfl (eq_int ?_))
 obtain ⟨x99, e99, hl926⟩ := bnd hl926
 refine cond_s (fun g87_13 => ?_) (fun g87_13 => ?_)
 replace e99 := ift g87_13 e99
 refine Ja rfl (cond_t g87_13 (load1_l m1 rfl rfl (cond_t g87_13 (Ja rfl (cond_t g87_13 ?_)))))
 refine load1_l m0 rfl rfl (cond_t g87_13 ?_)
 refine bsA (len := 1) (cl := [.int .i64 e0.N]) elT150 rfl rfl ?_ fun b92 => ?_
 · conv => whnf
   refine cond_T ?_
   first | done | rfl
 refine cond_t g87_13 ?_
 intro GG9
 obtain ⟨x93, q93, e99⟩ := bnd e99
 refine litF (enc := eN) (sz := 1) (l := [e0.N]) Tryz.call73 r0 rfl (fun _ _ => rfl) rfl (Nat.le_of_ble_eq_true rfl) ?_
 refine call_fn (Fn.lend Tryz.call73 (fun K93_1 l93_1 f93_1 => (JbX q93 (h49_0.mono l93_1) rfl f93_1 rfl)) (by exact fun _ _ _ _ h => h)) (.cons r0 .nil) ?_
 rintro _ K93 _ l93 ⟨_, rfl, a93_0, c93_0, rfl, h93_0, rfl⟩
 refine ⟨⟨l93, (ConvH.of (.cons r3 (.cons r2 .nil))), ci0⟩, ?_⟩
 refine ⟨_, .cons r6 .nil, ⟨l93, (ConvH.of (.cons r3 (.cons r2 .nil))), ci0⟩, ?_⟩
 refine cond_t g87_13 (Ja rfl (cond_t g87_13 (load1_l m0 rfl rfl (cond_t g87_13 ?_))))
 refine bsA (len := 1) (cl := [.int .i64 e0.N]) elT150 rfl rfl ?_ fun b96 => ?_
 · conv => whnf
   refine cond_T ?_
   first | done | rfl
 refine cond_t g87_13 ?_
 intro GG13
 obtain ⟨x97, q97, e99⟩ := bnd e99
 refine litF (enc := eN) (sz := 1) (l := [e0.N]) Tryz.call72 r0 rfl (fun _ _ => rfl) rfl (Nat.le_of_ble_eq_true rfl) ?_
 refine call_fn (Fn.lend Tryz.call72 (fun K97_0 l97_0 f97_0 => (Fn.lend Tryz.call72 (fun K97_1 l97_1 f97_1 => (JcA q97 (f97_0.mono l97_1) rfl f97_1 rfl)) (by exact fun _ _ _ _ h => h))) (by exact fun _ _ _ _ h => h)) (.cons r2 (.cons r0 .nil)) ?_
 rintro _ K97 _ l97 ⟨_, rfl, _, rfl, rfl, rfl⟩
 refine ⟨⟨(l93.trans l97), (ConvH.of (.cons r4 (.cons r3 .nil))), ci0⟩, ?_⟩
 refine ⟨_, .cons r7 .nil, ⟨(l93.trans l97), (ConvH.of (.cons r4 (.cons r3 .nil))), ci0⟩, ?_⟩
 refine cond_t g87_13 (un_not (cond_t g87_13 ?_))
 refine MeetStep.mk (x99) ⟨(by rw [← (si e99)] <;> rfl), trivial⟩ (by repeat (first | exact trivial | refine And.intro rfl ?_)) (ConvH.of (.cons r3 (.cons r3 (.cons r3 (.cons r3 .nil))))) (l93.trans l97) (si hl926)
 replace e99 := iff_ g87_13 e99
 refine cond_f g87_13 (cond_f g87_13 (cond_f g87_13 (cond_f g87_13 (cond_f g87_13 (cond_f g87_13 ?_)))))
 refine cond_f g87_13 (cond_f g87_13 (cond_f g87_13 (cond_f g87_13 (cond_f g87_13 ?_))))
 refine MeetStep.mk (x99) ⟨(by rw [← ((si e99).symm).symm] <;> rfl), trivial⟩ (by repeat (first | exact trivial | refine And.intro rfl ?_)) (ConvH.of (.cons r0 (.cons r0 (.cons r0 (.cons r0 .nil))))) (Hp.Le.refl _) (si hl926)
 rintro t926 Kt926 lt926 rfl j926
 refine cs rfl rfl hl0 (fun w99 hl0 => ?_) fun w99 hl0 => ?_
 obtain rfl := si hl0
 replace hm := elr hm
 obtain rfl := si hm
 refine EndStep.mk _ ((lk0.trans l42).trans lt926) ⟨rfl, rfl⟩ (ConvH.of (.cons r3 .nil))
 refine draw_go ⟨⟨[], false⟩, _, [(_, _)], []⟩ (by kernel_rfl) ⟨Hp.Le.refl _, (ConvH.of (.cons r0 .nil)), ci0⟩ ?_
 refine Ja rfl (load1_l m0 rfl rfl ?_)
 obtain ⟨h103, hl0⟩ := chkb hl0
 refine int_in h103 ?_
 obtain ⟨h105, hl0⟩ := chkb hl0
 refine int_in h105 (Ja rfl (load1_l m0 rfl rfl (Ja rfl (RStep.of (load1_s r1 rfl rfl (eq_int ?_))))))
 obtain ⟨s928, hl928, hl0⟩ := bnd hl0
 refine code_cut (σ := ((List Int)) × Option Addr × Nat) [13, 111, 112, 113, 114] (fun (t928, t928_a0, t928_c0) => [(13, .slice t928_a0 t928.length t928_c0)]) (fun (t928, t928_a0, t928_c0) => [Cells b11 152 [.bool x48.reached, .int .i64 x48.depth, .slice a49_0 x48.stored.length c49_0], Cells b7 89 [.int .i64 e0.Op, .int .i64 e0.N, str e0.S], OwnA (some ⟨b29, 0, none⟩) 152 3 (Int.toNat ((code.length : Int) + 1)) y0_s1, F]) (fun zz K1 => match zz with | (t928, t928_a0, t928_c0) => RdC eN K1 t928_a0 t928_c0 1 t928 ∧ t928 = s928) ?_ ?_
 refine cs rfl rfl hl928 (fun w110 hl928 => ?_) fun w110 hl928 => ?_
 refine Ja rfl (RStep.of (load1_s r1 rfl rfl ?_))
 obtain ⟨x114, q114, hl928⟩ := bnd hl928
 refine call_fn (Jco (n' := e0.N) q114 (h49_0.mono lt926) rfl) .nil ?_
 rintro _ K114 _ l114 ⟨a114_0, c114_0, rfl, h114_0, rfl⟩
 refine fMe r0 fun Kr928_0 lr928_0 fr928_0 => ?_
 refine MeetStep.mk (x114, a114_0, c114_0) ⟨rfl, trivial⟩ (by repeat (first | exact trivial | refine And.intro rfl ?_)) (ConvH.of (.cons r0 (.cons r0 (.cons r0 (.cons r0 .nil))))) (l114.trans lr928_0) ⟨fr928_0, (si hl928)⟩
 refine MeetStep.mk (x48.stored, a49_0, c49_0) ⟨rfl, trivial⟩ (by repeat (first | exact trivial | refine And.intro rfl ?_)) (ConvH.of (.cons r0 (.cons r0 (.cons r0 (.cons r0 .nil))))) (Hp.Le.refl _) ⟨(h49_0.mono lt926), (si hl928)⟩
 rintro ⟨t928, t928_a0, t928_c0⟩ Kt928 lt928 ⟨t928_h0, rfl⟩ j928
 refine Ja rfl (RStep.of (load1_s r0 rfl rfl (RStep.of (max3_int (int_in (cntz hx0 hk0) ?_)))))
 refine bsO (len := 1) (enc := eN) (l := [((i0 : Int) + 1)]) (cl := [.int .i64 ((i0 : Int) + 1)]) elT150 rfl rfl (fun _ _ => rfl) rfl rfl rfl ?_ fun b122 => ?_
 · conv => whnf
   refine cond_T ?_
   first | done | rfl
 refine Ja rfl (RStep.of (load1_s r2 rfl rfl (eq_int ?_)))
 obtain ⟨s930, hl930, hl0⟩ := bnd hl0
 refine code_cut (σ := ((List Int)) × Option Addr × Nat) [14, 126, 127, 128] (fun (t930, t930_a0, t930_c0) => [(14, .slice t930_a0 t930.length t930_c0)]) (fun (t930, t930_a0, t930_c0) => [OwnL eN t930_a0 3 1 t930_c0 t930, Cells b11 152 [.bool x48.reached, .int .i64 x48.depth, .slice a49_0 x48.stored.length c49_0], Cells b7 89 [.int .i64 e0.Op, .int .i64 e0.N, str e0.S], OwnA (some ⟨b29, 0, none⟩) 152 3 (Int.toNat ((code.length : Int) + 1)) y0_s1, F]) (fun zz K1 => match zz with | (t930, t930_a0, t930_c0) => (0 < t930.length → Has t930_a0) ∧ t930 = s930) ?_ ?_
 refine cs rfl rfl hl930 (fun w125 hl930 => ?_) fun w125 hl930 => ?_
 refine Ja rfl (RStep.of (load1_s r2 rfl rfl ?_))
 refine bsO (len := 1) (enc := eN) (l := [e0.N]) (cl := [.int .i64 e0.N]) elT150 rfl rfl (fun _ _ => rfl) rfl rfl rfl ?_ fun b128 => ?_
 · conv => whnf
   refine cond_T ?_
   first | done | rfl
 refine MeetStep.mk ([e0.N], (some ⟨b128, 0, none⟩), 1) ⟨rfl, trivial⟩ (by repeat (first | exact trivial | refine And.intro rfl ?_)) (ConvH.of (.cons r0 (.cons r1 (.cons r1 (.cons r1 (.cons r1 .nil)))))) (Hp.Le.refl _) ⟨(fun _ => ⟨_, _, rfl⟩), (si hl930)⟩
 refine MeetStep.mk ([((i0 : Int) + 1)], (some ⟨b122, 0, none⟩), 1) ⟨rfl, trivial⟩ (by repeat (first | exact trivial | refine And.intro rfl ?_)) (ConvH.of (.cons r0 (.cons r0 (.cons r0 (.cons r0 (.cons r0 .nil)))))) (Hp.Le.refl _) ⟨(fun _ => ⟨_, _, rfl⟩), (si hl930)⟩
 rintro ⟨t930, t930_a0, t930_c0⟩ Kt930 lt930 ⟨t930_h0, rfl⟩ j930
 refine Ja rfl (RStep.of (load1_s r2 rfl rfl (eq_int ?_)))
 obtain ⟨s932, hl932, hl0⟩ := bnd hl0
 refine code_cut (σ := ((List Int)) × Option Addr × Nat) [14, 132, 133, 134, 135, 136] (fun (t932, t932_a0, t932_c0) => [(14, .slice t932_a0 t932.length t932_c0)]) (fun (t932, t932_a0, t932_c0) => [OwnL eN t932_a0 3 1 t932_c0 t932, Cells b11 152 [.bool x48.reached, .int .i64 x48.depth, .slice a49_0 x48.stored.length c49_0], Cells b7 89 [.int .i64 e0.Op, .int .i64 e0.N, str e0.S], OwnA (some ⟨b29, 0, none⟩) 152 3 (Int.toNat ((code.length : Int) + 1)) y0_s1, F]) (fun zz K1 => match zz with | (t932, t932_a0, t932_c0) => (0 < t932.length → Has t932_a0) ∧ t932 = s932) ?_ ?_
 refine cs rfl rfl hl932 (fun w131 hl932 => ?_) fun w131 hl932 => ?_
 refine Ja rfl (RStep.of (load1_s r2 rfl rfl ?_))
 refine bsO (len := 1) (enc := eN) (l := [e0.N]) (cl := [.int .i64 e0.N]) elT150 rfl rfl (fun _ _ => rfl) rfl rfl rfl ?_ fun b135 => ?_
 · conv => whnf
   refine cond_T ?_
   first | done | rfl
 obtain ⟨h136, hl932⟩ := chkb hl932
 refine apE rfl r1 elT150 (src_own' rfl r0 rfl (fun _ => rfl) (fun _ => rfl)) h136 ?_
 intro a136 c136 o136
 refine MeetStep.mk ((t930 ++ [e0.N]), a136, c136) ⟨rfl, trivial⟩ (by repeat (first | exact trivial | refine And.intro rfl ?_)) (ConvH.of (.cons r0 (.cons r1 (.cons r1 (.cons r1 (.cons r1 .nil)))))) (Hp.Le.refl _) ⟨o136, (si hl932)⟩
 refine MeetStep.mk (t930, t930_a0, t930_c0) ⟨rfl, trivial⟩ (by repeat (first | exact trivial | refine And.intro rfl ?_)) (ConvH.of (.cons r0 (.cons r0 (.cons r0 (.cons r0 (.cons r0 .nil)))))) (Hp.Le.refl _) ⟨t930_h0, (si hl932)⟩
 rintro ⟨t932, t932_a0, t932_c0⟩ Kt932 lt932 ⟨t932_h0, rfl⟩ j932
 refine RStep.of (len_slice rfl ?_)
 obtain ⟨hk2, hl0⟩ := chkb hl0
 obtain ⟨s2, hl2, hl0⟩ := bnd hl0
 refine code_cut (σ := ((List Jj)) × List (List Value)) [2, 3, 16, 17, 139, 140, 141, 142, 143, 144, 145, 146, 147, 148, 149, 150, 151, 152, 153, 154, 155, 156, 157, 158, 159, 160, 161, 162, 163, 164, 165, 166, 167, 168, 169, 170, 171, 172] (fun (t2, t2_s0) => []) (fun (t2, t2_s0) => [OwnL eN t932_a0 3 1 t932_c0 t932, Cells b11 152 [.bool x48.reached, .int .i64 x48.depth, .slice a49_0 x48.stored.length c49_0], Cells b7 89 [.int .i64 e0.Op, .int .i64 e0.N, str e0.S], OwnA (some ⟨b29, 0, none⟩) 152 3 (Int.toNat ((code.length : Int) + 1)) t2_s0, F]) (fun zz K1 => match zz with | (t2, t2_s0) => LR Jj.R K1 t2_s0 t2 ∧ (0 < t2.length → Has (some ⟨b29, 0, none⟩)) ∧ (Int.toNat ((code.length : Int) + 1)) = t2.length ∧ s2 = Fl.go t2) ?_ ?_
 refine block_go rfl ?_
 refine loop_rule (σ := Nat × (List Jj) × List (List Value)) [2, 3, 16, 17, 139, 140, 141, 142, 143, 144, 145, 146, 147, 148, 149, 150, 151, 152, 153, 154, 155, 156, 157, 158, 159, 160, 161, 162, 163, 164, 165, 166, 167, 168, 169, 170, 171, 172] (fun (i2, y2_0, y2_s0) => [(139, .int .i64 (i2 : Int))]) (fun (i2, y2_0, y2_s0) => [OwnL eN t932_a0 3 1 t932_c0 t932, Cells b11 152 [.bool x48.reached, .int .i64 x48.depth, .slice a49_0 x48.stored.length c49_0], Cells b7 89 [.int .i64 e0.Op, .int .i64 e0.N, str e0.S], OwnA (some ⟨b29, 0, none⟩) 152 3 (Int.toNat ((code.length : Int) + 1)) y2_s0, F]) (fun zz K1 => match zz with | (i2, y2_0, y2_s0) => LR Jj.R K1 y2_s0 y2_0 ∧ (0 < y2_0.length → Has (some ⟨b29, 0, none⟩)) ∧ (Int.toNat ((code.length : Int) + 1)) = y2_0.length ∧ Jp i0 code e0 x48 x42 t928 (t932.drop i2) i2 y2_0 = some s2) (fun zz => t932.length - zz.1) (0, y0_1, y0_s1) rfl ⟨rfl, trivial⟩ (ConvH.of (.cons r0 (.cons r0 (.cons r0 (.cons r0 (.cons r0 .nil)))))) ⟨(LR.mono Jj.R_ok ((((l42.trans lt926).trans lt928).trans lt930).trans lt932) y0_r1), y0_h1, y0_n1, hl2⟩ ?_
 clear hl2
 rintro ⟨i2, y2_0, y2_s0⟩ Kb2 lk2 ⟨y2_r0, y2_h0, y2_n0, hl2⟩ j2
 refine cond_go rfl ?_
 refine cond_s (fun w2 => ?_) (fun w2 => ?_)
 obtain ⟨e2, hx2, hd2⟩ := ltx w2
 rw [hd2, Jp.eq_2] at hl2
 refine block_go rfl ?_
 refine RStep.ofN (index_addr rfl rfl (hasO t932_h0 hx2) (nn _) (lt_ofNE rfl hx2) (RStep.of (ld_own (i := i2) (o := 0) r0 rfl hx2 rfl rfl ?_)))
 refine guard_go rfl ?_
 refine cond_s (fun g146_27 => ?_) (fun g146_27 => ?_)
 replace hl2 := ift g146_27 hl2
 refine cond_t g146_27 (cond_t g146_27 (cond_t g146_27 (cond_t g146_27 (cond_t g146_27 (cond_t g146_27 ?_)))))
 refine cond_go rfl (cond_T ?_)
 obtain rfl := si hl2
 replace hl0 := elr hl0
 obtain rfl := si hl0
 replace hm := elr hm
 obtain rfl := si hm
 refine EndStep.mk _ ((((((lk0.trans l42).trans lt926).trans lt928).trans lt930).trans lt932).trans lk2) ⟨rfl, rfl⟩ (ConvH.of (.cons r4 .nil))
 replace hl2 := iff_ g146_27 hl2
 refine cond_f g146_27 (cond_f g146_27 (RStep.of (len_slice rfl (cond_f g146_27 (cond_f g146_27 ?_)))))
 refine cond_s (fun g151_27 => ?_) (fun g151_27 => ?_)
 refine Ja rfl (cond_t g151_27 (RStep.of (load1_s r2 rfl rfl (cond_t g151_27 (neq_int (cond_f g146_27 ?_))))))
 refine cond_t g151_27 (cond_f g146_27 (cond_go rfl ?_))
 refine cond_s (fun w156 => ?_) (fun w156 => ?_)
 replace hl2 := ift (and_t g151_27 w156) hl2
 obtain rfl := si hl2
 replace hl0 := elr hl0
 obtain rfl := si hl0
 replace hm := elr hm
 obtain rfl := si hm
 refine EndStep.mk _ ((((((lk0.trans l42).trans lt926).trans lt928).trans lt930).trans lt932).trans lk2) ⟨rfl, rfl⟩ (ConvH.of (.cons r4 .nil))
 replace hl2 := iff_ (and_g g151_27 w156) hl2
 obtain ⟨x162, l162, k162, hl2⟩ := ixb hl2
 refine RStep.ofN (index_addr rfl rfl (hasO y2_h0 k162) l162 (lt_ofE y2_n0 l162 k162) ?_)
 obtain ⟨cc163, hc163, hR163⟩ := LR.get y2_r0 k162
 obtain ⟨a163_0, c163_0, rfl, h163_0⟩ := hR163
 refine RStep.of (ldnA (i := (e2).toNat) r3 rfl hc163 rfl ?_)
 obtain ⟨x166, q166, hl2⟩ := bnd hl2
 refine call_fn (Jbg (s := x162) (depth := ((x48.depth - x42.1) + x42.2.1)) q166 h163_0 (t928_h0.mono ((lt930.trans lt932).trans lk2)) rfl) .nil ?_
 rintro _ K166 _ l166 ⟨a166_0, c166_0, rfl, h166_0, rfl⟩
 obtain ⟨x169, l169, k169, hl2⟩ := ixb hl2
 refine RStep.ofN (index_addr rfl rfl (hasO y2_h0 k169) l169 (lt_ofE y2_n0 l169 k169) ?_)
 obtain ⟨ccw36, hcw36, _⟩ := LR.get (LR.mono Jj.R_ok l166 y2_r0) k169
 refine stA0 [.bool x166.1.reached, .int .i64 x166.1.depth, .slice a166_0 x166.1.stored.length c166_0] r3 rfl hcw36 rfl (by (conv => whnf); exact ⟨rfl, rfl, rfl, rfl⟩) ?_
 refine un_not (cond_go rfl ?_)
 refine cond_s (fun w171 => ?_) (fun w171 => ?_)
 replace hl2 := ift (not_t (ni_t w171)) hl2
 obtain rfl := si hl2
 replace hl0 := elr hl0
 obtain rfl := si hl0
 replace hm := elr hm
 obtain rfl := si hm
 refine EndStep.mk _ (((((((lk0.trans l42).trans lt926).trans lt928).trans lt930).trans lt932).trans lk2).trans l166) ⟨rfl, rfl⟩ (ConvH.of (.cons r4 .nil))
 replace hl2 := iff_ (not_f (ni_f w171)) hl2
 refine int_in (cntz hx2 hk2) ?_
 refine RoundStep.mk (i2 + 1, (y2_0.set ((e2).toNat) x166.1), (y2_s0.set ((e2).toNat) [.bool x166.1.reached, .int .i64 x166.1.depth, .slice a166_0 x166.1.stored.length c166_0])) ⟨rfl, trivial⟩ (by repeat (first | exact trivial | refine And.intro rfl ?_)) (ConvH.of (.cons r1 (.cons r1 (.cons r1 (.cons r0 (.cons r0 .nil)))))) (lk2.trans l166) (ltm hx2) ⟨(LR.set (LR.mono Jj.R_ok l166 y2_r0) ⟨a166_0, c166_0, rfl, h166_0⟩), (by first | simpa using y2_h0 | exact fun _ => ⟨_, _, rfl⟩), ((y2_n0).trans List.length_set.symm), hl2⟩
 refine cond_f g151_27 (cond_f g151_27 (cond_f g146_27 (cond_f g151_27 (cond_f g146_27 (cond_go rfl ?_)))))
 refine cond_F ?_
 replace hl2 := iff_ (and_f g151_27) hl2
 obtain ⟨x162, l162, k162, hl2⟩ := ixb hl2
 refine RStep.ofN (index_addr rfl rfl (hasO y2_h0 k162) l162 (lt_ofE y2_n0 l162 k162) ?_)
 obtain ⟨cc163, hc163, hR163⟩ := LR.get y2_r0 k162
 obtain ⟨a163_0, c163_0, rfl, h163_0⟩ := hR163
 refine RStep.of (ldnA (i := (e2).toNat) r3 rfl hc163 rfl ?_)
 obtain ⟨x166, q166, hl2⟩ := bnd hl2
 refine call_fn (Jbg (s := x162) (depth := ((x48.depth - x42.1) + x42.2.1)) q166 h163_0 (t928_h0.mono ((lt930.trans lt932).trans lk2)) rfl) .nil ?_
 rintro _ K166 _ l166 ⟨a166_0, c166_0, rfl, h166_0, rfl⟩
 obtain ⟨x169, l169, k169, hl2⟩ := ixb hl2
 refine RStep.ofN (index_addr rfl rfl (hasO y2_h0 k169) l169 (lt_ofE y2_n0 l169 k169) ?_)
 obtain ⟨ccw38, hcw38, _⟩ := LR.get (LR.mono Jj.R_ok l166 y2_r0) k169
 refine stA0 [.bool x166.1.reached, .int .i64 x166.1.depth, .slice a166_0 x166.1.stored.length c166_0] r3 rfl hcw38 rfl (by (conv => whnf); exact ⟨rfl, rfl, rfl, rfl⟩) ?_
 refine un_not (cond_go rfl ?_)
 refine cond_s (fun w171 => ?_) (fun w171 => ?_)
 replace hl2 := ift (not_t (ni_t w171)) hl2
 obtain rfl := si hl2
 replace hl0 := elr hl0
 obtain rfl := si hl0
 replace hm := elr hm
 obtain rfl := si hm
 refine EndStep.mk _ (((((((lk0.trans l42).trans lt926).trans lt928).trans lt930).trans lt932).trans lk2).trans l166) ⟨rfl, rfl⟩ (ConvH.of (.cons r4 .nil))
 replace hl2 := iff_ (not_f (ni_f w171)) hl2
 refine int_in (cntz hx2 hk2) ?_
 refine RoundStep.mk (i2 + 1, (y2_0.set ((e2).toNat) x166.1), (y2_s0.set ((e2).toNat) [.bool x166.1.reached, .int .i64 x166.1.depth, .slice a166_0 x166.1.stored.length c166_0])) ⟨rfl, trivial⟩ (by repeat (first | exact trivial | refine And.intro rfl ?_)) (ConvH.of (.cons r1 (.cons r1 (.cons r1 (.cons r0 (.cons r0 .nil)))))) (lk2.trans l166) (ltm hx2) ⟨(LR.set (LR.mono Jj.R_ok l166 y2_r0) ⟨a166_0, c166_0, rfl, h166_0⟩), (by first | simpa using y2_h0 | exact fun _ => ⟨_, _, rfl⟩), ((y2_n0).trans List.length_set.symm), hl2⟩
 rw [lty w2, Jp.eq_1] at hl2
 refine cond_T ?_
 refine MeetStep.mk (y2_0, y2_s0) trivial (by repeat (first | exact trivial | refine And.intro rfl ?_)) (ConvH.of (.cons r0 (.cons r0 (.cons r0 (.cons r0 (.cons r0 .nil)))))) lk2 ⟨y2_r0, y2_h0, y2_n0, (si hl2).symm⟩
 rintro ⟨t2, t2_s0⟩ Kt2 lt2 ⟨t2_r0, t2_h0, t2_n0, rfl⟩ j2
 replace hl0 := elg hl0
 refine int_in (cntz hx0 hk0) ?_
 refine RoundStep.mk (i0 + 1, (max (max y0_0 x48.depth) ((x48.depth - x42.1) + x42.2.1)), t2, t2_s0) ⟨rfl, rfl, trivial⟩ (by repeat (first | exact trivial | refine And.intro rfl ?_)) (ConvH.of (.cons r3 (.cons r3 .nil))) ((((((lk0.trans l42).trans lt926).trans lt928).trans lt930).trans lt932).trans lt2) (ltm hx0) ⟨t2_r0, t2_h0, t2_n0, hl0⟩
 refine cond_f g78_11 (cond_f g78_11 (cond_f g74_11 (cond_f g78_11 (cond_f g74_11 (cond_go rfl ?_)))))
 refine cond_F ?_
 replace hl0 := iff_ (and_f g78_11) hl0
 obtain ⟨s940, hl940, hl0⟩ := bnd hl0
 refine draw_cut (σ := Bool) [84, 85, 86, 87, 88, 89, 90, 91, 92, 93, 94, 95, 96, 97, 98, 99] (fun t940 => [(99, .bool t940)]) (fun _ => [Cells b11 152 [.bool x48.reached, .int .i64 x48.depth, .slice a49_0 x48.stored.length c49_0], Cells b7 89 [.int .i64 e0.Op, .int .i64 e0.N, str e0.S], OwnA (some ⟨b29, 0, none⟩) 152 3 (Int.toNat ((code.length : Int) + 1)) y0_s1, F]) (fun t940 K1 => t940 = s940) ?_ ?_
 replace hl940 := bsm hl940
 refine draw_go_F ⟨⟨[], false⟩, _, [(_, _), (_, _)], []⟩ 16 rfl (by kernel_rfl) ⟨Hp.Le.refl _, (ConvH.of (.cons r1 (.cons r0 .nil))), ci0⟩ ?_
 refine Ja rfl (load1_l m0 rfl rfl (eq_int ?_))
 obtain ⟨x99, e99, hl940⟩ := bnd hl940
 refine cond_s (fun g87_13 => ?_) (fun g87_13 => ?_)
 replace e99 := ift g87_13 e99
 refine Ja rfl (cond_t g87_13 (load1_l m1 rfl rfl (cond_t g87_13 (Ja rfl (cond_t g87_13 ?_)))))
 refine load1_l m0 rfl rfl (cond_t g87_13 ?_)
 refine bsA (len := 1) (cl := [.int .i64 e0.N]) elT150 rfl rfl ?_ fun b92 => ?_
 · conv => whnf
   refine cond_T ?_
   first | done | rfl
 refine cond_t g87_13 ?_
 intro GG9
 obtain ⟨x93, q93, e99⟩ := bnd e99
 refine litF (enc := eN) (sz := 1) (l := [e0.N]) Tryz.call73 r0 rfl (fun _ _ => rfl) rfl (Nat.le_of_ble_eq_true rfl) ?_
 refine call_fn (Fn.lend Tryz.call73 (fun K93_1 l93_1 f93_1 => (JbX q93 (h49_0.mono l93_1) rfl f93_1 rfl)) (by exact fun _ _ _ _ h => h)) (.cons r0 .nil) ?_
 rintro _ K93 _ l93 ⟨_, rfl, a93_0, c93_0, rfl, h93_0, rfl⟩
 refine ⟨⟨l93, (ConvH.of (.cons r3 (.cons r2 .nil))), ci0⟩, ?_⟩
 refine ⟨_, .cons r6 .nil, ⟨l93, (ConvH.of (.cons r3 (.cons r2 .nil))), ci0⟩, ?_⟩
 refine cond_t g87_13 (Ja rfl (cond_t g87_13 (load1_l m0 rfl rfl (cond_t g87_13 ?_))))
 refine bsA (len := 1) (cl := [.int .i64 e0.N]) elT150 rfl rfl ?_ fun b96 => ?_
 · conv => whnf
   refine cond_T ?_
   first | done | rfl
 refine cond_t g87_13 ?_
 intro GG13
 obtain ⟨x97, q97, e99⟩ := bnd e99
 refine litF (enc := eN) (sz := 1) (l := [e0.N]) Tryz.call72 r0 rfl (fun _ _ => rfl) rfl (Nat.le_of_ble_eq_true rfl) ?_
 refine call_fn (Fn.lend Tryz.call72 (fun K97_0 l97_0 f97_0 => (Fn.lend Tryz.call72 (fun K97_1 l97_1 f97_1 => (JcA q97 (f97_0.mono l97_1) rfl f97_1 rfl)) (by exact fun _ _ _ _ h => h))) (by exact fun _ _ _ _ h => h)) (.cons r2 (.cons r0 .nil)) ?_
 rintro _ K97 _ l97 ⟨_, rfl, _, rfl, rfl, rfl⟩
 refine ⟨⟨(l93.trans l97), (ConvH.of (.cons r4 (.cons r3 .nil))), ci0⟩, ?_⟩
 refine ⟨_, .cons r7 .nil, ⟨(l93.trans l97), (ConvH.of (.cons r4 (.cons r3 .nil))), ci0⟩, ?_⟩
 refine cond_t g87_13 (un_not (cond_t g87_13 ?_))
 refine MeetStep.mk (x99) ⟨(by rw [← (si e99)] <;> rfl), trivial⟩ (by repeat (first | exact trivial | refine And.intro rfl ?_)) (ConvH.of (.cons r3 (.cons r3 (.cons r3 (.cons r3 .nil))))) (l93.trans l97) (si hl940)
 replace e99 := iff_ g87_13 e99
 refine cond_f g87_13 (cond_f g87_13 (cond_f g87_13 (cond_f g87_13 (cond_f g87_13 (cond_f g87_13 ?_)))))
 refine cond_f g87_13 (cond_f g87_13 (cond_f g87_13 (cond_f g87_13 (cond_f g87_13 ?_))))
 refine MeetStep.mk (x99) ⟨(by rw [← ((si e99).symm).symm] <;> rfl), trivial⟩ (by repeat (first | exact trivial | refine And.intro rfl ?_)) (ConvH.of (.cons r0 (.cons r0 (.cons r0 (.cons r0 .nil))))) (Hp.Le.refl _) (si hl940)
 rintro t940 Kt940 lt940 rfl j940
 refine cs rfl rfl hl0 (fun w99 hl0 => ?_) fun w99 hl0 => ?_
 obtain rfl := si hl0
 replace hm := elr hm
 obtain rfl := si hm
 refine EndStep.mk _ ((lk0.trans l42).trans lt940) ⟨rfl, rfl⟩ (ConvH.of (.cons r3 .nil))
 refine draw_go ⟨⟨[], false⟩, _, [(_, _)], []⟩ (by kernel_rfl) ⟨Hp.Le.refl _, (ConvH.of (.cons r0 .nil)), ci0⟩ ?_
 refine Ja rfl (load1_l m0 rfl rfl ?_)
 obtain ⟨h103, hl0⟩ := chkb hl0
 refine int_in h103 ?_
 obtain ⟨h105, hl0⟩ := chkb hl0
 refine int_in h105 (Ja rfl (load1_l m0 rfl rfl (Ja rfl (RStep.of (load1_s r1 rfl rfl (eq_int ?_))))))
 obtain ⟨s942, hl942, hl0⟩ := bnd hl0
 refine code_cut (σ := ((List Int)) × Option Addr × Nat) [13, 111, 112, 113, 114] (fun (t942, t942_a0, t942_c0) => [(13, .slice t942_a0 t942.length t942_c0)]) (fun (t942, t942_a0, t942_c0) => [Cells b11 152 [.bool x48.reached, .int .i64 x48.depth, .slice a49_0 x48.stored.length c49_0], Cells b7 89 [.int .i64 e0.Op, .int .i64 e0.N, str e0.S], OwnA (some ⟨b29, 0, none⟩) 152 3 (Int.toNat ((code.length : Int) + 1)) y0_s1, F]) (fun zz K1 => match zz with | (t942, t942_a0, t942_c0) => RdC eN K1 t942_a0 t942_c0 1 t942 ∧ t942 = s942) ?_ ?_
 refine cs rfl rfl hl942 (fun w110 hl942 => ?_) fun w110 hl942 => ?_
 refine Ja rfl (RStep.of (load1_s r1 rfl rfl ?_))
 obtain ⟨x114, q114, hl942⟩ := bnd hl942
 refine call_fn (Jco (n' := e0.N) q114 (h49_0.mono lt940) rfl) .nil ?_
 rintro _ K114 _ l114 ⟨a114_0, c114_0, rfl, h114_0, rfl⟩
 refine fMe r0 fun Kr942_0 lr942_0 fr942_0 => ?_
 refine MeetStep.mk (x114, a114_0, c114_0) ⟨rfl, trivial⟩ (by repeat (first | exact trivial | refine And.intro rfl ?_)) (ConvH.of (.cons r0 (.cons r0 (.cons r0 (.cons r0 .nil))))) (l114.trans lr942_0) ⟨fr942_0, (si hl942)⟩
 refine MeetStep.mk (x48.stored, a49_0, c49_0) ⟨rfl, trivial⟩ (by repeat (first | exact trivial | refine And.intro rfl ?_)) (ConvH.of (.cons r0 (.cons r0 (.cons r0 (.cons r0 .nil))))) (Hp.Le.refl _) ⟨(h49_0.mono lt940), (si hl942)⟩
 rintro ⟨t942, t942_a0, t942_c0⟩ Kt942 lt942 ⟨t942_h0, rfl⟩ j942
 refine Ja rfl (RStep.of (load1_s r0 rfl rfl (RStep.of (max3_int (int_in (cntz hx0 hk0) ?_)))))
 refine bsO (len := 1) (enc := eN) (l := [((i0 : Int) + 1)]) (cl := [.int .i64 ((i0 : Int) + 1)]) elT150 rfl rfl (fun _ _ => rfl) rfl rfl rfl ?_ fun b122 => ?_
 · conv => whnf
   refine cond_T ?_
   first | done | rfl
 refine Ja rfl (RStep.of (load1_s r2 rfl rfl (eq_int ?_)))
 obtain ⟨s944, hl944, hl0⟩ := bnd hl0
 refine code_cut (σ := ((List Int)) × Option Addr × Nat) [14, 126, 127, 128] (fun (t944, t944_a0, t944_c0) => [(14, .slice t944_a0 t944.length t944_c0)]) (fun (t944, t944_a0, t944_c0) => [OwnL eN t944_a0 3 1 t944_c0 t944, Cells b11 152 [.bool x48.reached, .int .i64 x48.depth, .slice a49_0 x48.stored.length c49_0], Cells b7 89 [.int .i64 e0.Op, .int .i64 e0.N, str e0.S], OwnA (some ⟨b29, 0, none⟩) 152 3 (Int.toNat ((code.length : Int) + 1)) y0_s1, F]) (fun zz K1 => match zz with | (t944, t944_a0, t944_c0) => (0 < t944.length → Has t944_a0) ∧ t944 = s944) ?_ ?_
 refine cs rfl rfl hl944 (fun w125 hl944 => ?_) fun w125 hl944 => ?_
 refine Ja rfl (RStep.of (load1_s r2 rfl rfl ?_))
 refine bsO (len := 1) (enc := eN) (l := [e0.N]) (cl := [.int .i64 e0.N]) elT150 rfl rfl (fun _ _ => rfl) rfl rfl rfl ?_ fun b128 => ?_
 · conv => whnf
   refine cond_T ?_
   first | done | rfl
 refine MeetStep.mk ([e0.N], (some ⟨b128, 0, none⟩), 1) ⟨rfl, trivial⟩ (by repeat (first | exact trivial | refine And.intro rfl ?_)) (ConvH.of (.cons r0 (.cons r1 (.cons r1 (.cons r1 (.cons r1 .nil)))))) (Hp.Le.refl _) ⟨(fun _ => ⟨_, _, rfl⟩), (si hl944)⟩
 refine MeetStep.mk ([((i0 : Int) + 1)], (some ⟨b122, 0, none⟩), 1) ⟨rfl, trivial⟩ (by repeat (first | exact trivial | refine And.intro rfl ?_)) (ConvH.of (.cons r0 (.cons r0 (.cons r0 (.cons r0 (.cons r0 .nil)))))) (Hp.Le.refl _) ⟨(fun _ => ⟨_, _, rfl⟩), (si hl944)⟩
 rintro ⟨t944, t944_a0, t944_c0⟩ Kt944 lt944 ⟨t944_h0, rfl⟩ j944
 refine Ja rfl (RStep.of (load1_s r2 rfl rfl (eq_int ?_)))
 obtain ⟨s946, hl946, hl0⟩ := bnd hl0
 refine code_cut (σ := ((List Int)) × Option Addr × Nat) [14, 132, 133, 134, 135, 136] (fun (t946, t946_a0, t946_c0) => [(14, .slice t946_a0 t946.length t946_c0)]) (fun (t946, t946_a0, t946_c0) => [OwnL eN t946_a0 3 1 t946_c0 t946, Cells b11 152 [.bool x48.reached, .int .i64 x48.depth, .slice a49_0 x48.stored.length c49_0], Cells b7 89 [.int .i64 e0.Op, .int .i64 e0.N, str e0.S], OwnA (some ⟨b29, 0, none⟩) 152 3 (Int.toNat ((code.length : Int) + 1)) y0_s1, F]) (fun zz K1 => match zz with | (t946, t946_a0, t946_c0) => (0 < t946.length → Has t946_a0) ∧ t946 = s946) ?_ ?_
 refine cs rfl rfl hl946 (fun w131 hl946 => ?_) fun w131 hl946 => ?_
 refine Ja rfl (RStep.of (load1_s r2 rfl rfl ?_))
 refine bsO (len := 1) (enc := eN) (l := [e0.N]) (cl := [.int .i64 e0.N]) elT150 rfl rfl (fun _ _ => rfl) rfl rfl rfl ?_ fun b135 => ?_
 · conv => whnf
   refine cond_T ?_
   first | done | rfl
 obtain ⟨h136, hl946⟩ := chkb hl946
 refine apE rfl r1 elT150 (src_own' rfl r0 rfl (fun _ => rfl) (fun _ => rfl)) h136 ?_
 intro a136 c136 o136
 refine MeetStep.mk ((t944 ++ [e0.N]), a136, c136) ⟨rfl, trivial⟩ (by repeat (first | exact trivial | refine And.intro rfl ?_)) (ConvH.of (.cons r0 (.cons r1 (.cons r1 (.cons r1 (.cons r1 .nil)))))) (Hp.Le.refl _) ⟨o136, (si hl946)⟩
 refine MeetStep.mk (t944, t944_a0, t944_c0) ⟨rfl, trivial⟩ (by repeat (first | exact trivial | refine And.intro rfl ?_)) (ConvH.of (.cons r0 (.cons r0 (.cons r0 (.cons r0 (.cons r0 .nil)))))) (Hp.Le.refl _) ⟨t944_h0, (si hl946)⟩
 rintro ⟨t946, t946_a0, t946_c0⟩ Kt946 lt946 ⟨t946_h0, rfl⟩ j946
 refine RStep.of (len_slice rfl ?_)
 obtain ⟨hk2, hl0⟩ := chkb hl0
 obtain ⟨s2, hl2, hl0⟩ := bnd hl0
 refine code_cut (σ := ((List Jj)) × List (List Value)) [2, 3, 16, 17, 139, 140, 141, 142, 143, 144, 145, 146, 147, 148, 149, 150, 151, 152, 153, 154, 155, 156, 157, 158, 159, 160, 161, 162, 163, 164, 165, 166, 167, 168, 169, 170, 171, 172] (fun (t2, t2_s0) => []) (fun (t2, t2_s0) => [OwnL eN t946_a0 3 1 t946_c0 t946, Cells b11 152 [.bool x48.reached, .int .i64 x48.depth, .slice a49_0 x48.stored.length c49_0], Cells b7 89 [.int .i64 e0.Op, .int .i64 e0.N, str e0.S], OwnA (some ⟨b29, 0, none⟩) 152 3 (Int.toNat ((code.length : Int) + 1)) t2_s0, F]) (fun zz K1 => match zz with | (t2, t2_s0) => LR Jj.R K1 t2_s0 t2 ∧ (0 < t2.length → Has (some ⟨b29, 0, none⟩)) ∧ (Int.toNat ((code.length : Int) + 1)) = t2.length ∧ s2 = Fl.go t2) ?_ ?_
 refine block_go rfl ?_
 refine loop_rule (σ := Nat × (List Jj) × List (List Value)) [2, 3, 16, 17, 139, 140, 141, 142, 143, 144, 145, 146, 147, 148, 149, 150, 151, 152, 153, 154, 155, 156, 157, 158, 159, 160, 161, 162, 163, 164, 165, 166, 167, 168, 169, 170, 171, 172] (fun (i2, y2_0, y2_s0) => [(139, .int .i64 (i2 : Int))]) (fun (i2, y2_0, y2_s0) => [OwnL eN t946_a0 3 1 t946_c0 t946, Cells b11 152 [.bool x48.reached, .int .i64 x48.depth, .slice a49_0 x48.stored.length c49_0], Cells b7 89 [.int .i64 e0.Op, .int .i64 e0.N, str e0.S], OwnA (some ⟨b29, 0, none⟩) 152 3 (Int.toNat ((code.length : Int) + 1)) y2_s0, F]) (fun zz K1 => match zz with | (i2, y2_0, y2_s0) => LR Jj.R K1 y2_s0 y2_0 ∧ (0 < y2_0.length → Has (some ⟨b29, 0, none⟩)) ∧ (Int.toNat ((code.length : Int) + 1)) = y2_0.length ∧ Jp i0 code e0 x48 x42 t942 (t946.drop i2) i2 y2_0 = some s2) (fun zz => t946.length - zz.1) (0, y0_1, y0_s1) rfl ⟨rfl, trivial⟩ (ConvH.of (.cons r0 (.cons r0 (.cons r0 (.cons r0 (.cons r0 .nil)))))) ⟨(LR.mono Jj.R_ok ((((l42.trans lt940).trans lt942).trans lt944).trans lt946) y0_r1), y0_h1, y0_n1, hl2⟩ ?_
 clear hl2
 rintro ⟨i2, y2_0, y2_s0⟩ Kb2 lk2 ⟨y2_r0, y2_h0, y2_n0, hl2⟩ j2
 refine cond_go rfl ?_
 refine cond_s (fun w2 => ?_) (fun w2 => ?_)
 obtain ⟨e2, hx2, hd2⟩ := ltx w2
 rw [hd2, Jp.eq_2] at hl2
 refine block_go rfl ?_
 refine RStep.ofN (index_addr rfl rfl (hasO t946_h0 hx2) (nn _) (lt_ofNE rfl hx2) (RStep.of (ld_own (i := i2) (o := 0) r0 rfl hx2 rfl rfl ?_)))
 refine guard_go rfl ?_
 refine cond_s (fun g146_27 => ?_) (fun g146_27 => ?_)
 replace hl2 := ift g146_27 hl2
 refine cond_t g146_27 (cond_t g146_27 (cond_t g146_27 (cond_t g146_27 (cond_t g146_27 (cond_t g146_27 ?_)))))
 refine cond_go rfl (cond_T ?_)
 obtain rfl := si hl2
 replace hl0 := elr hl0
 obtain rfl := si hl0
 replace hm := elr hm
 obtain rfl := si hm
 refine EndStep.mk _ ((((((lk0.trans l42).trans lt940).trans lt942).trans lt944).trans lt946).trans lk2) ⟨rfl, rfl⟩ (ConvH.of (.cons r4 .nil))
 replace hl2 := iff_ g146_27 hl2
 refine cond_f g146_27 (cond_f g146_27 (RStep.of (len_slice rfl (cond_f g146_27 (cond_f g146_27 ?_)))))
 refine cond_s (fun g151_27 => ?_) (fun g151_27 => ?_)
 refine Ja rfl (cond_t g151_27 (RStep.of (load1_s r2 rfl rfl (cond_t g151_27 (neq_int (cond_f g146_27 ?_))))))
 refine cond_t g151_27 (cond_f g146_27 (cond_go rfl ?_))
 refine cond_s (fun w156 => ?_) (fun w156 => ?_)
 replace hl2 := ift (and_t g151_27 w156) hl2
 obtain rfl := si hl2
 replace hl0 := elr hl0
 obtain rfl := si hl0
 replace hm := elr hm
 obtain rfl := si hm
 refine EndStep.mk _ ((((((lk0.trans l42).trans lt940).trans lt942).trans lt944).trans lt946).trans lk2) ⟨rfl, rfl⟩ (ConvH.of (.cons r4 .nil))
 replace hl2 := iff_ (and_g g151_27 w156) hl2
 obtain ⟨x162, l162, k162, hl2⟩ := ixb hl2
 refine RStep.ofN (index_addr rfl rfl (hasO y2_h0 k162) l162 (lt_ofE y2_n0 l162 k162) ?_)
 obtain ⟨cc163, hc163, hR163⟩ := LR.get y2_r0 k162
 obtain ⟨a163_0, c163_0, rfl, h163_0⟩ := hR163
 refine RStep.of (ldnA (i := (e2).toNat) r3 rfl hc163 rfl ?_)
 obtain ⟨x166, q166, hl2⟩ := bnd hl2
 refine call_fn (Jbg (s := x162) (depth := ((x48.depth - x42.1) + x42.2.1)) q166 h163_0 (t942_h0.mono ((lt944.trans lt946).trans lk2)) rfl) .nil ?_
 rintro _ K166 _ l166 ⟨a166_0, c166_0, rfl, h166_0, rfl⟩
 obtain ⟨x169, l169, k169, hl2⟩ := ixb hl2
 refine RStep.ofN (index_addr rfl rfl (hasO y2_h0 k169) l169 (lt_ofE y2_n0 l169 k169) ?_)
 obtain ⟨ccw50, hcw50, _⟩ := LR.get (LR.mono Jj.R_ok l166 y2_r0) k169
 refine stA0 [.bool x166.1.reached, .int .i64 x166.1.depth, .slice a166_0 x166.1.stored.length c166_0] r3 rfl hcw50 rfl (by (conv => whnf); exact ⟨rfl, rfl, rfl, rfl⟩) ?_
 refine un_not (cond_go rfl ?_)
 refine cond_s (fun w171 => ?_) (fun w171 => ?_)
 replace hl2 := ift (not_t (ni_t w171)) hl2
 obtain rfl := si hl2
 replace hl0 := elr hl0
 obtain rfl := si hl0
 replace hm := elr hm
 obtain rfl := si hm
 refine EndStep.mk _ (((((((lk0.trans l42).trans lt940).trans lt942).trans lt944).trans lt946).trans lk2).trans l166) ⟨rfl, rfl⟩ (ConvH.of (.cons r4 .nil))
 replace hl2 := iff_ (not_f (ni_f w171)) hl2
 refine int_in (cntz hx2 hk2) ?_
 refine RoundStep.mk (i2 + 1, (y2_0.set ((e2).toNat) x166.1), (y2_s0.set ((e2).toNat) [.bool x166.1.reached, .int .i64 x166.1.depth, .slice a166_0 x166.1.stored.length c166_0])) ⟨rfl, trivial⟩ (by repeat (first | exact trivial | refine And.intro rfl ?_)) (ConvH.of (.cons r1 (.cons r1 (.cons r1 (.cons r0 (.cons r0 .nil)))))) (lk2.trans l166) (ltm hx2) ⟨(LR.set (LR.mono Jj.R_ok l166 y2_r0) ⟨a166_0, c166_0, rfl, h166_0⟩), (by first | simpa using y2_h0 | exact fun _ => ⟨_, _, rfl⟩), ((y2_n0).trans List.length_set.symm), hl2⟩
 refine cond_f g151_27 (cond_f g151_27 (cond_f g146_27 (cond_f g151_27 (cond_f g146_27 (cond_go rfl ?_)))))
 refine cond_F ?_
 replace hl2 := iff_ (and_f g151_27) hl2
 obtain ⟨x162, l162, k162, hl2⟩ := ixb hl2
 refine RStep.ofN (index_addr rfl rfl (hasO y2_h0 k162) l162 (lt_ofE y2_n0 l162 k162) ?_)
 obtain ⟨cc163, hc163, hR163⟩ := LR.get y2_r0 k162
 obtain ⟨a163_0, c163_0, rfl, h163_0⟩ := hR163
 refine RStep.of (ldnA (i := (e2).toNat) r3 rfl hc163 rfl ?_)
 obtain ⟨x166, q166, hl2⟩ := bnd hl2
 refine call_fn (Jbg (s := x162) (depth := ((x48.depth - x42.1) + x42.2.1)) q166 h163_0 (t942_h0.mono ((lt944.trans lt946).trans lk2)) rfl) .nil ?_
 rintro _ K166 _ l166 ⟨a166_0, c166_0, rfl, h166_0, rfl⟩
 obtain ⟨x169, l169, k169, hl2⟩ := ixb hl2
 refine RStep.ofN (index_addr rfl rfl (hasO y2_h0 k169) l169 (lt_ofE y2_n0 l169 k169) ?_)
 obtain ⟨ccw52, hcw52, _⟩ := LR.get (LR.mono Jj.R_ok l166 y2_r0) k169
 refine stA0 [.bool x166.1.reached, .int .i64 x166.1.depth, .slice a166_0 x166.1.stored.length c166_0] r3 rfl hcw52 rfl (by (conv => whnf); exact ⟨rfl, rfl, rfl, rfl⟩) ?_
 refine un_not (cond_go rfl ?_)
 refine cond_s (fun w171 => ?_) (fun w171 => ?_)
 replace hl2 := ift (not_t (ni_t w171)) hl2
 obtain rfl := si hl2
 replace hl0 := elr hl0
 obtain rfl := si hl0
 replace hm := elr hm
 obtain rfl := si hm
 refine EndStep.mk _ (((((((lk0.trans l42).trans lt940).trans lt942).trans lt944).trans lt946).trans lk2).trans l166) ⟨rfl, rfl⟩ (ConvH.of (.cons r4 .nil))
 replace hl2 := iff_ (not_f (ni_f w171)) hl2
 refine int_in (cntz hx2 hk2) ?_
 refine RoundStep.mk (i2 + 1, (y2_0.set ((e2).toNat) x166.1), (y2_s0.set ((e2).toNat) [.bool x166.1.reached, .int .i64 x166.1.depth, .slice a166_0 x166.1.stored.length c166_0])) ⟨rfl, trivial⟩ (by repeat (first | exact trivial | refine And.intro rfl ?_)) (ConvH.of (.cons r1 (.cons r1 (.cons r1 (.cons r0 (.cons r0 .nil)))))) (lk2.trans l166) (ltm hx2) ⟨(LR.set (LR.mono Jj.R_ok l166 y2_r0) ⟨a166_0, c166_0, rfl, h166_0⟩), (by first | simpa using y2_h0 | exact fun _ => ⟨_, _, rfl⟩), ((y2_n0).trans List.length_set.symm), hl2⟩
 rw [lty w2, Jp.eq_1] at hl2
 refine cond_T ?_
 refine MeetStep.mk (y2_0, y2_s0) trivial (by repeat (first | exact trivial | refine And.intro rfl ?_)) (ConvH.of (.cons r0 (.cons r0 (.cons r0 (.cons r0 (.cons r0 .nil)))))) lk2 ⟨y2_r0, y2_h0, y2_n0, (si hl2).symm⟩
 rintro ⟨t2, t2_s0⟩ Kt2 lt2 ⟨t2_r0, t2_h0, t2_n0, rfl⟩ j2
 replace hl0 := elg hl0
 refine int_in (cntz hx0 hk0) ?_
 refine RoundStep.mk (i0 + 1, (max (max y0_0 x48.depth) ((x48.depth - x42.1) + x42.2.1)), t2, t2_s0) ⟨rfl, rfl, trivial⟩ (by repeat (first | exact trivial | refine And.intro rfl ?_)) (ConvH.of (.cons r3 (.cons r3 .nil))) ((((((lk0.trans l42).trans lt940).trans lt942).trans lt944).trans lt946).trans lt2) (ltm hx0) ⟨t2_r0, t2_h0, t2_n0, hl0⟩
 rw [lty w0, Jad.eq_1] at hl0
 refine cond_T ?_
 refine MeetStep.mk ((y0_0, y0_1), y0_s1) ⟨rfl, trivial⟩ (by repeat (first | exact trivial | refine And.intro rfl ?_)) (ConvH.of (.cons r0 (.cons r0 .nil))) lk0 ⟨y0_r1, y0_h1, y0_n1, (si hl0).symm⟩
 rintro ⟨t0, t0_s1⟩ Kt0 lt0 ⟨t0_r1, t0_h1, t0_n1, rfl⟩ j0
 replace hm := elg hm
 obtain rfl := si hm
 refine EndStep.mk _ lt0 ⟨rfl, rfl⟩ (ConvH.of (.cons r1 .nil))

noncomputable def JbY (inZ : Jn) : Option (Ji) :=
  some (⟨inZ.Path, inZ.Query, [], [], [], (-1), 0, 0, false, false⟩ : Ji)
set_option maxHeartbeats 8000000 in
theorem JcY {inZ : Jn} {ap0_0 : Option Addr} {cp0_0 : Nat} {K : Hp} {r : Ji}
    (hm : JbY inZ = some r) (hp0_0 : RdC Jc.enc K ap0_0 cp0_0 2 inZ.Fields) :
    Fn Tryz.prog 36 [.agg #[str inZ.Method, str inZ.Host, str inZ.Path, str inZ.Query, .slice ap0_0 inZ.Fields.length cp0_0]] K [] (fun v K' H' => ∃ ar_0 : Option Addr, ∃ cr_0 : Nat, ∃ ar_1 : Option Addr, ∃ cr_1 : Nat, ∃ ar_2 : Option Addr, ∃ cr_2 : Nat, v = .agg #[str r.Path, str r.Query, .slice ar_0 r.Headers.length cr_0, .slice ar_1 r.Vary.length cr_1, .slice ar_2 r.Tags.length cr_2, .int .i64 r.TTL, .int .i64 r.Deny, .int .i64 r.Steps, .bool r.Pass, .bool r.Token] ∧ (0 < r.Headers.length → Has ar_0) ∧ (0 < r.Vary.length → Has ar_1) ∧ (0 < r.Tags.length → Has ar_2) ∧ H' = [OwnL Jc.enc ar_0 90 2 cr_0 r.Headers, OwnL eS ar_1 9 1 cr_1 r.Vary, OwnL eS ar_2 9 1 cr_2 r.Tags]) := by
 refine Fn.enter Tryz.func36 Tryz.call36 rfl fun F => ?_
 unfold JbY at hm
 refine box_rule ?_
 intro b1
 refine alloc_rule rfl ?_
 intro b2
 refine Ja rfl (RStep.of (load1_s r1 rfl rfl (Ja rfl (RStep.of (load1_s r1 rfl rfl (build_struct rfl rfl (cond_T ?_)))))))
 refine cond_T (cond_T ?_)
 refine store_rule r0 rfl ?_
 refine ⟨rfl, rfl, (Nat.le_of_ble_eq_true rfl), ?_⟩
 obtain rfl := si hm
 refine RStep.of (loadn_s r0 rfl (Nat.le_of_ble_eq_true rfl) ?_)
 refine nilE Jc.enc 90 2 ?_
 refine nilE eS 9 1 ?_
 refine nilE eS 9 1 ?_
 refine EndStep.mk _ (Hp.Le.refl _) ⟨none, 0, none, 0, none, 0, rfl, (fun h => by simp at h), (fun h => by simp at h), (fun h => by simp at h), rfl⟩ (ConvH.of (.cons r2 (.cons r1 (.cons r0 (.cons r2 .nil)))))

noncomputable def Jbl (m : Jk) (e : Int) : Option (Jk) :=
  some (⟨m.stack, m.slots, m.atZ, m.r, m.done, e⟩ : Jk)
set_option maxHeartbeats 8000000 in
theorem Jbh {m : Jk} {e : Int} {ap0_0 : Option Addr} {cp0_0 : Nat} {ap0_1 : Option Addr} {cp0_1 : Nat} {ap0_2 : Option Addr} {cp0_2 : Nat} {ap0_3 : Option Addr} {cp0_3 : Nat} {ap0_4 : Option Addr} {cp0_4 : Nat} {K : Hp} {r : Jk}
    (hm : Jbl m e = some r) (hp0_0 : RdC Jd.enc K ap0_0 cp0_0 4 m.stack) (hp0_1 : RdC Jd.enc K ap0_1 cp0_1 4 m.slots) (hp0_2 : RdC Jc.enc K ap0_2 cp0_2 2 m.r.Headers) (hp0_3 : RdC eS K ap0_3 cp0_3 1 m.r.Vary) (hp0_4 : RdC eS K ap0_4 cp0_4 1 m.r.Tags) :
    Fn Tryz.prog 76 [.agg #[.slice ap0_0 m.stack.length cp0_0, .slice ap0_1 m.slots.length cp0_1, .int .i64 m.atZ, str m.r.Path, str m.r.Query, .slice ap0_2 m.r.Headers.length cp0_2, .slice ap0_3 m.r.Vary.length cp0_3, .slice ap0_4 m.r.Tags.length cp0_4, .int .i64 m.r.TTL, .int .i64 m.r.Deny, .int .i64 m.r.Steps, .bool m.r.Pass, .bool m.r.Token, .bool m.done, .int .i64 m.code], .int .i64 e] K [] (fun v K' H' => ∃ ar_0 : Option Addr, ∃ cr_0 : Nat, ∃ ar_1 : Option Addr, ∃ cr_1 : Nat, ∃ ar_2 : Option Addr, ∃ cr_2 : Nat, ∃ ar_3 : Option Addr, ∃ cr_3 : Nat, ∃ ar_4 : Option Addr, ∃ cr_4 : Nat, v = .agg #[.slice ar_0 r.stack.length cr_0, .slice ar_1 r.slots.length cr_1, .int .i64 r.atZ, str r.r.Path, str r.r.Query, .slice ar_2 r.r.Headers.length cr_2, .slice ar_3 r.r.Vary.length cr_3, .slice ar_4 r.r.Tags.length cr_4, .int .i64 r.r.TTL, .int .i64 r.r.Deny, .int .i64 r.r.Steps, .bool r.r.Pass, .bool r.r.Token, .bool r.done, .int .i64 r.code] ∧ RdC Jd.enc K' ar_0 cr_0 4 r.stack ∧ RdC Jd.enc K' ar_1 cr_1 4 r.slots ∧ RdC Jc.enc K' ar_2 cr_2 2 r.r.Headers ∧ RdC eS K' ar_3 cr_3 1 r.r.Vary ∧ RdC eS K' ar_4 cr_4 1 r.r.Tags ∧ H' = []) := by
 refine Fn.enter Tryz.func76 Tryz.call76 rfl fun F => ?_
 unfold Jbl at hm
 refine box_rule ?_
 intro b2
 refine alloc_rule rfl ?_
 intro b4
 refine Ja rfl ?_
 refine store_rule r1 rfl ?_
 refine ⟨rfl, rfl, (Nat.le_of_ble_eq_true rfl), ?_⟩
 refine RStep.of (loadn_s r0 rfl (Nat.le_of_ble_eq_true rfl) ?_)
 refine store_rule r1 rfl ?_
 refine ⟨rfl, rfl, (Nat.le_of_ble_eq_true rfl), ?_⟩
 obtain rfl := si hm
 refine RStep.of (loadn_s r0 rfl (Nat.le_of_ble_eq_true rfl) ?_)
 refine EndStep.mk _ (Hp.Le.refl _) ⟨ap0_0, cp0_0, ap0_1, cp0_1, ap0_2, cp0_2, ap0_3, cp0_3, ap0_4, cp0_4, rfl, hp0_0, hp0_1, hp0_2, hp0_3, hp0_4, rfl⟩ (ConvH.of (.cons r2 .nil))

noncomputable def JcQ (n' : Int) (low : Int) (high : Int) : Option (Int) :=
  some (max low (min n' high))
set_option maxHeartbeats 8000000 in
theorem Jdg {n' : Int} {low : Int} {high : Int} {K : Hp} {r : Int}
    (hm : JcQ n' low high = some r)  :
    Fn Tryz.prog 80 [.int .i64 n', .int .i64 low, .int .i64 high] K [] (fun v K' H' => v = .int .i64 r ∧ H' = []) := by
 refine Fn.enter Tryz.func80 Tryz.call80 rfl fun F => ?_
 unfold JcQ at hm
 refine RStep.of (min_int (RStep.of (max_int ?_)))
 obtain rfl := si hm
 refine EndStep.mk _ (Hp.Le.refl _) ⟨rfl, rfl⟩ (ConvH.of (.cons r0 .nil))

noncomputable def JaT (n' : Int) : Option (Jd) :=
  (JcQ n' (-1099511627776) 1099511627776).bind fun x4 =>
  some (⟨2, x4, ([] : Str), false⟩ : Jd)
set_option maxHeartbeats 8000000 in
theorem JaG {n' : Int} {K : Hp} {r : Jd}
    (hm : JaT n' = some r)  :
    Fn Tryz.prog 40 [.int .i64 n'] K [] (fun v K' H' => v = .agg #[.int .i64 r.TypeZ, .int .i64 r.N, str r.S, .bool r.Is] ∧ H' = []) := by
 refine Fn.enter Tryz.func40 Tryz.call40 rfl fun F => ?_
 unfold JaT at hm
 refine alloc_rule rfl ?_
 intro b2
 obtain ⟨x4, q4, hm⟩ := bnd hm
 refine call_fn (Jdg (n' := n') (low := (-1099511627776)) (high := 1099511627776) q4) .nil ?_
 rintro _ K4 _ l4 ⟨rfl, rfl⟩
 refine build_struct rfl rfl (cond_T (cond_T ?_))
 refine store_rule r0 rfl ?_
 refine ⟨rfl, rfl, (Nat.le_of_ble_eq_true rfl), ?_⟩
 obtain rfl := si hm
 refine RStep.of (loadn_s r0 rfl (Nat.le_of_ble_eq_true rfl) ?_)
 refine EndStep.mk _ l4 ⟨rfl, rfl⟩ (ConvH.of (.cons r1 .nil))

noncomputable def JbD (x : Jm) (v' : Jd) : Option (Bool) :=
  if decide (v'.TypeZ = 1) then
  some (decide (x.Op = 7) || decide (x.Op = 6))
  else
  some false
set_option maxHeartbeats 8000000 in
theorem JcZ {x : Jm} {v' : Jd} {K : Hp} {r : Bool}
    (hm : JbD x v' = some r)  :
    Fn Tryz.prog 120 [.agg #[.int .i64 x.Op, .int .i64 x.N, str x.S], .agg #[.int .i64 v'.TypeZ, .int .i64 v'.N, str v'.S, .bool v'.Is]] K [] (fun v K' H' => v = .bool r ∧ H' = []) := by
 refine Fn.enter Tryz.func120 Tryz.call120 rfl fun F => ?_
 unfold JbD at hm
 refine box_rule ?_
 intro b2
 refine box_rule ?_
 intro b3
 refine guard_go rfl ?_
 refine Ja rfl (RStep.of (load1_s r0 rfl rfl (eq_int ?_)))
 refine cond_s (fun g8_1 => ?_) (fun g8_1 => ?_)
 replace hm := ift g8_1 hm
 refine Ja rfl (cond_t g8_1 (RStep.of (load1_s r1 rfl rfl (cond_t g8_1 (eq_int (cond_t g8_1 ?_))))))
 refine cond_s (fun g12_1 => ?_) (fun g12_1 => ?_)
 refine cond_t g12_1 (cond_t g12_1 (cond_t g8_1 (cond_t g12_1 (cond_t g8_1 ?_))))
 obtain rfl := si hm
 refine EndStep.mk _ (Hp.Le.refl _) ⟨(by rw [← ((or_t g12_1)).symm] <;> rfl), rfl⟩ (ConvH.of (.cons r2 .nil))
 refine Ja rfl (cond_f g12_1 (RStep.of (load1_s r1 rfl rfl (cond_f g12_1 (eq_int (cond_t g8_1 ?_))))))
 refine cond_f g12_1 (cond_t g8_1 ?_)
 obtain rfl := si hm
 refine EndStep.mk _ (Hp.Le.refl _) ⟨(by rw [← (or_e (b := decide (x.Op = 6)) g12_1)] <;> rfl), rfl⟩ (ConvH.of (.cons r2 .nil))
 replace hm := iff_ g8_1 hm
 refine cond_f g8_1 (cond_f g8_1 (cond_f g8_1 (cond_f g8_1 (cond_f g8_1 ?_))))
 obtain rfl := si hm
 refine EndStep.mk _ (Hp.Le.refl _) ⟨rfl, rfl⟩ (ConvH.of (.cons r2 .nil))

noncomputable def Jah (m : Jk) (x : Jm) (v' : Jd) (most : Int) : Option (Jk) :=
  if decide ((v'.S.length : Int) > 2048) then
  (Jbl m 5).bind fun x14 =>
  some x14
  else
  (JbD x v').bind fun x17 =>
  if x17 then
  (chk ((64 : Int) ≠ 0 ∧ InI (Int.tdiv (v'.S.length : Int) 64))).bind fun _ =>
  (chk (InI (m.r.Steps + (Int.tdiv (v'.S.length : Int) 64)))).bind fun _ =>
  if decide ((m.r.Steps + (Int.tdiv (v'.S.length : Int) 64)) > most) then
  (Jbl (⟨m.stack, m.slots, m.atZ, (⟨m.r.Path, m.r.Query, m.r.Headers, m.r.Vary, m.r.Tags, m.r.TTL, m.r.Deny, (m.r.Steps + (Int.tdiv (v'.S.length : Int) 64)), m.r.Pass, m.r.Token⟩ : Ji), m.done, m.code⟩ : Jk) 13).bind fun x34 =>
  some x34
  else
  (chk (m.stack.length ≤ lim)).bind fun _ =>
  (chk (m.stack.length + [v'].length ≤ lim)).bind fun _ =>
  some (⟨(m.stack ++ [v']), m.slots, m.atZ, (⟨m.r.Path, m.r.Query, m.r.Headers, m.r.Vary, m.r.Tags, m.r.TTL, m.r.Deny, (m.r.Steps + (Int.tdiv (v'.S.length : Int) 64)), m.r.Pass, m.r.Token⟩ : Ji), m.done, m.code⟩ : Jk)
  else
  (chk (m.stack.length ≤ lim)).bind fun _ =>
  (chk (m.stack.length + [v'].length ≤ lim)).bind fun _ =>
  some (⟨(m.stack ++ [v']), m.slots, m.atZ, m.r, m.done, m.code⟩ : Jk)
set_option maxHeartbeats 8000000 in
theorem Ja2 {m : Jk} {x : Jm} {v' : Jd} {most : Int} {ap0_0 : Option Addr} {cp0_0 : Nat} {ap0_1 : Option Addr} {cp0_1 : Nat} {ap0_2 : Option Addr} {cp0_2 : Nat} {ap0_3 : Option Addr} {cp0_3 : Nat} {ap0_4 : Option Addr} {cp0_4 : Nat} {K : Hp} {r : Jk}
    (hm : Jah m x v' most = some r) (hp0_0 : RdC Jd.enc K ap0_0 cp0_0 4 m.stack) (hp0_1 : RdC Jd.enc K ap0_1 cp0_1 4 m.slots) (hp0_2 : RdC Jc.enc K ap0_2 cp0_2 2 m.r.Headers) (hp0_3 : RdC eS K ap0_3 cp0_3 1 m.r.Vary) (hp0_4 : RdC eS K ap0_4 cp0_4 1 m.r.Tags) :
    Fn Tryz.prog 77 [.agg #[.slice ap0_0 m.stack.length cp0_0, .slice ap0_1 m.slots.length cp0_1, .int .i64 m.atZ, str m.r.Path, str m.r.Query, .slice ap0_2 m.r.Headers.length cp0_2, .slice ap0_3 m.r.Vary.length cp0_3, .slice ap0_4 m.r.Tags.length cp0_4, .int .i64 m.r.TTL, .int .i64 m.r.Deny, .int .i64 m.r.Steps, .bool m.r.Pass, .bool m.r.Token, .bool m.done, .int .i64 m.code], .agg #[.int .i64 x.Op, .int .i64 x.N, str x.S], .agg #[.int .i64 v'.TypeZ, .int .i64 v'.N, str v'.S, .bool v'.Is], .int .i64 most] K [] (fun v K' H' => ∃ ar_0 : Option Addr, ∃ cr_0 : Nat, ∃ ar_1 : Option Addr, ∃ cr_1 : Nat, ∃ ar_2 : Option Addr, ∃ cr_2 : Nat, ∃ ar_3 : Option Addr, ∃ cr_3 : Nat, ∃ ar_4 : Option Addr, ∃ cr_4 : Nat, v = .agg #[.slice ar_0 r.stack.length cr_0, .slice ar_1 r.slots.length cr_1, .int .i64 r.atZ, str r.r.Path, str r.r.Query, .slice ar_2 r.r.Headers.length cr_2, .slice ar_3 r.r.Vary.length cr_3, .slice ar_4 r.r.Tags.length cr_4, .int .i64 r.r.TTL, .int .i64 r.r.Deny, .int .i64 r.r.Steps, .bool r.r.Pass, .bool r.r.Token, .bool r.done, .int .i64 r.code] ∧ RdC Jd.enc K' ar_0 cr_0 4 r.stack ∧ RdC Jd.enc K' ar_1 cr_1 4 r.slots ∧ RdC Jc.enc K' ar_2 cr_2 2 r.r.Headers ∧ RdC eS K' ar_3 cr_3 1 r.r.Vary ∧ RdC eS K' ar_4 cr_4 1 r.r.Tags ∧ H' = []) := by
 refine Fn.enter Tryz.func77 Tryz.call77 rfl fun F => ?_
 unfold Jah at hm
 refine box_rule ?_
 intro b4
 refine box_rule ?_
 intro b5
 refine box_rule ?_
 intro b6
 refine alloc_rule rfl ?_
 intro b8
 refine Ja rfl (RStep.of (load1_s r1 rfl rfl (RStep.of (len_str rfl ?_))))
 refine cs rfl rfl hm (fun w12 hm => ?_) fun w12 hm => ?_
 refine RStep.of (loadn_s r3 rfl (Nat.le_of_ble_eq_true rfl) ?_)
 obtain ⟨x14, q14, hm⟩ := bnd hm
 refine call_fn (Jbh (m := m) (e := 5) q14 hp0_0 hp0_1 hp0_2 hp0_3 hp0_4) .nil ?_
 rintro _ K14 _ l14 ⟨a14_0, c14_0, a14_1, c14_1, a14_2, c14_2, a14_3, c14_3, a14_4, c14_4, rfl, h14_0, h14_1, h14_2, h14_3, h14_4, rfl⟩
 refine store_rule r0 rfl ?_
 refine ⟨rfl, rfl, (Nat.le_of_ble_eq_true rfl), ?_⟩
 obtain rfl := si hm
 refine RStep.of (loadn_s r0 rfl (Nat.le_of_ble_eq_true rfl) ?_)
 refine EndStep.mk _ l14 ⟨a14_0, c14_0, a14_1, c14_1, a14_2, c14_2, a14_3, c14_3, a14_4, c14_4, rfl, h14_0, h14_1, h14_2, h14_3, h14_4, rfl⟩ (ConvH.of (.cons r4 .nil))
 refine RStep.of (loadn_s r2 rfl (Nat.le_of_ble_eq_true rfl) (RStep.of (loadn_s r1 rfl (Nat.le_of_ble_eq_true rfl) ?_)))
 obtain ⟨x17, q17, hm⟩ := bnd hm
 refine call_fn (JcZ (x := x) (v' := v') q17) .nil ?_
 rintro _ K17 _ l17 ⟨rfl, rfl⟩
 refine cs rfl rfl hm (fun w17 hm => ?_) fun w17 hm => ?_
 refine Ja rfl (Ja rfl (RStep.of (load1_s r3 rfl rfl (Ja rfl (RStep.of (load1_s r1 rfl rfl (RStep.of (len_str rfl ?_))))))))
 obtain ⟨h24, hm⟩ := chkb hm
 refine quo_t h24.1 h24.2 ?_
 obtain ⟨h25, hm⟩ := chkb hm
 refine int_in h25 (Ja rfl (Ja rfl ?_))
 refine store_rule r3 rfl ?_
 refine ⟨rfl, rfl, (Nat.le_of_ble_eq_true rfl), ?_⟩
 refine Ja rfl (Ja rfl (RStep.of (load1_s r0 rfl rfl ?_)))
 refine cs rfl rfl hm (fun w32 hm => ?_) fun w32 hm => ?_
 refine RStep.of (loadn_s r0 rfl (Nat.le_of_ble_eq_true rfl) ?_)
 obtain ⟨x34, q34, hm⟩ := bnd hm
 refine call_fn (Jbh (m := (⟨m.stack, m.slots, m.atZ, (⟨m.r.Path, m.r.Query, m.r.Headers, m.r.Vary, m.r.Tags, m.r.TTL, m.r.Deny, (m.r.Steps + (Int.tdiv (v'.S.length : Int) 64)), m.r.Pass, m.r.Token⟩ : Ji), m.done, m.code⟩ : Jk)) (e := 13) q34 (hp0_0.mono l17) (hp0_1.mono l17) (hp0_2.mono l17) (hp0_3.mono l17) (hp0_4.mono l17)) .nil ?_
 rintro _ K34 _ l34 ⟨a34_0, c34_0, a34_1, c34_1, a34_2, c34_2, a34_3, c34_3, a34_4, c34_4, rfl, h34_0, h34_1, h34_2, h34_3, h34_4, rfl⟩
 refine store_rule r1 rfl ?_
 refine ⟨rfl, rfl, (Nat.le_of_ble_eq_true rfl), ?_⟩
 obtain rfl := si hm
 refine RStep.of (loadn_s r0 rfl (Nat.le_of_ble_eq_true rfl) ?_)
 refine EndStep.mk _ (l17.trans l34) ⟨a34_0, c34_0, a34_1, c34_1, a34_2, c34_2, a34_3, c34_3, a34_4, c34_4, rfl, h34_0, h34_1, h34_2, h34_3, h34_4, rfl⟩ (ConvH.of (.cons r4 .nil))
 refine draw_go_F ⟨⟨[], false⟩, _, [(_, _), (_, _)], []⟩ 6 rfl (by kernel_rfl) ⟨Hp.Le.refl _, (ConvH.of (.cons r0 (.cons r1 .nil))), ci0⟩ ?_
 refine bsA (len := 0) (cl := []) elT103 rfl rfl ?_ fun b35 => ?_
 · conv => whnf
   first | done | rfl
 refine Ja rfl (load1_l m0 rfl rfl ?_)
 intro GG3
 obtain ⟨h38, hm⟩ := chkb hm
 refine ape (enc := Jd.enc) r0 elT103 (src_k rfl (hp0_0.mono l17).rd rfl) h38 ?_
 intro a38 c38 o38
 refine ⟨⟨(Hp.Le.refl _), (ConvH.of (.cons r1 (.cons r2 .nil))), ci0⟩, ?_⟩
 refine ⟨_, .cons r6 .nil, ⟨(Hp.Le.refl _), (ConvH.of (.cons r1 (.cons r2 .nil))), ci0⟩, ?_⟩
 refine loadn_l m1 rfl (Nat.le_of_ble_eq_true rfl) ?_
 refine bsA (len := 1) (cl := [.int .i64 v'.TypeZ, .int .i64 v'.N, str v'.S, .bool v'.Is]) elT103 rfl rfl ?_ fun b40 => ?_
 · conv => whnf
   refine cond_T ?_
   first | done | rfl
 obtain ⟨h41, hm⟩ := chkb hm
 refine apE rfl r1 elT103 (src_lit rfl r0 rfl rfl (fun _ _ => rfl) rfl) h41 ?_
 intro a41 c41 o41
 refine ⟨⟨Hp.emp_le _, (ConvH.of .nil), ci0⟩, ?_⟩
 refine Ja rfl ?_
 refine store_rule r2 rfl ?_
 refine ⟨rfl, rfl, (Nat.le_of_ble_eq_true rfl), ?_⟩
 refine ⟨⟨Hp.emp_le _, (ConvH.of .nil), ci0⟩, ?_⟩
 refine RStep.of (loadn_s r0 rfl (Nat.le_of_ble_eq_true rfl) ?_)
 refine store_rule r3 rfl ?_
 refine ⟨rfl, rfl, (Nat.le_of_ble_eq_true rfl), ?_⟩
 obtain rfl := si hm
 refine RStep.of (loadn_s r0 rfl (Nat.le_of_ble_eq_true rfl) ?_)
 refine fE r2 fun Kz1 lz1 fz1 => ?_
 refine EndStep.mk _ (l17.trans lz1) ⟨a41, c41, ap0_1, cp0_1, ap0_2, cp0_2, ap0_3, cp0_3, ap0_4, cp0_4, rfl, fz1, (hp0_1.mono (l17.trans lz1)), (hp0_2.mono (l17.trans lz1)), (hp0_3.mono (l17.trans lz1)), (hp0_4.mono (l17.trans lz1)), rfl⟩ (ConvH.of (.cons r5 .nil))
 refine draw_go_F ⟨⟨[], false⟩, _, [(_, _), (_, _)], []⟩ 6 rfl (by kernel_rfl) ⟨Hp.Le.refl _, (ConvH.of (.cons r3 (.cons r1 .nil))), ci0⟩ ?_
 refine bsA (len := 0) (cl := []) elT103 rfl rfl ?_ fun b35 => ?_
 · conv => whnf
   first | done | rfl
 refine Ja rfl (load1_l m0 rfl rfl ?_)
 intro GG3
 obtain ⟨h38, hm⟩ := chkb hm
 refine ape (enc := Jd.enc) r0 elT103 (src_k rfl (hp0_0.mono l17).rd rfl) h38 ?_
 intro a38 c38 o38
 refine ⟨⟨(Hp.Le.refl _), (ConvH.of (.cons r4 (.cons r2 .nil))), ci0⟩, ?_⟩
 refine ⟨_, .cons r6 .nil, ⟨(Hp.Le.refl _), (ConvH.of (.cons r4 (.cons r2 .nil))), ci0⟩, ?_⟩
 refine loadn_l m1 rfl (Nat.le_of_ble_eq_true rfl) ?_
 refine bsA (len := 1) (cl := [.int .i64 v'.TypeZ, .int .i64 v'.N, str v'.S, .bool v'.Is]) elT103 rfl rfl ?_ fun b40 => ?_
 · conv => whnf
   refine cond_T ?_
   first | done | rfl
 obtain ⟨h41, hm⟩ := chkb hm
 refine apE rfl r1 elT103 (src_lit rfl r0 rfl rfl (fun _ _ => rfl) rfl) h41 ?_
 intro a41 c41 o41
 refine ⟨⟨Hp.emp_le _, (ConvH.of .nil), ci0⟩, ?_⟩
 refine Ja rfl ?_
 refine store_rule r5 rfl ?_
 refine ⟨rfl, rfl, (Nat.le_of_ble_eq_true rfl), ?_⟩
 refine ⟨⟨Hp.emp_le _, (ConvH.of .nil), ci0⟩, ?_⟩
 refine RStep.of (loadn_s r0 rfl (Nat.le_of_ble_eq_true rfl) ?_)
 refine store_rule r3 rfl ?_
 refine ⟨rfl, rfl, (Nat.le_of_ble_eq_true rfl), ?_⟩
 obtain rfl := si hm
 refine RStep.of (loadn_s r0 rfl (Nat.le_of_ble_eq_true rfl) ?_)
 refine fE r2 fun Kz1 lz1 fz1 => ?_
 refine EndStep.mk _ (l17.trans lz1) ⟨a41, c41, ap0_1, cp0_1, ap0_2, cp0_2, ap0_3, cp0_3, ap0_4, cp0_4, rfl, fz1, (hp0_1.mono (l17.trans lz1)), (hp0_2.mono (l17.trans lz1)), (hp0_3.mono (l17.trans lz1)), (hp0_4.mono (l17.trans lz1)), rfl⟩ (ConvH.of (.cons r5 .nil))

noncomputable def JY (s : Str) : Option (Jd) :=
  some (⟨1, 0, s, false⟩ : Jd)
set_option maxHeartbeats 8000000 in
theorem JN {s : Str} {K : Hp} {r : Jd}
    (hm : JY s = some r)  :
    Fn Tryz.prog 39 [str s] K [] (fun v K' H' => v = .agg #[.int .i64 r.TypeZ, .int .i64 r.N, str r.S, .bool r.Is] ∧ H' = []) := by
 refine Fn.enter Tryz.func39 Tryz.call39 rfl fun F => ?_
 unfold JY at hm
 refine alloc_rule rfl ?_
 intro b2
 refine build_struct rfl rfl (cond_T (cond_T ?_))
 refine store_rule r0 rfl ?_
 refine ⟨rfl, rfl, (Nat.le_of_ble_eq_true rfl), ?_⟩
 obtain rfl := si hm
 refine RStep.of (loadn_s r0 rfl (Nat.le_of_ble_eq_true rfl) ?_)
 refine EndStep.mk _ (Hp.Le.refl _) ⟨rfl, rfl⟩ (ConvH.of (.cons r1 .nil))

noncomputable def Jbm (name : Str) (inZ : Jn) : Option (Jd) :=
  if decide (name = ([109, 101, 116, 104, 111, 100] : Str)) then
  (JY inZ.Method).bind fun x10 =>
  some x10
  else
  if decide (name = ([104, 111, 115, 116] : Str)) then
  (JY inZ.Host).bind fun x15 =>
  some x15
  else
  if decide (name = ([112, 97, 116, 104] : Str)) then
  (JY inZ.Path).bind fun x20 =>
  some x20
  else
  (JY inZ.Query).bind fun x23 =>
  some x23
set_option maxHeartbeats 8000000 in
theorem Jc0 {name : Str} {inZ : Jn} {ap1_0 : Option Addr} {cp1_0 : Nat} {K : Hp} {r : Jd}
    (hm : Jbm name inZ = some r) (hp1_0 : RdC Jc.enc K ap1_0 cp1_0 2 inZ.Fields) :
    Fn Tryz.prog 78 [str name, .agg #[str inZ.Method, str inZ.Host, str inZ.Path, str inZ.Query, .slice ap1_0 inZ.Fields.length cp1_0]] K [] (fun v K' H' => v = .agg #[.int .i64 r.TypeZ, .int .i64 r.N, str r.S, .bool r.Is] ∧ H' = []) := by
 refine Fn.enter Tryz.func78 Tryz.call78 rfl fun F => ?_
 unfold Jbm at hm
 refine box_rule ?_
 intro b3
 refine alloc_rule rfl ?_
 intro b4
 refine block_go rfl ?_
 refine eq_str ?_
 refine cs rfl rfl hm (fun w6 hm => ?_) fun w6 hm => ?_
 refine Ja rfl (RStep.of (load1_s r1 rfl rfl ?_))
 obtain ⟨x10, q10, hm⟩ := bnd hm
 refine call_fn (JN (s := inZ.Method) q10) .nil ?_
 rintro _ K10 _ l10 ⟨rfl, rfl⟩
 refine store_rule r0 rfl ?_
 refine ⟨rfl, rfl, (Nat.le_of_ble_eq_true rfl), ?_⟩
 obtain rfl := si hm
 refine RStep.of (loadn_s r0 rfl (Nat.le_of_ble_eq_true rfl) ?_)
 refine EndStep.mk _ l10 ⟨rfl, rfl⟩ (ConvH.of (.cons r2 .nil))
 refine eq_str ?_
 refine cs rfl rfl hm (fun w11 hm => ?_) fun w11 hm => ?_
 refine Ja rfl (RStep.of (load1_s r1 rfl rfl ?_))
 obtain ⟨x15, q15, hm⟩ := bnd hm
 refine call_fn (JN (s := inZ.Host) q15) .nil ?_
 rintro _ K15 _ l15 ⟨rfl, rfl⟩
 refine store_rule r0 rfl ?_
 refine ⟨rfl, rfl, (Nat.le_of_ble_eq_true rfl), ?_⟩
 obtain rfl := si hm
 refine RStep.of (loadn_s r0 rfl (Nat.le_of_ble_eq_true rfl) ?_)
 refine EndStep.mk _ l15 ⟨rfl, rfl⟩ (ConvH.of (.cons r2 .nil))
 refine eq_str ?_
 refine cs rfl rfl hm (fun w16 hm => ?_) fun w16 hm => ?_
 refine Ja rfl (RStep.of (load1_s r1 rfl rfl ?_))
 obtain ⟨x20, q20, hm⟩ := bnd hm
 refine call_fn (JN (s := inZ.Path) q20) .nil ?_
 rintro _ K20 _ l20 ⟨rfl, rfl⟩
 refine store_rule r0 rfl ?_
 refine ⟨rfl, rfl, (Nat.le_of_ble_eq_true rfl), ?_⟩
 obtain rfl := si hm
 refine RStep.of (loadn_s r0 rfl (Nat.le_of_ble_eq_true rfl) ?_)
 refine EndStep.mk _ l20 ⟨rfl, rfl⟩ (ConvH.of (.cons r2 .nil))
 refine Ja rfl (RStep.of (load1_s r1 rfl rfl ?_))
 obtain ⟨x23, q23, hm⟩ := bnd hm
 refine call_fn (JN (s := inZ.Query) q23) .nil ?_
 rintro _ K23 _ l23 ⟨rfl, rfl⟩
 refine store_rule r0 rfl ?_
 refine ⟨rfl, rfl, (Nat.le_of_ble_eq_true rfl), ?_⟩
 obtain rfl := si hm
 refine RStep.of (loadn_s r0 rfl (Nat.le_of_ble_eq_true rfl) ?_)
 refine EndStep.mk _ l23 ⟨rfl, rfl⟩ (ConvH.of (.cons r2 .nil))

noncomputable def Jar (byZ : UInt8) (s : Str) : List UInt8 → Nat → (List Str) → Int → Option ((List Str) × Int)
  | [], _, y0_0, y0_1 => some (y0_0, y0_1)
  | e0 :: xs0, i0, y0_0, y0_1 =>
    if decide ((e0.toNat : Int) = (byZ.toNat : Int)) then
    (chk (0 ≤ y0_1 ∧ y0_1 ≤ (i0 : Int) ∧ (i0 : Int) ≤ (s.length : Int))).bind fun _ =>
    (chk (y0_0.length + [(subL s y0_1 (i0 : Int))].length ≤ lim)).bind fun _ =>
    Jar byZ s xs0 (i0 + 1) (y0_0 ++ [(subL s y0_1 (i0 : Int))]) ((i0 : Int) + 1)
    else
    Jar byZ s xs0 (i0 + 1) y0_0 y0_1
noncomputable def JbQ (s : Str) (byZ : UInt8) : Option ((List Str)) :=
  (chk (s.length ≤ szMax)).bind fun _ =>
  (Jar byZ s s 0 [] 0).bind fun t0 =>
  (chk (0 ≤ t0.2 ∧ t0.2 ≤ (s.length : Int) ∧ (s.length : Int) ≤ (s.length : Int))).bind fun _ =>
  (chk (t0.1.length + [(subL s t0.2 (s.length : Int))].length ≤ lim)).bind fun _ =>
  some (t0.1 ++ [(subL s t0.2 (s.length : Int))])
set_option maxHeartbeats 8000000 in
theorem JcB {s : Str} {byZ : UInt8} {K : Hp} {r : (List Str)}
    (hm : JbQ s byZ = some r)  :
    Fn Tryz.prog 81 [str s, .int .u8 (byZ.toNat : Int)] K [] (fun v K' H' => ∃ ar_0 : Option Addr, ∃ cr_0 : Nat, v = .slice ar_0 r.length cr_0 ∧ (0 < r.length → Has ar_0) ∧ H' = [OwnL eS ar_0 9 1 cr_0 r]) := by
 refine Fn.enter Tryz.func81 Tryz.call81 rfl fun F => ?_
 unfold JbQ at hm
 refine RStep.of (len_str rfl ?_)
 obtain ⟨hk0, hm⟩ := chkb hm
 obtain ⟨s0, hl0, hm⟩ := bnd hm
 refine nilC eS 9 1 ?_
 refine code_cut (σ := ((List Str) × Int) × Option Addr × Nat) [5, 6, 7, 10, 11, 12, 13, 14, 15, 16, 17, 18, 19, 20, 21, 22, 23, 24, 25, 26, 27] (fun (t0, t0_a0, t0_c0) => [(5, .slice t0_a0 t0.1.length t0_c0), (6, .int .i64 t0.2)]) (fun (t0, t0_a0, t0_c0) => [OwnL eS t0_a0 9 1 t0_c0 t0.1, F]) (fun zz K1 => match zz with | (t0, t0_a0, t0_c0) => (0 < t0.1.length → Has t0_a0) ∧ t0 = s0) ?_ ?_
 refine block_go rfl ?_
 refine loop_rule (σ := Nat × (List Str) × Int × Option Addr × Nat) [5, 6, 7, 10, 11, 12, 13, 14, 15, 16, 17, 18, 19, 20, 21, 22, 23, 24, 25, 26, 27] (fun (i0, y0_0, y0_1, y0_a0, y0_c0) => [(10, .int .i64 (i0 : Int)), (5, .slice y0_a0 y0_0.length y0_c0), (6, .int .i64 y0_1)]) (fun (i0, y0_0, y0_1, y0_a0, y0_c0) => [OwnL eS y0_a0 9 1 y0_c0 y0_0, F]) (fun zz K1 => match zz with | (i0, y0_0, y0_1, y0_a0, y0_c0) => (0 < y0_0.length → Has y0_a0) ∧ Jar byZ s (s.drop i0) i0 y0_0 y0_1 = some s0) (fun zz => s.length - zz.1) (0, [], 0, none, 0) rfl ⟨rfl, rfl, rfl, trivial⟩ (ConvH.of (.cons r0 (.cons r0 .nil))) ⟨(fun h => by simp at h), hl0⟩ ?_
 clear hl0
 rintro ⟨i0, y0_0, y0_1, y0_a0, y0_c0⟩ Kb0 lk0 ⟨y0_h0, hl0⟩ j0
 refine cond_go rfl ?_
 refine cond_s (fun w0 => ?_) (fun w0 => ?_)
 obtain ⟨e0, hx0, hd0⟩ := ltx w0
 rw [hd0, Jar.eq_2] at hl0
 refine block_go rfl ?_
 refine idx_str rfl (nn _) hx0 (eq_int ?_)
 refine CStep.ownLe r0 fun hc1 => ?_
 refine cs rfl rfl hl0 (fun w17 hl0 => ?_) fun w17 hl0 => ?_
 obtain ⟨h22, hl0⟩ := chkb hl0
 refine RStep.ofN (sl_str (lo := (some y0_1)) (hi := (some (i0 : Int))) rfl h22 ?_)
 refine bsO (len := 1) (enc := eS) (l := [(subL s y0_1 (i0 : Int))]) (cl := [str (subL s y0_1 (i0 : Int))]) elT31 rfl rfl (fun _ _ => rfl) rfl rfl rfl ?_ fun b23 => ?_
 · conv => whnf
   refine cond_T ?_
   first | done | rfl
 obtain ⟨h24, hl0⟩ := chkb hl0
 refine apE rfl r1 elT31 (src_own' rfl r0 rfl (fun _ => rfl) (fun _ => rfl)) h24 ?_
 intro a24 c24 o24
 refine int_in (cntz hx0 hk0) (int_in (cntz hx0 hk0) ?_)
 refine RoundStep.mk (i0 + 1, (y0_0 ++ [(subL s y0_1 (i0 : Int))]), ((i0 : Int) + 1), a24, c24) ⟨rfl, rfl, rfl, trivial⟩ (by repeat (first | exact trivial | refine And.intro rfl ?_)) (ConvH.of (.cons r0 (.cons r1 .nil))) lk0 (ltm hx0) ⟨o24, hl0⟩
 refine int_in (cntz hx0 hk0) ?_
 refine RoundStep.mk (i0 + 1, y0_0, y0_1, y0_a0, y0_c0) ⟨rfl, rfl, rfl, trivial⟩ (by repeat (first | exact trivial | refine And.intro rfl ?_)) (ConvH.of (.cons r0 (.cons r0 .nil))) lk0 (ltm hx0) ⟨y0_h0, hl0⟩
 rw [lty w0, Jar.eq_1] at hl0
 refine cond_T ?_
 refine MeetStep.mk ((y0_0, y0_1), y0_a0, y0_c0) ⟨rfl, rfl, trivial⟩ (by repeat (first | exact trivial | refine And.intro rfl ?_)) (ConvH.of (.cons r0 (.cons r0 .nil))) lk0 ⟨y0_h0, (si hl0)⟩
 rintro ⟨t0, t0_a0, t0_c0⟩ Kt0 lt0 ⟨t0_h0, rfl⟩ j0
 obtain ⟨h31, hm⟩ := chkb hm
 refine RStep.ofN (sl_str (lo := (some t0.2)) (hi := none) rfl h31 ?_)
 refine bsO (len := 1) (enc := eS) (l := [(subL s t0.2 (s.length : Int))]) (cl := [str (subL s t0.2 (s.length : Int))]) elT31 rfl rfl (fun _ _ => rfl) rfl rfl rfl ?_ fun b32 => ?_
 · conv => whnf
   refine cond_T ?_
   first | done | rfl
 obtain ⟨h33, hm⟩ := chkb hm
 refine apE rfl r1 elT31 (src_own' rfl r0 rfl (fun _ => rfl) (fun _ => rfl)) h33 ?_
 intro a33 c33 o33
 obtain rfl := si hm
 refine EndStep.mk _ lt0 ⟨a33, c33, rfl, o33, rfl⟩ (ConvH.of (.cons r0 (.cons r1 .nil)))

noncomputable def Ja3 (path : Str) : Option ((List Str)) :=
  (JbQ path (47 : UInt8)).bind fun x5 =>
  (chk (0 ≤ (1 : Int) ∧ (1 : Int) ≤ (x5.length : Int) ∧ (x5.length : Int) ≤ (x5.length : Int))).bind fun _ =>
  some (subL x5 (1 : Int) (x5.length : Int))
set_option maxHeartbeats 8000000 in
theorem Jcx {path : Str} {K : Hp} {r : (List Str)}
    (hm : Ja3 path = some r)  :
    Fn Tryz.prog 44 [str path] K [] (fun v K' H' => ∃ ar_0 : Option Addr, ∃ cr_0 : Nat, v = .slice ar_0 r.length cr_0 ∧ RdC eS K' ar_0 cr_0 1 r ∧ H' = []) := by
 refine Fn.enter Tryz.func44 Tryz.call44 rfl fun F => ?_
 unfold Ja3 at hm
 obtain ⟨x5, q5, hm⟩ := bnd hm
 refine call_fn (JcB (s := path) (byZ := (47 : UInt8)) q5) .nil ?_
 rintro _ K5 _ l5 ⟨a5_0, c5_0, rfl, h5_0, rfl⟩
 obtain ⟨h7, hm⟩ := chkb hm
 refine ownPart (l := x5) (lo := (some 1)) (hi := none) rfl r0 (by simp) rfl rfl h7 ?_
 obtain rfl := si hm
 refine fE r0 fun Kz1 lz1 fz1 => ?_
 have pz1 := fz1.subC h7
 refine EndStep.mk _ (l5.trans lz1) ⟨(subA a5_0 c5_0 (Int.toNat (1 : Int)) 1), (c5_0 - (Int.toNat (1 : Int))), rfl, pz1, rfl⟩ (ConvH.of (.cons r0 .nil))

noncomputable def JT : Nat → Int → Option (Str)
  | 0, _ => none
  | n + 1, n' =>
    if decide (n' < 0) then
    (chk (InI (-n'))).bind fun _ =>
    ((JT n) (-n')).bind fun x8 =>
    (chk (([45] : Str).length + x8.length ≤ lim)).bind fun _ =>
    some (([45] : Str) ++ x8)
    else
    (chk (InI (48 + (Int.tmod n' 10)))).bind fun _ =>
    if decide (n' < 10) then
    some ([(u8of (48 + (Int.tmod n' 10)))] : Str)
    else
    (chk ((10 : Int) ≠ 0 ∧ InI (Int.tdiv n' 10))).bind fun _ =>
    ((JT n) (Int.tdiv n' 10)).bind fun x21 =>
    (chk (x21.length + ([(u8of (48 + (Int.tmod n' 10)))] : Str).length ≤ lim)).bind fun _ =>
    some (x21 ++ ([(u8of (48 + (Int.tmod n' 10)))] : Str))
set_option maxHeartbeats 8000000 in
theorem JcI : ∀ {n : Nat} {n' : Int} {K : Hp} {r : Str}
    (hm : JT n n' = some r) ,
    Fn Tryz.prog 45 [.int .i64 n'] K [] (fun v K' H' => v = str r ∧ H' = []) := by
 intro n
 induction n with
 | zero =>
   intro n' K r hm
   rw [JT.eq_1] at hm; cases hm
 | succ n ih =>
   intro n' K r hm
   refine Fn.enter Tryz.func45 Tryz.call45 rfl fun F => ?_
   rw [JT.eq_2] at hm
   refine cs rfl rfl hm (fun w5 hm => ?_) fun w5 hm => ?_
   obtain ⟨h7, hm⟩ := chkb hm
   refine un_neg h7 ?_
   obtain ⟨x8, q8, hm⟩ := bnd hm
   refine call_fn (ih (n' := (-n')) q8) .nil ?_
   rintro _ K8 _ l8 ⟨rfl, rfl⟩
   obtain ⟨h9, hm⟩ := chkb hm
   refine cat_str h9 ?_
   obtain rfl := si hm
   refine EndStep.mk _ l8 ⟨rfl, rfl⟩ (ConvH.of (.cons r0 .nil))
   refine rem_t (by decide) ?_
   obtain ⟨h12, hm⟩ := chkb hm
   refine int_in h12 ?_
   refine conv_u8 rfl rfl ?_
   refine bsO (len := 1) (enc := eU) (l := ([(u8of (48 + (Int.tmod n' 10)))] : Str)) (cl := [.int .u8 ((u8of (48 + (Int.tmod n' 10))).toNat : Int)]) elT130 rfl rfl (fun _ _ => rfl) rfl rfl rfl ?_ fun b14 => ?_
   · conv => whnf
     refine cond_T ?_
     first | done | rfl
   refine RStep.of (cv_ownE rfl r0 rfl rfl rfl ?_)
   refine cs rfl rfl hm (fun w17 hm => ?_) fun w17 hm => ?_
   obtain rfl := si hm
   refine EndStep.mk _ (Hp.Le.refl _) ⟨rfl, rfl⟩ (ConvH.of (.cons r1 .nil))
   obtain ⟨h20, hm⟩ := chkb hm
   refine quo_t h20.1 h20.2 ?_
   obtain ⟨x21, q21, hm⟩ := bnd hm
   refine call_fn (ih (n' := (Int.tdiv n' 10)) q21) .nil ?_
   rintro _ K21 _ l21 ⟨rfl, rfl⟩
   obtain ⟨h23, hm⟩ := chkb hm
   refine cat_str h23 ?_
   obtain rfl := si hm
   refine EndStep.mk _ l21 ⟨rfl, rfl⟩ (ConvH.of (.cons r1 .nil))

noncomputable def J3 : List UInt8 → Nat → Str → Option (Str)
  | [], _, y0_0 => some y0_0
  | e0 :: xs0, i0, y0_0 =>
    if (decide ((e0.toNat : Int) ≥ 65) && decide ((e0.toNat : Int) ≤ 90)) then
    (chk (y0_0.length + ([(e0 + (32 : UInt8))] : Str).length ≤ lim)).bind fun _ =>
    J3 xs0 (i0 + 1) (y0_0 ++ ([(e0 + (32 : UInt8))] : Str))
    else
    (chk (y0_0.length + ([e0] : Str).length ≤ lim)).bind fun _ =>
    J3 xs0 (i0 + 1) (y0_0 ++ ([e0] : Str))
noncomputable def JaL (s : Str) : Option (Str) :=
  (chk (s.length ≤ szMax)).bind fun _ =>
  (J3 s 0 ([] : Str)).bind fun t0 =>
  some t0
set_option maxHeartbeats 8000000 in
theorem Ja4 {s : Str} {K : Hp} {r : Str}
    (hm : JaL s = some r)  :
    Fn Tryz.prog 48 [str s] K [] (fun v K' H' => v = str r ∧ H' = []) := by
 refine Fn.enter Tryz.func48 Tryz.call48 rfl fun F => ?_
 unfold JaL at hm
 refine RStep.of (len_str rfl ?_)
 obtain ⟨hk0, hm⟩ := chkb hm
 obtain ⟨s0, hl0, hm⟩ := bnd hm
 refine code_cut (σ := (Str)) [3, 4, 5, 8, 9, 10, 11, 12, 13, 14, 15, 16, 17, 18, 19, 20, 21, 22, 23, 24, 25, 26, 27] (fun t0 => [(3, str t0)]) (fun t0 => [F]) (fun zz K1 => match zz with | t0 => t0 = s0) ?_ ?_
 refine block_go rfl ?_
 refine loop_rule (σ := Nat × Str) [3, 4, 5, 8, 9, 10, 11, 12, 13, 14, 15, 16, 17, 18, 19, 20, 21, 22, 23, 24, 25, 26, 27] (fun (i0, y0_0) => [(8, .int .i64 (i0 : Int)), (3, str y0_0)]) (fun (i0, y0_0) => [F]) (fun zz K1 => match zz with | (i0, y0_0) => J3 (s.drop i0) i0 y0_0 = some s0) (fun zz => s.length - zz.1) (0, ([] : Str)) rfl ⟨rfl, rfl, trivial⟩ (ConvH.of (.cons r0 .nil)) hl0 ?_
 clear hl0
 rintro ⟨i0, y0_0⟩ Kb0 lk0 hl0 j0
 conv at hl0 => whnf
 refine cond_go rfl ?_
 refine cond_s (fun w0 => ?_) (fun w0 => ?_)
 obtain ⟨e0, hx0, hd0⟩ := ltx w0
 rw [hd0, J3.eq_2] at hl0
 refine block_go rfl ?_
 refine idx_str rfl (nn _) hx0 ?_
 refine guard_go rfl ?_
 refine cond_s (fun g16_6 => ?_) (fun g16_6 => ?_)
 refine cond_t g16_6 (cond_t g16_6 (cond_go rfl ?_))
 refine cond_s (fun w19 => ?_) (fun w19 => ?_)
 replace hl0 := ift (and_t g16_6 w19) hl0
 refine u8_addS (x := e0) (y := (32 : UInt8)) rfl rfl ?_
 refine bsO (len := 1) (enc := eU) (l := ([(e0 + (32 : UInt8))] : Str)) (cl := [.int .u8 ((e0 + (32 : UInt8)).toNat : Int)]) elT130 rfl rfl (fun _ _ => rfl) rfl rfl rfl ?_ fun b24 => ?_
 · conv => whnf
   refine cond_T ?_
   first | done | rfl
 refine RStep.of (cv_ownE rfl r0 rfl rfl rfl ?_)
 obtain ⟨h26, hl0⟩ := chkb hl0
 refine cat_str h26 ?_
 refine int_in (cntz hx0 hk0) ?_
 refine RoundStep.mk (i0 + 1, (y0_0 ++ ([(e0 + (32 : UInt8))] : Str))) ⟨rfl, rfl, trivial⟩ (by repeat (first | exact trivial | refine And.intro rfl ?_)) (ConvH.of (.cons r1 .nil)) lk0 (ltm hx0) hl0
 replace hl0 := iff_ (and_g g16_6 w19) hl0
 refine bsO (len := 1) (enc := eU) (l := ([e0] : Str)) (cl := [.int .u8 (e0.toNat : Int)]) elT130 rfl rfl (fun _ _ => rfl) rfl rfl rfl ?_ fun b24 => ?_
 · conv => whnf
   refine cond_T ?_
   first | done | rfl
 refine RStep.of (cv_ownE rfl r0 rfl rfl rfl ?_)
 obtain ⟨h26, hl0⟩ := chkb hl0
 refine cat_str h26 ?_
 refine int_in (cntz hx0 hk0) ?_
 refine RoundStep.mk (i0 + 1, (y0_0 ++ ([e0] : Str))) ⟨rfl, rfl, trivial⟩ (by repeat (first | exact trivial | refine And.intro rfl ?_)) (ConvH.of (.cons r1 .nil)) lk0 (ltm hx0) hl0
 refine cond_f g16_6 (cond_f g16_6 (cond_go rfl (cond_F ?_)))
 replace hl0 := iff_ (and_f g16_6) hl0
 refine bsO (len := 1) (enc := eU) (l := ([e0] : Str)) (cl := [.int .u8 (e0.toNat : Int)]) elT130 rfl rfl (fun _ _ => rfl) rfl rfl rfl ?_ fun b24 => ?_
 · conv => whnf
   refine cond_T ?_
   first | done | rfl
 refine RStep.of (cv_ownE rfl r0 rfl rfl rfl ?_)
 obtain ⟨h26, hl0⟩ := chkb hl0
 refine cat_str h26 ?_
 refine int_in (cntz hx0 hk0) ?_
 refine RoundStep.mk (i0 + 1, (y0_0 ++ ([e0] : Str))) ⟨rfl, rfl, trivial⟩ (by repeat (first | exact trivial | refine And.intro rfl ?_)) (ConvH.of (.cons r1 .nil)) lk0 (ltm hx0) hl0
 rw [lty w0, J3.eq_1] at hl0
 refine cond_T ?_
 refine MeetStep.mk (y0_0) ⟨rfl, trivial⟩ (by repeat (first | exact trivial | refine And.intro rfl ?_)) (ConvH.of (.cons r0 .nil)) lk0 (si hl0)
 rintro t0 Kt0 lt0 rfl j0
 obtain rfl := si hm
 refine EndStep.mk _ lt0 ⟨rfl, rfl⟩ (ConvH.of (.cons r0 .nil))

noncomputable def JbI (f : Jc) (name : Str) : Option (Bool) :=
  (JaL f.Name).bind fun x7 =>
  (JaL name).bind fun x9 =>
  some (decide (x7 = x9))
set_option maxHeartbeats 8000000 in
theorem Jcm {f : Jc} {name : Str} {K : Hp} {r : Bool}
    (hm : JbI f name = some r)  :
    Fn Tryz.prog 123 [.agg #[str f.Name, str f.Value], str name] K [] (fun v K' H' => v = .bool r ∧ H' = []) := by
 refine Fn.enter Tryz.func123 Tryz.call123 rfl fun F => ?_
 unfold JbI at hm
 refine box_rule ?_
 intro b2
 refine Ja rfl (RStep.of (load1_s r0 rfl rfl ?_))
 obtain ⟨x7, q7, hm⟩ := bnd hm
 refine call_fn (Ja4 (s := f.Name) q7) .nil ?_
 rintro _ K7 _ l7 ⟨rfl, rfl⟩
 obtain ⟨x9, q9, hm⟩ := bnd hm
 refine call_fn (Ja4 (s := name) q9) .nil ?_
 rintro _ K9 _ l9 ⟨rfl, rfl⟩
 refine eq_str ?_
 obtain rfl := si hm
 refine EndStep.mk _ (l7.trans l9) ⟨rfl, rfl⟩ (ConvH.of (.cons r1 .nil))

noncomputable def Jas (name : Str) : List Jc → Nat → (List Str) → Option ((List Str))
  | [], _, y0_0 => some y0_0
  | e0 :: xs0, i0, y0_0 =>
    (JbI e0 name).bind fun x17 =>
    if x17 then
    (chk (y0_0.length + [e0.Value].length ≤ lim)).bind fun _ =>
    Jas name xs0 (i0 + 1) (y0_0 ++ [e0.Value])
    else
    Jas name xs0 (i0 + 1) y0_0
noncomputable def Jcc (f : (List Jc)) (name : Str) : Option ((List Str)) :=
  (chk (f.length ≤ szMax)).bind fun _ =>
  (Jas name f 0 []).bind fun t0 =>
  some t0
set_option maxHeartbeats 8000000 in
theorem Jdh {f : (List Jc)} {name : Str} {ap0_0 : Option Addr} {cp0_0 : Nat} {n0 : Nat} {K : Hp} {r : (List Str)}
    (hm : Jcc f name = some r) (hp0_0 : RdC Jc.enc K ap0_0 cp0_0 2 f) (en0 : n0 = f.length) :
    Fn Tryz.prog 82 [.slice ap0_0 n0 cp0_0, str name] K [] (fun v K' H' => ∃ ar_0 : Option Addr, ∃ cr_0 : Nat, v = .slice ar_0 r.length cr_0 ∧ (0 < r.length → Has ar_0) ∧ H' = [OwnL eS ar_0 9 1 cr_0 r]) := by
 subst en0
 refine Fn.enter Tryz.func82 Tryz.call82 rfl fun F => ?_
 unfold Jcc at hm
 refine RStep.of (len_slice rfl ?_)
 obtain ⟨hk0, hm⟩ := chkb hm
 obtain ⟨s0, hl0, hm⟩ := bnd hm
 refine nilC eS 9 1 ?_
 refine code_cut (σ := ((List Str)) × Option Addr × Nat) [5, 6, 9, 10, 11, 12, 13, 14, 15, 16, 17, 18, 19, 20, 21, 22, 23, 24, 25, 26] (fun (t0, t0_a0, t0_c0) => [(5, .slice t0_a0 t0.length t0_c0)]) (fun (t0, t0_a0, t0_c0) => [OwnL eS t0_a0 9 1 t0_c0 t0, F]) (fun zz K1 => match zz with | (t0, t0_a0, t0_c0) => (0 < t0.length → Has t0_a0) ∧ t0 = s0) ?_ ?_
 refine block_go rfl ?_
 refine loop_rule (σ := Nat × (List Str) × Option Addr × Nat) [5, 6, 9, 10, 11, 12, 13, 14, 15, 16, 17, 18, 19, 20, 21, 22, 23, 24, 25, 26] (fun (i0, y0_0, y0_a0, y0_c0) => [(9, .int .i64 (i0 : Int)), (5, .slice y0_a0 y0_0.length y0_c0)]) (fun (i0, y0_0, y0_a0, y0_c0) => [OwnL eS y0_a0 9 1 y0_c0 y0_0, F]) (fun zz K1 => match zz with | (i0, y0_0, y0_a0, y0_c0) => (0 < y0_0.length → Has y0_a0) ∧ Jas name (f.drop i0) i0 y0_0 = some s0) (fun zz => f.length - zz.1) (0, [], none, 0) rfl ⟨rfl, rfl, trivial⟩ (ConvH.of (.cons r0 (.cons r0 .nil))) ⟨(fun h => by simp at h), hl0⟩ ?_
 clear hl0
 rintro ⟨i0, y0_0, y0_a0, y0_c0⟩ Kb0 lk0 ⟨y0_h0, hl0⟩ j0
 refine cond_go rfl ?_
 refine cond_s (fun w0 => ?_) (fun w0 => ?_)
 obtain ⟨e0, hx0, hd0⟩ := ltx w0
 rw [hd0, Jas.eq_2] at hl0
 refine block_go rfl ?_
 refine RStep.ofN (index_addr rfl rfl (hasK (hp0_0.mono lk0).rd hx0) (nn _) (lt_ofN hx0) (RStep.of (load_rd_agg i0 _ (hp0_0.mono lk0).rd rfl (mp hx0) rfl ?_)))
 obtain ⟨x17, q17, hl0⟩ := bnd hl0
 refine call_fn (Jcm (f := e0) (name := name) q17) .nil ?_
 rintro _ K17 _ l17 ⟨rfl, rfl⟩
 refine cs rfl rfl hl0 (fun w17 hl0 => ?_) fun w17 hl0 => ?_
 refine RStep.ofN (index_addr rfl rfl (hasK (hp0_0.mono (lk0.trans l17)).rd hx0) (nn _) (lt_ofN hx0) (eptr_field rfl (hasK (hp0_0.mono (lk0.trans l17)).rd hx0) (RStep.of (load_rd i0 1 _ _ (hp0_0.mono (lk0.trans l17)).rd rfl (mp hx0) rfl rfl ?_))))
 refine bsO (len := 1) (enc := eS) (l := [e0.Value]) (cl := [str e0.Value]) elT31 rfl rfl (fun _ _ => rfl) rfl rfl rfl ?_ fun b24 => ?_
 · conv => whnf
   refine cond_T ?_
   first | done | rfl
 obtain ⟨h25, hl0⟩ := chkb hl0
 refine apE rfl r1 elT31 (src_own' rfl r0 rfl (fun _ => rfl) (fun _ => rfl)) h25 ?_
 intro a25 c25 o25
 refine int_in (cntz hx0 hk0) ?_
 refine RoundStep.mk (i0 + 1, (y0_0 ++ [e0.Value]), a25, c25) ⟨rfl, rfl, trivial⟩ (by repeat (first | exact trivial | refine And.intro rfl ?_)) (ConvH.of (.cons r0 (.cons r1 .nil))) (lk0.trans l17) (ltm hx0) ⟨o25, hl0⟩
 refine int_in (cntz hx0 hk0) ?_
 refine RoundStep.mk (i0 + 1, y0_0, y0_a0, y0_c0) ⟨rfl, rfl, trivial⟩ (by repeat (first | exact trivial | refine And.intro rfl ?_)) (ConvH.of (.cons r0 (.cons r0 .nil))) (lk0.trans l17) (ltm hx0) ⟨y0_h0, hl0⟩
 rw [lty w0, Jas.eq_1] at hl0
 refine cond_T ?_
 refine MeetStep.mk (y0_0, y0_a0, y0_c0) ⟨rfl, trivial⟩ (by repeat (first | exact trivial | refine And.intro rfl ?_)) (ConvH.of (.cons r0 (.cons r0 .nil))) lk0 ⟨y0_h0, (si hl0)⟩
 rintro ⟨t0, t0_a0, t0_c0⟩ Kt0 lt0 ⟨t0_h0, rfl⟩ j0
 obtain rfl := si hm
 refine EndStep.mk _ lt0 ⟨t0_a0, t0_c0, rfl, t0_h0, rfl⟩ (ConvH.of (.cons r0 (.cons r0 .nil)))

noncomputable def Jae : List Str → Nat → Str → Option (Str)
  | [], _, y0_0 => some y0_0
  | e0 :: xs0, i0, y0_0 =>
    if decide ((i0 : Int) > 0) then
    (chk (y0_0.length + ([44, 32] : Str).length ≤ lim)).bind fun _ =>
    (chk ((y0_0 ++ ([44, 32] : Str)).length + e0.length ≤ lim)).bind fun _ =>
    Jae xs0 (i0 + 1) ((y0_0 ++ ([44, 32] : Str)) ++ e0)
    else
    (chk (y0_0.length + e0.length ≤ lim)).bind fun _ =>
    Jae xs0 (i0 + 1) (y0_0 ++ e0)
noncomputable def JbR (f : (List Jc)) (name : Str) : Option (Str × Bool) :=
  (Jcc f name).bind fun x11 =>
  (chk (x11.length ≤ szMax)).bind fun _ =>
  (Jae x11 0 ([] : Str)).bind fun t0 =>
  some (t0, decide ((x11.length : Int) > 0))
set_option maxHeartbeats 8000000 in
theorem JcC {f : (List Jc)} {name : Str} {ap0_0 : Option Addr} {cp0_0 : Nat} {n0 : Nat} {K : Hp} {r : Str × Bool}
    (hm : JbR f name = some r) (hp0_0 : RdC Jc.enc K ap0_0 cp0_0 2 f) (en0 : n0 = f.length) :
    Fn Tryz.prog 46 [.slice ap0_0 n0 cp0_0, str name] K [] (fun v K' H' => v = .tuple #[str r.1, .bool r.2] ∧ H' = []) := by
 subst en0
 refine Fn.enter Tryz.func46 Tryz.call46 rfl fun F => ?_
 unfold JbR at hm
 obtain ⟨x11, q11, hm⟩ := bnd hm
 refine call_fn (Jdh (name := name) q11 hp0_0 rfl) .nil ?_
 rintro _ K11 _ l11 ⟨a11_0, c11_0, rfl, h11_0, rfl⟩
 refine RStep.of (len_slice rfl ?_)
 obtain ⟨hk0, hm⟩ := chkb hm
 obtain ⟨s0, hl0, hm⟩ := bnd hm
 refine code_cut (σ := (Str)) [7, 8, 14, 15, 16, 17, 18, 19, 20, 21, 22, 23, 24, 25, 26, 27] (fun t0 => [(7, str t0)]) (fun t0 => [OwnL eS a11_0 9 1 c11_0 x11, F]) (fun zz K1 => match zz with | t0 => t0 = s0) ?_ ?_
 refine block_go rfl ?_
 refine loop_rule (σ := Nat × Str) [7, 8, 14, 15, 16, 17, 18, 19, 20, 21, 22, 23, 24, 25, 26, 27] (fun (i0, y0_0) => [(14, .int .i64 (i0 : Int)), (7, str y0_0)]) (fun (i0, y0_0) => [OwnL eS a11_0 9 1 c11_0 x11, F]) (fun zz K1 => match zz with | (i0, y0_0) => Jae (x11.drop i0) i0 y0_0 = some s0) (fun zz => x11.length - zz.1) (0, ([] : Str)) rfl ⟨rfl, rfl, trivial⟩ (ConvH.of (.cons r0 (.cons r0 .nil))) hl0 ?_
 clear hl0
 rintro ⟨i0, y0_0⟩ Kb0 lk0 hl0 j0
 conv at hl0 => whnf
 refine cond_go rfl ?_
 refine cond_s (fun w0 => ?_) (fun w0 => ?_)
 obtain ⟨e0, hx0, hd0⟩ := ltx w0
 rw [hd0, Jae.eq_2] at hl0
 refine block_go rfl ?_
 refine cs rfl rfl hl0 (fun w18 hl0 => ?_) fun w18 hl0 => ?_
 obtain ⟨h20, hl0⟩ := chkb hl0
 refine cat_str h20 ?_
 refine RStep.ofN (index_addr rfl rfl (hasO h11_0 hx0) (nn _) (lt_ofNE rfl hx0) (RStep.of (ld_own (i := i0) (o := 0) r0 rfl hx0 rfl rfl ?_)))
 obtain ⟨h26, hl0⟩ := chkb hl0
 refine cat_str h26 ?_
 refine int_in (cntz hx0 hk0) ?_
 refine RoundStep.mk (i0 + 1, ((y0_0 ++ ([44, 32] : Str)) ++ e0)) ⟨rfl, rfl, trivial⟩ (by repeat (first | exact trivial | refine And.intro rfl ?_)) (ConvH.of (.cons r0 (.cons r0 .nil))) lk0 (ltm hx0) hl0
 refine RStep.ofN (index_addr rfl rfl (hasO h11_0 hx0) (nn _) (lt_ofNE rfl hx0) (RStep.of (ld_own (i := i0) (o := 0) r0 rfl hx0 rfl rfl ?_)))
 obtain ⟨h26, hl0⟩ := chkb hl0
 refine cat_str h26 ?_
 refine int_in (cntz hx0 hk0) ?_
 refine RoundStep.mk (i0 + 1, (y0_0 ++ e0)) ⟨rfl, rfl, trivial⟩ (by repeat (first | exact trivial | refine And.intro rfl ?_)) (ConvH.of (.cons r0 (.cons r0 .nil))) lk0 (ltm hx0) hl0
 rw [lty w0, Jae.eq_1] at hl0
 refine cond_T ?_
 refine MeetStep.mk (y0_0) ⟨rfl, trivial⟩ (by repeat (first | exact trivial | refine And.intro rfl ?_)) (ConvH.of (.cons r0 (.cons r0 .nil))) lk0 (si hl0)
 rintro t0 Kt0 lt0 rfl j0
 refine RStep.of (len_slice rfl ?_)
 obtain rfl := si hm
 refine EndStep.mk _ (l11.trans lt0) ⟨rfl, rfl⟩ (ConvH.of (.cons r1 .nil))

noncomputable def J9 (isZ : Bool) : Option (Jd) :=
  some (⟨3, 0, ([] : Str), isZ⟩ : Jd)
set_option maxHeartbeats 8000000 in
theorem JL {isZ : Bool} {K : Hp} {r : Jd}
    (hm : J9 isZ = some r)  :
    Fn Tryz.prog 42 [.bool isZ] K [] (fun v K' H' => v = .agg #[.int .i64 r.TypeZ, .int .i64 r.N, str r.S, .bool r.Is] ∧ H' = []) := by
 refine Fn.enter Tryz.func42 Tryz.call42 rfl fun F => ?_
 unfold J9 at hm
 refine alloc_rule rfl ?_
 intro b2
 refine build_struct rfl rfl (cond_T (cond_T ?_))
 refine store_rule r0 rfl ?_
 refine ⟨rfl, rfl, (Nat.le_of_ble_eq_true rfl), ?_⟩
 obtain rfl := si hm
 refine RStep.of (loadn_s r0 rfl (Nat.le_of_ble_eq_true rfl) ?_)
 refine EndStep.mk _ (Hp.Le.refl _) ⟨rfl, rfl⟩ (ConvH.of (.cons r1 .nil))

noncomputable def JaU (name : Str) : List Str → Nat → Option (Fl (Str × Bool) (Unit))
  | [], _ => some (Fl.go ())
  | e0 :: xs0, i0 =>
    (((if decide ((e0.length : Int) > (name.length : Int)) then (chk (0 ≤ (0 : Int) ∧ (0 : Int) ≤ (name.length : Int) ∧ (name.length : Int) ≤ (e0.length : Int))).bind fun _ =>
    some (decide ((subL e0 (0 : Int) (name.length : Int)) = name)) else some false).bind fun x37 =>
    (if x37 then (ix e0 (name.length : Int)).bind fun x45 =>
    some (decide ((x45.toNat : Int) = 61)) else some false).bind fun x47 =>
    some x47) : Option (Bool)).bind fun t902 =>
    if t902 then
    (chk (InI ((name.length : Int) + 1))).bind fun _ =>
    (chk (0 ≤ ((name.length : Int) + 1) ∧ ((name.length : Int) + 1) ≤ (e0.length : Int) ∧ (e0.length : Int) ≤ (e0.length : Int))).bind fun _ =>
    some (Fl.ret ((subL e0 ((name.length : Int) + 1) (e0.length : Int)), true))
    else
    JaU name xs0 (i0 + 1)
noncomputable def Jcd (a : Jay) (name : Str) : Option (Str × Bool) :=
  if (!a.HasQuery) then
  some (([] : Str), false)
  else
  (JbQ a.Query (38 : UInt8)).bind fun x13 =>
  (chk (x13.length ≤ szMax)).bind fun _ =>
  (JaU name x13 0).bind fun s0 => s0.el some fun t0 =>
  some (([] : Str), false)
set_option maxHeartbeats 8000000 in
theorem Jdi {a : Jay} {name : Str} {K : Hp} {r : Str × Bool}
    (hm : Jcd a name = some r)  :
    Fn Tryz.prog 47 [.agg #[str a.Host, str a.Path, str a.Query, .bool a.HasQuery], str name] K [] (fun v K' H' => v = .tuple #[str r.1, .bool r.2] ∧ H' = []) := by
 refine Fn.enter Tryz.func47 Tryz.call47 rfl fun F => ?_
 unfold Jcd at hm
 refine box_rule ?_
 intro b2
 refine Ja rfl (RStep.of (load1_s r0 rfl rfl (un_not (cond_go rfl ?_))))
 refine cond_s (fun w10 => ?_) (fun w10 => ?_)
 replace hm := ift (not_t (ni_t w10)) hm
 obtain rfl := si hm
 refine EndStep.mk _ (Hp.Le.refl _) ⟨rfl, rfl⟩ (ConvH.of (.cons r1 .nil))
 replace hm := iff_ (not_f (ni_f w10)) hm
 refine Ja rfl (RStep.of (load1_s r0 rfl rfl ?_))
 obtain ⟨x13, q13, hm⟩ := bnd hm
 refine call_fn (JcB (s := a.Query) (byZ := (38 : UInt8)) q13) .nil ?_
 rintro _ K13 _ l13 ⟨a13_0, c13_0, rfl, h13_0, rfl⟩
 refine RStep.of (len_slice rfl ?_)
 obtain ⟨hk0, hm⟩ := chkb hm
 obtain ⟨s0, hl0, hm⟩ := bnd hm
 refine code_cut (σ := (Unit)) [4, 5, 7, 16, 17, 18, 19, 20, 21, 22, 23, 24, 25, 26, 27, 28, 29, 30, 31, 32, 33, 34, 35, 36, 37, 38, 39, 40, 41, 42, 43, 44, 45, 46, 47, 48, 49, 50, 51, 52, 53, 54, 55, 56] (fun t0 => []) (fun t0 => [OwnL eS a13_0 9 1 c13_0 x13, Cells b2 120 [str a.Host, str a.Path, str a.Query, .bool a.HasQuery], F]) (fun zz K1 => match zz with | t0 => s0 = Fl.go t0) ?_ ?_
 refine block_go rfl ?_
 refine loop_rule (σ := Nat) [4, 5, 7, 16, 17, 18, 19, 20, 21, 22, 23, 24, 25, 26, 27, 28, 29, 30, 31, 32, 33, 34, 35, 36, 37, 38, 39, 40, 41, 42, 43, 44, 45, 46, 47, 48, 49, 50, 51, 52, 53, 54, 55, 56] (fun i0 => [(16, .int .i64 (i0 : Int))]) (fun i0 => [OwnL eS a13_0 9 1 c13_0 x13, Cells b2 120 [str a.Host, str a.Path, str a.Query, .bool a.HasQuery], F]) (fun zz K1 => match zz with | i0 => JaU name (x13.drop i0) i0 = some s0) (fun zz => x13.length - zz) (0) rfl ⟨rfl, trivial⟩ (ConvH.of (.cons r0 (.cons r0 (.cons r0 .nil)))) hl0 ?_
 clear hl0
 rintro i0 Kb0 lk0 hl0 j0
 conv at hl0 => whnf
 refine cond_go rfl ?_
 refine cond_s (fun w0 => ?_) (fun w0 => ?_)
 obtain ⟨e0, hx0, hd0⟩ := ltx w0
 rw [hd0, JaU.eq_2] at hl0
 refine block_go rfl ?_
 obtain ⟨s902, hl902, hl0⟩ := bnd hl0
 refine code_cut (σ := Bool) [19, 20, 21, 22, 23, 24, 25, 26, 27, 28, 29, 30, 31, 32, 33, 34, 35, 36, 37, 38, 39, 40, 41, 42, 43, 44, 45, 46, 47] (fun t902 => [(47, .bool t902)]) (fun _ => [OwnL eS a13_0 9 1 c13_0 x13, Cells b2 120 [str a.Host, str a.Path, str a.Query, .bool a.HasQuery], F]) (fun t902 K1 => K1 = Kb0 ∧ t902 = s902) ?_ ?_
 refine guard_go rfl ?_
 refine RStep.ofN (index_addr rfl rfl (hasO h13_0 hx0) (nn _) (lt_ofNE rfl hx0) (RStep.of (ld_own (i := i0) (o := 0) r0 rfl hx0 rfl rfl (RStep.of (len_str rfl (RStep.of (len_str rfl ?_)))))))
 obtain ⟨x37, e37, hl902⟩ := bnd hl902
 refine cond_s (fun g27_7 => ?_) (fun g27_7 => ?_)
 replace e37 := ift g27_7 e37
 refine cond_t g27_7 (cond_t g27_7 (RStep.ofN (index_addr rfl rfl (hasO h13_0 hx0) (nn _) (lt_ofNE rfl hx0) (cond_t g27_7 (RStep.of (ld_own (i := i0) (o := 0) r0 rfl hx0 rfl rfl (cond_t g27_7 ?_)))))))
 refine cond_t g27_7 (RStep.of (len_str rfl (cond_t g27_7 ?_)))
 obtain ⟨h34, e37⟩ := chkb e37
 refine RStep.ofN (sl_str (lo := none) (hi := (some (name.length : Int))) rfl h34 (cond_t g27_7 (cond_t g27_7 (eq_str (cond_t g27_7 ?_)))))
 obtain ⟨x47, e47, hl902⟩ := bnd hl902
 refine cond_s (fun g38_7 => ?_) (fun g38_7 => ?_)
 replace e47 := ift ((si e37).symm.trans g38_7) e47
 refine cond_t g38_7 (cond_t g38_7 (RStep.ofN (index_addr rfl rfl (hasO h13_0 hx0) (nn _) (lt_ofNE rfl hx0) (cond_t g38_7 (RStep.of (ld_own (i := i0) (o := 0) r0 rfl hx0 rfl rfl (cond_t g38_7 ?_)))))))
 refine cond_t g38_7 (RStep.of (len_str rfl (cond_t g38_7 ?_)))
 obtain ⟨x45, l45, k45, e47⟩ := ixb e47
 refine idx_str rfl l45 k45 (cond_t g38_7 (eq_int (cond_t g38_7 ?_)))
 refine MeetStep.mk (x47) ⟨(by rw [← (si e47)] <;> rfl), trivial⟩ (by repeat (first | exact trivial | refine And.intro rfl ?_)) (ConvH.of (.cons r0 (.cons r0 (.cons r0 .nil)))) (Hp.Le.refl _) ⟨rfl, (si hl902)⟩
 replace e47 := iff_ ((si e37).symm.trans g38_7) e47
 refine cond_f g38_7 (cond_f g38_7 (cond_f g38_7 (cond_f g38_7 (cond_f g38_7 (cond_f g38_7 ?_)))))
 refine cond_f g38_7 (cond_f g38_7 ?_)
 refine MeetStep.mk (x47) ⟨(by rw [← ((si e47).symm).symm] <;> rfl), trivial⟩ (by repeat (first | exact trivial | refine And.intro rfl ?_)) (ConvH.of (.cons r0 (.cons r0 (.cons r0 .nil)))) (Hp.Le.refl _) ⟨rfl, (si hl902)⟩
 replace e37 := iff_ g27_7 e37
 refine cond_f g27_7 (cond_f g27_7 (cond_f g27_7 (cond_f g27_7 (cond_f g27_7 (cond_f g27_7 ?_)))))
 refine cond_f g27_7 (cond_f g27_7 (cond_f g27_7 ?_))
 obtain ⟨x47, e47, hl902⟩ := bnd hl902
 replace e47 := iff_ (si e37).symm e47
 refine cond_F (cond_F (cond_F (cond_F (cond_F (cond_F ?_)))))
 refine cond_F (cond_F (cond_F ?_))
 refine MeetStep.mk (x47) ⟨(by rw [← ((si e47).symm).symm] <;> rfl), trivial⟩ (by repeat (first | exact trivial | refine And.intro rfl ?_)) (ConvH.of (.cons r0 (.cons r0 (.cons r0 .nil)))) (Hp.Le.refl _) ⟨rfl, (si hl902)⟩
 rintro t902 _ _ ⟨rfl, rfl⟩ j902
 refine CStep.ownLe r0 fun hc3 => ?_
 refine cs rfl rfl hl0 (fun w47 hl0 => ?_) fun w47 hl0 => ?_
 refine RStep.ofN (index_addr rfl rfl (hasO h13_0 hx0) (nn _) (lt_ofNE rfl hx0) (RStep.of (ld_own (i := i0) (o := 0) r0 rfl hx0 rfl rfl (RStep.of (len_str rfl ?_)))))
 obtain ⟨h54, hl0⟩ := chkb hl0
 refine int_in h54 ?_
 obtain ⟨h55, hl0⟩ := chkb hl0
 refine RStep.ofN (sl_str (lo := (some ((name.length : Int) + 1))) (hi := none) rfl h55 ?_)
 obtain rfl := si hl0
 replace hm := elr hm
 obtain rfl := si hm
 refine EndStep.mk _ (l13.trans lk0) ⟨rfl, rfl⟩ (ConvH.of (.cons r2 .nil))
 refine int_in (cntz hx0 hk0) ?_
 refine RoundStep.mk (i0 + 1) ⟨rfl, trivial⟩ (by repeat (first | exact trivial | refine And.intro rfl ?_)) (ConvH.of (.cons r0 (.cons r0 (.cons r0 .nil)))) lk0 (ltm hx0) hl0
 rw [lty w0, JaU.eq_1] at hl0
 refine cond_T ?_
 refine MeetStep.mk (()) trivial (by repeat (first | exact trivial | refine And.intro rfl ?_)) (ConvH.of (.cons r0 (.cons r0 (.cons r0 .nil)))) lk0 (si hl0).symm
 rintro t0 Kt0 lt0 rfl j0
 replace hm := elg hm
 obtain rfl := si hm
 refine EndStep.mk _ (l13.trans lt0) ⟨rfl, rfl⟩ (ConvH.of (.cons r2 .nil))

noncomputable def Jai (s : Str) : Nat → Int → Int → Option (Fl (Int) (Int × Int))
  | 0, _, _ => none
  | xs0 + 1, y0_0, y0_1 =>
    if decide (y0_1 < (s.length : Int)) then
    (((ix s y0_1).bind fun x13 =>
    (if decide ((x13.toNat : Int) < 48) then some true else (ix s y0_1).bind fun x18 =>
    some (decide ((x18.toNat : Int) > 57))).bind fun x20 =>
    some (x20 || decide (y0_1 = 15))) : Option (Bool)).bind fun t902 =>
    if t902 then
    some (Fl.ret 0)
    else
    (chk (InI (10 * y0_0))).bind fun _ =>
    (ix s y0_1).bind fun x29 =>
    (chk (InI ((10 * y0_0) + ((x29 - (48 : UInt8)).toNat : Int)))).bind fun _ =>
    (chk (InI (y0_1 + 1))).bind fun _ =>
    Jai s xs0 ((10 * y0_0) + ((x29 - (48 : UInt8)).toNat : Int)) (y0_1 + 1)
    else
    some (Fl.go (y0_0, y0_1))
noncomputable def Jbr (n : Nat) (s : Str) : Option (Int) :=
  (Jai s n 0 0).bind fun s0 => s0.el some fun t0 =>
  some t0.1
set_option maxHeartbeats 8000000 in
theorem JcR {n : Nat} {s : Str} {K : Hp} {r : Int}
    (hm : Jbr n s = some r)  :
    Fn Tryz.prog 49 [str s] K [] (fun v K' H' => v = .int .i64 r ∧ H' = []) := by
 refine Fn.enter Tryz.func49 Tryz.call49 rfl fun F => ?_
 unfold Jbr at hm
 obtain ⟨s0, hl0, hm⟩ := bnd hm
 refine code_cut (σ := (Int × Int)) [2, 3, 4, 5, 6, 7, 8, 9, 10, 11, 12, 13, 14, 15, 16, 17, 18, 19, 20, 21, 22, 23, 24, 25, 26, 27, 28, 29, 30, 31, 32] (fun t0 => [(3, .int .i64 t0.1), (4, .int .i64 t0.2)]) (fun t0 => [F]) (fun zz K1 => match zz with | t0 => s0 = Fl.go t0) ?_ ?_
 refine block_go rfl ?_
 refine loop_rule (σ := Nat × Int × Int) [2, 3, 4, 5, 6, 7, 8, 9, 10, 11, 12, 13, 14, 15, 16, 17, 18, 19, 20, 21, 22, 23, 24, 25, 26, 27, 28, 29, 30, 31, 32] (fun (i0, y0_0, y0_1) => [(3, .int .i64 y0_0), (4, .int .i64 y0_1)]) (fun (i0, y0_0, y0_1) => [F]) (fun zz K1 => match zz with | (i0, y0_0, y0_1) => Jai s i0 y0_0 y0_1 = some s0) (fun zz => zz.1) (n, 0, 0) rfl ⟨rfl, rfl, trivial⟩ (ConvH.of (.cons r0 .nil)) hl0 ?_
 clear hl0
 rintro ⟨i0, y0_0, y0_1⟩ Kb0 lk0 hl0 j0
 conv at hl0 => whnf
 cases i0 with
 | zero => rw [Jai.eq_1] at hl0; cases hl0
 | succ i0 =>
  rw [Jai.eq_2] at hl0
  refine RStep.of (len_str rfl ?_)
  refine cs rfl rfl hl0 (fun w8 hl0 => ?_) fun w8 hl0 => ?_
  refine block_go rfl ?_
  obtain ⟨s902, hl902, hl0⟩ := bnd hl0
  refine code_cut (σ := Bool) [11, 12, 13, 14, 15, 16, 17, 18, 19, 20, 21, 22, 23, 24] (fun t902 => [(24, .bool t902)]) (fun _ => [F]) (fun t902 K1 => K1 = Kb0 ∧ t902 = s902) ?_ ?_
  refine guard_go rfl ?_
  obtain ⟨x13, l13, k13, hl902⟩ := ixb hl902
  refine idx_str rfl l13 k13 ?_
  obtain ⟨x20, e20, hl902⟩ := bnd hl902
  refine cond_s (fun g15_5 => ?_) (fun g15_5 => ?_)
  replace e20 := ift g15_5 e20
  refine cond_t g15_5 (cond_t g15_5 (cond_t g15_5 (cond_t g15_5 (cond_T (cond_T ?_)))))
  refine cond_T ?_
  refine MeetStep.mk (_) ⟨(by rw [← ((or_t (si e20).symm)).symm] <;> rfl), trivial⟩ (by repeat (first | exact trivial | refine And.intro rfl ?_)) (ConvH.of (.cons r0 .nil)) (Hp.Le.refl _) ⟨rfl, (si hl902)⟩
  replace e20 := iff_ g15_5 e20
  refine cond_f g15_5 (cond_f g15_5 ?_)
  obtain ⟨x18, l18, k18, e20⟩ := ixb e20
  refine idx_str rfl l18 k18 (cond_f g15_5 (cond_f g15_5 ?_))
  refine cond_s (fun g21_5 => ?_) (fun g21_5 => ?_)
  refine cond_t g21_5 (cond_t g21_5 ?_)
  refine MeetStep.mk (_) ⟨(by rw [← ((or_t ((si e20).symm.trans g21_5))).symm] <;> rfl), trivial⟩ (by repeat (first | exact trivial | refine And.intro rfl ?_)) (ConvH.of (.cons r0 .nil)) (Hp.Le.refl _) ⟨rfl, (si hl902)⟩
  refine cond_f g21_5 (eq_int (cond_f g21_5 ?_))
  refine MeetStep.mk ((x20 || decide (y0_1 = 15))) ⟨(by rw [← (or_e (b := decide (y0_1 = 15)) ((si e20).symm.trans g21_5))] <;> rfl), trivial⟩ (by repeat (first | exact trivial | refine And.intro rfl ?_)) (ConvH.of (.cons r0 .nil)) (Hp.Le.refl _) ⟨rfl, (si hl902)⟩
  rintro t902 _ _ ⟨rfl, rfl⟩ j902
  refine cs rfl rfl hl0 (fun w24 hl0 => ?_) fun w24 hl0 => ?_
  obtain rfl := si hl0
  replace hm := elr hm
  obtain rfl := si hm
  refine EndStep.mk _ lk0 ⟨rfl, rfl⟩ (ConvH.of (.cons r0 .nil))
  obtain ⟨h26, hl0⟩ := chkb hl0
  refine int_in h26 ?_
  obtain ⟨x29, l29, k29, hl0⟩ := ixb hl0
  refine idx_str rfl l29 k29 (u8_subS (x := x29) (y := (48 : UInt8)) rfl rfl (conv_int rfl rfl (u8in (x29 - (48 : UInt8))) ?_))
  obtain ⟨h32, hl0⟩ := chkb hl0
  refine int_in h32 ?_
  obtain ⟨h10, hl0⟩ := chkb hl0
  refine int_in h10 ?_
  refine RoundStep.mk (i0, ((10 * y0_0) + ((x29 - (48 : UInt8)).toNat : Int)), (y0_1 + 1)) ⟨rfl, rfl, trivial⟩ (by repeat (first | exact trivial | refine And.intro rfl ?_)) (ConvH.of (.cons r0 .nil)) lk0 (Nat.lt_succ_self _) hl0
  refine cond_T ?_
  refine MeetStep.mk ((y0_0, y0_1)) ⟨rfl, rfl, trivial⟩ (by repeat (first | exact trivial | refine And.intro rfl ?_)) (ConvH.of (.cons r0 .nil)) lk0 (si hl0).symm
 rintro t0 Kt0 lt0 rfl j0
 replace hm := elg hm
 obtain rfl := si hm
 refine EndStep.mk _ lt0 ⟨rfl, rfl⟩ (ConvH.of (.cons r0 .nil))

noncomputable def JZ (n : Nat) (name : Str) (x : Jd) (inZ : Jn) : Option (Jd × Bool) :=
  if decide (name = ([112, 97, 114, 116] : Str)) then
  (Ja3 inZ.Path).bind fun x20 =>
  if ((decide (x.TypeZ = 2) && decide (x.N ≥ 0)) && decide (x.N < (x20.length : Int))) then
  (ix x20 x.N).bind fun x39 =>
  (JY x39).bind fun x41 =>
  some (x41, true)
  else
  (JY ([] : Str)).bind fun x42 =>
  some (x42, decide (x.TypeZ = 2))
  else
  if decide (name = ([116, 101, 120, 116] : Str)) then
  (JT n x.N).bind fun x50 =>
  (JY x50).bind fun x51 =>
  some (x51, decide (x.TypeZ = 2))
  else
  if decide (name = ([104, 101, 97, 100, 101, 114] : Str)) then
  (JbR inZ.Fields x.S).bind fun x62 =>
  (JY x62.1).bind fun x66 =>
  some (x66, decide (x.TypeZ = 1))
  else
  if decide (name = ([104, 97, 115] : Str)) then
  (JbR inZ.Fields x.S).bind fun x77 =>
  (J9 x77.2).bind fun x81 =>
  some (x81, decide (x.TypeZ = 1))
  else
  if decide (name = ([97, 114, 103] : Str)) then
  (Jcd (⟨([] : Str), ([] : Str), inZ.Query, true⟩ : Jay) x.S).bind fun x93 =>
  (JY x93.1).bind fun x97 =>
  some (x97, decide (x.TypeZ = 1))
  else
  if decide (name = ([108, 101, 110] : Str)) then
  (JaT (x.S.length : Int)).bind fun x106 =>
  some (x106, decide (x.TypeZ = 1))
  else
  if decide (name = ([108, 111, 119, 101, 114] : Str)) then
  (JaL x.S).bind fun x114 =>
  (JY x114).bind fun x115 =>
  some (x115, decide (x.TypeZ = 1))
  else
  (Jbr n x.S).bind fun x121 =>
  (JaT x121).bind fun x122 =>
  some (x122, decide (x.TypeZ = 1))
set_option maxHeartbeats 8000000 in
theorem Jc8 {n : Nat} {name : Str} {x : Jd} {inZ : Jn} {ap2_0 : Option Addr} {cp2_0 : Nat} {K : Hp} {r : Jd × Bool}
    (hm : JZ n name x inZ = some r) (hp2_0 : RdC Jc.enc K ap2_0 cp2_0 2 inZ.Fields) :
    Fn Tryz.prog 20 [str name, .agg #[.int .i64 x.TypeZ, .int .i64 x.N, str x.S, .bool x.Is], .agg #[str inZ.Method, str inZ.Host, str inZ.Path, str inZ.Query, .slice ap2_0 inZ.Fields.length cp2_0]] K [] (fun v K' H' => v = .tuple #[.agg #[.int .i64 r.1.TypeZ, .int .i64 r.1.N, str r.1.S, .bool r.1.Is], .bool r.2] ∧ H' = []) := by
 refine Fn.enter Tryz.func20 Tryz.call20 rfl fun F => ?_
 unfold JZ at hm
 refine box_rule ?_
 intro b4
 refine box_rule ?_
 intro b5
 refine alloc_rule rfl ?_
 intro b6
 refine block_go rfl ?_
 refine eq_str ?_
 refine cs rfl rfl hm (fun w16 hm => ?_) fun w16 hm => ?_
 refine Ja rfl (RStep.of (load1_s r1 rfl rfl ?_))
 obtain ⟨x20, q20, hm⟩ := bnd hm
 refine call_fn (Jcx (path := inZ.Path) q20) .nil ?_
 rintro _ K20 _ l20 ⟨a20_0, c20_0, rfl, h20_0, rfl⟩
 refine code_cut (σ := Unit) [21, 22, 23, 24, 25, 26, 27, 28, 29, 30, 31, 32, 33, 34, 35] (fun _ => [(35, .bool ((decide (x.TypeZ = 2) && decide (x.N ≥ 0)) && decide (x.N < (x20.length : Int))))]) (fun _ => [Cells b6 56 [.int .i64 0, .int .i64 0, str ([] : Str), .bool false], Cells b5 25 [str inZ.Method, str inZ.Host, str inZ.Path, str inZ.Query, .slice ap2_0 inZ.Fields.length cp2_0], Cells b4 56 [.int .i64 x.TypeZ, .int .i64 x.N, str x.S, .bool x.Is], F]) (fun t902 K1 => K1 = K20) ?_ ?_
 refine guard_go rfl ?_
 refine Ja rfl (RStep.of (load1_s r2 rfl rfl (eq_int ?_)))
 refine cond_s (fun g24_4 => ?_) (fun g24_4 => ?_)
 refine Ja rfl (cond_t g24_4 (RStep.of (load1_s r2 rfl rfl (cond_t g24_4 (cond_t g24_4 ?_)))))
 refine cond_s (fun g29_4 => ?_) (fun g29_4 => ?_)
 refine Ja rfl (cond_t g29_4 (RStep.of (load1_s r2 rfl rfl (cond_t g29_4 (cond_t g29_4 (RStep.of (len_slice rfl ?_)))))))
 refine cond_t g29_4 (cond_t g29_4 ?_)
 refine MeetStep.mk (()) ⟨(by rw [← (and_e (b := decide (x.N < (x20.length : Int))) (and_t g24_4 g29_4))] <;> rfl), trivial⟩ (by repeat (first | exact trivial | refine And.intro rfl ?_)) (ConvH.of (.cons r0 (.cons r0 (.cons r0 (.cons r0 .nil))))) (Hp.Le.refl _) rfl
 refine cond_f g29_4 (cond_f g29_4 (cond_f g29_4 (cond_f g29_4 (cond_f g29_4 ?_))))
 refine MeetStep.mk (()) ⟨(by rw [← ((and_f (and_g g24_4 g29_4))).symm] <;> rfl), trivial⟩ (by repeat (first | exact trivial | refine And.intro rfl ?_)) (ConvH.of (.cons r0 (.cons r0 (.cons r0 (.cons r0 .nil))))) (Hp.Le.refl _) rfl
 refine cond_f g24_4 (cond_f g24_4 (cond_f g24_4 (cond_F (cond_F (cond_F ?_)))))
 refine cond_F (cond_F (cond_F ?_))
 refine MeetStep.mk (()) ⟨(by rw [← ((and_f (and_f g24_4))).symm] <;> rfl), trivial⟩ (by repeat (first | exact trivial | refine And.intro rfl ?_)) (ConvH.of (.cons r0 (.cons r0 (.cons r0 (.cons r0 .nil))))) (Hp.Le.refl _) rfl
 rintro _ _ _ rfl j902
 refine cs rfl rfl hm (fun w35 hm => ?_) fun w35 hm => ?_
 refine Ja rfl (RStep.of (load1_s r2 rfl rfl ?_))
 obtain ⟨x39, l39, k39, hm⟩ := ixb hm
 refine RStep.ofN (index_addr rfl rfl (hasK h20_0.rd k39) l39 (lt_ofE rfl l39 k39) (RStep.of (load_rd ((x.N).toNat) 0 _ _ h20_0.rd rfl (mp k39) rfl rfl ?_)))
 obtain ⟨x41, q41, hm⟩ := bnd hm
 refine call_fn (JN (s := x39) q41) .nil ?_
 rintro _ K41 _ l41 ⟨rfl, rfl⟩
 refine store_rule r0 rfl ?_
 refine ⟨rfl, rfl, (Nat.le_of_ble_eq_true rfl), ?_⟩
 obtain rfl := si hm
 refine RStep.of (loadn_s r0 rfl (Nat.le_of_ble_eq_true rfl) ?_)
 refine EndStep.mk _ (l20.trans l41) ⟨rfl, rfl⟩ (ConvH.of (.cons r3 .nil))
 refine draw_go ⟨⟨[], false⟩, _, [(_, _)], []⟩ (by kernel_rfl) ⟨Hp.Le.refl _, (ConvH.of (.cons r2 .nil)), ci0⟩ ?_
 obtain ⟨x42, q42, hm⟩ := bnd hm
 refine call_fn (JN (s := ([] : Str)) q42) .nil ?_
 rintro _ K42 _ l42 ⟨rfl, rfl⟩
 refine ⟨⟨l42, (ConvH.of (.cons r2 .nil)), ci0⟩, ?_⟩
 refine Ja rfl (load1_l m0 rfl rfl (eq_int ?_))
 refine store_rule r0 rfl ?_
 refine ⟨rfl, rfl, (Nat.le_of_ble_eq_true rfl), ?_⟩
 refine ⟨⟨l42, (ConvH.of (.cons r2 .nil)), ci0⟩, ?_⟩
 obtain rfl := si hm
 refine RStep.of (loadn_s r0 rfl (Nat.le_of_ble_eq_true rfl) ?_)
 refine EndStep.mk _ (l20.trans l42) ⟨rfl, rfl⟩ (ConvH.of (.cons r3 .nil))
 refine eq_str ?_
 refine cs rfl rfl hm (fun w46 hm => ?_) fun w46 hm => ?_
 refine draw_go ⟨⟨[], false⟩, _, [(_, _)], []⟩ (by kernel_rfl) ⟨Hp.Le.refl _, (ConvH.of (.cons r2 .nil)), ci0⟩ ?_
 refine Ja rfl (load1_l m0 rfl rfl ?_)
 obtain ⟨x50, q50, hm⟩ := bnd hm
 refine call_fn (JcI (n' := x.N) q50) .nil ?_
 rintro _ K50 _ l50 ⟨rfl, rfl⟩
 refine ⟨⟨l50, (ConvH.of (.cons r2 .nil)), ci0⟩, ?_⟩
 obtain ⟨x51, q51, hm⟩ := bnd hm
 refine call_fn (JN (s := x50) q51) .nil ?_
 rintro _ K51 _ l51 ⟨rfl, rfl⟩
 refine ⟨⟨(l50.trans l51), (ConvH.of (.cons r2 .nil)), ci0⟩, ?_⟩
 refine Ja rfl (load1_l m0 rfl rfl (eq_int ?_))
 refine store_rule r0 rfl ?_
 refine ⟨rfl, rfl, (Nat.le_of_ble_eq_true rfl), ?_⟩
 refine ⟨⟨(l50.trans l51), (ConvH.of (.cons r2 .nil)), ci0⟩, ?_⟩
 obtain rfl := si hm
 refine RStep.of (loadn_s r0 rfl (Nat.le_of_ble_eq_true rfl) ?_)
 refine EndStep.mk _ (l50.trans l51) ⟨rfl, rfl⟩ (ConvH.of (.cons r3 .nil))
 refine eq_str ?_
 refine cs rfl rfl hm (fun w55 hm => ?_) fun w55 hm => ?_
 refine Ja rfl (RStep.of (load1_s r1 rfl rfl (Ja rfl (RStep.of (load1_s r2 rfl rfl ?_)))))
 obtain ⟨x62, q62, hm⟩ := bnd hm
 refine call_fn (JcC (name := x.S) q62 hp2_0 rfl) .nil ?_
 rintro _ K62 _ l62 ⟨rfl, rfl⟩
 refine draw_go ⟨⟨[], false⟩, _, [(_, _)], []⟩ (by kernel_rfl) ⟨Hp.Le.refl _, (ConvH.of (.cons r2 .nil)), ci0⟩ ?_
 obtain ⟨x66, q66, hm⟩ := bnd hm
 refine call_fn (JN (s := x62.1) q66) .nil ?_
 rintro _ K66 _ l66 ⟨rfl, rfl⟩
 refine ⟨⟨l66, (ConvH.of (.cons r2 .nil)), ci0⟩, ?_⟩
 refine Ja rfl (load1_l m0 rfl rfl (eq_int ?_))
 refine store_rule r0 rfl ?_
 refine ⟨rfl, rfl, (Nat.le_of_ble_eq_true rfl), ?_⟩
 refine ⟨⟨l66, (ConvH.of (.cons r2 .nil)), ci0⟩, ?_⟩
 obtain rfl := si hm
 refine RStep.of (loadn_s r0 rfl (Nat.le_of_ble_eq_true rfl) ?_)
 refine EndStep.mk _ (l62.trans l66) ⟨rfl, rfl⟩ (ConvH.of (.cons r3 .nil))
 refine eq_str ?_
 refine cs rfl rfl hm (fun w70 hm => ?_) fun w70 hm => ?_
 refine Ja rfl (RStep.of (load1_s r1 rfl rfl (Ja rfl (RStep.of (load1_s r2 rfl rfl ?_)))))
 obtain ⟨x77, q77, hm⟩ := bnd hm
 refine call_fn (JcC (name := x.S) q77 hp2_0 rfl) .nil ?_
 rintro _ K77 _ l77 ⟨rfl, rfl⟩
 refine draw_go ⟨⟨[], false⟩, _, [(_, _)], []⟩ (by kernel_rfl) ⟨Hp.Le.refl _, (ConvH.of (.cons r2 .nil)), ci0⟩ ?_
 obtain ⟨x81, q81, hm⟩ := bnd hm
 refine call_fn (JL (isZ := x77.2) q81) .nil ?_
 rintro _ K81 _ l81 ⟨rfl, rfl⟩
 refine ⟨⟨l81, (ConvH.of (.cons r2 .nil)), ci0⟩, ?_⟩
 refine Ja rfl (load1_l m0 rfl rfl (eq_int ?_))
 refine store_rule r0 rfl ?_
 refine ⟨rfl, rfl, (Nat.le_of_ble_eq_true rfl), ?_⟩
 refine ⟨⟨l81, (ConvH.of (.cons r2 .nil)), ci0⟩, ?_⟩
 obtain rfl := si hm
 refine RStep.of (loadn_s r0 rfl (Nat.le_of_ble_eq_true rfl) ?_)
 refine EndStep.mk _ (l77.trans l81) ⟨rfl, rfl⟩ (ConvH.of (.cons r3 .nil))
 refine eq_str ?_
 refine cs rfl rfl hm (fun w85 hm => ?_) fun w85 hm => ?_
 refine Ja rfl (RStep.of (load1_s r1 rfl rfl (build_struct rfl rfl (cond_T (cond_T (Ja rfl ?_))))))
 refine RStep.of (load1_s r2 rfl rfl ?_)
 obtain ⟨x93, q93, hm⟩ := bnd hm
 refine call_fn (Jdi (a := (⟨([] : Str), ([] : Str), inZ.Query, true⟩ : Jay)) (name := x.S) q93) .nil ?_
 rintro _ K93 _ l93 ⟨rfl, rfl⟩
 refine draw_go ⟨⟨[], false⟩, _, [(_, _)], []⟩ (by kernel_rfl) ⟨Hp.Le.refl _, (ConvH.of (.cons r2 .nil)), ci0⟩ ?_
 obtain ⟨x97, q97, hm⟩ := bnd hm
 refine call_fn (JN (s := x93.1) q97) .nil ?_
 rintro _ K97 _ l97 ⟨rfl, rfl⟩
 refine ⟨⟨l97, (ConvH.of (.cons r2 .nil)), ci0⟩, ?_⟩
 refine Ja rfl (load1_l m0 rfl rfl (eq_int ?_))
 refine store_rule r0 rfl ?_
 refine ⟨rfl, rfl, (Nat.le_of_ble_eq_true rfl), ?_⟩
 refine ⟨⟨l97, (ConvH.of (.cons r2 .nil)), ci0⟩, ?_⟩
 obtain rfl := si hm
 refine RStep.of (loadn_s r0 rfl (Nat.le_of_ble_eq_true rfl) ?_)
 refine EndStep.mk _ (l93.trans l97) ⟨rfl, rfl⟩ (ConvH.of (.cons r3 .nil))
 refine eq_str ?_
 refine cs rfl rfl hm (fun w101 hm => ?_) fun w101 hm => ?_
 refine draw_go ⟨⟨[], false⟩, _, [(_, _)], []⟩ (by kernel_rfl) ⟨Hp.Le.refl _, (ConvH.of (.cons r2 .nil)), ci0⟩ ?_
 refine Ja rfl (load1_l m0 rfl rfl (len_strN rfl ?_))
 obtain ⟨x106, q106, hm⟩ := bnd hm
 refine call_fn (JaG (n' := (x.S.length : Int)) q106) .nil ?_
 rintro _ K106 _ l106 ⟨rfl, rfl⟩
 refine ⟨⟨l106, (ConvH.of (.cons r2 .nil)), ci0⟩, ?_⟩
 refine Ja rfl (load1_l m0 rfl rfl (eq_int ?_))
 refine store_rule r0 rfl ?_
 refine ⟨rfl, rfl, (Nat.le_of_ble_eq_true rfl), ?_⟩
 refine ⟨⟨l106, (ConvH.of (.cons r2 .nil)), ci0⟩, ?_⟩
 obtain rfl := si hm
 refine RStep.of (loadn_s r0 rfl (Nat.le_of_ble_eq_true rfl) ?_)
 refine EndStep.mk _ l106 ⟨rfl, rfl⟩ (ConvH.of (.cons r3 .nil))
 refine eq_str ?_
 refine cs rfl rfl hm (fun w110 hm => ?_) fun w110 hm => ?_
 refine draw_go ⟨⟨[], false⟩, _, [(_, _)], []⟩ (by kernel_rfl) ⟨Hp.Le.refl _, (ConvH.of (.cons r2 .nil)), ci0⟩ ?_
 refine Ja rfl (load1_l m0 rfl rfl ?_)
 obtain ⟨x114, q114, hm⟩ := bnd hm
 refine call_fn (Ja4 (s := x.S) q114) .nil ?_
 rintro _ K114 _ l114 ⟨rfl, rfl⟩
 refine ⟨⟨l114, (ConvH.of (.cons r2 .nil)), ci0⟩, ?_⟩
 obtain ⟨x115, q115, hm⟩ := bnd hm
 refine call_fn (JN (s := x114) q115) .nil ?_
 rintro _ K115 _ l115 ⟨rfl, rfl⟩
 refine ⟨⟨(l114.trans l115), (ConvH.of (.cons r2 .nil)), ci0⟩, ?_⟩
 refine Ja rfl (load1_l m0 rfl rfl (eq_int ?_))
 refine store_rule r0 rfl ?_
 refine ⟨rfl, rfl, (Nat.le_of_ble_eq_true rfl), ?_⟩
 refine ⟨⟨(l114.trans l115), (ConvH.of (.cons r2 .nil)), ci0⟩, ?_⟩
 obtain rfl := si hm
 refine RStep.of (loadn_s r0 rfl (Nat.le_of_ble_eq_true rfl) ?_)
 refine EndStep.mk _ (l114.trans l115) ⟨rfl, rfl⟩ (ConvH.of (.cons r3 .nil))
 refine draw_go ⟨⟨[], false⟩, _, [(_, _)], []⟩ (by kernel_rfl) ⟨Hp.Le.refl _, (ConvH.of (.cons r2 .nil)), ci0⟩ ?_
 refine Ja rfl (load1_l m0 rfl rfl ?_)
 obtain ⟨x121, q121, hm⟩ := bnd hm
 refine call_fn (JcR (s := x.S) q121) .nil ?_
 rintro _ K121 _ l121 ⟨rfl, rfl⟩
 refine ⟨⟨l121, (ConvH.of (.cons r2 .nil)), ci0⟩, ?_⟩
 obtain ⟨x122, q122, hm⟩ := bnd hm
 refine call_fn (JaG (n' := x121) q122) .nil ?_
 rintro _ K122 _ l122 ⟨rfl, rfl⟩
 refine ⟨⟨(l121.trans l122), (ConvH.of (.cons r2 .nil)), ci0⟩, ?_⟩
 refine Ja rfl (load1_l m0 rfl rfl (eq_int ?_))
 refine store_rule r0 rfl ?_
 refine ⟨rfl, rfl, (Nat.le_of_ble_eq_true rfl), ?_⟩
 refine ⟨⟨(l121.trans l122), (ConvH.of (.cons r2 .nil)), ci0⟩, ?_⟩
 obtain rfl := si hm
 refine RStep.of (loadn_s r0 rfl (Nat.le_of_ble_eq_true rfl) ?_)
 refine EndStep.mk _ (l121.trans l122) ⟨rfl, rfl⟩ (ConvH.of (.cons r3 .nil))

noncomputable def Jbi (a : Int) (b : Int) : Option (Jd) :=
  ((if decide (a ≠ 0) then
  (chk (InI (-a))).bind fun _ =>
  (chk ((max a (-a)) ≠ 0 ∧ InI (Int.tdiv 2199023255552 (max a (-a))))).bind fun _ =>
  (if decide (b > (Int.tdiv 2199023255552 (max a (-a)))) then some true else (chk (InI (-a))).bind fun _ =>
  (chk ((max a (-a)) ≠ 0 ∧ InI (Int.tdiv 2199023255552 (max a (-a))))).bind fun _ =>
  (chk (InI (-(Int.tdiv 2199023255552 (max a (-a)))))).bind fun _ =>
  some (decide (b < (-(Int.tdiv 2199023255552 (max a (-a))))))).bind fun x24 =>
  some x24
  else
  some false) : Option (Bool)).bind fun t901 =>
  if t901 then
  if ((decide (a > 0)) == (decide (b > 0))) then
  (JaT 1099511627776).bind fun x31 =>
  some x31
  else
  (JaT (-1099511627776)).bind fun x32 =>
  some x32
  else
  (chk (InI (a * b))).bind fun _ =>
  (JaT (a * b)).bind fun x36 =>
  some x36
set_option maxHeartbeats 8000000 in
theorem JcJ {a : Int} {b : Int} {K : Hp} {r : Jd}
    (hm : Jbi a b = some r)  :
    Fn Tryz.prog 41 [.int .i64 a, .int .i64 b] K [] (fun v K' H' => v = .agg #[.int .i64 r.TypeZ, .int .i64 r.N, str r.S, .bool r.Is] ∧ H' = []) := by
 refine Fn.enter Tryz.func41 Tryz.call41 rfl fun F => ?_
 unfold Jbi at hm
 refine alloc_rule rfl ?_
 intro b4
 obtain ⟨s901, hl901, hm⟩ := bnd hm
 refine code_cut (σ := Bool) [5, 6, 7, 8, 9, 10, 11, 12, 13, 14, 15, 16, 17, 18, 19, 20, 21, 22, 23, 24, 25] (fun t901 => [(25, .bool t901)]) (fun _ => [Cells b4 56 [.int .i64 0, .int .i64 0, str ([] : Str), .bool false], F]) (fun t901 K1 => K1 = K ∧ t901 = s901) ?_ ?_
 refine guard_go rfl ?_
 refine neq_int ?_
 refine cond_s (fun g7_1 => ?_) (fun g7_1 => ?_)
 replace hl901 := ift g7_1 hl901
 refine cond_t g7_1 (cond_t g7_1 (cond_t g7_1 ?_))
 obtain ⟨h11, hl901⟩ := chkb hl901
 refine un_neg h11 ?_
 refine cond_t g7_1 (RStep.of (max_int (cond_t g7_1 ?_)))
 obtain ⟨h13, hl901⟩ := chkb hl901
 refine quo_t h13.1 h13.2 (cond_t g7_1 (cond_t g7_1 ?_))
 obtain ⟨x24, e24, hl901⟩ := bnd hl901
 refine cond_s (fun g15_1 => ?_) (fun g15_1 => ?_)
 replace e24 := ift g15_1 e24
 refine cond_t g15_1 (cond_t g15_1 (cond_t g15_1 (cond_t g15_1 (cond_t g15_1 (cond_t g15_1 ?_)))))
 refine cond_t g15_1 (cond_t g7_1 (cond_t g15_1 (cond_t g7_1 ?_)))
 refine MeetStep.mk (x24) ⟨(by rw [← ((si e24).symm).symm] <;> rfl), trivial⟩ (by repeat (first | exact trivial | refine And.intro rfl ?_)) (ConvH.of (.cons r0 (.cons r0 .nil))) (Hp.Le.refl _) ⟨rfl, (si hl901)⟩
 replace e24 := iff_ g15_1 e24
 refine cond_f g15_1 (cond_f g15_1 (cond_f g15_1 ?_))
 obtain ⟨h19, e24⟩ := chkb e24
 refine un_neg h19 ?_
 refine cond_f g15_1 (RStep.of (max_int (cond_f g15_1 ?_)))
 obtain ⟨h21, e24⟩ := chkb e24
 refine quo_t h21.1 h21.2 (cond_f g15_1 ?_)
 obtain ⟨h22, e24⟩ := chkb e24
 refine un_neg h22 ?_
 refine cond_f g15_1 (cond_t g7_1 (cond_f g15_1 (cond_t g7_1 ?_)))
 refine MeetStep.mk (x24) ⟨(by rw [← (si e24)] <;> rfl), trivial⟩ (by repeat (first | exact trivial | refine And.intro rfl ?_)) (ConvH.of (.cons r0 (.cons r0 .nil))) (Hp.Le.refl _) ⟨rfl, (si hl901)⟩
 replace hl901 := iff_ g7_1 hl901
 refine cond_f g7_1 (cond_f g7_1 (cond_f g7_1 (cond_f g7_1 (cond_f g7_1 (cond_f g7_1 ?_)))))
 refine cond_f g7_1 (cond_f g7_1 (cond_f g7_1 ?_))
 refine MeetStep.mk (false) ⟨rfl, trivial⟩ (by repeat (first | exact trivial | refine And.intro rfl ?_)) (ConvH.of (.cons r0 (.cons r0 .nil))) (Hp.Le.refl _) ⟨rfl, (si hl901)⟩
 rintro t901 _ _ ⟨rfl, rfl⟩ j901
 refine cs rfl rfl hm (fun w25 hm => ?_) fun w25 hm => ?_
 refine eq_bool rfl ?_
 refine cs rfl rfl hm (fun w30 hm => ?_) fun w30 hm => ?_
 obtain ⟨x31, q31, hm⟩ := bnd hm
 refine call_fn (JaG (n' := 1099511627776) q31) .nil ?_
 rintro _ K31 _ l31 ⟨rfl, rfl⟩
 refine store_rule r0 rfl ?_
 refine ⟨rfl, rfl, (Nat.le_of_ble_eq_true rfl), ?_⟩
 obtain rfl := si hm
 refine RStep.of (loadn_s r0 rfl (Nat.le_of_ble_eq_true rfl) ?_)
 refine EndStep.mk _ l31 ⟨rfl, rfl⟩ (ConvH.of (.cons r1 .nil))
 obtain ⟨x32, q32, hm⟩ := bnd hm
 refine call_fn (JaG (n' := (-1099511627776)) q32) .nil ?_
 rintro _ K32 _ l32 ⟨rfl, rfl⟩
 refine store_rule r0 rfl ?_
 refine ⟨rfl, rfl, (Nat.le_of_ble_eq_true rfl), ?_⟩
 obtain rfl := si hm
 refine RStep.of (loadn_s r0 rfl (Nat.le_of_ble_eq_true rfl) ?_)
 refine EndStep.mk _ l32 ⟨rfl, rfl⟩ (ConvH.of (.cons r1 .nil))
 obtain ⟨h35, hm⟩ := chkb hm
 refine int_in h35 ?_
 obtain ⟨x36, q36, hm⟩ := bnd hm
 refine call_fn (JaG (n' := (a * b)) q36) .nil ?_
 rintro _ K36 _ l36 ⟨rfl, rfl⟩
 refine store_rule r0 rfl ?_
 refine ⟨rfl, rfl, (Nat.le_of_ble_eq_true rfl), ?_⟩
 obtain rfl := si hm
 refine RStep.of (loadn_s r0 rfl (Nat.le_of_ble_eq_true rfl) ?_)
 refine EndStep.mk _ l36 ⟨rfl, rfl⟩ (ConvH.of (.cons r1 .nil))
