/- Functions of the program: mirrors, and that a call returns what the mirror says. Printed by gen.py. -/
import Derived.Test.YtkpipkpdnbconaaGreatDoorG6
set_option linter.unusedVariables false
set_option linter.unusedSimpArgs false
open Go Go.SL Go.Proofs
set_option maxRecDepth 1000000
noncomputable def Jz (code : (List Ju)) (more : Int) : Nat → Int → (List Int) → Option (Int × (List Int))
  | 0, _, _ => none
  | xs0 + 1, y0_0, y0_1 =>
    if decide (y0_0 ≥ 0) then
    (ix code y0_0).bind fun x23 =>
    if decide (x23.Op = 6) then
    (chk (InI (y0_0 + 1))).bind fun _ =>
    (ix y0_1 (y0_0 + 1)).bind fun x42 =>
    if decide (x23.Op = 9) then
    (ix y0_1 x23.N).bind fun x50 =>
    if decide (x23.Op = 10) then
    (ix y0_1 x23.N).bind fun x59 =>
    (chk (InI (more + (max x50 x59)))).bind fun _ =>
    (ix y0_1 y0_0).bind fun x67 =>
    (chk (InI (y0_0 - 1))).bind fun _ =>
    Jz code more xs0 (y0_0 - 1) (y0_1.set ((y0_0).toNat) (more + (max x50 x59)))
    else
    (chk (InI (more + x50))).bind fun _ =>
    (ix y0_1 y0_0).bind fun x67 =>
    (chk (InI (y0_0 - 1))).bind fun _ =>
    Jz code more xs0 (y0_0 - 1) (y0_1.set ((y0_0).toNat) (more + x50))
    else
    if decide (x23.Op = 10) then
    (ix y0_1 x23.N).bind fun x59 =>
    (chk (InI (more + (max x42 x59)))).bind fun _ =>
    (ix y0_1 y0_0).bind fun x67 =>
    (chk (InI (y0_0 - 1))).bind fun _ =>
    Jz code more xs0 (y0_0 - 1) (y0_1.set ((y0_0).toNat) (more + (max x42 x59)))
    else
    (chk (InI (more + x42))).bind fun _ =>
    (ix y0_1 y0_0).bind fun x67 =>
    (chk (InI (y0_0 - 1))).bind fun _ =>
    Jz code more xs0 (y0_0 - 1) (y0_1.set ((y0_0).toNat) (more + x42))
    else
    if (decide (x23.Op = 7) && decide (x23.S = ([43] : Str))) then
    (chk (InI (y0_0 + 1))).bind fun _ =>
    (ix y0_1 (y0_0 + 1)).bind fun x42 =>
    if decide (x23.Op = 9) then
    (ix y0_1 x23.N).bind fun x50 =>
    if decide (x23.Op = 10) then
    (ix y0_1 x23.N).bind fun x59 =>
    (chk (InI (more + (max x50 x59)))).bind fun _ =>
    (ix y0_1 y0_0).bind fun x67 =>
    (chk (InI (y0_0 - 1))).bind fun _ =>
    Jz code more xs0 (y0_0 - 1) (y0_1.set ((y0_0).toNat) (more + (max x50 x59)))
    else
    (chk (InI (more + x50))).bind fun _ =>
    (ix y0_1 y0_0).bind fun x67 =>
    (chk (InI (y0_0 - 1))).bind fun _ =>
    Jz code more xs0 (y0_0 - 1) (y0_1.set ((y0_0).toNat) (more + x50))
    else
    if decide (x23.Op = 10) then
    (ix y0_1 x23.N).bind fun x59 =>
    (chk (InI (more + (max x42 x59)))).bind fun _ =>
    (ix y0_1 y0_0).bind fun x67 =>
    (chk (InI (y0_0 - 1))).bind fun _ =>
    Jz code more xs0 (y0_0 - 1) (y0_1.set ((y0_0).toNat) (more + (max x42 x59)))
    else
    (chk (InI (more + x42))).bind fun _ =>
    (ix y0_1 y0_0).bind fun x67 =>
    (chk (InI (y0_0 - 1))).bind fun _ =>
    Jz code more xs0 (y0_0 - 1) (y0_1.set ((y0_0).toNat) (more + x42))
    else
    (chk (InI (y0_0 + 1))).bind fun _ =>
    (ix y0_1 (y0_0 + 1)).bind fun x42 =>
    if decide (x23.Op = 9) then
    (ix y0_1 x23.N).bind fun x50 =>
    if decide (x23.Op = 10) then
    (ix y0_1 x23.N).bind fun x59 =>
    (chk (InI (1 + (max x50 x59)))).bind fun _ =>
    (ix y0_1 y0_0).bind fun x67 =>
    (chk (InI (y0_0 - 1))).bind fun _ =>
    Jz code more xs0 (y0_0 - 1) (y0_1.set ((y0_0).toNat) (1 + (max x50 x59)))
    else
    (chk (InI (1 + x50))).bind fun _ =>
    (ix y0_1 y0_0).bind fun x67 =>
    (chk (InI (y0_0 - 1))).bind fun _ =>
    Jz code more xs0 (y0_0 - 1) (y0_1.set ((y0_0).toNat) (1 + x50))
    else
    if decide (x23.Op = 10) then
    (ix y0_1 x23.N).bind fun x59 =>
    (chk (InI (1 + (max x42 x59)))).bind fun _ =>
    (ix y0_1 y0_0).bind fun x67 =>
    (chk (InI (y0_0 - 1))).bind fun _ =>
    Jz code more xs0 (y0_0 - 1) (y0_1.set ((y0_0).toNat) (1 + (max x42 x59)))
    else
    (chk (InI (1 + x42))).bind fun _ =>
    (ix y0_1 y0_0).bind fun x67 =>
    (chk (InI (y0_0 - 1))).bind fun _ =>
    Jz code more xs0 (y0_0 - 1) (y0_1.set ((y0_0).toNat) (1 + x42))
    else
    some (y0_0, y0_1)
noncomputable def Ja5 (n : Nat) (code : (List Ju)) (more : Int) : Option (Int) :=
  (chk (InI ((code.length : Int) + 1))).bind fun _ =>
  (chk (0 ≤ ((code.length : Int) + 1) ∧ ((code.length : Int) + 1) ≤ (lim : Int))).bind fun _ =>
  (chk (InI ((code.length : Int) - 1))).bind fun _ =>
  (Jz code more n ((code.length : Int) - 1) (List.replicate (Int.toNat ((code.length : Int) + 1)) (0 : Int))).bind fun t0 =>
  (ix t0.2 0).bind fun x69 =>
  some x69
set_option maxHeartbeats 8000000 in
theorem Jb2 {n : Nat} {code : (List Ju)} {more : Int} {ap0_0 : Option Addr} {cp0_0 : Nat} {n0 : Nat} {K : Hp} {r : Int}
    (hm : Ja5 n code more = some r) (hp0_0 : RdC Ju.enc K ap0_0 cp0_0 3 code) (en0 : n0 = code.length) :
    Fn Tryz.prog 27 [.slice ap0_0 n0 cp0_0, .int .i64 more] K [] (fun v K' H' => v = .int .i64 r ∧ H' = []) := by
 subst en0
 refine Fn.enter Tryz.func27 Tryz.call27 rfl fun F => ?_
 unfold Ja5 at hm
 refine RStep.of (len_slice rfl ?_)
 obtain ⟨h12, hm⟩ := chkb hm
 refine int_in h12 ?_
 obtain ⟨h13, hm⟩ := chkb hm
 refine mk_slice (enc := eN) (0 : Int) elT81 rfl rfl rfl h13 fun b13 => ?_
 refine RStep.of (len_slice rfl ?_)
 obtain ⟨h16, hm⟩ := chkb hm
 refine int_in h16 ?_
 obtain ⟨s0, hl0, hm⟩ := bnd hm
 refine code_cut (σ := (Int × (List Int))) [6, 7, 8, 9, 17, 18, 19, 20, 21, 22, 23, 24, 25, 26, 27, 28, 29, 30, 31, 32, 33, 34, 35, 36, 37, 38, 39, 40, 41, 42, 43, 44, 45, 46, 47, 48, 49, 50, 51, 52, 53, 54, 55, 56, 57, 58, 59, 60, 61, 62, 63, 64, 65, 66, 67] (fun t0 => [(6, .int .i64 t0.1)]) (fun t0 => [OwnL eN (some ⟨b13, 0, none⟩) 3 1 (Int.toNat ((code.length : Int) + 1)) t0.2, F]) (fun zz K1 => match zz with | t0 => (0 < t0.2.length → Has (some ⟨b13, 0, none⟩)) ∧ (Int.toNat ((code.length : Int) + 1)) = t0.2.length ∧ t0 = s0) ?_ ?_
 refine block_go rfl ?_
 refine loop_rule (σ := Nat × Int × (List Int)) [6, 7, 8, 9, 17, 18, 19, 20, 21, 22, 23, 24, 25, 26, 27, 28, 29, 30, 31, 32, 33, 34, 35, 36, 37, 38, 39, 40, 41, 42, 43, 44, 45, 46, 47, 48, 49, 50, 51, 52, 53, 54, 55, 56, 57, 58, 59, 60, 61, 62, 63, 64, 65, 66, 67] (fun (i0, y0_0, y0_1) => [(6, .int .i64 y0_0)]) (fun (i0, y0_0, y0_1) => [OwnL eN (some ⟨b13, 0, none⟩) 3 1 (Int.toNat ((code.length : Int) + 1)) y0_1, F]) (fun zz K1 => match zz with | (i0, y0_0, y0_1) => (0 < y0_1.length → Has (some ⟨b13, 0, none⟩)) ∧ (Int.toNat ((code.length : Int) + 1)) = y0_1.length ∧ Jz code more i0 y0_0 y0_1 = some s0) (fun zz => zz.1) (n, ((code.length : Int) - 1), (List.replicate (Int.toNat ((code.length : Int) + 1)) (0 : Int))) rfl ⟨rfl, trivial⟩ (ConvH.of (.cons r0 (.cons r0 .nil))) ⟨(fun _ => ⟨_, _, rfl⟩), List.length_replicate.symm, hl0⟩ ?_
 clear hl0
 rintro ⟨i0, y0_0, y0_1⟩ Kb0 lk0 ⟨y0_h1, y0_n1, hl0⟩ j0
 cases i0 with
 | zero => rw [Jz.eq_1] at hl0; cases hl0
 | succ i0 =>
  rw [Jz.eq_2] at hl0
  refine cond_go rfl ?_
  refine cond_s (fun w18 => ?_) (fun w18 => ?_)
  replace hl0 := ift w18 hl0
  refine block_go rfl ?_
  obtain ⟨x23, l23, k23, hl0⟩ := ixb hl0
  refine RStep.ofN (index_addr rfl rfl (hasK (hp0_0.mono lk0).rd k23) l23 (lt_ofE rfl l23 k23) (RStep.of (load_rd_agg ((y0_0).toNat) _ (hp0_0.mono lk0).rd rfl (mp k23) rfl ?_)))
  refine alloc_rule rfl ?_
  intro b7
  refine store_rule r0 rfl ?_
  refine ⟨rfl, rfl, (Nat.le_of_ble_eq_true rfl), ?_⟩
  refine Jb rfl (RStep.of (load1_s r0 rfl rfl (eq_int ?_)))
  refine cond_s (fun g28_7 => ?_) (fun g28_7 => ?_)
  replace hl0 := ift g28_7 hl0
  refine cond_t g28_7 (cond_t g28_7 (cond_t g28_7 (cond_t g28_7 (cond_t g28_7 (cond_go rfl ?_)))))
  refine cond_T ?_
  obtain ⟨h41, hl0⟩ := chkb hl0
  refine int_in h41 ?_
  obtain ⟨x42, l42, k42, hl0⟩ := ixb hl0
  refine RStep.ofN (index_addr rfl rfl (hasO y0_h1 k42) l42 (lt_ofE y0_n1 l42 k42) (RStep.of (ld_own (i := ((y0_0 + 1)).toNat) (o := 0) r1 rfl k42 rfl rfl (Jb rfl (RStep.of (load1_s r0 rfl rfl (eq_int (cond_go rfl ?_))))))))
  refine cond_s (fun w46 => ?_) (fun w46 => ?_)
  replace hl0 := ift w46 hl0
  refine Jb rfl (RStep.of (load1_s r0 rfl rfl ?_))
  obtain ⟨x50, l50, k50, hl0⟩ := ixb hl0
  refine RStep.ofN (index_addr rfl rfl (hasO y0_h1 k50) l50 (lt_ofE y0_n1 l50 k50) (RStep.of (ld_own (i := (x23.N).toNat) (o := 0) r1 rfl k50 rfl rfl (Jb rfl (RStep.of (load1_s r0 rfl rfl (eq_int (cond_go rfl ?_))))))))
  refine cond_s (fun w54 => ?_) (fun w54 => ?_)
  replace hl0 := ift w54 hl0
  refine Jb rfl (RStep.of (load1_s r0 rfl rfl ?_))
  obtain ⟨x59, l59, k59, hl0⟩ := ixb hl0
  refine RStep.ofN (index_addr rfl rfl (hasO y0_h1 k59) l59 (lt_ofE y0_n1 l59 k59) (RStep.of (ld_own (i := (x23.N).toNat) (o := 0) r1 rfl k59 rfl rfl (RStep.of (max_int ?_)))))
  obtain ⟨h66, hl0⟩ := chkb hl0
  refine int_in h66 ?_
  obtain ⟨x67, l67, k67, hl0⟩ := ixb hl0
  refine RStep.ofN (index_addr rfl rfl (hasO y0_h1 k67) l67 (lt_ofE y0_n1 l67 k67) ?_)
  refine st_own (o := 0) (y := (more + (max x50 x59))) x67 r1 rfl k67 rfl (by (conv => whnf); exact ⟨rfl, rfl, (Nat.le_of_ble_eq_true rfl), rfl, rfl, rfl⟩) ?_
  obtain ⟨h20, hl0⟩ := chkb hl0
  refine int_in h20 ?_
  refine RoundStep.mk (i0, (y0_0 - 1), (y0_1.set ((y0_0).toNat) (more + (max x50 x59)))) ⟨rfl, trivial⟩ (by repeat (first | exact trivial | refine And.intro rfl ?_)) (ConvH.of (.cons r0 (.cons r1 .nil))) lk0 (Nat.lt_succ_self _) ⟨(by first | simpa using y0_h1 | exact fun _ => ⟨_, _, rfl⟩), ((y0_n1).trans List.length_set.symm), hl0⟩
  replace hl0 := iff_ w54 hl0
  obtain ⟨h66, hl0⟩ := chkb hl0
  refine int_in h66 ?_
  obtain ⟨x67, l67, k67, hl0⟩ := ixb hl0
  refine RStep.ofN (index_addr rfl rfl (hasO y0_h1 k67) l67 (lt_ofE y0_n1 l67 k67) ?_)
  refine st_own (o := 0) (y := (more + x50)) x67 r1 rfl k67 rfl (by (conv => whnf); exact ⟨rfl, rfl, (Nat.le_of_ble_eq_true rfl), rfl, rfl, rfl⟩) ?_
  obtain ⟨h20, hl0⟩ := chkb hl0
  refine int_in h20 ?_
  refine RoundStep.mk (i0, (y0_0 - 1), (y0_1.set ((y0_0).toNat) (more + x50))) ⟨rfl, trivial⟩ (by repeat (first | exact trivial | refine And.intro rfl ?_)) (ConvH.of (.cons r0 (.cons r1 .nil))) lk0 (Nat.lt_succ_self _) ⟨(by first | simpa using y0_h1 | exact fun _ => ⟨_, _, rfl⟩), ((y0_n1).trans List.length_set.symm), hl0⟩
  replace hl0 := iff_ w46 hl0
  refine Jb rfl (RStep.of (load1_s r0 rfl rfl (eq_int (cond_go rfl ?_))))
  refine cond_s (fun w54 => ?_) (fun w54 => ?_)
  replace hl0 := ift w54 hl0
  refine Jb rfl (RStep.of (load1_s r0 rfl rfl ?_))
  obtain ⟨x59, l59, k59, hl0⟩ := ixb hl0
  refine RStep.ofN (index_addr rfl rfl (hasO y0_h1 k59) l59 (lt_ofE y0_n1 l59 k59) (RStep.of (ld_own (i := (x23.N).toNat) (o := 0) r1 rfl k59 rfl rfl (RStep.of (max_int ?_)))))
  obtain ⟨h66, hl0⟩ := chkb hl0
  refine int_in h66 ?_
  obtain ⟨x67, l67, k67, hl0⟩ := ixb hl0
  refine RStep.ofN (index_addr rfl rfl (hasO y0_h1 k67) l67 (lt_ofE y0_n1 l67 k67) ?_)
  refine st_own (o := 0) (y := (more + (max x42 x59))) x67 r1 rfl k67 rfl (by (conv => whnf); exact ⟨rfl, rfl, (Nat.le_of_ble_eq_true rfl), rfl, rfl, rfl⟩) ?_
  obtain ⟨h20, hl0⟩ := chkb hl0
  refine int_in h20 ?_
  refine RoundStep.mk (i0, (y0_0 - 1), (y0_1.set ((y0_0).toNat) (more + (max x42 x59)))) ⟨rfl, trivial⟩ (by repeat (first | exact trivial | refine And.intro rfl ?_)) (ConvH.of (.cons r0 (.cons r1 .nil))) lk0 (Nat.lt_succ_self _) ⟨(by first | simpa using y0_h1 | exact fun _ => ⟨_, _, rfl⟩), ((y0_n1).trans List.length_set.symm), hl0⟩
  replace hl0 := iff_ w54 hl0
  obtain ⟨h66, hl0⟩ := chkb hl0
  refine int_in h66 ?_
  obtain ⟨x67, l67, k67, hl0⟩ := ixb hl0
  refine RStep.ofN (index_addr rfl rfl (hasO y0_h1 k67) l67 (lt_ofE y0_n1 l67 k67) ?_)
  refine st_own (o := 0) (y := (more + x42)) x67 r1 rfl k67 rfl (by (conv => whnf); exact ⟨rfl, rfl, (Nat.le_of_ble_eq_true rfl), rfl, rfl, rfl⟩) ?_
  obtain ⟨h20, hl0⟩ := chkb hl0
  refine int_in h20 ?_
  refine RoundStep.mk (i0, (y0_0 - 1), (y0_1.set ((y0_0).toNat) (more + x42))) ⟨rfl, trivial⟩ (by repeat (first | exact trivial | refine And.intro rfl ?_)) (ConvH.of (.cons r0 (.cons r1 .nil))) lk0 (Nat.lt_succ_self _) ⟨(by first | simpa using y0_h1 | exact fun _ => ⟨_, _, rfl⟩), ((y0_n1).trans List.length_set.symm), hl0⟩
  replace hl0 := iff_ g28_7 hl0
  refine Jb rfl (cond_f g28_7 (RStep.of (load1_s r0 rfl rfl (cond_f g28_7 (eq_int (cond_f g28_7 ?_))))))
  refine cond_s (fun g32_7 => ?_) (fun g32_7 => ?_)
  refine Jb rfl (cond_t g32_7 (RStep.of (load1_s r0 rfl rfl (cond_t g32_7 (eq_str (cond_f g28_7 ?_))))))
  refine cond_t g32_7 (cond_f g28_7 (cond_go rfl ?_))
  refine cond_s (fun w37 => ?_) (fun w37 => ?_)
  replace hl0 := ift (and_t g32_7 w37) hl0
  obtain ⟨h41, hl0⟩ := chkb hl0
  refine int_in h41 ?_
  obtain ⟨x42, l42, k42, hl0⟩ := ixb hl0
  refine RStep.ofN (index_addr rfl rfl (hasO y0_h1 k42) l42 (lt_ofE y0_n1 l42 k42) (RStep.of (ld_own (i := ((y0_0 + 1)).toNat) (o := 0) r1 rfl k42 rfl rfl (Jb rfl (RStep.of (load1_s r0 rfl rfl (eq_int (cond_go rfl ?_))))))))
  refine cond_s (fun w46 => ?_) (fun w46 => ?_)
  replace hl0 := ift w46 hl0
  refine Jb rfl (RStep.of (load1_s r0 rfl rfl ?_))
  obtain ⟨x50, l50, k50, hl0⟩ := ixb hl0
  refine RStep.ofN (index_addr rfl rfl (hasO y0_h1 k50) l50 (lt_ofE y0_n1 l50 k50) (RStep.of (ld_own (i := (x23.N).toNat) (o := 0) r1 rfl k50 rfl rfl (Jb rfl (RStep.of (load1_s r0 rfl rfl (eq_int (cond_go rfl ?_))))))))
  refine cond_s (fun w54 => ?_) (fun w54 => ?_)
  replace hl0 := ift w54 hl0
  refine Jb rfl (RStep.of (load1_s r0 rfl rfl ?_))
  obtain ⟨x59, l59, k59, hl0⟩ := ixb hl0
  refine RStep.ofN (index_addr rfl rfl (hasO y0_h1 k59) l59 (lt_ofE y0_n1 l59 k59) (RStep.of (ld_own (i := (x23.N).toNat) (o := 0) r1 rfl k59 rfl rfl (RStep.of (max_int ?_)))))
  obtain ⟨h66, hl0⟩ := chkb hl0
  refine int_in h66 ?_
  obtain ⟨x67, l67, k67, hl0⟩ := ixb hl0
  refine RStep.ofN (index_addr rfl rfl (hasO y0_h1 k67) l67 (lt_ofE y0_n1 l67 k67) ?_)
  refine st_own (o := 0) (y := (more + (max x50 x59))) x67 r1 rfl k67 rfl (by (conv => whnf); exact ⟨rfl, rfl, (Nat.le_of_ble_eq_true rfl), rfl, rfl, rfl⟩) ?_
  obtain ⟨h20, hl0⟩ := chkb hl0
  refine int_in h20 ?_
  refine RoundStep.mk (i0, (y0_0 - 1), (y0_1.set ((y0_0).toNat) (more + (max x50 x59)))) ⟨rfl, trivial⟩ (by repeat (first | exact trivial | refine And.intro rfl ?_)) (ConvH.of (.cons r0 (.cons r1 .nil))) lk0 (Nat.lt_succ_self _) ⟨(by first | simpa using y0_h1 | exact fun _ => ⟨_, _, rfl⟩), ((y0_n1).trans List.length_set.symm), hl0⟩
  replace hl0 := iff_ w54 hl0
  obtain ⟨h66, hl0⟩ := chkb hl0
  refine int_in h66 ?_
  obtain ⟨x67, l67, k67, hl0⟩ := ixb hl0
  refine RStep.ofN (index_addr rfl rfl (hasO y0_h1 k67) l67 (lt_ofE y0_n1 l67 k67) ?_)
  refine st_own (o := 0) (y := (more + x50)) x67 r1 rfl k67 rfl (by (conv => whnf); exact ⟨rfl, rfl, (Nat.le_of_ble_eq_true rfl), rfl, rfl, rfl⟩) ?_
  obtain ⟨h20, hl0⟩ := chkb hl0
  refine int_in h20 ?_
  refine RoundStep.mk (i0, (y0_0 - 1), (y0_1.set ((y0_0).toNat) (more + x50))) ⟨rfl, trivial⟩ (by repeat (first | exact trivial | refine And.intro rfl ?_)) (ConvH.of (.cons r0 (.cons r1 .nil))) lk0 (Nat.lt_succ_self _) ⟨(by first | simpa using y0_h1 | exact fun _ => ⟨_, _, rfl⟩), ((y0_n1).trans List.length_set.symm), hl0⟩
  replace hl0 := iff_ w46 hl0
  refine Jb rfl (RStep.of (load1_s r0 rfl rfl (eq_int (cond_go rfl ?_))))
  refine cond_s (fun w54 => ?_) (fun w54 => ?_)
  replace hl0 := ift w54 hl0
  refine Jb rfl (RStep.of (load1_s r0 rfl rfl ?_))
  obtain ⟨x59, l59, k59, hl0⟩ := ixb hl0
  refine RStep.ofN (index_addr rfl rfl (hasO y0_h1 k59) l59 (lt_ofE y0_n1 l59 k59) (RStep.of (ld_own (i := (x23.N).toNat) (o := 0) r1 rfl k59 rfl rfl (RStep.of (max_int ?_)))))
  obtain ⟨h66, hl0⟩ := chkb hl0
  refine int_in h66 ?_
  obtain ⟨x67, l67, k67, hl0⟩ := ixb hl0
  refine RStep.ofN (index_addr rfl rfl (hasO y0_h1 k67) l67 (lt_ofE y0_n1 l67 k67) ?_)
  refine st_own (o := 0) (y := (more + (max x42 x59))) x67 r1 rfl k67 rfl (by (conv => whnf); exact ⟨rfl, rfl, (Nat.le_of_ble_eq_true rfl), rfl, rfl, rfl⟩) ?_
  obtain ⟨h20, hl0⟩ := chkb hl0
  refine int_in h20 ?_
  refine RoundStep.mk (i0, (y0_0 - 1), (y0_1.set ((y0_0).toNat) (more + (max x42 x59)))) ⟨rfl, trivial⟩ (by repeat (first | exact trivial | refine And.intro rfl ?_)) (ConvH.of (.cons r0 (.cons r1 .nil))) lk0 (Nat.lt_succ_self _) ⟨(by first | simpa using y0_h1 | exact fun _ => ⟨_, _, rfl⟩), ((y0_n1).trans List.length_set.symm), hl0⟩
  replace hl0 := iff_ w54 hl0
  obtain ⟨h66, hl0⟩ := chkb hl0
  refine int_in h66 ?_
  obtain ⟨x67, l67, k67, hl0⟩ := ixb hl0
  refine RStep.ofN (index_addr rfl rfl (hasO y0_h1 k67) l67 (lt_ofE y0_n1 l67 k67) ?_)
  refine st_own (o := 0) (y := (more + x42)) x67 r1 rfl k67 rfl (by (conv => whnf); exact ⟨rfl, rfl, (Nat.le_of_ble_eq_true rfl), rfl, rfl, rfl⟩) ?_
  obtain ⟨h20, hl0⟩ := chkb hl0
  refine int_in h20 ?_
  refine RoundStep.mk (i0, (y0_0 - 1), (y0_1.set ((y0_0).toNat) (more + x42))) ⟨rfl, trivial⟩ (by repeat (first | exact trivial | refine And.intro rfl ?_)) (ConvH.of (.cons r0 (.cons r1 .nil))) lk0 (Nat.lt_succ_self _) ⟨(by first | simpa using y0_h1 | exact fun _ => ⟨_, _, rfl⟩), ((y0_n1).trans List.length_set.symm), hl0⟩
  replace hl0 := iff_ (and_g g32_7 w37) hl0
  obtain ⟨h41, hl0⟩ := chkb hl0
  refine int_in h41 ?_
  obtain ⟨x42, l42, k42, hl0⟩ := ixb hl0
  refine RStep.ofN (index_addr rfl rfl (hasO y0_h1 k42) l42 (lt_ofE y0_n1 l42 k42) (RStep.of (ld_own (i := ((y0_0 + 1)).toNat) (o := 0) r1 rfl k42 rfl rfl (Jb rfl (RStep.of (load1_s r0 rfl rfl (eq_int (cond_go rfl ?_))))))))
  refine cond_s (fun w46 => ?_) (fun w46 => ?_)
  replace hl0 := ift w46 hl0
  refine Jb rfl (RStep.of (load1_s r0 rfl rfl ?_))
  obtain ⟨x50, l50, k50, hl0⟩ := ixb hl0
  refine RStep.ofN (index_addr rfl rfl (hasO y0_h1 k50) l50 (lt_ofE y0_n1 l50 k50) (RStep.of (ld_own (i := (x23.N).toNat) (o := 0) r1 rfl k50 rfl rfl (Jb rfl (RStep.of (load1_s r0 rfl rfl (eq_int (cond_go rfl ?_))))))))
  refine cond_s (fun w54 => ?_) (fun w54 => ?_)
  replace hl0 := ift w54 hl0
  refine Jb rfl (RStep.of (load1_s r0 rfl rfl ?_))
  obtain ⟨x59, l59, k59, hl0⟩ := ixb hl0
  refine RStep.ofN (index_addr rfl rfl (hasO y0_h1 k59) l59 (lt_ofE y0_n1 l59 k59) (RStep.of (ld_own (i := (x23.N).toNat) (o := 0) r1 rfl k59 rfl rfl (RStep.of (max_int ?_)))))
  obtain ⟨h66, hl0⟩ := chkb hl0
  refine int_in h66 ?_
  obtain ⟨x67, l67, k67, hl0⟩ := ixb hl0
  refine RStep.ofN (index_addr rfl rfl (hasO y0_h1 k67) l67 (lt_ofE y0_n1 l67 k67) ?_)
  refine st_own (o := 0) (y := (1 + (max x50 x59))) x67 r1 rfl k67 rfl (by (conv => whnf); exact ⟨rfl, rfl, (Nat.le_of_ble_eq_true rfl), rfl, rfl, rfl⟩) ?_
  obtain ⟨h20, hl0⟩ := chkb hl0
  refine int_in h20 ?_
  refine RoundStep.mk (i0, (y0_0 - 1), (y0_1.set ((y0_0).toNat) (1 + (max x50 x59)))) ⟨rfl, trivial⟩ (by repeat (first | exact trivial | refine And.intro rfl ?_)) (ConvH.of (.cons r0 (.cons r1 .nil))) lk0 (Nat.lt_succ_self _) ⟨(by first | simpa using y0_h1 | exact fun _ => ⟨_, _, rfl⟩), ((y0_n1).trans List.length_set.symm), hl0⟩
  replace hl0 := iff_ w54 hl0
  obtain ⟨h66, hl0⟩ := chkb hl0
  refine int_in h66 ?_
  obtain ⟨x67, l67, k67, hl0⟩ := ixb hl0
  refine RStep.ofN (index_addr rfl rfl (hasO y0_h1 k67) l67 (lt_ofE y0_n1 l67 k67) ?_)
  refine st_own (o := 0) (y := (1 + x50)) x67 r1 rfl k67 rfl (by (conv => whnf); exact ⟨rfl, rfl, (Nat.le_of_ble_eq_true rfl), rfl, rfl, rfl⟩) ?_
  obtain ⟨h20, hl0⟩ := chkb hl0
  refine int_in h20 ?_
  refine RoundStep.mk (i0, (y0_0 - 1), (y0_1.set ((y0_0).toNat) (1 + x50))) ⟨rfl, trivial⟩ (by repeat (first | exact trivial | refine And.intro rfl ?_)) (ConvH.of (.cons r0 (.cons r1 .nil))) lk0 (Nat.lt_succ_self _) ⟨(by first | simpa using y0_h1 | exact fun _ => ⟨_, _, rfl⟩), ((y0_n1).trans List.length_set.symm), hl0⟩
  replace hl0 := iff_ w46 hl0
  refine Jb rfl (RStep.of (load1_s r0 rfl rfl (eq_int (cond_go rfl ?_))))
  refine cond_s (fun w54 => ?_) (fun w54 => ?_)
  replace hl0 := ift w54 hl0
  refine Jb rfl (RStep.of (load1_s r0 rfl rfl ?_))
  obtain ⟨x59, l59, k59, hl0⟩ := ixb hl0
  refine RStep.ofN (index_addr rfl rfl (hasO y0_h1 k59) l59 (lt_ofE y0_n1 l59 k59) (RStep.of (ld_own (i := (x23.N).toNat) (o := 0) r1 rfl k59 rfl rfl (RStep.of (max_int ?_)))))
  obtain ⟨h66, hl0⟩ := chkb hl0
  refine int_in h66 ?_
  obtain ⟨x67, l67, k67, hl0⟩ := ixb hl0
  refine RStep.ofN (index_addr rfl rfl (hasO y0_h1 k67) l67 (lt_ofE y0_n1 l67 k67) ?_)
  refine st_own (o := 0) (y := (1 + (max x42 x59))) x67 r1 rfl k67 rfl (by (conv => whnf); exact ⟨rfl, rfl, (Nat.le_of_ble_eq_true rfl), rfl, rfl, rfl⟩) ?_
  obtain ⟨h20, hl0⟩ := chkb hl0
  refine int_in h20 ?_
  refine RoundStep.mk (i0, (y0_0 - 1), (y0_1.set ((y0_0).toNat) (1 + (max x42 x59)))) ⟨rfl, trivial⟩ (by repeat (first | exact trivial | refine And.intro rfl ?_)) (ConvH.of (.cons r0 (.cons r1 .nil))) lk0 (Nat.lt_succ_self _) ⟨(by first | simpa using y0_h1 | exact fun _ => ⟨_, _, rfl⟩), ((y0_n1).trans List.length_set.symm), hl0⟩
  replace hl0 := iff_ w54 hl0
  obtain ⟨h66, hl0⟩ := chkb hl0
  refine int_in h66 ?_
  obtain ⟨x67, l67, k67, hl0⟩ := ixb hl0
  refine RStep.ofN (index_addr rfl rfl (hasO y0_h1 k67) l67 (lt_ofE y0_n1 l67 k67) ?_)
  refine st_own (o := 0) (y := (1 + x42)) x67 r1 rfl k67 rfl (by (conv => whnf); exact ⟨rfl, rfl, (Nat.le_of_ble_eq_true rfl), rfl, rfl, rfl⟩) ?_
  obtain ⟨h20, hl0⟩ := chkb hl0
  refine int_in h20 ?_
  refine RoundStep.mk (i0, (y0_0 - 1), (y0_1.set ((y0_0).toNat) (1 + x42))) ⟨rfl, trivial⟩ (by repeat (first | exact trivial | refine And.intro rfl ?_)) (ConvH.of (.cons r0 (.cons r1 .nil))) lk0 (Nat.lt_succ_self _) ⟨(by first | simpa using y0_h1 | exact fun _ => ⟨_, _, rfl⟩), ((y0_n1).trans List.length_set.symm), hl0⟩
  refine cond_f g32_7 (cond_f g32_7 (cond_f g28_7 (cond_f g32_7 (cond_f g28_7 (cond_go rfl ?_)))))
  refine cond_F ?_
  replace hl0 := iff_ (and_f g32_7) hl0
  obtain ⟨h41, hl0⟩ := chkb hl0
  refine int_in h41 ?_
  obtain ⟨x42, l42, k42, hl0⟩ := ixb hl0
  refine RStep.ofN (index_addr rfl rfl (hasO y0_h1 k42) l42 (lt_ofE y0_n1 l42 k42) (RStep.of (ld_own (i := ((y0_0 + 1)).toNat) (o := 0) r1 rfl k42 rfl rfl (Jb rfl (RStep.of (load1_s r0 rfl rfl (eq_int (cond_go rfl ?_))))))))
  refine cond_s (fun w46 => ?_) (fun w46 => ?_)
  replace hl0 := ift w46 hl0
  refine Jb rfl (RStep.of (load1_s r0 rfl rfl ?_))
  obtain ⟨x50, l50, k50, hl0⟩ := ixb hl0
  refine RStep.ofN (index_addr rfl rfl (hasO y0_h1 k50) l50 (lt_ofE y0_n1 l50 k50) (RStep.of (ld_own (i := (x23.N).toNat) (o := 0) r1 rfl k50 rfl rfl (Jb rfl (RStep.of (load1_s r0 rfl rfl (eq_int (cond_go rfl ?_))))))))
  refine cond_s (fun w54 => ?_) (fun w54 => ?_)
  replace hl0 := ift w54 hl0
  refine Jb rfl (RStep.of (load1_s r0 rfl rfl ?_))
  obtain ⟨x59, l59, k59, hl0⟩ := ixb hl0
  refine RStep.ofN (index_addr rfl rfl (hasO y0_h1 k59) l59 (lt_ofE y0_n1 l59 k59) (RStep.of (ld_own (i := (x23.N).toNat) (o := 0) r1 rfl k59 rfl rfl (RStep.of (max_int ?_)))))
  obtain ⟨h66, hl0⟩ := chkb hl0
  refine int_in h66 ?_
  obtain ⟨x67, l67, k67, hl0⟩ := ixb hl0
  refine RStep.ofN (index_addr rfl rfl (hasO y0_h1 k67) l67 (lt_ofE y0_n1 l67 k67) ?_)
  refine st_own (o := 0) (y := (1 + (max x50 x59))) x67 r1 rfl k67 rfl (by (conv => whnf); exact ⟨rfl, rfl, (Nat.le_of_ble_eq_true rfl), rfl, rfl, rfl⟩) ?_
  obtain ⟨h20, hl0⟩ := chkb hl0
  refine int_in h20 ?_
  refine RoundStep.mk (i0, (y0_0 - 1), (y0_1.set ((y0_0).toNat) (1 + (max x50 x59)))) ⟨rfl, trivial⟩ (by repeat (first | exact trivial | refine And.intro rfl ?_)) (ConvH.of (.cons r0 (.cons r1 .nil))) lk0 (Nat.lt_succ_self _) ⟨(by first | simpa using y0_h1 | exact fun _ => ⟨_, _, rfl⟩), ((y0_n1).trans List.length_set.symm), hl0⟩
  replace hl0 := iff_ w54 hl0
  obtain ⟨h66, hl0⟩ := chkb hl0
  refine int_in h66 ?_
  obtain ⟨x67, l67, k67, hl0⟩ := ixb hl0
  refine RStep.ofN (index_addr rfl rfl (hasO y0_h1 k67) l67 (lt_ofE y0_n1 l67 k67) ?_)
  refine st_own (o := 0) (y := (1 + x50)) x67 r1 rfl k67 rfl (by (conv => whnf); exact ⟨rfl, rfl, (Nat.le_of_ble_eq_true rfl), rfl, rfl, rfl⟩) ?_
  obtain ⟨h20, hl0⟩ := chkb hl0
  refine int_in h20 ?_
  refine RoundStep.mk (i0, (y0_0 - 1), (y0_1.set ((y0_0).toNat) (1 + x50))) ⟨rfl, trivial⟩ (by repeat (first | exact trivial | refine And.intro rfl ?_)) (ConvH.of (.cons r0 (.cons r1 .nil))) lk0 (Nat.lt_succ_self _) ⟨(by first | simpa using y0_h1 | exact fun _ => ⟨_, _, rfl⟩), ((y0_n1).trans List.length_set.symm), hl0⟩
  replace hl0 := iff_ w46 hl0
  refine Jb rfl (RStep.of (load1_s r0 rfl rfl (eq_int (cond_go rfl ?_))))
  refine cond_s (fun w54 => ?_) (fun w54 => ?_)
  replace hl0 := ift w54 hl0
  refine Jb rfl (RStep.of (load1_s r0 rfl rfl ?_))
  obtain ⟨x59, l59, k59, hl0⟩ := ixb hl0
  refine RStep.ofN (index_addr rfl rfl (hasO y0_h1 k59) l59 (lt_ofE y0_n1 l59 k59) (RStep.of (ld_own (i := (x23.N).toNat) (o := 0) r1 rfl k59 rfl rfl (RStep.of (max_int ?_)))))
  obtain ⟨h66, hl0⟩ := chkb hl0
  refine int_in h66 ?_
  obtain ⟨x67, l67, k67, hl0⟩ := ixb hl0
  refine RStep.ofN (index_addr rfl rfl (hasO y0_h1 k67) l67 (lt_ofE y0_n1 l67 k67) ?_)
  refine st_own (o := 0) (y := (1 + (max x42 x59))) x67 r1 rfl k67 rfl (by (conv => whnf); exact ⟨rfl, rfl, (Nat.le_of_ble_eq_true rfl), rfl, rfl, rfl⟩) ?_
  obtain ⟨h20, hl0⟩ := chkb hl0
  refine int_in h20 ?_
  refine RoundStep.mk (i0, (y0_0 - 1), (y0_1.set ((y0_0).toNat) (1 + (max x42 x59)))) ⟨rfl, trivial⟩ (by repeat (first | exact trivial | refine And.intro rfl ?_)) (ConvH.of (.cons r0 (.cons r1 .nil))) lk0 (Nat.lt_succ_self _) ⟨(by first | simpa using y0_h1 | exact fun _ => ⟨_, _, rfl⟩), ((y0_n1).trans List.length_set.symm), hl0⟩
  replace hl0 := iff_ w54 hl0
  obtain ⟨h66, hl0⟩ := chkb hl0
  refine int_in h66 ?_
  obtain ⟨x67, l67, k67, hl0⟩ := ixb hl0
  refine RStep.ofN (index_addr rfl rfl (hasO y0_h1 k67) l67 (lt_ofE y0_n1 l67 k67) ?_)
  refine st_own (o := 0) (y := (1 + x42)) x67 r1 rfl k67 rfl (by (conv => whnf); exact ⟨rfl, rfl, (Nat.le_of_ble_eq_true rfl), rfl, rfl, rfl⟩) ?_
  obtain ⟨h20, hl0⟩ := chkb hl0
  refine int_in h20 ?_
  refine RoundStep.mk (i0, (y0_0 - 1), (y0_1.set ((y0_0).toNat) (1 + x42))) ⟨rfl, trivial⟩ (by repeat (first | exact trivial | refine And.intro rfl ?_)) (ConvH.of (.cons r0 (.cons r1 .nil))) lk0 (Nat.lt_succ_self _) ⟨(by first | simpa using y0_h1 | exact fun _ => ⟨_, _, rfl⟩), ((y0_n1).trans List.length_set.symm), hl0⟩
  replace hl0 := iff_ w18 hl0
  refine cond_T ?_
  refine MeetStep.mk ((y0_0, y0_1)) ⟨rfl, trivial⟩ (by repeat (first | exact trivial | refine And.intro rfl ?_)) (ConvH.of (.cons r0 (.cons r0 .nil))) lk0 ⟨y0_h1, y0_n1, (si hl0)⟩
 rintro t0 Kt0 lt0 ⟨t0_h1, t0_n1, rfl⟩ j0
 obtain ⟨x69, l69, k69, hm⟩ := ixb hm
 refine RStep.ofN (index_addr rfl rfl (hasO t0_h1 k69) l69 (lt_ofE t0_n1 l69 k69) (RStep.of (ld_own (i := (0 : Int).toNat) (o := 0) r0 rfl k69 rfl rfl ?_)))
 obtain rfl := si hm
 refine EndStep.mk _ lt0 ⟨rfl, rfl⟩ (ConvH.of (.cons r1 .nil))

noncomputable def JaT (n : Nat) (n' : Jk) : Option (Bool) :=
  (JaS n n').bind fun x9 =>
  (if x9 then some true else (JbZ n).bind fun x11 =>
  some (!x11)).bind fun x13 =>
  if x13 then
  (JaS n n').bind fun x15 =>
  some x15
  else
  (Jbg n n').bind fun x18 =>
  (JaF n x18).bind fun x19 =>
  if x19.2.isSome then
  some true
  else
  (Jbd x19.1).bind fun x26 =>
  (JbH x26).bind fun x27 =>
  if (!x27.2) then
  some false
  else
  (Jbg n n').bind fun x34 =>
  (Jbb n x34).bind fun x35 =>
  (if x35.2.isNone then (Jbd x19.1).bind fun x42 =>
  (Ja5 n x42 1).bind fun x43 =>
  some (decide (x43 ≤ x35.1)) else some false).bind fun x46 =>
  (if x46 then (Jbd x19.1).bind fun x50 =>
  (Ja5 n x50 33).bind fun x51 =>
  some (decide (x35.1 ≤ x51)) else some false).bind fun x53 =>
  some x53
set_option maxHeartbeats 8000000 in
theorem Jb3 {n : Nat} {n' : Jk} {ap0_0 : Option Addr} {cp0_0 : Nat} {K : Hp} {r : Bool}
    (hm : JaT n n' = some r) (hp0_0 : LiC Jk.R K ap0_0 cp0_0 4 n'.Kids) (hG1 : GlL eS 1 1 Js K) (hG2 : GlL eS 1 2 Jx K) (hG3 : GlL eS 1 3 JD K) (hG4 : GlL eS 1 4 gkw0 K) :
    Fn Tryz.prog 7 [.agg #[.int .i64 n'.Kind, str n'.Text, .slice ap0_0 n'.Kids.length cp0_0, .int .i64 n'.Line]] K [] (fun v K' H' => v = .bool r ∧ H' = []) := by
 obtain ⟨ga1, gn1, gc1, gn_, gs1, gd1⟩ := id hG1
 subst gn_
 obtain ⟨ga2, gn2, gc2, gn_, gs2, gd2⟩ := id hG2
 subst gn_
 obtain ⟨ga3, gn3, gc3, gn_, gs3, gd3⟩ := id hG3
 subst gn_
 obtain ⟨ga4, gn4, gc4, gn_, gs4, gd4⟩ := id hG4
 subst gn_
 refine Fn.enter Tryz.func7 Tryz.call7 rfl fun F => ?_
 unfold JaT at hm
 refine box_rule ?_
 intro b1
 refine RStep.of (loadn_s r0 rfl (Nat.le_of_ble_eq_true rfl) ?_)
 obtain ⟨x9, q9, hm⟩ := bnd hm
 refine call_fn (JbJ (n' := n') q9 hp0_0) .nil ?_
 rintro _ K9 _ l9 ⟨rfl, rfl⟩
 obtain ⟨x13, e13, hm⟩ := bnd hm
 refine cond_s (fun g10_1 => ?_) (fun g10_1 => ?_)
 replace e13 := ift g10_1 e13
 refine cond_t g10_1 (cond_t g10_1 (cond_go rfl (cond_T ?_)))
 replace hm := ift (si e13).symm hm
 refine RStep.of (loadn_s r0 rfl (Nat.le_of_ble_eq_true rfl) ?_)
 obtain ⟨x15, q15, hm⟩ := bnd hm
 refine call_fn (JbJ (n' := n') q15 (LiC.mono Jk.R_ok l9 hp0_0)) .nil ?_
 rintro _ K15 _ l15 ⟨rfl, rfl⟩
 obtain rfl := si hm
 refine EndStep.mk _ (l9.trans l15) ⟨rfl, rfl⟩ (ConvH.of (.cons r1 .nil))
 replace e13 := iff_ g10_1 e13
 obtain ⟨x11, q11, e13⟩ := bnd e13
 refine call_fn (Jct q11 (hG1.mono l9) (hG2.mono l9) (hG3.mono l9) (hG4.mono l9)) .nil ?_
 rintro _ K11 _ l11 ⟨rfl, rfl⟩
 refine cond_f g10_1 (un_not (cond_f g10_1 (cond_go rfl ?_)))
 refine cond_s (fun w13 => ?_) (fun w13 => ?_)
 replace hm := ift ((si e13).symm.trans (not_t (ni_t w13))) hm
 refine RStep.of (loadn_s r0 rfl (Nat.le_of_ble_eq_true rfl) ?_)
 obtain ⟨x15, q15, hm⟩ := bnd hm
 refine call_fn (JbJ (n' := n') q15 (LiC.mono Jk.R_ok (l9.trans l11) hp0_0)) .nil ?_
 rintro _ K15 _ l15 ⟨rfl, rfl⟩
 obtain rfl := si hm
 refine EndStep.mk _ ((l9.trans l11).trans l15) ⟨rfl, rfl⟩ (ConvH.of (.cons r1 .nil))
 replace hm := iff_ ((si e13).symm.trans (not_f (ni_f w13))) hm
 refine RStep.of (loadn_s r0 rfl (Nat.le_of_ble_eq_true rfl) ?_)
 obtain ⟨x18, q18, hm⟩ := bnd hm
 refine call_fn (Jca (n' := n') q18 (LiC.mono Jk.R_ok (l9.trans l11) hp0_0)) .nil ?_
 rintro _ K18 _ l18 ⟨a18_0, c18_0, s18_0, rfl, h18_0, r18_0, rfl⟩
 obtain ⟨x19, q19, hm⟩ := bnd hm
 refine fzFR Tryz.call10 Ja.R_ok r0 r18_0 fun Kf19_0_0 lf19_0_0 ff19_0_0 => ?_
 refine call_fn (JbD (program := x18) q19 ff19_0_0 (hG1.mono (((l9.trans l11).trans l18).trans lf19_0_0)) (hG2.mono (((l9.trans l11).trans l18).trans lf19_0_0)) (hG3.mono (((l9.trans l11).trans l18).trans lf19_0_0)) (hG4.mono (((l9.trans l11).trans l18).trans lf19_0_0))) .nil ?_
 rintro _ K19 _ l19 ⟨a19_0, c19_0, rfl, h19_0, rfl⟩
 refine neq_err rfl (cond_go rfl ?_)
 refine cond_s (fun w23 => ?_) (fun w23 => ?_)
 replace hm := ift w23 hm
 obtain rfl := si hm
 refine EndStep.mk _ ((((l9.trans l11).trans l18).trans lf19_0_0).trans l19) ⟨rfl, rfl⟩ (ConvH.of (.cons r2 .nil))
 replace hm := iff_ w23 hm
 obtain ⟨x26, q26, hm⟩ := bnd hm
 refine call_fn (Fn.lend Tryz.call18 (fun K26_0 l26_0 f26_0 => (JbO q26 f26_0 rfl)) (by exact fun _ _ _ _ h => h)) (.cons r0 .nil) ?_
 rintro _ K26 _ l26 ⟨_, rfl, a26_0, c26_0, rfl, h26_0, rfl⟩
 obtain ⟨x27, q27, hm⟩ := bnd hm
 refine call_fn (Fn.lend Tryz.call17 (fun K27_0 l27_0 f27_0 => (Jcu q27 f27_0 rfl)) (by exact fun _ _ _ _ h => h)) (.cons r1 .nil) ?_
 rintro _ K27 _ l27 ⟨_, rfl, rfl, rfl⟩
 refine un_not (cond_go rfl ?_)
 refine cond_s (fun w31 => ?_) (fun w31 => ?_)
 replace hm := ift (not_t (ni_t w31)) hm
 obtain rfl := si hm
 refine EndStep.mk _ ((((((l9.trans l11).trans l18).trans lf19_0_0).trans l19).trans l26).trans l27) ⟨rfl, rfl⟩ (ConvH.of (.cons r3 .nil))
 replace hm := iff_ (not_f (ni_f w31)) hm
 refine RStep.of (loadn_s r2 rfl (Nat.le_of_ble_eq_true rfl) ?_)
 obtain ⟨x34, q34, hm⟩ := bnd hm
 refine call_fn (Jca (n' := n') q34 (LiC.mono Jk.R_ok ((((((l9.trans l11).trans l18).trans lf19_0_0).trans l19).trans l26).trans l27) hp0_0)) .nil ?_
 rintro _ K34 _ l34 ⟨a34_0, c34_0, s34_0, rfl, h34_0, r34_0, rfl⟩
 obtain ⟨x35, q35, hm⟩ := bnd hm
 refine fzFR Tryz.call26 Ja.R_ok r0 r34_0 fun Kf35_0_0 lf35_0_0 ff35_0_0 => ?_
 refine call_fn (Jcl (program := x34) q35 ff35_0_0 (hG1.mono ((((((((l9.trans l11).trans l18).trans lf19_0_0).trans l19).trans l26).trans l27).trans l34).trans lf35_0_0)) (hG2.mono ((((((((l9.trans l11).trans l18).trans lf19_0_0).trans l19).trans l26).trans l27).trans l34).trans lf35_0_0)) (hG3.mono ((((((((l9.trans l11).trans l18).trans lf19_0_0).trans l19).trans l26).trans l27).trans l34).trans lf35_0_0)) (hG4.mono ((((((((l9.trans l11).trans l18).trans lf19_0_0).trans l19).trans l26).trans l27).trans l34).trans lf35_0_0))) .nil ?_
 rintro _ K35 _ l35 ⟨rfl, rfl⟩
 refine eq_err rfl ?_
 obtain ⟨x46, e46, hm⟩ := bnd hm
 refine cond_s (fun g40_10 => ?_) (fun g40_10 => ?_)
 replace e46 := ift g40_10 e46
 refine cond_t g40_10 ?_
 obtain ⟨x42, q42, e46⟩ := bnd e46
 refine call_fn (Fn.lend Tryz.call18 (fun K42_0 l42_0 f42_0 => (JbO q42 f42_0 rfl)) (by exact fun _ _ _ _ h => h)) (.cons r1 .nil) ?_
 rintro _ K42 _ l42 ⟨_, rfl, a42_0, c42_0, rfl, h42_0, rfl⟩
 refine cond_t g40_10 ?_
 obtain ⟨x43, q43, e46⟩ := bnd e46
 refine call_fn (Fn.lend Tryz.call27 (fun K43_0 l43_0 f43_0 => (Jb2 (more := 1) q43 f43_0 rfl)) (by exact fun _ _ _ _ h => h)) (.cons r1 .nil) ?_
 rintro _ K43 _ l43 ⟨_, rfl, rfl, rfl⟩
 refine cond_t g40_10 (cond_t g40_10 (cond_t g40_10 ?_))
 obtain ⟨x53, e53, hm⟩ := bnd hm
 refine cond_s (fun g47_10 => ?_) (fun g47_10 => ?_)
 replace e53 := ift ((si e46).symm.trans g47_10) e53
 refine cond_t g47_10 (cond_t g47_10 ?_)
 obtain ⟨x50, q50, e53⟩ := bnd e53
 refine call_fn (Fn.lend Tryz.call18 (fun K50_0 l50_0 f50_0 => (JbO q50 f50_0 rfl)) (by exact fun _ _ _ _ h => h)) (.cons r1 .nil) ?_
 rintro _ K50 _ l50 ⟨_, rfl, a50_0, c50_0, rfl, h50_0, rfl⟩
 refine cond_t g47_10 ?_
 obtain ⟨x51, q51, e53⟩ := bnd e53
 refine call_fn (Fn.lend Tryz.call27 (fun K51_0 l51_0 f51_0 => (Jb2 (more := 33) q51 f51_0 rfl)) (by exact fun _ _ _ _ h => h)) (.cons r1 .nil) ?_
 rintro _ K51 _ l51 ⟨_, rfl, rfl, rfl⟩
 refine cond_t g47_10 (cond_t g47_10 ?_)
 obtain rfl := si hm
 refine EndStep.mk _ (((((((((((((l9.trans l11).trans l18).trans lf19_0_0).trans l19).trans l26).trans l27).trans l34).trans lf35_0_0).trans l35).trans l42).trans l43).trans l50).trans l51) ⟨(by rw [← (si e53)] <;> rfl), rfl⟩ (ConvH.of (.cons r5 .nil))
 replace e53 := iff_ ((si e46).symm.trans g47_10) e53
 refine cond_f g47_10 (cond_f g47_10 (cond_f g47_10 (cond_f g47_10 (cond_f g47_10 ?_))))
 obtain rfl := si hm
 refine EndStep.mk _ (((((((((((l9.trans l11).trans l18).trans lf19_0_0).trans l19).trans l26).trans l27).trans l34).trans lf35_0_0).trans l35).trans l42).trans l43) ⟨(by rw [← ((si e53).symm).symm] <;> rfl), rfl⟩ (ConvH.of (.cons r4 .nil))
 replace e46 := iff_ g40_10 e46
 refine cond_f g40_10 (cond_f g40_10 (cond_f g40_10 (cond_f g40_10 (cond_f g40_10 ?_))))
 obtain ⟨x53, e53, hm⟩ := bnd hm
 replace e53 := iff_ (si e46).symm e53
 refine cond_F (cond_F (cond_F (cond_F (cond_F (cond_F ?_)))))
 obtain rfl := si hm
 refine EndStep.mk _ (((((((((l9.trans l11).trans l18).trans lf19_0_0).trans l19).trans l26).trans l27).trans l34).trans lf35_0_0).trans l35) ⟨(by rw [← ((si e53).symm).symm] <;> rfl), rfl⟩ (ConvH.of (.cons r3 .nil))
