/- Functions of the program: mirrors, and that a call returns what the mirror says. Printed by gen.py. -/
import Derived.Test.YtkpipkpdnbconaaGreatDoorG5
set_option linter.unusedVariables false
set_option linter.unusedSimpArgs false
open Go Go.SL Go.Proofs
set_option maxRecDepth 1000000
noncomputable def Jw (i0 : Nat) (code : (List Jx)) (e0 : Jx) (x48 : Jk) (x42 : Int × Int × Bool) (t905 : (List Int)) : List Int → Nat → (List Jk) → Option (Fl (Int × Bool) ((List Jk)))
 | [], _, y2_0 => some (Fl.go y2_0)
 | e2 :: xs2, i2, y2_0 =>
  if decide (e2 ≤ (i0 : Int)) then
  some (Fl.ret (0, false))
  else
  if (decide (e2 ≥ (code.length : Int)) && decide (e0.Op ≠ 12)) then
  some (Fl.ret (0, false))
  else
  (ix y2_0 e2).bind fun x162 =>
  (Jbe x162 ((x48.depth - x42.1) + x42.2.1) t905).bind fun x166 =>
  (ix y2_0 e2).bind fun x169 =>
  if (!x166.2) then
  some (Fl.ret (0, false))
  else
  Jw i0 code e0 x48 x42 t905 xs2 (i2 + 1) (y2_0.set ((e2).toNat) x166.1)
noncomputable def JaA (code : (List Jx)) : List Jx → Nat → Int → (List Jk) → Option (Fl (Int × Bool) (Int × (List Jk)))
 | [], _, y0_0, y0_1 => some (Fl.go (y0_0, y0_1))
 | e0 :: xs0, i0, y0_0, y0_1 =>
  (Jbq e0).bind fun x42 =>
  (ix y0_1 (i0 : Int)).bind fun x48 =>
  (if (((!x42.2.2) || (!x48.reached)) || decide (x48.depth < x42.1)) then some true else (chk (InI ((code.length : Int) - 1))).bind fun _ =>
  some (!((decide (e0.Op = 12)) == (decide ((i0 : Int) = ((code.length : Int) - 1)))))).bind fun x73 =>
  if x73 then
  some (Fl.ret (0, false))
  else
  if (decide (e0.Op = 12) && decide (x48.depth > 0)) then
  some (Fl.ret (0, false))
  else
  (if decide (e0.Op = 3) then (Jbm x48.stored [e0.N]).bind fun x93 =>
  (JbD x93 [e0.N]).bind fun x97 =>
  some (!x97) else some false).bind fun x99 =>
  if x99 then
  some (Fl.ret (0, false))
  else
  (chk (InI (x48.depth - x42.1))).bind fun _ =>
  (chk (InI ((x48.depth - x42.1) + x42.2.1))).bind fun _ =>
  ((if decide (e0.Op = 4) then
  (Jbv x48.stored e0.N).bind fun x114 =>
  some x114
  else
  some x48.stored : Option ((List Int)))).bind fun t905 =>
  ((if decide (e0.Op = 9) then
  some [e0.N]
  else
  some [((i0 : Int) + 1)] : Option ((List Int)))).bind fun t907 =>
  ((if decide (e0.Op = 10) then
  (chk (t907.length + [e0.N].length ≤ lim)).bind fun _ =>
  some (t907 ++ [e0.N])
  else
  some t907 : Option ((List Int)))).bind fun t909 =>
  (chk (t909.length ≤ szMax)).bind fun _ =>
  (Jw i0 code e0 x48 x42 t905 t909 0 y0_1).bind fun s2 => s2.el (fun r => some (Fl.ret r)) fun t2 =>
  JaA code xs0 (i0 + 1) (max (max y0_0 x48.depth) ((x48.depth - x42.1) + x42.2.1)) t2
noncomputable def JbE (code : (List Jx)) : Option (Int × Bool) :=
 if (decide ((code.length : Int) < 1) || decide ((code.length : Int) > 2048)) then
 some (0, false)
 else
 (chk (InI ((code.length : Int) + 1))).bind fun _ =>
 (chk (0 ≤ ((code.length : Int) + 1) ∧ ((code.length : Int) + 1) ≤ (lim : Int))).bind fun _ =>
 (ix (List.replicate (Int.toNat ((code.length : Int) + 1)) ((⟨false, 0, []⟩ : Jk) : Jk)) 0).bind fun x31 =>
 (chk (code.length ≤ szMax)).bind fun _ =>
 (JaA code code 0 0 ((List.replicate (Int.toNat ((code.length : Int) + 1)) ((⟨false, 0, []⟩ : Jk) : Jk)).set ((0 : Int).toNat) (⟨true, x31.depth, x31.stored⟩ : Jk))).bind fun s0 => s0.el some fun t0 =>
 some (t0.1, true)
set_option maxHeartbeats 8000000 in
theorem Jco {code : (List Jx)} {ap0_0 : Option Addr} {cp0_0 : Nat} {n0 : Nat} {K : Hp} {r : Int × Bool}
  (hm : JbE code = some r) (hp0_0 : RdC Jx.enc K ap0_0 cp0_0 3 code) (en0 : n0 = code.length) :
  Fn Tryz.prog 17 [.slice ap0_0 n0 cp0_0] K [] (fun v K' H' => v = .tuple #[.int .i64 r.1, .bool r.2] ∧ H' = []) := by
 subst en0
 refine Fn.enter Tryz.func17 Tryz.call17 rfl fun F => ?_
 unfold JbE at hm
 conv => whnf
 refine RStep.of (len_slice rfl ?_)
 conv => whnf
 refine cond_s (fun g21_1 => ?_) (fun g21_1 => ?_)
 conv => whnf
 refine cond_t g21_1 ?_
 conv => whnf
 refine cond_t g21_1 ?_
 conv => whnf
 refine cond_t g21_1 ?_
 conv => whnf
 refine cond_go rfl ?_
 conv => whnf
 refine cond_T ?_
 replace hm := ift (or_t g21_1) hm
 obtain rfl := si hm
 conv => whnf
 refine EndStep.mk _ (Hp.Le.refl _) ⟨rfl, rfl⟩ (ConvH.of (.cons r0 .nil))
 conv => whnf
 refine cond_f g21_1 ?_
 conv => whnf
 refine RStep.of (len_slice rfl ?_)
 conv => whnf
 refine cond_f g21_1 ?_
 conv => whnf
 refine cond_f g21_1 ?_
 conv => whnf
 refine cond_go rfl ?_
 conv => whnf
 refine cond_s (fun w25 => ?_) (fun w25 => ?_)
 replace hm := ift (or_u g21_1 w25) hm
 obtain rfl := si hm
 conv => whnf
 refine EndStep.mk _ (Hp.Le.refl _) ⟨rfl, rfl⟩ (ConvH.of (.cons r0 .nil))
 replace hm := iff_ (or_f g21_1 w25) hm
 conv => whnf
 refine RStep.of (len_slice rfl ?_)
 obtain ⟨h28, hm⟩ := chkb hm
 conv => whnf
 refine int_in h28 ?_
 obtain ⟨h29, hm⟩ := chkb hm
 conv => whnf
 refine mk_sliceR [.bool false, .int .i64 0, .slice none 0 0] elT80 rfl rfl rfl h29 fun b29 => ?_
 obtain ⟨x31, l31, k31, hm⟩ := ixb hm
 conv => whnf
 refine RStep.ofN (index_addr rfl rfl (hasO (fun _ => ⟨_, _, rfl⟩) k31) l31 (lt_ofE List.length_replicate.symm l31 k31) ?_)
 conv => whnf
 refine eptr_field rfl (hasO (fun _ => ⟨_, _, rfl⟩) k31) ?_
 obtain ⟨ccw2, hcw2, hRw2⟩ := LR.get (show LR Jk.R _ (List.replicate (Int.toNat ((code.length : Int) + 1)) [.bool false, .int .i64 0, .slice none 0 0]) (List.replicate (Int.toNat ((code.length : Int) + 1)) ((⟨false, 0, []⟩ : Jk) : Jk)) from LR.repl _ ⟨none, 0, rfl, RdC.nil⟩) k31
 obtain ⟨aw2_0, cw2_0, rfl, hw2_0⟩ := hRw2
 conv => whnf
 refine stA (o := 0) [.bool true, .int .i64 x31.depth, .slice aw2_0 x31.stored.length cw2_0] r0 rfl hcw2 rfl (by (conv => whnf); exact ⟨rfl, rfl, (Nat.le_of_ble_eq_true rfl), rfl, rfl, rfl⟩) ?_
 conv => whnf
 refine RStep.of (len_slice rfl ?_)
 obtain ⟨hk0, hm⟩ := chkb hm
 obtain ⟨s0, hl0, hm⟩ := bnd hm
 conv => whnf
 refine code_cut (σ := (Int × (List Jk)) × List (List Value)) [2, 3, 5, 6, 7, 8, 9, 10, 11, 12, 13, 14, 16, 17, 35, 36, 37, 38, 39, 40, 41, 42, 43, 44, 45, 46, 47, 48, 49, 50, 51, 52, 53, 54, 55, 56, 57, 58, 59, 60, 61, 62, 63, 64, 65, 66, 67, 68, 69, 70, 71, 72, 73, 74, 75, 76, 77, 78, 79, 80, 81, 82, 83, 84, 85, 86, 87, 88, 89, 90, 91, 92, 93, 94, 95, 96, 97, 98, 99, 100, 101, 102, 103, 104, 105, 106, 107, 108, 109, 110, 111, 112, 113, 114, 115, 116, 117, 118, 119, 120, 121, 122, 123, 124, 125, 126, 127, 128, 129, 130, 131, 132, 133, 134, 135, 136, 137, 138, 139, 140, 141, 142, 143, 144, 145, 146, 147, 148, 149, 150, 151, 152, 153, 154, 155, 156, 157, 158, 159, 160, 161, 162, 163, 164, 165, 166, 167, 168, 169, 170, 171, 172, 173] (fun (t0, t0_s1) => [(5, .int .i64 t0.1)]) (fun (t0, t0_s1) => [OwnA (some ⟨b29, 0, none⟩) 83 3 (Int.toNat ((code.length : Int) + 1)) t0_s1, F]) (fun zz K1 => match zz with | (t0, t0_s1) => LR Jk.R K1 t0_s1 t0.2 ∧ (0 < t0.2.length → Has (some ⟨b29, 0, none⟩)) ∧ (Int.toNat ((code.length : Int) + 1)) = t0.2.length ∧ s0 = Fl.go t0) ?_ ?_
 refine block_go rfl ?_
 conv => whnf
 refine loop_rule (σ := Nat × Int × (List Jk) × List (List Value)) [2, 3, 5, 6, 7, 8, 9, 10, 11, 12, 13, 14, 16, 17, 35, 36, 37, 38, 39, 40, 41, 42, 43, 44, 45, 46, 47, 48, 49, 50, 51, 52, 53, 54, 55, 56, 57, 58, 59, 60, 61, 62, 63, 64, 65, 66, 67, 68, 69, 70, 71, 72, 73, 74, 75, 76, 77, 78, 79, 80, 81, 82, 83, 84, 85, 86, 87, 88, 89, 90, 91, 92, 93, 94, 95, 96, 97, 98, 99, 100, 101, 102, 103, 104, 105, 106, 107, 108, 109, 110, 111, 112, 113, 114, 115, 116, 117, 118, 119, 120, 121, 122, 123, 124, 125, 126, 127, 128, 129, 130, 131, 132, 133, 134, 135, 136, 137, 138, 139, 140, 141, 142, 143, 144, 145, 146, 147, 148, 149, 150, 151, 152, 153, 154, 155, 156, 157, 158, 159, 160, 161, 162, 163, 164, 165, 166, 167, 168, 169, 170, 171, 172, 173] (fun (i0, y0_0, y0_1, y0_s1) => [(35, .int .i64 (i0 : Int)), (5, .int .i64 y0_0)]) (fun (i0, y0_0, y0_1, y0_s1) => [OwnA (some ⟨b29, 0, none⟩) 83 3 (Int.toNat ((code.length : Int) + 1)) y0_s1, F]) (fun zz K1 => match zz with | (i0, y0_0, y0_1, y0_s1) => LR Jk.R K1 y0_s1 y0_1 ∧ (0 < y0_1.length → Has (some ⟨b29, 0, none⟩)) ∧ (Int.toNat ((code.length : Int) + 1)) = y0_1.length ∧ JaA code (code.drop i0) i0 y0_0 y0_1 = some s0) (fun zz => code.length - zz.1) (0, 0, ((List.replicate (Int.toNat ((code.length : Int) + 1)) ((⟨false, 0, []⟩ : Jk) : Jk)).set ((0 : Int).toNat) (⟨true, x31.depth, x31.stored⟩ : Jk)), ((List.replicate (Int.toNat ((code.length : Int) + 1)) [.bool false, .int .i64 0, .slice none 0 0]).set ((0 : Int).toNat) [.bool true, .int .i64 x31.depth, .slice aw2_0 x31.stored.length cw2_0])) rfl ⟨rfl, rfl, trivial⟩ (ConvH.of (.cons r0 (.cons r0 .nil))) ⟨(LR.set (show LR Jk.R _ (List.replicate (Int.toNat ((code.length : Int) + 1)) [.bool false, .int .i64 0, .slice none 0 0]) (List.replicate (Int.toNat ((code.length : Int) + 1)) ((⟨false, 0, []⟩ : Jk) : Jk)) from LR.repl _ ⟨none, 0, rfl, RdC.nil⟩) ⟨aw2_0, cw2_0, rfl, hw2_0⟩), (by first | simpa using (fun _ => ⟨_, _, rfl⟩) | exact fun _ => ⟨_, _, rfl⟩), ((List.length_replicate.symm).trans List.length_set.symm), hl0⟩ ?_
 clear hl0
 rintro ⟨i0, y0_0, y0_1, y0_s1⟩ Kb0 lk0 ⟨y0_r1, y0_h1, y0_n1, hl0⟩ j0
 conv => whnf
 refine cond_go rfl ?_
 conv => whnf
 refine cond_s (fun w0 => ?_) (fun w0 => ?_)
 obtain ⟨e0, hx0, hd0⟩ := ltx w0
 rw [hd0, JaA.eq_2] at hl0
 conv => whnf
 refine block_go rfl ?_
 conv => whnf
 refine RStep.ofN (index_addr rfl rfl (hasK (hp0_0.mono lk0).rd hx0) (nn _) (lt_ofN hx0) ?_)
 conv => whnf
 refine RStep.of (load_rd_agg i0 _ (hp0_0.mono lk0).rd rfl (mp hx0) rfl ?_)
 conv => whnf
 refine alloc_rule rfl ?_
 intro b7
 conv => whnf
 refine store_rule r0 rfl ?_
 conv => whnf
 refine ⟨rfl, rfl, (Nat.le_of_ble_eq_true rfl), ?_⟩
 conv => whnf
 refine RStep.of (loadn_s r0 rfl (Nat.le_of_ble_eq_true rfl) ?_)
 obtain ⟨x42, q42, hl0⟩ := bnd hl0
 conv => whnf
 refine call_fn (Jck (x := e0) q42) .nil ?_
 rintro _ K42 _ l42 ⟨rfl, rfl⟩
 obtain ⟨x48, l48, k48, hl0⟩ := ixb hl0
 conv => whnf
 refine RStep.ofN (index_addr rfl rfl (hasO y0_h1 k48) l48 (lt_ofE y0_n1 l48 k48) ?_)
 obtain ⟨cc49, hc49, hR49⟩ := LR.get (LR.mono Jk.R_ok l42 y0_r1) k48
 obtain ⟨a49_0, c49_0, rfl, h49_0⟩ := hR49
 conv => whnf
 refine RStep.of (ldnA (i := ((i0 : Int)).toNat) r1 rfl hc49 rfl ?_)
 conv => whnf
 refine alloc_rule rfl ?_
 intro b11
 conv => whnf
 refine store_rule r0 rfl ?_
 conv => whnf
 refine ⟨rfl, rfl, (Nat.le_of_ble_eq_true rfl), ?_⟩
 conv => whnf
 refine un_not ?_
 conv => whnf
 refine cond_s (fun g52_11 => ?_) (fun g52_11 => ?_)
 conv => whnf
 refine cond_t g52_11 ?_
 conv => whnf
 refine cond_t g52_11 ?_
 conv => whnf
 refine cond_t g52_11 ?_
 conv => whnf
 refine cond_T ?_
 conv => whnf
 refine cond_T ?_
 conv => whnf
 refine cond_T ?_
 conv => whnf
 refine cond_T ?_
 conv => whnf
 refine cond_T ?_
 obtain ⟨x73, e73, hl0⟩ := bnd hl0
 replace e73 := ift (or_t (or_t (not_t (ni_t g52_11)))) e73
 conv => whnf
 refine cond_T ?_
 conv => whnf
 refine cond_T ?_
 conv => whnf
 refine cond_T ?_
 conv => whnf
 refine cond_T ?_
 conv => whnf
 refine cond_T ?_
 conv => whnf
 refine cond_T ?_
 conv => whnf
 refine cond_T ?_
 conv => whnf
 refine cond_T ?_
 conv => whnf
 refine cond_T ?_
 conv => whnf
 refine cond_T ?_
 replace hl0 := ift (si e73).symm hl0
 conv => whnf
 refine cond_T ?_
 conv => whnf
 refine cond_T ?_
 conv => whnf
 refine cond_T ?_
 conv => whnf
 refine cond_T ?_
 conv => whnf
 refine cond_T ?_
 conv => whnf
 refine cond_T ?_
 conv => whnf
 refine cond_go rfl ?_
 conv => whnf
 refine cond_T ?_
 obtain rfl := si hl0
 replace hm := elr hm
 obtain rfl := si hm
 conv => whnf
 refine EndStep.mk _ (lk0.trans l42) ⟨rfl, rfl⟩ (ConvH.of (.cons r3 .nil))
 conv => whnf
 refine Jb rfl ?_
 conv => whnf
 refine cond_f g52_11 ?_
 conv => whnf
 refine RStep.of (load1_s r0 rfl rfl ?_)
 conv => whnf
 refine cond_f g52_11 ?_
 conv => whnf
 refine un_not ?_
 conv => whnf
 refine cond_f g52_11 ?_
 conv => whnf
 refine cond_s (fun g57_11 => ?_) (fun g57_11 => ?_)
 conv => whnf
 refine cond_t g57_11 ?_
 conv => whnf
 refine cond_t g57_11 ?_
 conv => whnf
 refine cond_t g57_11 ?_
 conv => whnf
 refine cond_t g57_11 ?_
 obtain ⟨x73, e73, hl0⟩ := bnd hl0
 replace e73 := ift (or_t (or_u (not_f (ni_f g52_11)) (not_t (ni_t g57_11)))) e73
 conv => whnf
 refine cond_T ?_
 conv => whnf
 refine cond_T ?_
 conv => whnf
 refine cond_T ?_
 conv => whnf
 refine cond_T ?_
 conv => whnf
 refine cond_T ?_
 conv => whnf
 refine cond_T ?_
 conv => whnf
 refine cond_T ?_
 conv => whnf
 refine cond_T ?_
 conv => whnf
 refine cond_T ?_
 conv => whnf
 refine cond_T ?_
 replace hl0 := ift (si e73).symm hl0
 conv => whnf
 refine cond_T ?_
 conv => whnf
 refine cond_T ?_
 conv => whnf
 refine cond_T ?_
 conv => whnf
 refine cond_T ?_
 conv => whnf
 refine cond_T ?_
 conv => whnf
 refine cond_T ?_
 conv => whnf
 refine cond_go rfl ?_
 conv => whnf
 refine cond_T ?_
 obtain rfl := si hl0
 replace hm := elr hm
 obtain rfl := si hm
 conv => whnf
 refine EndStep.mk _ (lk0.trans l42) ⟨rfl, rfl⟩ (ConvH.of (.cons r3 .nil))
 conv => whnf
 refine Jb rfl ?_
 conv => whnf
 refine cond_f g57_11 ?_
 conv => whnf
 refine RStep.of (load1_s r0 rfl rfl ?_)
 conv => whnf
 refine cond_f g57_11 ?_
 conv => whnf
 refine cond_f g57_11 ?_
 conv => whnf
 refine cond_f g57_11 ?_
 obtain ⟨x73, e73, hl0⟩ := bnd hl0
 conv => whnf
 refine cond_s (fun g63_11 => ?_) (fun g63_11 => ?_)
 replace e73 := ift (or_u (or_f (not_f (ni_f g52_11)) (not_f (ni_f g57_11))) g63_11) e73
 conv => whnf
 refine cond_t g63_11 ?_
 conv => whnf
 refine cond_t g63_11 ?_
 conv => whnf
 refine cond_t g63_11 ?_
 conv => whnf
 refine cond_t g63_11 ?_
 conv => whnf
 refine cond_t g63_11 ?_
 conv => whnf
 refine cond_t g63_11 ?_
 conv => whnf
 refine cond_t g63_11 ?_
 conv => whnf
 refine cond_t g63_11 ?_
 conv => whnf
 refine cond_t g63_11 ?_
 replace hl0 := ift (si e73).symm hl0
 conv => whnf
 refine cond_T ?_
 conv => whnf
 refine cond_T ?_
 conv => whnf
 refine cond_T ?_
 conv => whnf
 refine cond_T ?_
 conv => whnf
 refine cond_T ?_
 conv => whnf
 refine cond_T ?_
 conv => whnf
 refine cond_go rfl ?_
 conv => whnf
 refine cond_T ?_
 obtain rfl := si hl0
 replace hm := elr hm
 obtain rfl := si hm
 conv => whnf
 refine EndStep.mk _ (lk0.trans l42) ⟨rfl, rfl⟩ (ConvH.of (.cons r3 .nil))
 replace e73 := iff_ (or_f (or_f (not_f (ni_f g52_11)) (not_f (ni_f g57_11))) g63_11) e73
 conv => whnf
 refine Jb rfl ?_
 conv => whnf
 refine cond_f g63_11 ?_
 conv => whnf
 refine RStep.of (load1_s r1 rfl rfl ?_)
 conv => whnf
 refine cond_f g63_11 ?_
 conv => whnf
 refine eq_int ?_
 conv => whnf
 refine cond_f g63_11 ?_
 conv => whnf
 refine cond_f g63_11 ?_
 conv => whnf
 refine cond_f g63_11 ?_
 conv => whnf
 refine RStep.of (len_slice rfl ?_)
 conv => whnf
 refine cond_f g63_11 ?_
 obtain ⟨h70, e73⟩ := chkb e73
 conv => whnf
 refine int_in h70 ?_
 conv => whnf
 refine cond_f g63_11 ?_
 conv => whnf
 refine eq_int ?_
 conv => whnf
 refine cond_f g63_11 ?_
 conv => whnf
 refine neq_bool rfl ?_
 conv => whnf
 refine cond_f g63_11 ?_
 conv => whnf
 refine cond_s (fun g74_11 => ?_) (fun g74_11 => ?_)
 replace hl0 := ift ((si e73).symm.trans g74_11) hl0
 conv => whnf
 refine cond_t g74_11 ?_
 conv => whnf
 refine cond_t g74_11 ?_
 conv => whnf
 refine cond_t g74_11 ?_
 conv => whnf
 refine cond_t g74_11 ?_
 conv => whnf
 refine cond_t g74_11 ?_
 conv => whnf
 refine cond_go rfl ?_
 conv => whnf
 refine cond_T ?_
 obtain rfl := si hl0
 replace hm := elr hm
 obtain rfl := si hm
 conv => whnf
 refine EndStep.mk _ (lk0.trans l42) ⟨rfl, rfl⟩ (ConvH.of (.cons r3 .nil))
 replace hl0 := iff_ ((si e73).symm.trans g74_11) hl0
 conv => whnf
 refine Jb rfl ?_
 conv => whnf
 refine cond_f g74_11 ?_
 conv => whnf
 refine RStep.of (load1_s r1 rfl rfl ?_)
 conv => whnf
 refine cond_f g74_11 ?_
 conv => whnf
 refine eq_int ?_
 conv => whnf
 refine cond_f g74_11 ?_
 conv => whnf
 refine cond_s (fun g78_11 => ?_) (fun g78_11 => ?_)
 conv => whnf
 refine Jb rfl ?_
 conv => whnf
 refine cond_t g78_11 ?_
 conv => whnf
 refine RStep.of (load1_s r0 rfl rfl ?_)
 conv => whnf
 refine cond_t g78_11 ?_
 conv => whnf
 refine cond_f g74_11 ?_
 conv => whnf
 refine cond_t g78_11 ?_
 conv => whnf
 refine cond_f g74_11 ?_
 conv => whnf
 refine cond_go rfl ?_
 conv => whnf
 refine cond_s (fun w83 => ?_) (fun w83 => ?_)
 replace hl0 := ift (and_t g78_11 w83) hl0
 obtain rfl := si hl0
 replace hm := elr hm
 obtain rfl := si hm
 conv => whnf
 refine EndStep.mk _ (lk0.trans l42) ⟨rfl, rfl⟩ (ConvH.of (.cons r3 .nil))
 replace hl0 := iff_ (and_g g78_11 w83) hl0
 conv => whnf
 refine draw_go_F ⟨⟨[], false⟩, _, [(_, _), (_, _)]⟩ 16 rfl (by kernel_rfl) ⟨Hp.Le.refl _, (ConvH.of (.cons r1 (.cons r0 .nil)))⟩ ?_
 conv => whnf
 refine Jb rfl ?_
 conv => whnf
 refine load1_l m0 rfl rfl ?_
 conv => whnf
 refine eq_int ?_
 obtain ⟨x99, e99, hl0⟩ := bnd hl0
 conv => whnf
 refine cond_s (fun g87_13 => ?_) (fun g87_13 => ?_)
 replace e99 := ift g87_13 e99
 conv => whnf
 refine Jb rfl ?_
 conv => whnf
 refine cond_t g87_13 ?_
 conv => whnf
 refine load1_l m1 rfl rfl ?_
 conv => whnf
 refine cond_t g87_13 ?_
 conv => whnf
 refine Jb rfl ?_
 conv => whnf
 refine cond_t g87_13 ?_
 conv => whnf
 refine load1_l m0 rfl rfl ?_
 conv => whnf
 refine cond_t g87_13 ?_
 conv => whnf
 refine bsA (len := 1) (cl := [.int .i64 e0.N]) elT81 rfl rfl ?_ fun b92 => ?_
 ·conv => whnf
  refine cond_T ?_
  conv => whnf
  first | done | rfl
 conv => whnf
 refine cond_t g87_13 ?_
 conv => whnf
 intro GG9
 obtain ⟨x93, q93, e99⟩ := bnd e99
 conv => whnf
 refine litF (enc := eN) (sz := 1) (l := [e0.N]) Tryz.call38 r0 rfl (fun _ _ => rfl) rfl (Nat.le_of_ble_eq_true rfl) ?_
 refine call_fn (Fn.lend Tryz.call38 (fun K93_1 l93_1 f93_1 => (JbV q93 (h49_0.mono l93_1) rfl f93_1 rfl)) (by exact fun _ _ _ _ h => h)) (.cons r0 .nil) ?_
 rintro _ K93 _ l93 ⟨_, rfl, a93_0, c93_0, rfl, h93_0, rfl⟩
 conv => whnf
 refine ⟨⟨l93, (ConvH.of (.cons r3 (.cons r2 .nil)))⟩, ?_⟩
 refine ⟨_, .cons r6 .nil, ⟨l93, (ConvH.of (.cons r3 (.cons r2 .nil)))⟩, ?_⟩
 conv => whnf
 refine cond_t g87_13 ?_
 conv => whnf
 refine Jb rfl ?_
 conv => whnf
 refine cond_t g87_13 ?_
 conv => whnf
 refine load1_l m0 rfl rfl ?_
 conv => whnf
 refine cond_t g87_13 ?_
 conv => whnf
 refine bsA (len := 1) (cl := [.int .i64 e0.N]) elT81 rfl rfl ?_ fun b96 => ?_
 ·conv => whnf
  refine cond_T ?_
  conv => whnf
  first | done | rfl
 conv => whnf
 refine cond_t g87_13 ?_
 conv => whnf
 intro GG13
 obtain ⟨x97, q97, e99⟩ := bnd e99
 conv => whnf
 refine litF (enc := eN) (sz := 1) (l := [e0.N]) Tryz.call37 r0 rfl (fun _ _ => rfl) rfl (Nat.le_of_ble_eq_true rfl) ?_
 refine call_fn (Fn.lend Tryz.call37 (fun K97_0 l97_0 f97_0 => (Fn.lend Tryz.call37 (fun K97_1 l97_1 f97_1 => (Jcf q97 (f97_0.mono l97_1) rfl f97_1 rfl)) (by exact fun _ _ _ _ h => h))) (by exact fun _ _ _ _ h => h)) (.cons r2 (.cons r0 .nil)) ?_
 rintro _ K97 _ l97 ⟨_, rfl, _, rfl, rfl, rfl⟩
 conv => whnf
 refine ⟨⟨(l93.trans l97), (ConvH.of (.cons r4 (.cons r3 .nil)))⟩, ?_⟩
 refine ⟨_, .cons r7 .nil, ⟨(l93.trans l97), (ConvH.of (.cons r4 (.cons r3 .nil)))⟩, ?_⟩
 conv => whnf
 refine cond_t g87_13 ?_
 conv => whnf
 refine un_not ?_
 conv => whnf
 refine cond_t g87_13 ?_
 conv => whnf
 refine cond_go rfl ?_
 conv => whnf
 refine cond_s (fun w99 => ?_) (fun w99 => ?_)
 replace hl0 := ift ((si e99).symm.trans (not_t (ni_t w99))) hl0
 obtain rfl := si hl0
 replace hm := elr hm
 obtain rfl := si hm
 conv => whnf
 refine EndStep.mk _ (((lk0.trans l42).trans l93).trans l97) ⟨rfl, rfl⟩ (ConvH.of (.cons r6 .nil))
 replace hl0 := iff_ ((si e99).symm.trans (not_f (ni_f w99))) hl0
 conv => whnf
 refine draw_go ⟨⟨[], false⟩, _, [(_, _)]⟩ (by kernel_rfl) ⟨Hp.Le.refl _, (ConvH.of (.cons r3 .nil))⟩ ?_
 conv => whnf
 refine Jb rfl ?_
 conv => whnf
 refine load1_l m0 rfl rfl ?_
 obtain ⟨h103, hl0⟩ := chkb hl0
 conv => whnf
 refine int_in h103 ?_
 obtain ⟨h105, hl0⟩ := chkb hl0
 conv => whnf
 refine int_in h105 ?_
 conv => whnf
 refine Jb rfl ?_
 conv => whnf
 refine load1_l m0 rfl rfl ?_
 conv => whnf
 refine Jb rfl ?_
 conv => whnf
 refine RStep.of (load1_s r4 rfl rfl ?_)
 conv => whnf
 refine eq_int ?_
 obtain ⟨s905, hl905, hl0⟩ := bnd hl0
 conv => whnf
 refine code_cut (σ := ((List Int)) × Option Addr × Nat) [13, 111, 112, 113, 114] (fun (t905, t905_a0, t905_c0) => [(13, .slice t905_a0 t905.length t905_c0)]) (fun (t905, t905_a0, t905_c0) => [OwnL eN a93_0 3 1 c93_0 x93, OwnL eN (some ⟨b96, 0, none⟩) 3 1 ([e0.N].length) [e0.N], OwnL eN (some ⟨b92, 0, none⟩) 3 1 ([e0.N].length) [e0.N], Cells b11 83 [.bool x48.reached, .int .i64 x48.depth, .slice a49_0 x48.stored.length c49_0], Cells b7 73 [.int .i64 e0.Op, .int .i64 e0.N, str e0.S], OwnA (some ⟨b29, 0, none⟩) 83 3 (Int.toNat ((code.length : Int) + 1)) y0_s1, F]) (fun zz K1 => match zz with | (t905, t905_a0, t905_c0) => RdC eN K1 t905_a0 t905_c0 1 t905 ∧ t905 = s905) ?_ ?_
 refine cond_go rfl ?_
 conv => whnf
 refine cond_s (fun w110 => ?_) (fun w110 => ?_)
 replace hl905 := ift w110 hl905
 conv => whnf
 refine Jb rfl ?_
 conv => whnf
 refine RStep.of (load1_s r4 rfl rfl ?_)
 obtain ⟨x114, q114, hl905⟩ := bnd hl905
 conv => whnf
 refine call_fn (Jbu (n' := e0.N) q114 (h49_0.mono (l93.trans l97)) rfl) .nil ?_
 rintro _ K114 _ l114 ⟨a114_0, c114_0, rfl, h114_0, rfl⟩
 conv => whnf
 refine fMe r0 fun Kr905_0 lr905_0 fr905_0 => ?_
 refine MeetStep.mk (x114, a114_0, c114_0) ⟨rfl, trivial⟩ (by repeat (first | exact trivial | refine And.intro rfl ?_)) (ConvH.of (.cons r0 (.cons r0 (.cons r0 (.cons r0 (.cons r0 (.cons r0 (.cons r0 .nil)))))))) (l114.trans lr905_0) ⟨fr905_0, (si hl905)⟩
 replace hl905 := iff_ w110 hl905
 conv => whnf
 refine MeetStep.mk (x48.stored, a49_0, c49_0) ⟨rfl, trivial⟩ (by repeat (first | exact trivial | refine And.intro rfl ?_)) (ConvH.of (.cons r0 (.cons r0 (.cons r0 (.cons r0 (.cons r0 (.cons r0 (.cons r0 .nil)))))))) (Hp.Le.refl _) ⟨(h49_0.mono (l93.trans l97)), (si hl905)⟩
 rintro ⟨t905, t905_a0, t905_c0⟩ Kt905 lt905 ⟨t905_h0, rfl⟩ j905
 conv => whnf
 refine Jb rfl ?_
 conv => whnf
 refine RStep.of (load1_s r3 rfl rfl ?_)
 conv => whnf
 refine RStep.of (max3_int ?_)
 conv => whnf
 refine int_in (cntz hx0 hk0) ?_
 conv => whnf
 refine bsO (len := 1) (enc := eN) (l := [((i0 : Int) + 1)]) (cl := [.int .i64 ((i0 : Int) + 1)]) elT81 rfl rfl (fun _ _ => rfl) rfl rfl rfl ?_ fun b122 => ?_
 ·conv => whnf
  refine cond_T ?_
  conv => whnf
  first | done | rfl
 conv => whnf
 refine Jb rfl ?_
 conv => whnf
 refine RStep.of (load1_s r5 rfl rfl ?_)
 conv => whnf
 refine eq_int ?_
 obtain ⟨s907, hl907, hl0⟩ := bnd hl0
 conv => whnf
 refine code_cut (σ := ((List Int)) × Option Addr × Nat) [14, 126, 127, 128] (fun (t907, t907_a0, t907_c0) => [(14, .slice t907_a0 t907.length t907_c0)]) (fun (t907, t907_a0, t907_c0) => [OwnL eN t907_a0 3 1 t907_c0 t907, OwnL eN a93_0 3 1 c93_0 x93, OwnL eN (some ⟨b96, 0, none⟩) 3 1 ([e0.N].length) [e0.N], OwnL eN (some ⟨b92, 0, none⟩) 3 1 ([e0.N].length) [e0.N], Cells b11 83 [.bool x48.reached, .int .i64 x48.depth, .slice a49_0 x48.stored.length c49_0], Cells b7 73 [.int .i64 e0.Op, .int .i64 e0.N, str e0.S], OwnA (some ⟨b29, 0, none⟩) 83 3 (Int.toNat ((code.length : Int) + 1)) y0_s1, F]) (fun zz K1 => match zz with | (t907, t907_a0, t907_c0) => (0 < t907.length → Has t907_a0) ∧ t907 = s907) ?_ ?_
 refine cond_go rfl ?_
 conv => whnf
 refine cond_s (fun w125 => ?_) (fun w125 => ?_)
 replace hl907 := ift w125 hl907
 conv => whnf
 refine Jb rfl ?_
 conv => whnf
 refine RStep.of (load1_s r5 rfl rfl ?_)
 conv => whnf
 refine bsO (len := 1) (enc := eN) (l := [e0.N]) (cl := [.int .i64 e0.N]) elT81 rfl rfl (fun _ _ => rfl) rfl rfl rfl ?_ fun b128 => ?_
 ·conv => whnf
  refine cond_T ?_
  conv => whnf
  first | done | rfl
 conv => whnf
 refine MeetStep.mk ([e0.N], (some ⟨b128, 0, none⟩), 1) ⟨rfl, trivial⟩ (by repeat (first | exact trivial | refine And.intro rfl ?_)) (ConvH.of (.cons r0 (.cons r1 (.cons r1 (.cons r1 (.cons r1 (.cons r1 (.cons r1 (.cons r1 .nil))))))))) (Hp.Le.refl _) ⟨(fun _ => ⟨_, _, rfl⟩), (si hl907)⟩
 replace hl907 := iff_ w125 hl907
 conv => whnf
 refine MeetStep.mk ([((i0 : Int) + 1)], (some ⟨b122, 0, none⟩), 1) ⟨rfl, trivial⟩ (by repeat (first | exact trivial | refine And.intro rfl ?_)) (ConvH.of (.cons r0 (.cons r0 (.cons r0 (.cons r0 (.cons r0 (.cons r0 (.cons r0 (.cons r0 .nil))))))))) (Hp.Le.refl _) ⟨(fun _ => ⟨_, _, rfl⟩), (si hl907)⟩
 rintro ⟨t907, t907_a0, t907_c0⟩ Kt907 lt907 ⟨t907_h0, rfl⟩ j907
 conv => whnf
 refine Jb rfl ?_
 conv => whnf
 refine RStep.of (load1_s r5 rfl rfl ?_)
 conv => whnf
 refine eq_int ?_
 obtain ⟨s909, hl909, hl0⟩ := bnd hl0
 conv => whnf
 refine code_cut (σ := ((List Int)) × Option Addr × Nat) [14, 132, 133, 134, 135, 136] (fun (t909, t909_a0, t909_c0) => [(14, .slice t909_a0 t909.length t909_c0)]) (fun (t909, t909_a0, t909_c0) => [OwnL eN t909_a0 3 1 t909_c0 t909, OwnL eN a93_0 3 1 c93_0 x93, OwnL eN (some ⟨b96, 0, none⟩) 3 1 ([e0.N].length) [e0.N], OwnL eN (some ⟨b92, 0, none⟩) 3 1 ([e0.N].length) [e0.N], Cells b11 83 [.bool x48.reached, .int .i64 x48.depth, .slice a49_0 x48.stored.length c49_0], Cells b7 73 [.int .i64 e0.Op, .int .i64 e0.N, str e0.S], OwnA (some ⟨b29, 0, none⟩) 83 3 (Int.toNat ((code.length : Int) + 1)) y0_s1, F]) (fun zz K1 => match zz with | (t909, t909_a0, t909_c0) => (0 < t909.length → Has t909_a0) ∧ t909 = s909) ?_ ?_
 refine cond_go rfl ?_
 conv => whnf
 refine cond_s (fun w131 => ?_) (fun w131 => ?_)
 replace hl909 := ift w131 hl909
 conv => whnf
 refine Jb rfl ?_
 conv => whnf
 refine RStep.of (load1_s r5 rfl rfl ?_)
 conv => whnf
 refine bsO (len := 1) (enc := eN) (l := [e0.N]) (cl := [.int .i64 e0.N]) elT81 rfl rfl (fun _ _ => rfl) rfl rfl rfl ?_ fun b135 => ?_
 ·conv => whnf
  refine cond_T ?_
  conv => whnf
  first | done | rfl
 obtain ⟨h136, hl909⟩ := chkb hl909
 conv => whnf
 refine apE rfl r1 elT81 (src_own' rfl r0 rfl (fun _ => rfl) (fun _ => rfl)) h136 ?_
 intro a136 c136 o136
 conv => whnf
 refine MeetStep.mk ((t907 ++ [e0.N]), a136, c136) ⟨rfl, trivial⟩ (by repeat (first | exact trivial | refine And.intro rfl ?_)) (ConvH.of (.cons r0 (.cons r1 (.cons r1 (.cons r1 (.cons r1 (.cons r1 (.cons r1 (.cons r1 .nil))))))))) (Hp.Le.refl _) ⟨o136, (si hl909)⟩
 replace hl909 := iff_ w131 hl909
 conv => whnf
 refine MeetStep.mk (t907, t907_a0, t907_c0) ⟨rfl, trivial⟩ (by repeat (first | exact trivial | refine And.intro rfl ?_)) (ConvH.of (.cons r0 (.cons r0 (.cons r0 (.cons r0 (.cons r0 (.cons r0 (.cons r0 (.cons r0 .nil))))))))) (Hp.Le.refl _) ⟨t907_h0, (si hl909)⟩
 rintro ⟨t909, t909_a0, t909_c0⟩ Kt909 lt909 ⟨t909_h0, rfl⟩ j909
 conv => whnf
 refine RStep.of (len_slice rfl ?_)
 obtain ⟨hk2, hl0⟩ := chkb hl0
 obtain ⟨s2, hl2, hl0⟩ := bnd hl0
 conv => whnf
 refine code_cut (σ := ((List Jk)) × List (List Value)) [2, 3, 16, 17, 139, 140, 141, 142, 143, 144, 145, 146, 147, 148, 149, 150, 151, 152, 153, 154, 155, 156, 157, 158, 159, 160, 161, 162, 163, 164, 165, 166, 167, 168, 169, 170, 171, 172] (fun (t2, t2_s0) => []) (fun (t2, t2_s0) => [OwnL eN t909_a0 3 1 t909_c0 t909, OwnL eN a93_0 3 1 c93_0 x93, OwnL eN (some ⟨b96, 0, none⟩) 3 1 ([e0.N].length) [e0.N], OwnL eN (some ⟨b92, 0, none⟩) 3 1 ([e0.N].length) [e0.N], Cells b11 83 [.bool x48.reached, .int .i64 x48.depth, .slice a49_0 x48.stored.length c49_0], Cells b7 73 [.int .i64 e0.Op, .int .i64 e0.N, str e0.S], OwnA (some ⟨b29, 0, none⟩) 83 3 (Int.toNat ((code.length : Int) + 1)) t2_s0, F]) (fun zz K1 => match zz with | (t2, t2_s0) => LR Jk.R K1 t2_s0 t2 ∧ (0 < t2.length → Has (some ⟨b29, 0, none⟩)) ∧ (Int.toNat ((code.length : Int) + 1)) = t2.length ∧ s2 = Fl.go t2) ?_ ?_
 refine block_go rfl ?_
 conv => whnf
 refine loop_rule (σ := Nat × (List Jk) × List (List Value)) [2, 3, 16, 17, 139, 140, 141, 142, 143, 144, 145, 146, 147, 148, 149, 150, 151, 152, 153, 154, 155, 156, 157, 158, 159, 160, 161, 162, 163, 164, 165, 166, 167, 168, 169, 170, 171, 172] (fun (i2, y2_0, y2_s0) => [(139, .int .i64 (i2 : Int))]) (fun (i2, y2_0, y2_s0) => [OwnL eN t909_a0 3 1 t909_c0 t909, OwnL eN a93_0 3 1 c93_0 x93, OwnL eN (some ⟨b96, 0, none⟩) 3 1 ([e0.N].length) [e0.N], OwnL eN (some ⟨b92, 0, none⟩) 3 1 ([e0.N].length) [e0.N], Cells b11 83 [.bool x48.reached, .int .i64 x48.depth, .slice a49_0 x48.stored.length c49_0], Cells b7 73 [.int .i64 e0.Op, .int .i64 e0.N, str e0.S], OwnA (some ⟨b29, 0, none⟩) 83 3 (Int.toNat ((code.length : Int) + 1)) y2_s0, F]) (fun zz K1 => match zz with | (i2, y2_0, y2_s0) => LR Jk.R K1 y2_s0 y2_0 ∧ (0 < y2_0.length → Has (some ⟨b29, 0, none⟩)) ∧ (Int.toNat ((code.length : Int) + 1)) = y2_0.length ∧ Jw i0 code e0 x48 x42 t905 (t909.drop i2) i2 y2_0 = some s2) (fun zz => t909.length - zz.1) (0, y0_1, y0_s1) rfl ⟨rfl, trivial⟩ (ConvH.of (.cons r0 (.cons r0 (.cons r0 (.cons r0 (.cons r0 (.cons r0 (.cons r0 (.cons r0 .nil))))))))) ⟨(LR.mono Jk.R_ok (((((l42.trans l93).trans l97).trans lt905).trans lt907).trans lt909) y0_r1), y0_h1, y0_n1, hl2⟩ ?_
 clear hl2
 rintro ⟨i2, y2_0, y2_s0⟩ Kb2 lk2 ⟨y2_r0, y2_h0, y2_n0, hl2⟩ j2
 conv => whnf
 refine cond_go rfl ?_
 conv => whnf
 refine cond_s (fun w2 => ?_) (fun w2 => ?_)
 obtain ⟨e2, hx2, hd2⟩ := ltx w2
 rw [hd2, Jw.eq_2] at hl2
 conv => whnf
 refine block_go rfl ?_
 conv => whnf
 refine RStep.ofN (index_addr rfl rfl (hasO t909_h0 hx2) (nn _) (lt_ofNE rfl hx2) ?_)
 conv => whnf
 refine RStep.of (ld_own (i := i2) (o := 0) r0 rfl hx2 rfl rfl ?_)
 conv => whnf
 refine cond_s (fun g146_27 => ?_) (fun g146_27 => ?_)
 replace hl2 := ift g146_27 hl2
 conv => whnf
 refine cond_t g146_27 ?_
 conv => whnf
 refine cond_t g146_27 ?_
 conv => whnf
 refine cond_t g146_27 ?_
 conv => whnf
 refine cond_t g146_27 ?_
 conv => whnf
 refine cond_t g146_27 ?_
 conv => whnf
 refine cond_t g146_27 ?_
 conv => whnf
 refine cond_go rfl ?_
 conv => whnf
 refine cond_T ?_
 obtain rfl := si hl2
 replace hl0 := elr hl0
 obtain rfl := si hl0
 replace hm := elr hm
 obtain rfl := si hm
 conv => whnf
 refine EndStep.mk _ (((((((lk0.trans l42).trans l93).trans l97).trans lt905).trans lt907).trans lt909).trans lk2) ⟨rfl, rfl⟩ (ConvH.of (.cons r7 .nil))
 replace hl2 := iff_ g146_27 hl2
 conv => whnf
 refine cond_f g146_27 ?_
 conv => whnf
 refine cond_f g146_27 ?_
 conv => whnf
 refine RStep.of (len_slice rfl ?_)
 conv => whnf
 refine cond_f g146_27 ?_
 conv => whnf
 refine cond_f g146_27 ?_
 conv => whnf
 refine cond_s (fun g151_27 => ?_) (fun g151_27 => ?_)
 conv => whnf
 refine Jb rfl ?_
 conv => whnf
 refine cond_t g151_27 ?_
 conv => whnf
 refine RStep.of (load1_s r5 rfl rfl ?_)
 conv => whnf
 refine cond_t g151_27 ?_
 conv => whnf
 refine neq_int ?_
 conv => whnf
 refine cond_f g146_27 ?_
 conv => whnf
 refine cond_t g151_27 ?_
 conv => whnf
 refine cond_f g146_27 ?_
 conv => whnf
 refine cond_go rfl ?_
 conv => whnf
 refine cond_s (fun w156 => ?_) (fun w156 => ?_)
 replace hl2 := ift (and_t g151_27 w156) hl2
 obtain rfl := si hl2
 replace hl0 := elr hl0
 obtain rfl := si hl0
 replace hm := elr hm
 obtain rfl := si hm
 conv => whnf
 refine EndStep.mk _ (((((((lk0.trans l42).trans l93).trans l97).trans lt905).trans lt907).trans lt909).trans lk2) ⟨rfl, rfl⟩ (ConvH.of (.cons r7 .nil))
 replace hl2 := iff_ (and_g g151_27 w156) hl2
 obtain ⟨x162, l162, k162, hl2⟩ := ixb hl2
 conv => whnf
 refine RStep.ofN (index_addr rfl rfl (hasO y2_h0 k162) l162 (lt_ofE y2_n0 l162 k162) ?_)
 obtain ⟨cc163, hc163, hR163⟩ := LR.get y2_r0 k162
 obtain ⟨a163_0, c163_0, rfl, h163_0⟩ := hR163
 conv => whnf
 refine RStep.of (ldnA (i := (e2).toNat) r6 rfl hc163 rfl ?_)
 obtain ⟨x166, q166, hl2⟩ := bnd hl2
 conv => whnf
 refine call_fn (Jax (s := x162) (depth := ((x48.depth - x42.1) + x42.2.1)) q166 h163_0 (t905_h0.mono ((lt907.trans lt909).trans lk2)) rfl) .nil ?_
 rintro _ K166 _ l166 ⟨a166_0, c166_0, rfl, h166_0, rfl⟩
 obtain ⟨x169, l169, k169, hl2⟩ := ixb hl2
 conv => whnf
 refine RStep.ofN (index_addr rfl rfl (hasO y2_h0 k169) l169 (lt_ofE y2_n0 l169 k169) ?_)
 obtain ⟨ccw12, hcw12, _⟩ := LR.get (LR.mono Jk.R_ok l166 y2_r0) k169
 conv => whnf
 refine stA0 [.bool x166.1.reached, .int .i64 x166.1.depth, .slice a166_0 x166.1.stored.length c166_0] r6 rfl hcw12 rfl (by (conv => whnf); exact ⟨rfl, rfl, rfl, rfl⟩) ?_
 conv => whnf
 refine un_not ?_
 conv => whnf
 refine cond_go rfl ?_
 conv => whnf
 refine cond_s (fun w171 => ?_) (fun w171 => ?_)
 replace hl2 := ift (not_t (ni_t w171)) hl2
 obtain rfl := si hl2
 replace hl0 := elr hl0
 obtain rfl := si hl0
 replace hm := elr hm
 obtain rfl := si hm
 conv => whnf
 refine EndStep.mk _ ((((((((lk0.trans l42).trans l93).trans l97).trans lt905).trans lt907).trans lt909).trans lk2).trans l166) ⟨rfl, rfl⟩ (ConvH.of (.cons r7 .nil))
 replace hl2 := iff_ (not_f (ni_f w171)) hl2
 conv => whnf
 refine int_in (cntz hx2 hk2) ?_
 conv => whnf
 refine RoundStep.mk (i2 + 1, (y2_0.set ((e2).toNat) x166.1), (y2_s0.set ((e2).toNat) [.bool x166.1.reached, .int .i64 x166.1.depth, .slice a166_0 x166.1.stored.length c166_0])) ⟨rfl, trivial⟩ (by repeat (first | exact trivial | refine And.intro rfl ?_)) (ConvH.of (.cons r1 (.cons r1 (.cons r1 (.cons r1 (.cons r1 (.cons r1 (.cons r0 (.cons r0 .nil))))))))) (lk2.trans l166) (ltm hx2) ⟨(LR.set (LR.mono Jk.R_ok l166 y2_r0) ⟨a166_0, c166_0, rfl, h166_0⟩), (by first | simpa using y2_h0 | exact fun _ => ⟨_, _, rfl⟩), ((y2_n0).trans List.length_set.symm), hl2⟩
 conv => whnf
 refine cond_f g151_27 ?_
 conv => whnf
 refine cond_f g151_27 ?_
 conv => whnf
 refine cond_f g146_27 ?_
 conv => whnf
 refine cond_f g151_27 ?_
 conv => whnf
 refine cond_f g146_27 ?_
 conv => whnf
 refine cond_go rfl ?_
 conv => whnf
 refine cond_F ?_
 replace hl2 := iff_ (and_f g151_27) hl2
 obtain ⟨x162, l162, k162, hl2⟩ := ixb hl2
 conv => whnf
 refine RStep.ofN (index_addr rfl rfl (hasO y2_h0 k162) l162 (lt_ofE y2_n0 l162 k162) ?_)
 obtain ⟨cc163, hc163, hR163⟩ := LR.get y2_r0 k162
 obtain ⟨a163_0, c163_0, rfl, h163_0⟩ := hR163
 conv => whnf
 refine RStep.of (ldnA (i := (e2).toNat) r6 rfl hc163 rfl ?_)
 obtain ⟨x166, q166, hl2⟩ := bnd hl2
 conv => whnf
 refine call_fn (Jax (s := x162) (depth := ((x48.depth - x42.1) + x42.2.1)) q166 h163_0 (t905_h0.mono ((lt907.trans lt909).trans lk2)) rfl) .nil ?_
 rintro _ K166 _ l166 ⟨a166_0, c166_0, rfl, h166_0, rfl⟩
 obtain ⟨x169, l169, k169, hl2⟩ := ixb hl2
 conv => whnf
 refine RStep.ofN (index_addr rfl rfl (hasO y2_h0 k169) l169 (lt_ofE y2_n0 l169 k169) ?_)
 obtain ⟨ccw14, hcw14, _⟩ := LR.get (LR.mono Jk.R_ok l166 y2_r0) k169
 conv => whnf
 refine stA0 [.bool x166.1.reached, .int .i64 x166.1.depth, .slice a166_0 x166.1.stored.length c166_0] r6 rfl hcw14 rfl (by (conv => whnf); exact ⟨rfl, rfl, rfl, rfl⟩) ?_
 conv => whnf
 refine un_not ?_
 conv => whnf
 refine cond_go rfl ?_
 conv => whnf
 refine cond_s (fun w171 => ?_) (fun w171 => ?_)
 replace hl2 := ift (not_t (ni_t w171)) hl2
 obtain rfl := si hl2
 replace hl0 := elr hl0
 obtain rfl := si hl0
 replace hm := elr hm
 obtain rfl := si hm
 conv => whnf
 refine EndStep.mk _ ((((((((lk0.trans l42).trans l93).trans l97).trans lt905).trans lt907).trans lt909).trans lk2).trans l166) ⟨rfl, rfl⟩ (ConvH.of (.cons r7 .nil))
 replace hl2 := iff_ (not_f (ni_f w171)) hl2
 conv => whnf
 refine int_in (cntz hx2 hk2) ?_
 conv => whnf
 refine RoundStep.mk (i2 + 1, (y2_0.set ((e2).toNat) x166.1), (y2_s0.set ((e2).toNat) [.bool x166.1.reached, .int .i64 x166.1.depth, .slice a166_0 x166.1.stored.length c166_0])) ⟨rfl, trivial⟩ (by repeat (first | exact trivial | refine And.intro rfl ?_)) (ConvH.of (.cons r1 (.cons r1 (.cons r1 (.cons r1 (.cons r1 (.cons r1 (.cons r0 (.cons r0 .nil))))))))) (lk2.trans l166) (ltm hx2) ⟨(LR.set (LR.mono Jk.R_ok l166 y2_r0) ⟨a166_0, c166_0, rfl, h166_0⟩), (by first | simpa using y2_h0 | exact fun _ => ⟨_, _, rfl⟩), ((y2_n0).trans List.length_set.symm), hl2⟩
 rw [lty w2, Jw.eq_1] at hl2
 conv => whnf
 refine cond_T ?_
 conv => whnf
 refine MeetStep.mk (y2_0, y2_s0) trivial (by repeat (first | exact trivial | refine And.intro rfl ?_)) (ConvH.of (.cons r0 (.cons r0 (.cons r0 (.cons r0 (.cons r0 (.cons r0 (.cons r0 (.cons r0 .nil))))))))) lk2 ⟨y2_r0, y2_h0, y2_n0, (si hl2).symm⟩
 rintro ⟨t2, t2_s0⟩ Kt2 lt2 ⟨t2_r0, t2_h0, t2_n0, rfl⟩ j2
 replace hl0 := elg hl0
 conv => whnf
 refine int_in (cntz hx0 hk0) ?_
 conv => whnf
 refine RoundStep.mk (i0 + 1, (max (max y0_0 x48.depth) ((x48.depth - x42.1) + x42.2.1)), t2, t2_s0) ⟨rfl, rfl, trivial⟩ (by repeat (first | exact trivial | refine And.intro rfl ?_)) (ConvH.of (.cons r6 (.cons r6 .nil))) (((((((lk0.trans l42).trans l93).trans l97).trans lt905).trans lt907).trans lt909).trans lt2) (ltm hx0) ⟨t2_r0, t2_h0, t2_n0, hl0⟩
 replace e99 := iff_ g87_13 e99
 conv => whnf
 refine cond_f g87_13 ?_
 conv => whnf
 refine cond_f g87_13 ?_
 conv => whnf
 refine cond_f g87_13 ?_
 conv => whnf
 refine cond_f g87_13 ?_
 conv => whnf
 refine cond_f g87_13 ?_
 conv => whnf
 refine cond_f g87_13 ?_
 conv => whnf
 refine cond_f g87_13 ?_
 conv => whnf
 refine cond_f g87_13 ?_
 conv => whnf
 refine cond_f g87_13 ?_
 conv => whnf
 refine cond_f g87_13 ?_
 conv => whnf
 refine cond_f g87_13 ?_
 conv => whnf
 refine cond_go rfl ?_
 conv => whnf
 refine cond_F ?_
 replace hl0 := iff_ (si e99).symm hl0
 conv => whnf
 refine draw_go ⟨⟨[], false⟩, _, [(_, _)]⟩ (by kernel_rfl) ⟨Hp.Le.refl _, (ConvH.of (.cons r0 .nil))⟩ ?_
 conv => whnf
 refine Jb rfl ?_
 conv => whnf
 refine load1_l m0 rfl rfl ?_
 obtain ⟨h103, hl0⟩ := chkb hl0
 conv => whnf
 refine int_in h103 ?_
 obtain ⟨h105, hl0⟩ := chkb hl0
 conv => whnf
 refine int_in h105 ?_
 conv => whnf
 refine Jb rfl ?_
 conv => whnf
 refine load1_l m0 rfl rfl ?_
 conv => whnf
 refine Jb rfl ?_
 conv => whnf
 refine RStep.of (load1_s r1 rfl rfl ?_)
 conv => whnf
 refine eq_int ?_
 obtain ⟨s916, hl916, hl0⟩ := bnd hl0
 conv => whnf
 refine code_cut (σ := ((List Int)) × Option Addr × Nat) [13, 111, 112, 113, 114] (fun (t916, t916_a0, t916_c0) => [(13, .slice t916_a0 t916.length t916_c0)]) (fun (t916, t916_a0, t916_c0) => [Cells b11 83 [.bool x48.reached, .int .i64 x48.depth, .slice a49_0 x48.stored.length c49_0], Cells b7 73 [.int .i64 e0.Op, .int .i64 e0.N, str e0.S], OwnA (some ⟨b29, 0, none⟩) 83 3 (Int.toNat ((code.length : Int) + 1)) y0_s1, F]) (fun zz K1 => match zz with | (t916, t916_a0, t916_c0) => RdC eN K1 t916_a0 t916_c0 1 t916 ∧ t916 = s916) ?_ ?_
 refine cond_go rfl ?_
 conv => whnf
 refine cond_s (fun w110 => ?_) (fun w110 => ?_)
 replace hl916 := ift w110 hl916
 conv => whnf
 refine Jb rfl ?_
 conv => whnf
 refine RStep.of (load1_s r1 rfl rfl ?_)
 obtain ⟨x114, q114, hl916⟩ := bnd hl916
 conv => whnf
 refine call_fn (Jbu (n' := e0.N) q114 h49_0 rfl) .nil ?_
 rintro _ K114 _ l114 ⟨a114_0, c114_0, rfl, h114_0, rfl⟩
 conv => whnf
 refine fMe r0 fun Kr916_0 lr916_0 fr916_0 => ?_
 refine MeetStep.mk (x114, a114_0, c114_0) ⟨rfl, trivial⟩ (by repeat (first | exact trivial | refine And.intro rfl ?_)) (ConvH.of (.cons r0 (.cons r0 (.cons r0 (.cons r0 .nil))))) (l114.trans lr916_0) ⟨fr916_0, (si hl916)⟩
 replace hl916 := iff_ w110 hl916
 conv => whnf
 refine MeetStep.mk (x48.stored, a49_0, c49_0) ⟨rfl, trivial⟩ (by repeat (first | exact trivial | refine And.intro rfl ?_)) (ConvH.of (.cons r0 (.cons r0 (.cons r0 (.cons r0 .nil))))) (Hp.Le.refl _) ⟨h49_0, (si hl916)⟩
 rintro ⟨t916, t916_a0, t916_c0⟩ Kt916 lt916 ⟨t916_h0, rfl⟩ j916
 conv => whnf
 refine Jb rfl ?_
 conv => whnf
 refine RStep.of (load1_s r0 rfl rfl ?_)
 conv => whnf
 refine RStep.of (max3_int ?_)
 conv => whnf
 refine int_in (cntz hx0 hk0) ?_
 conv => whnf
 refine bsO (len := 1) (enc := eN) (l := [((i0 : Int) + 1)]) (cl := [.int .i64 ((i0 : Int) + 1)]) elT81 rfl rfl (fun _ _ => rfl) rfl rfl rfl ?_ fun b122 => ?_
 ·conv => whnf
  refine cond_T ?_
  conv => whnf
  first | done | rfl
 conv => whnf
 refine Jb rfl ?_
 conv => whnf
 refine RStep.of (load1_s r2 rfl rfl ?_)
 conv => whnf
 refine eq_int ?_
 obtain ⟨s918, hl918, hl0⟩ := bnd hl0
 conv => whnf
 refine code_cut (σ := ((List Int)) × Option Addr × Nat) [14, 126, 127, 128] (fun (t918, t918_a0, t918_c0) => [(14, .slice t918_a0 t918.length t918_c0)]) (fun (t918, t918_a0, t918_c0) => [OwnL eN t918_a0 3 1 t918_c0 t918, Cells b11 83 [.bool x48.reached, .int .i64 x48.depth, .slice a49_0 x48.stored.length c49_0], Cells b7 73 [.int .i64 e0.Op, .int .i64 e0.N, str e0.S], OwnA (some ⟨b29, 0, none⟩) 83 3 (Int.toNat ((code.length : Int) + 1)) y0_s1, F]) (fun zz K1 => match zz with | (t918, t918_a0, t918_c0) => (0 < t918.length → Has t918_a0) ∧ t918 = s918) ?_ ?_
 refine cond_go rfl ?_
 conv => whnf
 refine cond_s (fun w125 => ?_) (fun w125 => ?_)
 replace hl918 := ift w125 hl918
 conv => whnf
 refine Jb rfl ?_
 conv => whnf
 refine RStep.of (load1_s r2 rfl rfl ?_)
 conv => whnf
 refine bsO (len := 1) (enc := eN) (l := [e0.N]) (cl := [.int .i64 e0.N]) elT81 rfl rfl (fun _ _ => rfl) rfl rfl rfl ?_ fun b128 => ?_
 ·conv => whnf
  refine cond_T ?_
  conv => whnf
  first | done | rfl
 conv => whnf
 refine MeetStep.mk ([e0.N], (some ⟨b128, 0, none⟩), 1) ⟨rfl, trivial⟩ (by repeat (first | exact trivial | refine And.intro rfl ?_)) (ConvH.of (.cons r0 (.cons r1 (.cons r1 (.cons r1 (.cons r1 .nil)))))) (Hp.Le.refl _) ⟨(fun _ => ⟨_, _, rfl⟩), (si hl918)⟩
 replace hl918 := iff_ w125 hl918
 conv => whnf
 refine MeetStep.mk ([((i0 : Int) + 1)], (some ⟨b122, 0, none⟩), 1) ⟨rfl, trivial⟩ (by repeat (first | exact trivial | refine And.intro rfl ?_)) (ConvH.of (.cons r0 (.cons r0 (.cons r0 (.cons r0 (.cons r0 .nil)))))) (Hp.Le.refl _) ⟨(fun _ => ⟨_, _, rfl⟩), (si hl918)⟩
 rintro ⟨t918, t918_a0, t918_c0⟩ Kt918 lt918 ⟨t918_h0, rfl⟩ j918
 conv => whnf
 refine Jb rfl ?_
 conv => whnf
 refine RStep.of (load1_s r2 rfl rfl ?_)
 conv => whnf
 refine eq_int ?_
 obtain ⟨s920, hl920, hl0⟩ := bnd hl0
 conv => whnf
 refine code_cut (σ := ((List Int)) × Option Addr × Nat) [14, 132, 133, 134, 135, 136] (fun (t920, t920_a0, t920_c0) => [(14, .slice t920_a0 t920.length t920_c0)]) (fun (t920, t920_a0, t920_c0) => [OwnL eN t920_a0 3 1 t920_c0 t920, Cells b11 83 [.bool x48.reached, .int .i64 x48.depth, .slice a49_0 x48.stored.length c49_0], Cells b7 73 [.int .i64 e0.Op, .int .i64 e0.N, str e0.S], OwnA (some ⟨b29, 0, none⟩) 83 3 (Int.toNat ((code.length : Int) + 1)) y0_s1, F]) (fun zz K1 => match zz with | (t920, t920_a0, t920_c0) => (0 < t920.length → Has t920_a0) ∧ t920 = s920) ?_ ?_
 refine cond_go rfl ?_
 conv => whnf
 refine cond_s (fun w131 => ?_) (fun w131 => ?_)
 replace hl920 := ift w131 hl920
 conv => whnf
 refine Jb rfl ?_
 conv => whnf
 refine RStep.of (load1_s r2 rfl rfl ?_)
 conv => whnf
 refine bsO (len := 1) (enc := eN) (l := [e0.N]) (cl := [.int .i64 e0.N]) elT81 rfl rfl (fun _ _ => rfl) rfl rfl rfl ?_ fun b135 => ?_
 ·conv => whnf
  refine cond_T ?_
  conv => whnf
  first | done | rfl
 obtain ⟨h136, hl920⟩ := chkb hl920
 conv => whnf
 refine apE rfl r1 elT81 (src_own' rfl r0 rfl (fun _ => rfl) (fun _ => rfl)) h136 ?_
 intro a136 c136 o136
 conv => whnf
 refine MeetStep.mk ((t918 ++ [e0.N]), a136, c136) ⟨rfl, trivial⟩ (by repeat (first | exact trivial | refine And.intro rfl ?_)) (ConvH.of (.cons r0 (.cons r1 (.cons r1 (.cons r1 (.cons r1 .nil)))))) (Hp.Le.refl _) ⟨o136, (si hl920)⟩
 replace hl920 := iff_ w131 hl920
 conv => whnf
 refine MeetStep.mk (t918, t918_a0, t918_c0) ⟨rfl, trivial⟩ (by repeat (first | exact trivial | refine And.intro rfl ?_)) (ConvH.of (.cons r0 (.cons r0 (.cons r0 (.cons r0 (.cons r0 .nil)))))) (Hp.Le.refl _) ⟨t918_h0, (si hl920)⟩
 rintro ⟨t920, t920_a0, t920_c0⟩ Kt920 lt920 ⟨t920_h0, rfl⟩ j920
 conv => whnf
 refine RStep.of (len_slice rfl ?_)
 obtain ⟨hk2, hl0⟩ := chkb hl0
 obtain ⟨s2, hl2, hl0⟩ := bnd hl0
 conv => whnf
 refine code_cut (σ := ((List Jk)) × List (List Value)) [2, 3, 16, 17, 139, 140, 141, 142, 143, 144, 145, 146, 147, 148, 149, 150, 151, 152, 153, 154, 155, 156, 157, 158, 159, 160, 161, 162, 163, 164, 165, 166, 167, 168, 169, 170, 171, 172] (fun (t2, t2_s0) => []) (fun (t2, t2_s0) => [OwnL eN t920_a0 3 1 t920_c0 t920, Cells b11 83 [.bool x48.reached, .int .i64 x48.depth, .slice a49_0 x48.stored.length c49_0], Cells b7 73 [.int .i64 e0.Op, .int .i64 e0.N, str e0.S], OwnA (some ⟨b29, 0, none⟩) 83 3 (Int.toNat ((code.length : Int) + 1)) t2_s0, F]) (fun zz K1 => match zz with | (t2, t2_s0) => LR Jk.R K1 t2_s0 t2 ∧ (0 < t2.length → Has (some ⟨b29, 0, none⟩)) ∧ (Int.toNat ((code.length : Int) + 1)) = t2.length ∧ s2 = Fl.go t2) ?_ ?_
 refine block_go rfl ?_
 conv => whnf
 refine loop_rule (σ := Nat × (List Jk) × List (List Value)) [2, 3, 16, 17, 139, 140, 141, 142, 143, 144, 145, 146, 147, 148, 149, 150, 151, 152, 153, 154, 155, 156, 157, 158, 159, 160, 161, 162, 163, 164, 165, 166, 167, 168, 169, 170, 171, 172] (fun (i2, y2_0, y2_s0) => [(139, .int .i64 (i2 : Int))]) (fun (i2, y2_0, y2_s0) => [OwnL eN t920_a0 3 1 t920_c0 t920, Cells b11 83 [.bool x48.reached, .int .i64 x48.depth, .slice a49_0 x48.stored.length c49_0], Cells b7 73 [.int .i64 e0.Op, .int .i64 e0.N, str e0.S], OwnA (some ⟨b29, 0, none⟩) 83 3 (Int.toNat ((code.length : Int) + 1)) y2_s0, F]) (fun zz K1 => match zz with | (i2, y2_0, y2_s0) => LR Jk.R K1 y2_s0 y2_0 ∧ (0 < y2_0.length → Has (some ⟨b29, 0, none⟩)) ∧ (Int.toNat ((code.length : Int) + 1)) = y2_0.length ∧ Jw i0 code e0 x48 x42 t916 (t920.drop i2) i2 y2_0 = some s2) (fun zz => t920.length - zz.1) (0, y0_1, y0_s1) rfl ⟨rfl, trivial⟩ (ConvH.of (.cons r0 (.cons r0 (.cons r0 (.cons r0 (.cons r0 .nil)))))) ⟨(LR.mono Jk.R_ok (((l42.trans lt916).trans lt918).trans lt920) y0_r1), y0_h1, y0_n1, hl2⟩ ?_
 clear hl2
 rintro ⟨i2, y2_0, y2_s0⟩ Kb2 lk2 ⟨y2_r0, y2_h0, y2_n0, hl2⟩ j2
 conv => whnf
 refine cond_go rfl ?_
 conv => whnf
 refine cond_s (fun w2 => ?_) (fun w2 => ?_)
 obtain ⟨e2, hx2, hd2⟩ := ltx w2
 rw [hd2, Jw.eq_2] at hl2
 conv => whnf
 refine block_go rfl ?_
 conv => whnf
 refine RStep.ofN (index_addr rfl rfl (hasO t920_h0 hx2) (nn _) (lt_ofNE rfl hx2) ?_)
 conv => whnf
 refine RStep.of (ld_own (i := i2) (o := 0) r0 rfl hx2 rfl rfl ?_)
 conv => whnf
 refine cond_s (fun g146_27 => ?_) (fun g146_27 => ?_)
 replace hl2 := ift g146_27 hl2
 conv => whnf
 refine cond_t g146_27 ?_
 conv => whnf
 refine cond_t g146_27 ?_
 conv => whnf
 refine cond_t g146_27 ?_
 conv => whnf
 refine cond_t g146_27 ?_
 conv => whnf
 refine cond_t g146_27 ?_
 conv => whnf
 refine cond_t g146_27 ?_
 conv => whnf
 refine cond_go rfl ?_
 conv => whnf
 refine cond_T ?_
 obtain rfl := si hl2
 replace hl0 := elr hl0
 obtain rfl := si hl0
 replace hm := elr hm
 obtain rfl := si hm
 conv => whnf
 refine EndStep.mk _ (((((lk0.trans l42).trans lt916).trans lt918).trans lt920).trans lk2) ⟨rfl, rfl⟩ (ConvH.of (.cons r4 .nil))
 replace hl2 := iff_ g146_27 hl2
 conv => whnf
 refine cond_f g146_27 ?_
 conv => whnf
 refine cond_f g146_27 ?_
 conv => whnf
 refine RStep.of (len_slice rfl ?_)
 conv => whnf
 refine cond_f g146_27 ?_
 conv => whnf
 refine cond_f g146_27 ?_
 conv => whnf
 refine cond_s (fun g151_27 => ?_) (fun g151_27 => ?_)
 conv => whnf
 refine Jb rfl ?_
 conv => whnf
 refine cond_t g151_27 ?_
 conv => whnf
 refine RStep.of (load1_s r2 rfl rfl ?_)
 conv => whnf
 refine cond_t g151_27 ?_
 conv => whnf
 refine neq_int ?_
 conv => whnf
 refine cond_f g146_27 ?_
 conv => whnf
 refine cond_t g151_27 ?_
 conv => whnf
 refine cond_f g146_27 ?_
 conv => whnf
 refine cond_go rfl ?_
 conv => whnf
 refine cond_s (fun w156 => ?_) (fun w156 => ?_)
 replace hl2 := ift (and_t g151_27 w156) hl2
 obtain rfl := si hl2
 replace hl0 := elr hl0
 obtain rfl := si hl0
 replace hm := elr hm
 obtain rfl := si hm
 conv => whnf
 refine EndStep.mk _ (((((lk0.trans l42).trans lt916).trans lt918).trans lt920).trans lk2) ⟨rfl, rfl⟩ (ConvH.of (.cons r4 .nil))
 replace hl2 := iff_ (and_g g151_27 w156) hl2
 obtain ⟨x162, l162, k162, hl2⟩ := ixb hl2
 conv => whnf
 refine RStep.ofN (index_addr rfl rfl (hasO y2_h0 k162) l162 (lt_ofE y2_n0 l162 k162) ?_)
 obtain ⟨cc163, hc163, hR163⟩ := LR.get y2_r0 k162
 obtain ⟨a163_0, c163_0, rfl, h163_0⟩ := hR163
 conv => whnf
 refine RStep.of (ldnA (i := (e2).toNat) r3 rfl hc163 rfl ?_)
 obtain ⟨x166, q166, hl2⟩ := bnd hl2
 conv => whnf
 refine call_fn (Jax (s := x162) (depth := ((x48.depth - x42.1) + x42.2.1)) q166 h163_0 (t916_h0.mono ((lt918.trans lt920).trans lk2)) rfl) .nil ?_
 rintro _ K166 _ l166 ⟨a166_0, c166_0, rfl, h166_0, rfl⟩
 obtain ⟨x169, l169, k169, hl2⟩ := ixb hl2
 conv => whnf
 refine RStep.ofN (index_addr rfl rfl (hasO y2_h0 k169) l169 (lt_ofE y2_n0 l169 k169) ?_)
 obtain ⟨ccw23, hcw23, _⟩ := LR.get (LR.mono Jk.R_ok l166 y2_r0) k169
 conv => whnf
 refine stA0 [.bool x166.1.reached, .int .i64 x166.1.depth, .slice a166_0 x166.1.stored.length c166_0] r3 rfl hcw23 rfl (by (conv => whnf); exact ⟨rfl, rfl, rfl, rfl⟩) ?_
 conv => whnf
 refine un_not ?_
 conv => whnf
 refine cond_go rfl ?_
 conv => whnf
 refine cond_s (fun w171 => ?_) (fun w171 => ?_)
 replace hl2 := ift (not_t (ni_t w171)) hl2
 obtain rfl := si hl2
 replace hl0 := elr hl0
 obtain rfl := si hl0
 replace hm := elr hm
 obtain rfl := si hm
 conv => whnf
 refine EndStep.mk _ ((((((lk0.trans l42).trans lt916).trans lt918).trans lt920).trans lk2).trans l166) ⟨rfl, rfl⟩ (ConvH.of (.cons r4 .nil))
 replace hl2 := iff_ (not_f (ni_f w171)) hl2
 conv => whnf
 refine int_in (cntz hx2 hk2) ?_
 conv => whnf
 refine RoundStep.mk (i2 + 1, (y2_0.set ((e2).toNat) x166.1), (y2_s0.set ((e2).toNat) [.bool x166.1.reached, .int .i64 x166.1.depth, .slice a166_0 x166.1.stored.length c166_0])) ⟨rfl, trivial⟩ (by repeat (first | exact trivial | refine And.intro rfl ?_)) (ConvH.of (.cons r1 (.cons r1 (.cons r1 (.cons r0 (.cons r0 .nil)))))) (lk2.trans l166) (ltm hx2) ⟨(LR.set (LR.mono Jk.R_ok l166 y2_r0) ⟨a166_0, c166_0, rfl, h166_0⟩), (by first | simpa using y2_h0 | exact fun _ => ⟨_, _, rfl⟩), ((y2_n0).trans List.length_set.symm), hl2⟩
 conv => whnf
 refine cond_f g151_27 ?_
 conv => whnf
 refine cond_f g151_27 ?_
 conv => whnf
 refine cond_f g146_27 ?_
 conv => whnf
 refine cond_f g151_27 ?_
 conv => whnf
 refine cond_f g146_27 ?_
 conv => whnf
 refine cond_go rfl ?_
 conv => whnf
 refine cond_F ?_
 replace hl2 := iff_ (and_f g151_27) hl2
 obtain ⟨x162, l162, k162, hl2⟩ := ixb hl2
 conv => whnf
 refine RStep.ofN (index_addr rfl rfl (hasO y2_h0 k162) l162 (lt_ofE y2_n0 l162 k162) ?_)
 obtain ⟨cc163, hc163, hR163⟩ := LR.get y2_r0 k162
 obtain ⟨a163_0, c163_0, rfl, h163_0⟩ := hR163
 conv => whnf
 refine RStep.of (ldnA (i := (e2).toNat) r3 rfl hc163 rfl ?_)
 obtain ⟨x166, q166, hl2⟩ := bnd hl2
 conv => whnf
 refine call_fn (Jax (s := x162) (depth := ((x48.depth - x42.1) + x42.2.1)) q166 h163_0 (t916_h0.mono ((lt918.trans lt920).trans lk2)) rfl) .nil ?_
 rintro _ K166 _ l166 ⟨a166_0, c166_0, rfl, h166_0, rfl⟩
 obtain ⟨x169, l169, k169, hl2⟩ := ixb hl2
 conv => whnf
 refine RStep.ofN (index_addr rfl rfl (hasO y2_h0 k169) l169 (lt_ofE y2_n0 l169 k169) ?_)
 obtain ⟨ccw25, hcw25, _⟩ := LR.get (LR.mono Jk.R_ok l166 y2_r0) k169
 conv => whnf
 refine stA0 [.bool x166.1.reached, .int .i64 x166.1.depth, .slice a166_0 x166.1.stored.length c166_0] r3 rfl hcw25 rfl (by (conv => whnf); exact ⟨rfl, rfl, rfl, rfl⟩) ?_
 conv => whnf
 refine un_not ?_
 conv => whnf
 refine cond_go rfl ?_
 conv => whnf
 refine cond_s (fun w171 => ?_) (fun w171 => ?_)
 replace hl2 := ift (not_t (ni_t w171)) hl2
 obtain rfl := si hl2
 replace hl0 := elr hl0
 obtain rfl := si hl0
 replace hm := elr hm
 obtain rfl := si hm
 conv => whnf
 refine EndStep.mk _ ((((((lk0.trans l42).trans lt916).trans lt918).trans lt920).trans lk2).trans l166) ⟨rfl, rfl⟩ (ConvH.of (.cons r4 .nil))
 replace hl2 := iff_ (not_f (ni_f w171)) hl2
 conv => whnf
 refine int_in (cntz hx2 hk2) ?_
 conv => whnf
 refine RoundStep.mk (i2 + 1, (y2_0.set ((e2).toNat) x166.1), (y2_s0.set ((e2).toNat) [.bool x166.1.reached, .int .i64 x166.1.depth, .slice a166_0 x166.1.stored.length c166_0])) ⟨rfl, trivial⟩ (by repeat (first | exact trivial | refine And.intro rfl ?_)) (ConvH.of (.cons r1 (.cons r1 (.cons r1 (.cons r0 (.cons r0 .nil)))))) (lk2.trans l166) (ltm hx2) ⟨(LR.set (LR.mono Jk.R_ok l166 y2_r0) ⟨a166_0, c166_0, rfl, h166_0⟩), (by first | simpa using y2_h0 | exact fun _ => ⟨_, _, rfl⟩), ((y2_n0).trans List.length_set.symm), hl2⟩
 rw [lty w2, Jw.eq_1] at hl2
 conv => whnf
 refine cond_T ?_
 conv => whnf
 refine MeetStep.mk (y2_0, y2_s0) trivial (by repeat (first | exact trivial | refine And.intro rfl ?_)) (ConvH.of (.cons r0 (.cons r0 (.cons r0 (.cons r0 (.cons r0 .nil)))))) lk2 ⟨y2_r0, y2_h0, y2_n0, (si hl2).symm⟩
 rintro ⟨t2, t2_s0⟩ Kt2 lt2 ⟨t2_r0, t2_h0, t2_n0, rfl⟩ j2
 replace hl0 := elg hl0
 conv => whnf
 refine int_in (cntz hx0 hk0) ?_
 conv => whnf
 refine RoundStep.mk (i0 + 1, (max (max y0_0 x48.depth) ((x48.depth - x42.1) + x42.2.1)), t2, t2_s0) ⟨rfl, rfl, trivial⟩ (by repeat (first | exact trivial | refine And.intro rfl ?_)) (ConvH.of (.cons r3 (.cons r3 .nil))) (((((lk0.trans l42).trans lt916).trans lt918).trans lt920).trans lt2) (ltm hx0) ⟨t2_r0, t2_h0, t2_n0, hl0⟩
 conv => whnf
 refine cond_f g78_11 ?_
 conv => whnf
 refine cond_f g78_11 ?_
 conv => whnf
 refine cond_f g74_11 ?_
 conv => whnf
 refine cond_f g78_11 ?_
 conv => whnf
 refine cond_f g74_11 ?_
 conv => whnf
 refine cond_go rfl ?_
 conv => whnf
 refine cond_F ?_
 replace hl0 := iff_ (and_f g78_11) hl0
 conv => whnf
 refine draw_go_F ⟨⟨[], false⟩, _, [(_, _), (_, _)]⟩ 16 rfl (by kernel_rfl) ⟨Hp.Le.refl _, (ConvH.of (.cons r1 (.cons r0 .nil)))⟩ ?_
 conv => whnf
 refine Jb rfl ?_
 conv => whnf
 refine load1_l m0 rfl rfl ?_
 conv => whnf
 refine eq_int ?_
 obtain ⟨x99, e99, hl0⟩ := bnd hl0
 conv => whnf
 refine cond_s (fun g87_13 => ?_) (fun g87_13 => ?_)
 replace e99 := ift g87_13 e99
 conv => whnf
 refine Jb rfl ?_
 conv => whnf
 refine cond_t g87_13 ?_
 conv => whnf
 refine load1_l m1 rfl rfl ?_
 conv => whnf
 refine cond_t g87_13 ?_
 conv => whnf
 refine Jb rfl ?_
 conv => whnf
 refine cond_t g87_13 ?_
 conv => whnf
 refine load1_l m0 rfl rfl ?_
 conv => whnf
 refine cond_t g87_13 ?_
 conv => whnf
 refine bsA (len := 1) (cl := [.int .i64 e0.N]) elT81 rfl rfl ?_ fun b92 => ?_
 ·conv => whnf
  refine cond_T ?_
  conv => whnf
  first | done | rfl
 conv => whnf
 refine cond_t g87_13 ?_
 conv => whnf
 intro GG9
 obtain ⟨x93, q93, e99⟩ := bnd e99
 conv => whnf
 refine litF (enc := eN) (sz := 1) (l := [e0.N]) Tryz.call38 r0 rfl (fun _ _ => rfl) rfl (Nat.le_of_ble_eq_true rfl) ?_
 refine call_fn (Fn.lend Tryz.call38 (fun K93_1 l93_1 f93_1 => (JbV q93 (h49_0.mono l93_1) rfl f93_1 rfl)) (by exact fun _ _ _ _ h => h)) (.cons r0 .nil) ?_
 rintro _ K93 _ l93 ⟨_, rfl, a93_0, c93_0, rfl, h93_0, rfl⟩
 conv => whnf
 refine ⟨⟨l93, (ConvH.of (.cons r3 (.cons r2 .nil)))⟩, ?_⟩
 refine ⟨_, .cons r6 .nil, ⟨l93, (ConvH.of (.cons r3 (.cons r2 .nil)))⟩, ?_⟩
 conv => whnf
 refine cond_t g87_13 ?_
 conv => whnf
 refine Jb rfl ?_
 conv => whnf
 refine cond_t g87_13 ?_
 conv => whnf
 refine load1_l m0 rfl rfl ?_
 conv => whnf
 refine cond_t g87_13 ?_
 conv => whnf
 refine bsA (len := 1) (cl := [.int .i64 e0.N]) elT81 rfl rfl ?_ fun b96 => ?_
 ·conv => whnf
  refine cond_T ?_
  conv => whnf
  first | done | rfl
 conv => whnf
 refine cond_t g87_13 ?_
 conv => whnf
 intro GG13
 obtain ⟨x97, q97, e99⟩ := bnd e99
 conv => whnf
 refine litF (enc := eN) (sz := 1) (l := [e0.N]) Tryz.call37 r0 rfl (fun _ _ => rfl) rfl (Nat.le_of_ble_eq_true rfl) ?_
 refine call_fn (Fn.lend Tryz.call37 (fun K97_0 l97_0 f97_0 => (Fn.lend Tryz.call37 (fun K97_1 l97_1 f97_1 => (Jcf q97 (f97_0.mono l97_1) rfl f97_1 rfl)) (by exact fun _ _ _ _ h => h))) (by exact fun _ _ _ _ h => h)) (.cons r2 (.cons r0 .nil)) ?_
 rintro _ K97 _ l97 ⟨_, rfl, _, rfl, rfl, rfl⟩
 conv => whnf
 refine ⟨⟨(l93.trans l97), (ConvH.of (.cons r4 (.cons r3 .nil)))⟩, ?_⟩
 refine ⟨_, .cons r7 .nil, ⟨(l93.trans l97), (ConvH.of (.cons r4 (.cons r3 .nil)))⟩, ?_⟩
 conv => whnf
 refine cond_t g87_13 ?_
 conv => whnf
 refine un_not ?_
 conv => whnf
 refine cond_t g87_13 ?_
 conv => whnf
 refine cond_go rfl ?_
 conv => whnf
 refine cond_s (fun w99 => ?_) (fun w99 => ?_)
 replace hl0 := ift ((si e99).symm.trans (not_t (ni_t w99))) hl0
 obtain rfl := si hl0
 replace hm := elr hm
 obtain rfl := si hm
 conv => whnf
 refine EndStep.mk _ (((lk0.trans l42).trans l93).trans l97) ⟨rfl, rfl⟩ (ConvH.of (.cons r6 .nil))
 replace hl0 := iff_ ((si e99).symm.trans (not_f (ni_f w99))) hl0
 conv => whnf
 refine draw_go ⟨⟨[], false⟩, _, [(_, _)]⟩ (by kernel_rfl) ⟨Hp.Le.refl _, (ConvH.of (.cons r3 .nil))⟩ ?_
 conv => whnf
 refine Jb rfl ?_
 conv => whnf
 refine load1_l m0 rfl rfl ?_
 obtain ⟨h103, hl0⟩ := chkb hl0
 conv => whnf
 refine int_in h103 ?_
 obtain ⟨h105, hl0⟩ := chkb hl0
 conv => whnf
 refine int_in h105 ?_
 conv => whnf
 refine Jb rfl ?_
 conv => whnf
 refine load1_l m0 rfl rfl ?_
 conv => whnf
 refine Jb rfl ?_
 conv => whnf
 refine RStep.of (load1_s r4 rfl rfl ?_)
 conv => whnf
 refine eq_int ?_
 obtain ⟨s928, hl928, hl0⟩ := bnd hl0
 conv => whnf
 refine code_cut (σ := ((List Int)) × Option Addr × Nat) [13, 111, 112, 113, 114] (fun (t928, t928_a0, t928_c0) => [(13, .slice t928_a0 t928.length t928_c0)]) (fun (t928, t928_a0, t928_c0) => [OwnL eN a93_0 3 1 c93_0 x93, OwnL eN (some ⟨b96, 0, none⟩) 3 1 ([e0.N].length) [e0.N], OwnL eN (some ⟨b92, 0, none⟩) 3 1 ([e0.N].length) [e0.N], Cells b11 83 [.bool x48.reached, .int .i64 x48.depth, .slice a49_0 x48.stored.length c49_0], Cells b7 73 [.int .i64 e0.Op, .int .i64 e0.N, str e0.S], OwnA (some ⟨b29, 0, none⟩) 83 3 (Int.toNat ((code.length : Int) + 1)) y0_s1, F]) (fun zz K1 => match zz with | (t928, t928_a0, t928_c0) => RdC eN K1 t928_a0 t928_c0 1 t928 ∧ t928 = s928) ?_ ?_
 refine cond_go rfl ?_
 conv => whnf
 refine cond_s (fun w110 => ?_) (fun w110 => ?_)
 replace hl928 := ift w110 hl928
 conv => whnf
 refine Jb rfl ?_
 conv => whnf
 refine RStep.of (load1_s r4 rfl rfl ?_)
 obtain ⟨x114, q114, hl928⟩ := bnd hl928
 conv => whnf
 refine call_fn (Jbu (n' := e0.N) q114 (h49_0.mono (l93.trans l97)) rfl) .nil ?_
 rintro _ K114 _ l114 ⟨a114_0, c114_0, rfl, h114_0, rfl⟩
 conv => whnf
 refine fMe r0 fun Kr928_0 lr928_0 fr928_0 => ?_
 refine MeetStep.mk (x114, a114_0, c114_0) ⟨rfl, trivial⟩ (by repeat (first | exact trivial | refine And.intro rfl ?_)) (ConvH.of (.cons r0 (.cons r0 (.cons r0 (.cons r0 (.cons r0 (.cons r0 (.cons r0 .nil)))))))) (l114.trans lr928_0) ⟨fr928_0, (si hl928)⟩
 replace hl928 := iff_ w110 hl928
 conv => whnf
 refine MeetStep.mk (x48.stored, a49_0, c49_0) ⟨rfl, trivial⟩ (by repeat (first | exact trivial | refine And.intro rfl ?_)) (ConvH.of (.cons r0 (.cons r0 (.cons r0 (.cons r0 (.cons r0 (.cons r0 (.cons r0 .nil)))))))) (Hp.Le.refl _) ⟨(h49_0.mono (l93.trans l97)), (si hl928)⟩
 rintro ⟨t928, t928_a0, t928_c0⟩ Kt928 lt928 ⟨t928_h0, rfl⟩ j928
 conv => whnf
 refine Jb rfl ?_
 conv => whnf
 refine RStep.of (load1_s r3 rfl rfl ?_)
 conv => whnf
 refine RStep.of (max3_int ?_)
 conv => whnf
 refine int_in (cntz hx0 hk0) ?_
 conv => whnf
 refine bsO (len := 1) (enc := eN) (l := [((i0 : Int) + 1)]) (cl := [.int .i64 ((i0 : Int) + 1)]) elT81 rfl rfl (fun _ _ => rfl) rfl rfl rfl ?_ fun b122 => ?_
 ·conv => whnf
  refine cond_T ?_
  conv => whnf
  first | done | rfl
 conv => whnf
 refine Jb rfl ?_
 conv => whnf
 refine RStep.of (load1_s r5 rfl rfl ?_)
 conv => whnf
 refine eq_int ?_
 obtain ⟨s930, hl930, hl0⟩ := bnd hl0
 conv => whnf
 refine code_cut (σ := ((List Int)) × Option Addr × Nat) [14, 126, 127, 128] (fun (t930, t930_a0, t930_c0) => [(14, .slice t930_a0 t930.length t930_c0)]) (fun (t930, t930_a0, t930_c0) => [OwnL eN t930_a0 3 1 t930_c0 t930, OwnL eN a93_0 3 1 c93_0 x93, OwnL eN (some ⟨b96, 0, none⟩) 3 1 ([e0.N].length) [e0.N], OwnL eN (some ⟨b92, 0, none⟩) 3 1 ([e0.N].length) [e0.N], Cells b11 83 [.bool x48.reached, .int .i64 x48.depth, .slice a49_0 x48.stored.length c49_0], Cells b7 73 [.int .i64 e0.Op, .int .i64 e0.N, str e0.S], OwnA (some ⟨b29, 0, none⟩) 83 3 (Int.toNat ((code.length : Int) + 1)) y0_s1, F]) (fun zz K1 => match zz with | (t930, t930_a0, t930_c0) => (0 < t930.length → Has t930_a0) ∧ t930 = s930) ?_ ?_
 refine cond_go rfl ?_
 conv => whnf
 refine cond_s (fun w125 => ?_) (fun w125 => ?_)
 replace hl930 := ift w125 hl930
 conv => whnf
 refine Jb rfl ?_
 conv => whnf
 refine RStep.of (load1_s r5 rfl rfl ?_)
 conv => whnf
 refine bsO (len := 1) (enc := eN) (l := [e0.N]) (cl := [.int .i64 e0.N]) elT81 rfl rfl (fun _ _ => rfl) rfl rfl rfl ?_ fun b128 => ?_
 ·conv => whnf
  refine cond_T ?_
  conv => whnf
  first | done | rfl
 conv => whnf
 refine MeetStep.mk ([e0.N], (some ⟨b128, 0, none⟩), 1) ⟨rfl, trivial⟩ (by repeat (first | exact trivial | refine And.intro rfl ?_)) (ConvH.of (.cons r0 (.cons r1 (.cons r1 (.cons r1 (.cons r1 (.cons r1 (.cons r1 (.cons r1 .nil))))))))) (Hp.Le.refl _) ⟨(fun _ => ⟨_, _, rfl⟩), (si hl930)⟩
 replace hl930 := iff_ w125 hl930
 conv => whnf
 refine MeetStep.mk ([((i0 : Int) + 1)], (some ⟨b122, 0, none⟩), 1) ⟨rfl, trivial⟩ (by repeat (first | exact trivial | refine And.intro rfl ?_)) (ConvH.of (.cons r0 (.cons r0 (.cons r0 (.cons r0 (.cons r0 (.cons r0 (.cons r0 (.cons r0 .nil))))))))) (Hp.Le.refl _) ⟨(fun _ => ⟨_, _, rfl⟩), (si hl930)⟩
 rintro ⟨t930, t930_a0, t930_c0⟩ Kt930 lt930 ⟨t930_h0, rfl⟩ j930
 conv => whnf
 refine Jb rfl ?_
 conv => whnf
 refine RStep.of (load1_s r5 rfl rfl ?_)
 conv => whnf
 refine eq_int ?_
 obtain ⟨s932, hl932, hl0⟩ := bnd hl0
 conv => whnf
 refine code_cut (σ := ((List Int)) × Option Addr × Nat) [14, 132, 133, 134, 135, 136] (fun (t932, t932_a0, t932_c0) => [(14, .slice t932_a0 t932.length t932_c0)]) (fun (t932, t932_a0, t932_c0) => [OwnL eN t932_a0 3 1 t932_c0 t932, OwnL eN a93_0 3 1 c93_0 x93, OwnL eN (some ⟨b96, 0, none⟩) 3 1 ([e0.N].length) [e0.N], OwnL eN (some ⟨b92, 0, none⟩) 3 1 ([e0.N].length) [e0.N], Cells b11 83 [.bool x48.reached, .int .i64 x48.depth, .slice a49_0 x48.stored.length c49_0], Cells b7 73 [.int .i64 e0.Op, .int .i64 e0.N, str e0.S], OwnA (some ⟨b29, 0, none⟩) 83 3 (Int.toNat ((code.length : Int) + 1)) y0_s1, F]) (fun zz K1 => match zz with | (t932, t932_a0, t932_c0) => (0 < t932.length → Has t932_a0) ∧ t932 = s932) ?_ ?_
 refine cond_go rfl ?_
 conv => whnf
 refine cond_s (fun w131 => ?_) (fun w131 => ?_)
 replace hl932 := ift w131 hl932
 conv => whnf
 refine Jb rfl ?_
 conv => whnf
 refine RStep.of (load1_s r5 rfl rfl ?_)
 conv => whnf
 refine bsO (len := 1) (enc := eN) (l := [e0.N]) (cl := [.int .i64 e0.N]) elT81 rfl rfl (fun _ _ => rfl) rfl rfl rfl ?_ fun b135 => ?_
 ·conv => whnf
  refine cond_T ?_
  conv => whnf
  first | done | rfl
 obtain ⟨h136, hl932⟩ := chkb hl932
 conv => whnf
 refine apE rfl r1 elT81 (src_own' rfl r0 rfl (fun _ => rfl) (fun _ => rfl)) h136 ?_
 intro a136 c136 o136
 conv => whnf
 refine MeetStep.mk ((t930 ++ [e0.N]), a136, c136) ⟨rfl, trivial⟩ (by repeat (first | exact trivial | refine And.intro rfl ?_)) (ConvH.of (.cons r0 (.cons r1 (.cons r1 (.cons r1 (.cons r1 (.cons r1 (.cons r1 (.cons r1 .nil))))))))) (Hp.Le.refl _) ⟨o136, (si hl932)⟩
 replace hl932 := iff_ w131 hl932
 conv => whnf
 refine MeetStep.mk (t930, t930_a0, t930_c0) ⟨rfl, trivial⟩ (by repeat (first | exact trivial | refine And.intro rfl ?_)) (ConvH.of (.cons r0 (.cons r0 (.cons r0 (.cons r0 (.cons r0 (.cons r0 (.cons r0 (.cons r0 .nil))))))))) (Hp.Le.refl _) ⟨t930_h0, (si hl932)⟩
 rintro ⟨t932, t932_a0, t932_c0⟩ Kt932 lt932 ⟨t932_h0, rfl⟩ j932
 conv => whnf
 refine RStep.of (len_slice rfl ?_)
 obtain ⟨hk2, hl0⟩ := chkb hl0
 obtain ⟨s2, hl2, hl0⟩ := bnd hl0
 conv => whnf
 refine code_cut (σ := ((List Jk)) × List (List Value)) [2, 3, 16, 17, 139, 140, 141, 142, 143, 144, 145, 146, 147, 148, 149, 150, 151, 152, 153, 154, 155, 156, 157, 158, 159, 160, 161, 162, 163, 164, 165, 166, 167, 168, 169, 170, 171, 172] (fun (t2, t2_s0) => []) (fun (t2, t2_s0) => [OwnL eN t932_a0 3 1 t932_c0 t932, OwnL eN a93_0 3 1 c93_0 x93, OwnL eN (some ⟨b96, 0, none⟩) 3 1 ([e0.N].length) [e0.N], OwnL eN (some ⟨b92, 0, none⟩) 3 1 ([e0.N].length) [e0.N], Cells b11 83 [.bool x48.reached, .int .i64 x48.depth, .slice a49_0 x48.stored.length c49_0], Cells b7 73 [.int .i64 e0.Op, .int .i64 e0.N, str e0.S], OwnA (some ⟨b29, 0, none⟩) 83 3 (Int.toNat ((code.length : Int) + 1)) t2_s0, F]) (fun zz K1 => match zz with | (t2, t2_s0) => LR Jk.R K1 t2_s0 t2 ∧ (0 < t2.length → Has (some ⟨b29, 0, none⟩)) ∧ (Int.toNat ((code.length : Int) + 1)) = t2.length ∧ s2 = Fl.go t2) ?_ ?_
 refine block_go rfl ?_
 conv => whnf
 refine loop_rule (σ := Nat × (List Jk) × List (List Value)) [2, 3, 16, 17, 139, 140, 141, 142, 143, 144, 145, 146, 147, 148, 149, 150, 151, 152, 153, 154, 155, 156, 157, 158, 159, 160, 161, 162, 163, 164, 165, 166, 167, 168, 169, 170, 171, 172] (fun (i2, y2_0, y2_s0) => [(139, .int .i64 (i2 : Int))]) (fun (i2, y2_0, y2_s0) => [OwnL eN t932_a0 3 1 t932_c0 t932, OwnL eN a93_0 3 1 c93_0 x93, OwnL eN (some ⟨b96, 0, none⟩) 3 1 ([e0.N].length) [e0.N], OwnL eN (some ⟨b92, 0, none⟩) 3 1 ([e0.N].length) [e0.N], Cells b11 83 [.bool x48.reached, .int .i64 x48.depth, .slice a49_0 x48.stored.length c49_0], Cells b7 73 [.int .i64 e0.Op, .int .i64 e0.N, str e0.S], OwnA (some ⟨b29, 0, none⟩) 83 3 (Int.toNat ((code.length : Int) + 1)) y2_s0, F]) (fun zz K1 => match zz with | (i2, y2_0, y2_s0) => LR Jk.R K1 y2_s0 y2_0 ∧ (0 < y2_0.length → Has (some ⟨b29, 0, none⟩)) ∧ (Int.toNat ((code.length : Int) + 1)) = y2_0.length ∧ Jw i0 code e0 x48 x42 t928 (t932.drop i2) i2 y2_0 = some s2) (fun zz => t932.length - zz.1) (0, y0_1, y0_s1) rfl ⟨rfl, trivial⟩ (ConvH.of (.cons r0 (.cons r0 (.cons r0 (.cons r0 (.cons r0 (.cons r0 (.cons r0 (.cons r0 .nil))))))))) ⟨(LR.mono Jk.R_ok (((((l42.trans l93).trans l97).trans lt928).trans lt930).trans lt932) y0_r1), y0_h1, y0_n1, hl2⟩ ?_
 clear hl2
 rintro ⟨i2, y2_0, y2_s0⟩ Kb2 lk2 ⟨y2_r0, y2_h0, y2_n0, hl2⟩ j2
 conv => whnf
 refine cond_go rfl ?_
 conv => whnf
 refine cond_s (fun w2 => ?_) (fun w2 => ?_)
 obtain ⟨e2, hx2, hd2⟩ := ltx w2
 rw [hd2, Jw.eq_2] at hl2
 conv => whnf
 refine block_go rfl ?_
 conv => whnf
 refine RStep.ofN (index_addr rfl rfl (hasO t932_h0 hx2) (nn _) (lt_ofNE rfl hx2) ?_)
 conv => whnf
 refine RStep.of (ld_own (i := i2) (o := 0) r0 rfl hx2 rfl rfl ?_)
 conv => whnf
 refine cond_s (fun g146_27 => ?_) (fun g146_27 => ?_)
 replace hl2 := ift g146_27 hl2
 conv => whnf
 refine cond_t g146_27 ?_
 conv => whnf
 refine cond_t g146_27 ?_
 conv => whnf
 refine cond_t g146_27 ?_
 conv => whnf
 refine cond_t g146_27 ?_
 conv => whnf
 refine cond_t g146_27 ?_
 conv => whnf
 refine cond_t g146_27 ?_
 conv => whnf
 refine cond_go rfl ?_
 conv => whnf
 refine cond_T ?_
 obtain rfl := si hl2
 replace hl0 := elr hl0
 obtain rfl := si hl0
 replace hm := elr hm
 obtain rfl := si hm
 conv => whnf
 refine EndStep.mk _ (((((((lk0.trans l42).trans l93).trans l97).trans lt928).trans lt930).trans lt932).trans lk2) ⟨rfl, rfl⟩ (ConvH.of (.cons r7 .nil))
 replace hl2 := iff_ g146_27 hl2
 conv => whnf
 refine cond_f g146_27 ?_
 conv => whnf
 refine cond_f g146_27 ?_
 conv => whnf
 refine RStep.of (len_slice rfl ?_)
 conv => whnf
 refine cond_f g146_27 ?_
 conv => whnf
 refine cond_f g146_27 ?_
 conv => whnf
 refine cond_s (fun g151_27 => ?_) (fun g151_27 => ?_)
 conv => whnf
 refine Jb rfl ?_
 conv => whnf
 refine cond_t g151_27 ?_
 conv => whnf
 refine RStep.of (load1_s r5 rfl rfl ?_)
 conv => whnf
 refine cond_t g151_27 ?_
 conv => whnf
 refine neq_int ?_
 conv => whnf
 refine cond_f g146_27 ?_
 conv => whnf
 refine cond_t g151_27 ?_
 conv => whnf
 refine cond_f g146_27 ?_
 conv => whnf
 refine cond_go rfl ?_
 conv => whnf
 refine cond_s (fun w156 => ?_) (fun w156 => ?_)
 replace hl2 := ift (and_t g151_27 w156) hl2
 obtain rfl := si hl2
 replace hl0 := elr hl0
 obtain rfl := si hl0
 replace hm := elr hm
 obtain rfl := si hm
 conv => whnf
 refine EndStep.mk _ (((((((lk0.trans l42).trans l93).trans l97).trans lt928).trans lt930).trans lt932).trans lk2) ⟨rfl, rfl⟩ (ConvH.of (.cons r7 .nil))
 replace hl2 := iff_ (and_g g151_27 w156) hl2
 obtain ⟨x162, l162, k162, hl2⟩ := ixb hl2
 conv => whnf
 refine RStep.ofN (index_addr rfl rfl (hasO y2_h0 k162) l162 (lt_ofE y2_n0 l162 k162) ?_)
 obtain ⟨cc163, hc163, hR163⟩ := LR.get y2_r0 k162
 obtain ⟨a163_0, c163_0, rfl, h163_0⟩ := hR163
 conv => whnf
 refine RStep.of (ldnA (i := (e2).toNat) r6 rfl hc163 rfl ?_)
 obtain ⟨x166, q166, hl2⟩ := bnd hl2
 conv => whnf
 refine call_fn (Jax (s := x162) (depth := ((x48.depth - x42.1) + x42.2.1)) q166 h163_0 (t928_h0.mono ((lt930.trans lt932).trans lk2)) rfl) .nil ?_
 rintro _ K166 _ l166 ⟨a166_0, c166_0, rfl, h166_0, rfl⟩
 obtain ⟨x169, l169, k169, hl2⟩ := ixb hl2
 conv => whnf
 refine RStep.ofN (index_addr rfl rfl (hasO y2_h0 k169) l169 (lt_ofE y2_n0 l169 k169) ?_)
 obtain ⟨ccw35, hcw35, _⟩ := LR.get (LR.mono Jk.R_ok l166 y2_r0) k169
 conv => whnf
 refine stA0 [.bool x166.1.reached, .int .i64 x166.1.depth, .slice a166_0 x166.1.stored.length c166_0] r6 rfl hcw35 rfl (by (conv => whnf); exact ⟨rfl, rfl, rfl, rfl⟩) ?_
 conv => whnf
 refine un_not ?_
 conv => whnf
 refine cond_go rfl ?_
 conv => whnf
 refine cond_s (fun w171 => ?_) (fun w171 => ?_)
 replace hl2 := ift (not_t (ni_t w171)) hl2
 obtain rfl := si hl2
 replace hl0 := elr hl0
 obtain rfl := si hl0
 replace hm := elr hm
 obtain rfl := si hm
 conv => whnf
 refine EndStep.mk _ ((((((((lk0.trans l42).trans l93).trans l97).trans lt928).trans lt930).trans lt932).trans lk2).trans l166) ⟨rfl, rfl⟩ (ConvH.of (.cons r7 .nil))
 replace hl2 := iff_ (not_f (ni_f w171)) hl2
 conv => whnf
 refine int_in (cntz hx2 hk2) ?_
 conv => whnf
 refine RoundStep.mk (i2 + 1, (y2_0.set ((e2).toNat) x166.1), (y2_s0.set ((e2).toNat) [.bool x166.1.reached, .int .i64 x166.1.depth, .slice a166_0 x166.1.stored.length c166_0])) ⟨rfl, trivial⟩ (by repeat (first | exact trivial | refine And.intro rfl ?_)) (ConvH.of (.cons r1 (.cons r1 (.cons r1 (.cons r1 (.cons r1 (.cons r1 (.cons r0 (.cons r0 .nil))))))))) (lk2.trans l166) (ltm hx2) ⟨(LR.set (LR.mono Jk.R_ok l166 y2_r0) ⟨a166_0, c166_0, rfl, h166_0⟩), (by first | simpa using y2_h0 | exact fun _ => ⟨_, _, rfl⟩), ((y2_n0).trans List.length_set.symm), hl2⟩
 conv => whnf
 refine cond_f g151_27 ?_
 conv => whnf
 refine cond_f g151_27 ?_
 conv => whnf
 refine cond_f g146_27 ?_
 conv => whnf
 refine cond_f g151_27 ?_
 conv => whnf
 refine cond_f g146_27 ?_
 conv => whnf
 refine cond_go rfl ?_
 conv => whnf
 refine cond_F ?_
 replace hl2 := iff_ (and_f g151_27) hl2
 obtain ⟨x162, l162, k162, hl2⟩ := ixb hl2
 conv => whnf
 refine RStep.ofN (index_addr rfl rfl (hasO y2_h0 k162) l162 (lt_ofE y2_n0 l162 k162) ?_)
 obtain ⟨cc163, hc163, hR163⟩ := LR.get y2_r0 k162
 obtain ⟨a163_0, c163_0, rfl, h163_0⟩ := hR163
 conv => whnf
 refine RStep.of (ldnA (i := (e2).toNat) r6 rfl hc163 rfl ?_)
 obtain ⟨x166, q166, hl2⟩ := bnd hl2
 conv => whnf
 refine call_fn (Jax (s := x162) (depth := ((x48.depth - x42.1) + x42.2.1)) q166 h163_0 (t928_h0.mono ((lt930.trans lt932).trans lk2)) rfl) .nil ?_
 rintro _ K166 _ l166 ⟨a166_0, c166_0, rfl, h166_0, rfl⟩
 obtain ⟨x169, l169, k169, hl2⟩ := ixb hl2
 conv => whnf
 refine RStep.ofN (index_addr rfl rfl (hasO y2_h0 k169) l169 (lt_ofE y2_n0 l169 k169) ?_)
 obtain ⟨ccw37, hcw37, _⟩ := LR.get (LR.mono Jk.R_ok l166 y2_r0) k169
 conv => whnf
 refine stA0 [.bool x166.1.reached, .int .i64 x166.1.depth, .slice a166_0 x166.1.stored.length c166_0] r6 rfl hcw37 rfl (by (conv => whnf); exact ⟨rfl, rfl, rfl, rfl⟩) ?_
 conv => whnf
 refine un_not ?_
 conv => whnf
 refine cond_go rfl ?_
 conv => whnf
 refine cond_s (fun w171 => ?_) (fun w171 => ?_)
 replace hl2 := ift (not_t (ni_t w171)) hl2
 obtain rfl := si hl2
 replace hl0 := elr hl0
 obtain rfl := si hl0
 replace hm := elr hm
 obtain rfl := si hm
 conv => whnf
 refine EndStep.mk _ ((((((((lk0.trans l42).trans l93).trans l97).trans lt928).trans lt930).trans lt932).trans lk2).trans l166) ⟨rfl, rfl⟩ (ConvH.of (.cons r7 .nil))
 replace hl2 := iff_ (not_f (ni_f w171)) hl2
 conv => whnf
 refine int_in (cntz hx2 hk2) ?_
 conv => whnf
 refine RoundStep.mk (i2 + 1, (y2_0.set ((e2).toNat) x166.1), (y2_s0.set ((e2).toNat) [.bool x166.1.reached, .int .i64 x166.1.depth, .slice a166_0 x166.1.stored.length c166_0])) ⟨rfl, trivial⟩ (by repeat (first | exact trivial | refine And.intro rfl ?_)) (ConvH.of (.cons r1 (.cons r1 (.cons r1 (.cons r1 (.cons r1 (.cons r1 (.cons r0 (.cons r0 .nil))))))))) (lk2.trans l166) (ltm hx2) ⟨(LR.set (LR.mono Jk.R_ok l166 y2_r0) ⟨a166_0, c166_0, rfl, h166_0⟩), (by first | simpa using y2_h0 | exact fun _ => ⟨_, _, rfl⟩), ((y2_n0).trans List.length_set.symm), hl2⟩
 rw [lty w2, Jw.eq_1] at hl2
 conv => whnf
 refine cond_T ?_
 conv => whnf
 refine MeetStep.mk (y2_0, y2_s0) trivial (by repeat (first | exact trivial | refine And.intro rfl ?_)) (ConvH.of (.cons r0 (.cons r0 (.cons r0 (.cons r0 (.cons r0 (.cons r0 (.cons r0 (.cons r0 .nil))))))))) lk2 ⟨y2_r0, y2_h0, y2_n0, (si hl2).symm⟩
 rintro ⟨t2, t2_s0⟩ Kt2 lt2 ⟨t2_r0, t2_h0, t2_n0, rfl⟩ j2
 replace hl0 := elg hl0
 conv => whnf
 refine int_in (cntz hx0 hk0) ?_
 conv => whnf
 refine RoundStep.mk (i0 + 1, (max (max y0_0 x48.depth) ((x48.depth - x42.1) + x42.2.1)), t2, t2_s0) ⟨rfl, rfl, trivial⟩ (by repeat (first | exact trivial | refine And.intro rfl ?_)) (ConvH.of (.cons r6 (.cons r6 .nil))) (((((((lk0.trans l42).trans l93).trans l97).trans lt928).trans lt930).trans lt932).trans lt2) (ltm hx0) ⟨t2_r0, t2_h0, t2_n0, hl0⟩
 replace e99 := iff_ g87_13 e99
 conv => whnf
 refine cond_f g87_13 ?_
 conv => whnf
 refine cond_f g87_13 ?_
 conv => whnf
 refine cond_f g87_13 ?_
 conv => whnf
 refine cond_f g87_13 ?_
 conv => whnf
 refine cond_f g87_13 ?_
 conv => whnf
 refine cond_f g87_13 ?_
 conv => whnf
 refine cond_f g87_13 ?_
 conv => whnf
 refine cond_f g87_13 ?_
 conv => whnf
 refine cond_f g87_13 ?_
 conv => whnf
 refine cond_f g87_13 ?_
 conv => whnf
 refine cond_f g87_13 ?_
 conv => whnf
 refine cond_go rfl ?_
 conv => whnf
 refine cond_F ?_
 replace hl0 := iff_ (si e99).symm hl0
 conv => whnf
 refine draw_go ⟨⟨[], false⟩, _, [(_, _)]⟩ (by kernel_rfl) ⟨Hp.Le.refl _, (ConvH.of (.cons r0 .nil))⟩ ?_
 conv => whnf
 refine Jb rfl ?_
 conv => whnf
 refine load1_l m0 rfl rfl ?_
 obtain ⟨h103, hl0⟩ := chkb hl0
 conv => whnf
 refine int_in h103 ?_
 obtain ⟨h105, hl0⟩ := chkb hl0
 conv => whnf
 refine int_in h105 ?_
 conv => whnf
 refine Jb rfl ?_
 conv => whnf
 refine load1_l m0 rfl rfl ?_
 conv => whnf
 refine Jb rfl ?_
 conv => whnf
 refine RStep.of (load1_s r1 rfl rfl ?_)
 conv => whnf
 refine eq_int ?_
 obtain ⟨s939, hl939, hl0⟩ := bnd hl0
 conv => whnf
 refine code_cut (σ := ((List Int)) × Option Addr × Nat) [13, 111, 112, 113, 114] (fun (t939, t939_a0, t939_c0) => [(13, .slice t939_a0 t939.length t939_c0)]) (fun (t939, t939_a0, t939_c0) => [Cells b11 83 [.bool x48.reached, .int .i64 x48.depth, .slice a49_0 x48.stored.length c49_0], Cells b7 73 [.int .i64 e0.Op, .int .i64 e0.N, str e0.S], OwnA (some ⟨b29, 0, none⟩) 83 3 (Int.toNat ((code.length : Int) + 1)) y0_s1, F]) (fun zz K1 => match zz with | (t939, t939_a0, t939_c0) => RdC eN K1 t939_a0 t939_c0 1 t939 ∧ t939 = s939) ?_ ?_
 refine cond_go rfl ?_
 conv => whnf
 refine cond_s (fun w110 => ?_) (fun w110 => ?_)
 replace hl939 := ift w110 hl939
 conv => whnf
 refine Jb rfl ?_
 conv => whnf
 refine RStep.of (load1_s r1 rfl rfl ?_)
 obtain ⟨x114, q114, hl939⟩ := bnd hl939
 conv => whnf
 refine call_fn (Jbu (n' := e0.N) q114 h49_0 rfl) .nil ?_
 rintro _ K114 _ l114 ⟨a114_0, c114_0, rfl, h114_0, rfl⟩
 conv => whnf
 refine fMe r0 fun Kr939_0 lr939_0 fr939_0 => ?_
 refine MeetStep.mk (x114, a114_0, c114_0) ⟨rfl, trivial⟩ (by repeat (first | exact trivial | refine And.intro rfl ?_)) (ConvH.of (.cons r0 (.cons r0 (.cons r0 (.cons r0 .nil))))) (l114.trans lr939_0) ⟨fr939_0, (si hl939)⟩
 replace hl939 := iff_ w110 hl939
 conv => whnf
 refine MeetStep.mk (x48.stored, a49_0, c49_0) ⟨rfl, trivial⟩ (by repeat (first | exact trivial | refine And.intro rfl ?_)) (ConvH.of (.cons r0 (.cons r0 (.cons r0 (.cons r0 .nil))))) (Hp.Le.refl _) ⟨h49_0, (si hl939)⟩
 rintro ⟨t939, t939_a0, t939_c0⟩ Kt939 lt939 ⟨t939_h0, rfl⟩ j939
 conv => whnf
 refine Jb rfl ?_
 conv => whnf
 refine RStep.of (load1_s r0 rfl rfl ?_)
 conv => whnf
 refine RStep.of (max3_int ?_)
 conv => whnf
 refine int_in (cntz hx0 hk0) ?_
 conv => whnf
 refine bsO (len := 1) (enc := eN) (l := [((i0 : Int) + 1)]) (cl := [.int .i64 ((i0 : Int) + 1)]) elT81 rfl rfl (fun _ _ => rfl) rfl rfl rfl ?_ fun b122 => ?_
 ·conv => whnf
  refine cond_T ?_
  conv => whnf
  first | done | rfl
 conv => whnf
 refine Jb rfl ?_
 conv => whnf
 refine RStep.of (load1_s r2 rfl rfl ?_)
 conv => whnf
 refine eq_int ?_
 obtain ⟨s941, hl941, hl0⟩ := bnd hl0
 conv => whnf
 refine code_cut (σ := ((List Int)) × Option Addr × Nat) [14, 126, 127, 128] (fun (t941, t941_a0, t941_c0) => [(14, .slice t941_a0 t941.length t941_c0)]) (fun (t941, t941_a0, t941_c0) => [OwnL eN t941_a0 3 1 t941_c0 t941, Cells b11 83 [.bool x48.reached, .int .i64 x48.depth, .slice a49_0 x48.stored.length c49_0], Cells b7 73 [.int .i64 e0.Op, .int .i64 e0.N, str e0.S], OwnA (some ⟨b29, 0, none⟩) 83 3 (Int.toNat ((code.length : Int) + 1)) y0_s1, F]) (fun zz K1 => match zz with | (t941, t941_a0, t941_c0) => (0 < t941.length → Has t941_a0) ∧ t941 = s941) ?_ ?_
 refine cond_go rfl ?_
 conv => whnf
 refine cond_s (fun w125 => ?_) (fun w125 => ?_)
 replace hl941 := ift w125 hl941
 conv => whnf
 refine Jb rfl ?_
 conv => whnf
 refine RStep.of (load1_s r2 rfl rfl ?_)
 conv => whnf
 refine bsO (len := 1) (enc := eN) (l := [e0.N]) (cl := [.int .i64 e0.N]) elT81 rfl rfl (fun _ _ => rfl) rfl rfl rfl ?_ fun b128 => ?_
 ·conv => whnf
  refine cond_T ?_
  conv => whnf
  first | done | rfl
 conv => whnf
 refine MeetStep.mk ([e0.N], (some ⟨b128, 0, none⟩), 1) ⟨rfl, trivial⟩ (by repeat (first | exact trivial | refine And.intro rfl ?_)) (ConvH.of (.cons r0 (.cons r1 (.cons r1 (.cons r1 (.cons r1 .nil)))))) (Hp.Le.refl _) ⟨(fun _ => ⟨_, _, rfl⟩), (si hl941)⟩
 replace hl941 := iff_ w125 hl941
 conv => whnf
 refine MeetStep.mk ([((i0 : Int) + 1)], (some ⟨b122, 0, none⟩), 1) ⟨rfl, trivial⟩ (by repeat (first | exact trivial | refine And.intro rfl ?_)) (ConvH.of (.cons r0 (.cons r0 (.cons r0 (.cons r0 (.cons r0 .nil)))))) (Hp.Le.refl _) ⟨(fun _ => ⟨_, _, rfl⟩), (si hl941)⟩
 rintro ⟨t941, t941_a0, t941_c0⟩ Kt941 lt941 ⟨t941_h0, rfl⟩ j941
 conv => whnf
 refine Jb rfl ?_
 conv => whnf
 refine RStep.of (load1_s r2 rfl rfl ?_)
 conv => whnf
 refine eq_int ?_
 obtain ⟨s943, hl943, hl0⟩ := bnd hl0
 conv => whnf
 refine code_cut (σ := ((List Int)) × Option Addr × Nat) [14, 132, 133, 134, 135, 136] (fun (t943, t943_a0, t943_c0) => [(14, .slice t943_a0 t943.length t943_c0)]) (fun (t943, t943_a0, t943_c0) => [OwnL eN t943_a0 3 1 t943_c0 t943, Cells b11 83 [.bool x48.reached, .int .i64 x48.depth, .slice a49_0 x48.stored.length c49_0], Cells b7 73 [.int .i64 e0.Op, .int .i64 e0.N, str e0.S], OwnA (some ⟨b29, 0, none⟩) 83 3 (Int.toNat ((code.length : Int) + 1)) y0_s1, F]) (fun zz K1 => match zz with | (t943, t943_a0, t943_c0) => (0 < t943.length → Has t943_a0) ∧ t943 = s943) ?_ ?_
 refine cond_go rfl ?_
 conv => whnf
 refine cond_s (fun w131 => ?_) (fun w131 => ?_)
 replace hl943 := ift w131 hl943
 conv => whnf
 refine Jb rfl ?_
 conv => whnf
 refine RStep.of (load1_s r2 rfl rfl ?_)
 conv => whnf
 refine bsO (len := 1) (enc := eN) (l := [e0.N]) (cl := [.int .i64 e0.N]) elT81 rfl rfl (fun _ _ => rfl) rfl rfl rfl ?_ fun b135 => ?_
 ·conv => whnf
  refine cond_T ?_
  conv => whnf
  first | done | rfl
 obtain ⟨h136, hl943⟩ := chkb hl943
 conv => whnf
 refine apE rfl r1 elT81 (src_own' rfl r0 rfl (fun _ => rfl) (fun _ => rfl)) h136 ?_
 intro a136 c136 o136
 conv => whnf
 refine MeetStep.mk ((t941 ++ [e0.N]), a136, c136) ⟨rfl, trivial⟩ (by repeat (first | exact trivial | refine And.intro rfl ?_)) (ConvH.of (.cons r0 (.cons r1 (.cons r1 (.cons r1 (.cons r1 .nil)))))) (Hp.Le.refl _) ⟨o136, (si hl943)⟩
 replace hl943 := iff_ w131 hl943
 conv => whnf
 refine MeetStep.mk (t941, t941_a0, t941_c0) ⟨rfl, trivial⟩ (by repeat (first | exact trivial | refine And.intro rfl ?_)) (ConvH.of (.cons r0 (.cons r0 (.cons r0 (.cons r0 (.cons r0 .nil)))))) (Hp.Le.refl _) ⟨t941_h0, (si hl943)⟩
 rintro ⟨t943, t943_a0, t943_c0⟩ Kt943 lt943 ⟨t943_h0, rfl⟩ j943
 conv => whnf
 refine RStep.of (len_slice rfl ?_)
 obtain ⟨hk2, hl0⟩ := chkb hl0
 obtain ⟨s2, hl2, hl0⟩ := bnd hl0
 conv => whnf
 refine code_cut (σ := ((List Jk)) × List (List Value)) [2, 3, 16, 17, 139, 140, 141, 142, 143, 144, 145, 146, 147, 148, 149, 150, 151, 152, 153, 154, 155, 156, 157, 158, 159, 160, 161, 162, 163, 164, 165, 166, 167, 168, 169, 170, 171, 172] (fun (t2, t2_s0) => []) (fun (t2, t2_s0) => [OwnL eN t943_a0 3 1 t943_c0 t943, Cells b11 83 [.bool x48.reached, .int .i64 x48.depth, .slice a49_0 x48.stored.length c49_0], Cells b7 73 [.int .i64 e0.Op, .int .i64 e0.N, str e0.S], OwnA (some ⟨b29, 0, none⟩) 83 3 (Int.toNat ((code.length : Int) + 1)) t2_s0, F]) (fun zz K1 => match zz with | (t2, t2_s0) => LR Jk.R K1 t2_s0 t2 ∧ (0 < t2.length → Has (some ⟨b29, 0, none⟩)) ∧ (Int.toNat ((code.length : Int) + 1)) = t2.length ∧ s2 = Fl.go t2) ?_ ?_
 refine block_go rfl ?_
 conv => whnf
 refine loop_rule (σ := Nat × (List Jk) × List (List Value)) [2, 3, 16, 17, 139, 140, 141, 142, 143, 144, 145, 146, 147, 148, 149, 150, 151, 152, 153, 154, 155, 156, 157, 158, 159, 160, 161, 162, 163, 164, 165, 166, 167, 168, 169, 170, 171, 172] (fun (i2, y2_0, y2_s0) => [(139, .int .i64 (i2 : Int))]) (fun (i2, y2_0, y2_s0) => [OwnL eN t943_a0 3 1 t943_c0 t943, Cells b11 83 [.bool x48.reached, .int .i64 x48.depth, .slice a49_0 x48.stored.length c49_0], Cells b7 73 [.int .i64 e0.Op, .int .i64 e0.N, str e0.S], OwnA (some ⟨b29, 0, none⟩) 83 3 (Int.toNat ((code.length : Int) + 1)) y2_s0, F]) (fun zz K1 => match zz with | (i2, y2_0, y2_s0) => LR Jk.R K1 y2_s0 y2_0 ∧ (0 < y2_0.length → Has (some ⟨b29, 0, none⟩)) ∧ (Int.toNat ((code.length : Int) + 1)) = y2_0.length ∧ Jw i0 code e0 x48 x42 t939 (t943.drop i2) i2 y2_0 = some s2) (fun zz => t943.length - zz.1) (0, y0_1, y0_s1) rfl ⟨rfl, trivial⟩ (ConvH.of (.cons r0 (.cons r0 (.cons r0 (.cons r0 (.cons r0 .nil)))))) ⟨(LR.mono Jk.R_ok (((l42.trans lt939).trans lt941).trans lt943) y0_r1), y0_h1, y0_n1, hl2⟩ ?_
 clear hl2
 rintro ⟨i2, y2_0, y2_s0⟩ Kb2 lk2 ⟨y2_r0, y2_h0, y2_n0, hl2⟩ j2
 conv => whnf
 refine cond_go rfl ?_
 conv => whnf
 refine cond_s (fun w2 => ?_) (fun w2 => ?_)
 obtain ⟨e2, hx2, hd2⟩ := ltx w2
 rw [hd2, Jw.eq_2] at hl2
 conv => whnf
 refine block_go rfl ?_
 conv => whnf
 refine RStep.ofN (index_addr rfl rfl (hasO t943_h0 hx2) (nn _) (lt_ofNE rfl hx2) ?_)
 conv => whnf
 refine RStep.of (ld_own (i := i2) (o := 0) r0 rfl hx2 rfl rfl ?_)
 conv => whnf
 refine cond_s (fun g146_27 => ?_) (fun g146_27 => ?_)
 replace hl2 := ift g146_27 hl2
 conv => whnf
 refine cond_t g146_27 ?_
 conv => whnf
 refine cond_t g146_27 ?_
 conv => whnf
 refine cond_t g146_27 ?_
 conv => whnf
 refine cond_t g146_27 ?_
 conv => whnf
 refine cond_t g146_27 ?_
 conv => whnf
 refine cond_t g146_27 ?_
 conv => whnf
 refine cond_go rfl ?_
 conv => whnf
 refine cond_T ?_
 obtain rfl := si hl2
 replace hl0 := elr hl0
 obtain rfl := si hl0
 replace hm := elr hm
 obtain rfl := si hm
 conv => whnf
 refine EndStep.mk _ (((((lk0.trans l42).trans lt939).trans lt941).trans lt943).trans lk2) ⟨rfl, rfl⟩ (ConvH.of (.cons r4 .nil))
 replace hl2 := iff_ g146_27 hl2
 conv => whnf
 refine cond_f g146_27 ?_
 conv => whnf
 refine cond_f g146_27 ?_
 conv => whnf
 refine RStep.of (len_slice rfl ?_)
 conv => whnf
 refine cond_f g146_27 ?_
 conv => whnf
 refine cond_f g146_27 ?_
 conv => whnf
 refine cond_s (fun g151_27 => ?_) (fun g151_27 => ?_)
 conv => whnf
 refine Jb rfl ?_
 conv => whnf
 refine cond_t g151_27 ?_
 conv => whnf
 refine RStep.of (load1_s r2 rfl rfl ?_)
 conv => whnf
 refine cond_t g151_27 ?_
 conv => whnf
 refine neq_int ?_
 conv => whnf
 refine cond_f g146_27 ?_
 conv => whnf
 refine cond_t g151_27 ?_
 conv => whnf
 refine cond_f g146_27 ?_
 conv => whnf
 refine cond_go rfl ?_
 conv => whnf
 refine cond_s (fun w156 => ?_) (fun w156 => ?_)
 replace hl2 := ift (and_t g151_27 w156) hl2
 obtain rfl := si hl2
 replace hl0 := elr hl0
 obtain rfl := si hl0
 replace hm := elr hm
 obtain rfl := si hm
 conv => whnf
 refine EndStep.mk _ (((((lk0.trans l42).trans lt939).trans lt941).trans lt943).trans lk2) ⟨rfl, rfl⟩ (ConvH.of (.cons r4 .nil))
 replace hl2 := iff_ (and_g g151_27 w156) hl2
 obtain ⟨x162, l162, k162, hl2⟩ := ixb hl2
 conv => whnf
 refine RStep.ofN (index_addr rfl rfl (hasO y2_h0 k162) l162 (lt_ofE y2_n0 l162 k162) ?_)
 obtain ⟨cc163, hc163, hR163⟩ := LR.get y2_r0 k162
 obtain ⟨a163_0, c163_0, rfl, h163_0⟩ := hR163
 conv => whnf
 refine RStep.of (ldnA (i := (e2).toNat) r3 rfl hc163 rfl ?_)
 obtain ⟨x166, q166, hl2⟩ := bnd hl2
 conv => whnf
 refine call_fn (Jax (s := x162) (depth := ((x48.depth - x42.1) + x42.2.1)) q166 h163_0 (t939_h0.mono ((lt941.trans lt943).trans lk2)) rfl) .nil ?_
 rintro _ K166 _ l166 ⟨a166_0, c166_0, rfl, h166_0, rfl⟩
 obtain ⟨x169, l169, k169, hl2⟩ := ixb hl2
 conv => whnf
 refine RStep.ofN (index_addr rfl rfl (hasO y2_h0 k169) l169 (lt_ofE y2_n0 l169 k169) ?_)
 obtain ⟨ccw46, hcw46, _⟩ := LR.get (LR.mono Jk.R_ok l166 y2_r0) k169
 conv => whnf
 refine stA0 [.bool x166.1.reached, .int .i64 x166.1.depth, .slice a166_0 x166.1.stored.length c166_0] r3 rfl hcw46 rfl (by (conv => whnf); exact ⟨rfl, rfl, rfl, rfl⟩) ?_
 conv => whnf
 refine un_not ?_
 conv => whnf
 refine cond_go rfl ?_
 conv => whnf
 refine cond_s (fun w171 => ?_) (fun w171 => ?_)
 replace hl2 := ift (not_t (ni_t w171)) hl2
 obtain rfl := si hl2
 replace hl0 := elr hl0
 obtain rfl := si hl0
 replace hm := elr hm
 obtain rfl := si hm
 conv => whnf
 refine EndStep.mk _ ((((((lk0.trans l42).trans lt939).trans lt941).trans lt943).trans lk2).trans l166) ⟨rfl, rfl⟩ (ConvH.of (.cons r4 .nil))
 replace hl2 := iff_ (not_f (ni_f w171)) hl2
 conv => whnf
 refine int_in (cntz hx2 hk2) ?_
 conv => whnf
 refine RoundStep.mk (i2 + 1, (y2_0.set ((e2).toNat) x166.1), (y2_s0.set ((e2).toNat) [.bool x166.1.reached, .int .i64 x166.1.depth, .slice a166_0 x166.1.stored.length c166_0])) ⟨rfl, trivial⟩ (by repeat (first | exact trivial | refine And.intro rfl ?_)) (ConvH.of (.cons r1 (.cons r1 (.cons r1 (.cons r0 (.cons r0 .nil)))))) (lk2.trans l166) (ltm hx2) ⟨(LR.set (LR.mono Jk.R_ok l166 y2_r0) ⟨a166_0, c166_0, rfl, h166_0⟩), (by first | simpa using y2_h0 | exact fun _ => ⟨_, _, rfl⟩), ((y2_n0).trans List.length_set.symm), hl2⟩
 conv => whnf
 refine cond_f g151_27 ?_
 conv => whnf
 refine cond_f g151_27 ?_
 conv => whnf
 refine cond_f g146_27 ?_
 conv => whnf
 refine cond_f g151_27 ?_
 conv => whnf
 refine cond_f g146_27 ?_
 conv => whnf
 refine cond_go rfl ?_
 conv => whnf
 refine cond_F ?_
 replace hl2 := iff_ (and_f g151_27) hl2
 obtain ⟨x162, l162, k162, hl2⟩ := ixb hl2
 conv => whnf
 refine RStep.ofN (index_addr rfl rfl (hasO y2_h0 k162) l162 (lt_ofE y2_n0 l162 k162) ?_)
 obtain ⟨cc163, hc163, hR163⟩ := LR.get y2_r0 k162
 obtain ⟨a163_0, c163_0, rfl, h163_0⟩ := hR163
 conv => whnf
 refine RStep.of (ldnA (i := (e2).toNat) r3 rfl hc163 rfl ?_)
 obtain ⟨x166, q166, hl2⟩ := bnd hl2
 conv => whnf
 refine call_fn (Jax (s := x162) (depth := ((x48.depth - x42.1) + x42.2.1)) q166 h163_0 (t939_h0.mono ((lt941.trans lt943).trans lk2)) rfl) .nil ?_
 rintro _ K166 _ l166 ⟨a166_0, c166_0, rfl, h166_0, rfl⟩
 obtain ⟨x169, l169, k169, hl2⟩ := ixb hl2
 conv => whnf
 refine RStep.ofN (index_addr rfl rfl (hasO y2_h0 k169) l169 (lt_ofE y2_n0 l169 k169) ?_)
 obtain ⟨ccw48, hcw48, _⟩ := LR.get (LR.mono Jk.R_ok l166 y2_r0) k169
 conv => whnf
 refine stA0 [.bool x166.1.reached, .int .i64 x166.1.depth, .slice a166_0 x166.1.stored.length c166_0] r3 rfl hcw48 rfl (by (conv => whnf); exact ⟨rfl, rfl, rfl, rfl⟩) ?_
 conv => whnf
 refine un_not ?_
 conv => whnf
 refine cond_go rfl ?_
 conv => whnf
 refine cond_s (fun w171 => ?_) (fun w171 => ?_)
 replace hl2 := ift (not_t (ni_t w171)) hl2
 obtain rfl := si hl2
 replace hl0 := elr hl0
 obtain rfl := si hl0
 replace hm := elr hm
 obtain rfl := si hm
 conv => whnf
 refine EndStep.mk _ ((((((lk0.trans l42).trans lt939).trans lt941).trans lt943).trans lk2).trans l166) ⟨rfl, rfl⟩ (ConvH.of (.cons r4 .nil))
 replace hl2 := iff_ (not_f (ni_f w171)) hl2
 conv => whnf
 refine int_in (cntz hx2 hk2) ?_
 conv => whnf
 refine RoundStep.mk (i2 + 1, (y2_0.set ((e2).toNat) x166.1), (y2_s0.set ((e2).toNat) [.bool x166.1.reached, .int .i64 x166.1.depth, .slice a166_0 x166.1.stored.length c166_0])) ⟨rfl, trivial⟩ (by repeat (first | exact trivial | refine And.intro rfl ?_)) (ConvH.of (.cons r1 (.cons r1 (.cons r1 (.cons r0 (.cons r0 .nil)))))) (lk2.trans l166) (ltm hx2) ⟨(LR.set (LR.mono Jk.R_ok l166 y2_r0) ⟨a166_0, c166_0, rfl, h166_0⟩), (by first | simpa using y2_h0 | exact fun _ => ⟨_, _, rfl⟩), ((y2_n0).trans List.length_set.symm), hl2⟩
 rw [lty w2, Jw.eq_1] at hl2
 conv => whnf
 refine cond_T ?_
 conv => whnf
 refine MeetStep.mk (y2_0, y2_s0) trivial (by repeat (first | exact trivial | refine And.intro rfl ?_)) (ConvH.of (.cons r0 (.cons r0 (.cons r0 (.cons r0 (.cons r0 .nil)))))) lk2 ⟨y2_r0, y2_h0, y2_n0, (si hl2).symm⟩
 rintro ⟨t2, t2_s0⟩ Kt2 lt2 ⟨t2_r0, t2_h0, t2_n0, rfl⟩ j2
 replace hl0 := elg hl0
 conv => whnf
 refine int_in (cntz hx0 hk0) ?_
 conv => whnf
 refine RoundStep.mk (i0 + 1, (max (max y0_0 x48.depth) ((x48.depth - x42.1) + x42.2.1)), t2, t2_s0) ⟨rfl, rfl, trivial⟩ (by repeat (first | exact trivial | refine And.intro rfl ?_)) (ConvH.of (.cons r3 (.cons r3 .nil))) (((((lk0.trans l42).trans lt939).trans lt941).trans lt943).trans lt2) (ltm hx0) ⟨t2_r0, t2_h0, t2_n0, hl0⟩
 rw [lty w0, JaA.eq_1] at hl0
 conv => whnf
 refine cond_T ?_
 conv => whnf
 refine MeetStep.mk ((y0_0, y0_1), y0_s1) ⟨rfl, trivial⟩ (by repeat (first | exact trivial | refine And.intro rfl ?_)) (ConvH.of (.cons r0 (.cons r0 .nil))) lk0 ⟨y0_r1, y0_h1, y0_n1, (si hl0).symm⟩
 rintro ⟨t0, t0_s1⟩ Kt0 lt0 ⟨t0_r1, t0_h1, t0_n1, rfl⟩ j0
 replace hm := elg hm
 obtain rfl := si hm
 conv => whnf
 refine EndStep.mk _ lt0 ⟨rfl, rfl⟩ (ConvH.of (.cons r1 .nil))
noncomputable def Jab (rec_ : (Jf → Option (Int))) : List Jf → Nat → Int → Option (Int)
 | [], _, y0_0 => some y0_0
 | e0 :: xs0, i0, y0_0 =>
  (rec_ e0).bind fun x18 =>
  (chk (InI (y0_0 + x18))).bind fun _ =>
  Jab rec_ xs0 (i0 + 1) (y0_0 + x18)
noncomputable def JaH : Nat → Jf → Option (Int)
 | 0, _ => none
 | n + 1, n' =>
  if decide (n'.Kind = 3) then
  (chk (n'.Kids.length ≤ szMax)).bind fun _ =>
  (Jab (JaH n) n'.Kids 0 1).bind fun t0 =>
  some t0
  else
  (chk (n'.Kids.length ≤ szMax)).bind fun _ =>
  (Jab (JaH n) n'.Kids 0 0).bind fun t0 =>
  some t0
set_option maxHeartbeats 8000000 in
theorem Jcr : ∀ {n : Nat} {n' : Jf} {ap0_0 : Option Addr} {cp0_0 : Nat} {K : Hp} {r : Int}
  (hm : JaH n n' = some r) (hp0_0 : LiC Jf.R K ap0_0 cp0_0 4 n'.Kids),
  Fn Tryz.prog 20 [.agg #[.int .i64 n'.Kind, str n'.Text, .slice ap0_0 n'.Kids.length cp0_0, .int .i64 n'.Line]] K [] (fun v K' H' => v = .int .i64 r ∧ H' = []) := by
 intro n
 induction n with
 | zero =>
  intro n' ap0_0 cp0_0 K r hm hp0_0
  rw [JaH.eq_1] at hm; cases hm
 | succ n ih =>
  intro n' ap0_0 cp0_0 K r hm hp0_0
  refine Fn.enter Tryz.func20 Tryz.call20 rfl fun F => ?_
  rw [JaH.eq_2] at hm
  refine box_rule ?_
  intro b1
  refine Jb rfl (RStep.of (load1_s r0 rfl rfl (eq_int (cond_go rfl ?_))))
  refine cond_s (fun w8 => ?_) (fun w8 => ?_)
  replace hm := ift w8 hm
  refine Jb rfl (RStep.of (load1_s r0 rfl rfl (RStep.of (len_slice rfl ?_))))
  obtain ⟨hk0, hm⟩ := chkb hm
  obtain ⟨s0, hl0, hm⟩ := bnd hm
  refine code_cut (σ := (Int)) [3, 5, 12, 13, 14, 15, 16, 17, 18, 19, 20] (fun t0 => [(3, .int .i64 t0)]) (fun t0 => [Cells b1 24 [.int .i64 n'.Kind, str n'.Text, .slice ap0_0 n'.Kids.length cp0_0, .int .i64 n'.Line], F]) (fun zz K1 => match zz with | t0 => t0 = s0) ?_ ?_
  refine block_go rfl ?_
  refine loop_rule (σ := Nat × Int) [3, 5, 12, 13, 14, 15, 16, 17, 18, 19, 20] (fun (i0, y0_0) => [(12, .int .i64 (i0 : Int)), (3, .int .i64 y0_0)]) (fun (i0, y0_0) => [Cells b1 24 [.int .i64 n'.Kind, str n'.Text, .slice ap0_0 n'.Kids.length cp0_0, .int .i64 n'.Line], F]) (fun zz K1 => match zz with | (i0, y0_0) => Jab (JaH n) (n'.Kids.drop i0) i0 y0_0 = some s0) (fun zz => n'.Kids.length - zz.1) (0, 1) rfl ⟨rfl, rfl, trivial⟩ (ConvH.of (.cons r0 (.cons r0 .nil))) hl0 ?_
  clear hl0
  rintro ⟨i0, y0_0⟩ Kb0 lk0 hl0 j0
  conv at hl0 => whnf
  refine cond_go rfl ?_
  refine cond_s (fun w0 => ?_) (fun w0 => ?_)
  obtain ⟨e0, hx0, hd0⟩ := ltx w0
  rw [hd0, Jab.eq_2] at hl0
  refine block_go rfl ?_
  refine RStep.ofN (index_addr rfl rfl (hasR (LiC.mono Jf.R_ok lk0 hp0_0).rd hx0) (nn _) (lt_ofN hx0) ?_)
  obtain ⟨ss15, cc15, hr15, hc15, hR15⟩ := LiR.get (LiC.mono Jf.R_ok lk0 hp0_0).rd hx0
  obtain ⟨a15_0, c15_0, rfl, h15_0⟩ := Jf.out hR15
  refine RStep.of (load_rd_agg i0 _ hr15 rfl hc15 rfl ?_)
  refine alloc_rule rfl ?_
  intro b5
  refine store_rule r0 rfl ?_
  refine ⟨rfl, rfl, (Nat.le_of_ble_eq_true rfl), ?_⟩
  refine RStep.of (loadn_s r0 rfl (Nat.le_of_ble_eq_true rfl) ?_)
  obtain ⟨x18, q18, hl0⟩ := bnd hl0
  refine call_fn (ih (n' := e0) q18 h15_0) .nil ?_
  rintro _ K18 _ l18 ⟨rfl, rfl⟩
  obtain ⟨h19, hl0⟩ := chkb hl0
  refine int_in h19 (int_in (cntz hx0 hk0) ?_)
  refine RoundStep.mk (i0 + 1, (y0_0 + x18)) ⟨rfl, rfl, trivial⟩ (by repeat (first | exact trivial | refine And.intro rfl ?_)) (ConvH.of (.cons r1 (.cons r1 .nil))) (lk0.trans l18) (ltm hx0) hl0
  rw [lty w0, Jab.eq_1] at hl0
  refine cond_T ?_
  refine MeetStep.mk (y0_0) ⟨rfl, trivial⟩ (by repeat (first | exact trivial | refine And.intro rfl ?_)) (ConvH.of (.cons r0 (.cons r0 .nil))) lk0 (si hl0)
  rintro t0 Kt0 lt0 rfl j0
  obtain rfl := si hm
  refine EndStep.mk _ lt0 ⟨rfl, rfl⟩ (ConvH.of (.cons r1 .nil))
  replace hm := iff_ w8 hm
  refine Jb rfl (RStep.of (load1_s r0 rfl rfl (RStep.of (len_slice rfl ?_))))
  obtain ⟨hk0, hm⟩ := chkb hm
  obtain ⟨s0, hl0, hm⟩ := bnd hm
  refine code_cut (σ := (Int)) [3, 5, 12, 13, 14, 15, 16, 17, 18, 19, 20] (fun t0 => [(3, .int .i64 t0)]) (fun t0 => [Cells b1 24 [.int .i64 n'.Kind, str n'.Text, .slice ap0_0 n'.Kids.length cp0_0, .int .i64 n'.Line], F]) (fun zz K1 => match zz with | t0 => t0 = s0) ?_ ?_
  refine block_go rfl ?_
  refine loop_rule (σ := Nat × Int) [3, 5, 12, 13, 14, 15, 16, 17, 18, 19, 20] (fun (i0, y0_0) => [(12, .int .i64 (i0 : Int)), (3, .int .i64 y0_0)]) (fun (i0, y0_0) => [Cells b1 24 [.int .i64 n'.Kind, str n'.Text, .slice ap0_0 n'.Kids.length cp0_0, .int .i64 n'.Line], F]) (fun zz K1 => match zz with | (i0, y0_0) => Jab (JaH n) (n'.Kids.drop i0) i0 y0_0 = some s0) (fun zz => n'.Kids.length - zz.1) (0, 0) rfl ⟨rfl, rfl, trivial⟩ (ConvH.of (.cons r0 (.cons r0 .nil))) hl0 ?_
  clear hl0
  rintro ⟨i0, y0_0⟩ Kb0 lk0 hl0 j0
  conv at hl0 => whnf
  refine cond_go rfl ?_
  refine cond_s (fun w0 => ?_) (fun w0 => ?_)
  obtain ⟨e0, hx0, hd0⟩ := ltx w0
  rw [hd0, Jab.eq_2] at hl0
  refine block_go rfl ?_
  refine RStep.ofN (index_addr rfl rfl (hasR (LiC.mono Jf.R_ok lk0 hp0_0).rd hx0) (nn _) (lt_ofN hx0) ?_)
  obtain ⟨ss15, cc15, hr15, hc15, hR15⟩ := LiR.get (LiC.mono Jf.R_ok lk0 hp0_0).rd hx0
  obtain ⟨a15_0, c15_0, rfl, h15_0⟩ := Jf.out hR15
  refine RStep.of (load_rd_agg i0 _ hr15 rfl hc15 rfl ?_)
  refine alloc_rule rfl ?_
  intro b5
  refine store_rule r0 rfl ?_
  refine ⟨rfl, rfl, (Nat.le_of_ble_eq_true rfl), ?_⟩
  refine RStep.of (loadn_s r0 rfl (Nat.le_of_ble_eq_true rfl) ?_)
  obtain ⟨x18, q18, hl0⟩ := bnd hl0
  refine call_fn (ih (n' := e0) q18 h15_0) .nil ?_
  rintro _ K18 _ l18 ⟨rfl, rfl⟩
  obtain ⟨h19, hl0⟩ := chkb hl0
  refine int_in h19 (int_in (cntz hx0 hk0) ?_)
  refine RoundStep.mk (i0 + 1, (y0_0 + x18)) ⟨rfl, rfl, trivial⟩ (by repeat (first | exact trivial | refine And.intro rfl ?_)) (ConvH.of (.cons r1 (.cons r1 .nil))) (lk0.trans l18) (ltm hx0) hl0
  rw [lty w0, Jab.eq_1] at hl0
  refine cond_T ?_
  refine MeetStep.mk (y0_0) ⟨rfl, trivial⟩ (by repeat (first | exact trivial | refine And.intro rfl ?_)) (ConvH.of (.cons r0 (.cons r0 .nil))) lk0 (si hl0)
  rintro t0 Kt0 lt0 rfl j0
  obtain rfl := si hm
  refine EndStep.mk _ lt0 ⟨rfl, rfl⟩ (ConvH.of (.cons r1 .nil))
noncomputable def JX : List Ji → Nat → Int → Option (Fl (Bool) (Int))
 | [], _, y0_0 => some (Fl.go y0_0)
 | e0 :: xs0, i0, y0_0 =>
  if decide (e0.Op = 4) then
  if decide (e0.N ≠ y0_0) then
  some (Fl.ret false)
  else
  (chk (InI (y0_0 + 1))).bind fun _ =>
  JX xs0 (i0 + 1) (y0_0 + 1)
  else
  JX xs0 (i0 + 1) y0_0
noncomputable def Ja2 (n : Nat) (n' : Jf) : Option (Bool) :=
 (JaT n n').bind fun x13 =>
 (if x13 then some true else (JbU n).bind fun x15 =>
 some (!x15)).bind fun x17 =>
 if x17 then
 (JaT n n').bind fun x19 =>
 some x19
 else
 (Jbf n n').bind fun x22 =>
 (JaG n x22).bind fun x23 =>
 (Jbf n n').bind fun x28 =>
 (JaZ n x28).bind fun x29 =>
 if x23.2.isSome then
 if decide ((x23.1.length : Int) = 0) then
 (Jb0 x23.2).bind fun x39 =>
 (Jb0 x29.2).bind fun x41 =>
 if decide (x39 = x41) then
 some true
 else
 (if x29.2.isNone then (Jcq x23.2 5).bind fun x48 =>
 some x48 else some false).bind fun x49 =>
 some x49
 else
 some false
 else
 (JbC x23.1).bind fun x54 =>
 (JbE x54).bind fun x55 =>
 (if ((!x55.2) || x29.2.isSome) then some true else (JaM x23.1).bind fun x66 =>
 some x66.isSome).bind fun x68 =>
 if x68 then
 some false
 else
 (chk (x23.1.length ≤ szMax)).bind fun _ =>
 (JX x23.1 0 0).bind fun s0 => s0.el some fun t0 =>
 (JaH n n').bind fun x87 =>
 some (decide (t0 = x87))
set_option maxHeartbeats 8000000 in
theorem JbY {n : Nat} {n' : Jf} {ap0_0 : Option Addr} {cp0_0 : Nat} {K : Hp} {r : Bool}
  (hm : Ja2 n n' = some r) (hp0_0 : LiC Jf.R K ap0_0 cp0_0 4 n'.Kids) (hG1 : GlL eS 1 1 Jt K) (hG2 : GlL eS 1 2 Jz K) (hG3 : GlL eS 1 3 JE K) (hG4 : GlL eS 1 4 gkw0 K) :
  Fn Tryz.prog 4 [.agg #[.int .i64 n'.Kind, str n'.Text, .slice ap0_0 n'.Kids.length cp0_0, .int .i64 n'.Line]] K [] (fun v K' H' => v = .bool r ∧ H' = []) := by
 obtain ⟨ga1, gn1, gc1, gn_, gs1, gd1⟩ := id hG1
 subst gn_
 obtain ⟨ga2, gn2, gc2, gn_, gs2, gd2⟩ := id hG2
 subst gn_
 obtain ⟨ga3, gn3, gc3, gn_, gs3, gd3⟩ := id hG3
 subst gn_
 obtain ⟨ga4, gn4, gc4, gn_, gs4, gd4⟩ := id hG4
 subst gn_
 refine Fn.enter Tryz.func4 Tryz.call4 rfl fun F => ?_
 unfold Ja2 at hm
 refine box_rule ?_
 intro b1
 refine RStep.of (loadn_s r0 rfl (Nat.le_of_ble_eq_true rfl) ?_)
 obtain ⟨x13, q13, hm⟩ := bnd hm
 refine call_fn (JbH (n' := n') q13 hp0_0) .nil ?_
 rintro _ K13 _ l13 ⟨rfl, rfl⟩
 obtain ⟨x17, e17, hm⟩ := bnd hm
 refine cond_s (fun g14_1 => ?_) (fun g14_1 => ?_)
 replace e17 := ift g14_1 e17
 refine cond_t g14_1 (cond_t g14_1 (cond_go rfl (cond_T ?_)))
 replace hm := ift (si e17).symm hm
 refine RStep.of (loadn_s r0 rfl (Nat.le_of_ble_eq_true rfl) ?_)
 obtain ⟨x19, q19, hm⟩ := bnd hm
 refine call_fn (JbH (n' := n') q19 (LiC.mono Jf.R_ok l13 hp0_0)) .nil ?_
 rintro _ K19 _ l19 ⟨rfl, rfl⟩
 obtain rfl := si hm
 refine EndStep.mk _ (l13.trans l19) ⟨rfl, rfl⟩ (ConvH.of (.cons r1 .nil))
 replace e17 := iff_ g14_1 e17
 obtain ⟨x15, q15, e17⟩ := bnd e17
 refine call_fn (Jcm q15 (hG1.mono l13) (hG2.mono l13) (hG3.mono l13) (hG4.mono l13)) .nil ?_
 rintro _ K15 _ l15 ⟨rfl, rfl⟩
 refine cond_f g14_1 (un_not (cond_f g14_1 (cond_go rfl ?_)))
 refine cond_s (fun w17 => ?_) (fun w17 => ?_)
 replace hm := ift ((si e17).symm.trans (not_t (ni_t w17))) hm
 refine RStep.of (loadn_s r0 rfl (Nat.le_of_ble_eq_true rfl) ?_)
 obtain ⟨x19, q19, hm⟩ := bnd hm
 refine call_fn (JbH (n' := n') q19 (LiC.mono Jf.R_ok (l13.trans l15) hp0_0)) .nil ?_
 rintro _ K19 _ l19 ⟨rfl, rfl⟩
 obtain rfl := si hm
 refine EndStep.mk _ ((l13.trans l15).trans l19) ⟨rfl, rfl⟩ (ConvH.of (.cons r1 .nil))
 replace hm := iff_ ((si e17).symm.trans (not_f (ni_f w17))) hm
 refine RStep.of (loadn_s r0 rfl (Nat.le_of_ble_eq_true rfl) ?_)
 obtain ⟨x22, q22, hm⟩ := bnd hm
 refine call_fn (Jb5 (n' := n') q22 (LiC.mono Jf.R_ok (l13.trans l15) hp0_0)) .nil ?_
 rintro _ K22 _ l22 ⟨a22_0, c22_0, s22_0, rfl, h22_0, r22_0, rfl⟩
 obtain ⟨x23, q23, hm⟩ := bnd hm
 refine fzFR Tryz.call10 Ja.R_ok r0 r22_0 fun Kf23_0_0 lf23_0_0 ff23_0_0 => ?_
 refine call_fn (Jbz (program := x22) q23 ff23_0_0 (hG1.mono (((l13.trans l15).trans l22).trans lf23_0_0)) (hG2.mono (((l13.trans l15).trans l22).trans lf23_0_0)) (hG3.mono (((l13.trans l15).trans l22).trans lf23_0_0)) (hG4.mono (((l13.trans l15).trans l22).trans lf23_0_0))) .nil ?_
 rintro _ K23 _ l23 ⟨a23_0, c23_0, rfl, h23_0, rfl⟩
 refine RStep.of (loadn_s r1 rfl (Nat.le_of_ble_eq_true rfl) ?_)
 obtain ⟨x28, q28, hm⟩ := bnd hm
 refine call_fn (Jb5 (n' := n') q28 (LiC.mono Jf.R_ok ((((l13.trans l15).trans l22).trans lf23_0_0).trans l23) hp0_0)) .nil ?_
 rintro _ K28 _ l28 ⟨a28_0, c28_0, s28_0, rfl, h28_0, r28_0, rfl⟩
 obtain ⟨x29, q29, hm⟩ := bnd hm
 refine fzFR Tryz.call15 Ja.R_ok r0 r28_0 fun Kf29_0_0 lf29_0_0 ff29_0_0 => ?_
 refine call_fn (JbO (program := x28) q29 ff29_0_0 (hG1.mono ((((((l13.trans l15).trans l22).trans lf23_0_0).trans l23).trans l28).trans lf29_0_0)) (hG2.mono ((((((l13.trans l15).trans l22).trans lf23_0_0).trans l23).trans l28).trans lf29_0_0)) (hG3.mono ((((((l13.trans l15).trans l22).trans lf23_0_0).trans l23).trans l28).trans lf29_0_0)) (hG4.mono ((((((l13.trans l15).trans l22).trans lf23_0_0).trans l23).trans l28).trans lf29_0_0))) .nil ?_
 rintro _ K29 _ l29 ⟨rfl, rfl⟩
 refine neq_err rfl (cond_go rfl ?_)
 refine cond_s (fun w33 => ?_) (fun w33 => ?_)
 replace hm := ift w33 hm
 refine RStep.of (len_slice rfl (eq_int ?_))
 refine cond_s (fun g37_6 => ?_) (fun g37_6 => ?_)
 replace hm := ift g37_6 hm
 refine cond_t g37_6 ?_
 obtain ⟨x39, q39, hm⟩ := bnd hm
 refine call_fn (Jb6 (e := x23.2) q39) .nil ?_
 rintro _ K39 _ l39 ⟨rfl, rfl⟩
 refine cond_t g37_6 (cond_t g37_6 ?_)
 obtain ⟨x41, q41, hm⟩ := bnd hm
 refine call_fn (Jb6 (e := x29.2) q41) .nil ?_
 rintro _ K41 _ l41 ⟨rfl, rfl⟩
 refine cond_t g37_6 (eq_int (cond_t g37_6 ?_))
 refine cond_s (fun g43_6 => ?_) (fun g43_6 => ?_)
 replace hm := ift g43_6 hm
 refine cond_t g43_6 (cond_t g43_6 (cond_t g43_6 (cond_t g37_6 (cond_t g43_6 (cond_t g37_6 ?_)))))
 obtain rfl := si hm
 refine EndStep.mk _ (((((((((l13.trans l15).trans l22).trans lf23_0_0).trans l23).trans l28).trans lf29_0_0).trans l29).trans l39).trans l41) ⟨rfl, rfl⟩ (ConvH.of (.cons r2 .nil))
 replace hm := iff_ g43_6 hm
 refine cond_f g43_6 (eq_err rfl (cond_f g43_6 ?_))
 obtain ⟨x49, e49, hm⟩ := bnd hm
 refine cond_s (fun g46_6 => ?_) (fun g46_6 => ?_)
 replace e49 := ift g46_6 e49
 refine cond_t g46_6 ?_
 obtain ⟨x48, q48, e49⟩ := bnd e49
 refine call_fn (Jcp (e := x23.2) (want := 5) q48) .nil ?_
 rintro _ K48 _ l48 ⟨rfl, rfl⟩
 refine cond_f g43_6 (cond_t g46_6 (cond_t g37_6 (cond_f g43_6 (cond_t g37_6 ?_))))
 obtain rfl := si hm
 refine EndStep.mk _ ((((((((((l13.trans l15).trans l22).trans lf23_0_0).trans l23).trans l28).trans lf29_0_0).trans l29).trans l39).trans l41).trans l48) ⟨(by rw [← (si e49)] <;> rfl), rfl⟩ (ConvH.of (.cons r2 .nil))
 replace e49 := iff_ g46_6 e49
 refine cond_f g46_6 (cond_f g43_6 (cond_f g46_6 (cond_t g37_6 (cond_f g43_6 (cond_t g37_6 ?_)))))
 obtain rfl := si hm
 refine EndStep.mk _ (((((((((l13.trans l15).trans l22).trans lf23_0_0).trans l23).trans l28).trans lf29_0_0).trans l29).trans l39).trans l41) ⟨(by rw [← ((si e49).symm).symm] <;> rfl), rfl⟩ (ConvH.of (.cons r2 .nil))
 replace hm := iff_ g37_6 hm
 refine cond_f g37_6 (cond_f g37_6 (cond_f g37_6 (cond_f g37_6 (cond_f g37_6 (cond_f g37_6 ?_)))))
 refine cond_f g37_6 ?_
 obtain rfl := si hm
 refine EndStep.mk _ (((((((l13.trans l15).trans l22).trans lf23_0_0).trans l23).trans l28).trans lf29_0_0).trans l29) ⟨rfl, rfl⟩ (ConvH.of (.cons r2 .nil))
 replace hm := iff_ w33 hm
 obtain ⟨x54, q54, hm⟩ := bnd hm
 refine call_fn (Fn.lend Tryz.call18 (fun K54_0 l54_0 f54_0 => (Jcn q54 f54_0 rfl)) (by exact fun _ _ _ _ h => h)) (.cons r0 .nil) ?_
 rintro _ K54 _ l54 ⟨_, rfl, a54_0, c54_0, rfl, h54_0, rfl⟩
 obtain ⟨x55, q55, hm⟩ := bnd hm
 refine call_fn (Fn.lend Tryz.call17 (fun K55_0 l55_0 f55_0 => (Jco q55 f55_0 rfl)) (by exact fun _ _ _ _ h => h)) (.cons r1 .nil) ?_
 rintro _ K55 _ l55 ⟨_, rfl, rfl, rfl⟩
 refine un_not ?_
 refine cond_s (fun g60_8 => ?_) (fun g60_8 => ?_)
 refine cond_t g60_8 (cond_t g60_8 ?_)
 obtain ⟨x68, e68, hm⟩ := bnd hm
 replace e68 := ift (or_t (not_t (ni_t g60_8))) e68
 refine cond_T (cond_T (cond_T (cond_T (cond_go rfl (cond_T ?_)))))
 replace hm := ift (si e68).symm hm
 obtain rfl := si hm
 refine EndStep.mk _ (((((((((l13.trans l15).trans l22).trans lf23_0_0).trans l23).trans l28).trans lf29_0_0).trans l29).trans l54).trans l55) ⟨rfl, rfl⟩ (ConvH.of (.cons r3 .nil))
 refine cond_f g60_8 (neq_err rfl (cond_f g60_8 ?_))
 obtain ⟨x68, e68, hm⟩ := bnd hm
 refine cond_s (fun g64_8 => ?_) (fun g64_8 => ?_)
 replace e68 := ift (or_u (not_f (ni_f g60_8)) g64_8) e68
 refine cond_t g64_8 (cond_t g64_8 (cond_t g64_8 (cond_go rfl (cond_T ?_))))
 replace hm := ift (si e68).symm hm
 obtain rfl := si hm
 refine EndStep.mk _ (((((((((l13.trans l15).trans l22).trans lf23_0_0).trans l23).trans l28).trans lf29_0_0).trans l29).trans l54).trans l55) ⟨rfl, rfl⟩ (ConvH.of (.cons r3 .nil))
 replace e68 := iff_ (or_f (not_f (ni_f g60_8)) g64_8) e68
 refine cond_f g64_8 ?_
 obtain ⟨x66, q66, e68⟩ := bnd e68
 refine call_fn (Fn.lend Tryz.call19 (fun K66_0 l66_0 f66_0 => (Jbk q66 f66_0 rfl (hG1.mono ((((((((((l13.trans l15).trans l22).trans lf23_0_0).trans l23).trans l28).trans lf29_0_0).trans l29).trans l54).trans l55).trans l66_0)) (hG2.mono ((((((((((l13.trans l15).trans l22).trans lf23_0_0).trans l23).trans l28).trans lf29_0_0).trans l29).trans l54).trans l55).trans l66_0)) (hG3.mono ((((((((((l13.trans l15).trans l22).trans lf23_0_0).trans l23).trans l28).trans lf29_0_0).trans l29).trans l54).trans l55).trans l66_0)) (hG4.mono ((((((((((l13.trans l15).trans l22).trans lf23_0_0).trans l23).trans l28).trans lf29_0_0).trans l29).trans l54).trans l55).trans l66_0)))) (by exact fun _ _ _ _ h => h)) (.cons r1 .nil) ?_
 rintro _ K66 _ l66 ⟨_, rfl, rfl, rfl⟩
 refine cond_f g64_8 (neq_err rfl (cond_f g64_8 (cond_go rfl ?_)))
 refine cond_s (fun w68 => ?_) (fun w68 => ?_)
 replace hm := ift ((si e68).symm.trans w68) hm
 obtain rfl := si hm
 refine EndStep.mk _ ((((((((((l13.trans l15).trans l22).trans lf23_0_0).trans l23).trans l28).trans lf29_0_0).trans l29).trans l54).trans l55).trans l66) ⟨rfl, rfl⟩ (ConvH.of (.cons r3 .nil))
 replace hm := iff_ ((si e68).symm.trans w68) hm
 refine RStep.of (len_slice rfl ?_)
 obtain ⟨hk0, hm⟩ := chkb hm
 obtain ⟨s0, hl0, hm⟩ := bnd hm
 refine code_cut (σ := (Int)) [2, 9, 11, 71, 72, 73, 74, 75, 76, 77, 78, 79, 80, 81, 82, 83, 84] (fun t0 => [(9, .int .i64 t0)]) (fun t0 => [OwnL Ji.enc a23_0 50 3 c23_0 x23.1, OwnL Jx.enc a54_0 73 3 c54_0 x54, Cells b1 24 [.int .i64 n'.Kind, str n'.Text, .slice ap0_0 n'.Kids.length cp0_0, .int .i64 n'.Line], F]) (fun zz K1 => match zz with | t0 => s0 = Fl.go t0) ?_ ?_
 refine block_go rfl ?_
 refine loop_rule (σ := Nat × Int) [2, 9, 11, 71, 72, 73, 74, 75, 76, 77, 78, 79, 80, 81, 82, 83, 84] (fun (i0, y0_0) => [(71, .int .i64 (i0 : Int)), (9, .int .i64 y0_0)]) (fun (i0, y0_0) => [OwnL Ji.enc a23_0 50 3 c23_0 x23.1, OwnL Jx.enc a54_0 73 3 c54_0 x54, Cells b1 24 [.int .i64 n'.Kind, str n'.Text, .slice ap0_0 n'.Kids.length cp0_0, .int .i64 n'.Line], F]) (fun zz K1 => match zz with | (i0, y0_0) => JX (x23.1.drop i0) i0 y0_0 = some s0) (fun zz => x23.1.length - zz.1) (0, 0) rfl ⟨rfl, rfl, trivial⟩ (ConvH.of (.cons r0 (.cons r0 (.cons r0 (.cons r0 .nil))))) hl0 ?_
 clear hl0
 rintro ⟨i0, y0_0⟩ Kb0 lk0 hl0 j0
 conv at hl0 => whnf
 refine cond_go rfl ?_
 refine cond_s (fun w0 => ?_) (fun w0 => ?_)
 obtain ⟨e0, hx0, hd0⟩ := ltx w0
 rw [hd0, JX.eq_2] at hl0
 refine block_go rfl ?_
 refine RStep.ofN (index_addr rfl rfl (hasO h23_0 hx0) (nn _) (lt_ofNE rfl hx0) (RStep.of (ldn_own (i := i0) r0 rfl hx0 rfl rfl ?_)))
 refine alloc_rule rfl ?_
 intro b11
 refine store_rule r0 rfl ?_
 refine ⟨rfl, rfl, (Nat.le_of_ble_eq_true rfl), ?_⟩
 refine Jb rfl (RStep.of (load1_s r0 rfl rfl (eq_int (cond_go rfl ?_))))
 refine cond_s (fun w77 => ?_) (fun w77 => ?_)
 replace hl0 := ift w77 hl0
 refine Jb rfl (RStep.of (load1_s r0 rfl rfl (neq_int (cond_go rfl ?_))))
 refine cond_s (fun w81 => ?_) (fun w81 => ?_)
 replace hl0 := ift w81 hl0
 obtain rfl := si hl0
 replace hm := elr hm
 obtain rfl := si hm
 refine EndStep.mk _ (((((((((((l13.trans l15).trans l22).trans lf23_0_0).trans l23).trans l28).trans lf29_0_0).trans l29).trans l54).trans l55).trans l66).trans lk0) ⟨rfl, rfl⟩ (ConvH.of (.cons r4 .nil))
 replace hl0 := iff_ w81 hl0
 obtain ⟨h83, hl0⟩ := chkb hl0
 refine int_in h83 (int_in (cntz hx0 hk0) ?_)
 refine RoundStep.mk (i0 + 1, (y0_0 + 1)) ⟨rfl, rfl, trivial⟩ (by repeat (first | exact trivial | refine And.intro rfl ?_)) (ConvH.of (.cons r1 (.cons r1 (.cons r1 (.cons r1 .nil))))) lk0 (ltm hx0) hl0
 replace hl0 := iff_ w77 hl0
 refine int_in (cntz hx0 hk0) ?_
 refine RoundStep.mk (i0 + 1, y0_0) ⟨rfl, rfl, trivial⟩ (by repeat (first | exact trivial | refine And.intro rfl ?_)) (ConvH.of (.cons r1 (.cons r1 (.cons r1 (.cons r1 .nil))))) lk0 (ltm hx0) hl0
 rw [lty w0, JX.eq_1] at hl0
 refine cond_T ?_
 refine MeetStep.mk (y0_0) ⟨rfl, trivial⟩ (by repeat (first | exact trivial | refine And.intro rfl ?_)) (ConvH.of (.cons r0 (.cons r0 (.cons r0 (.cons r0 .nil))))) lk0 (si hl0).symm
 rintro t0 Kt0 lt0 rfl j0
 replace hm := elg hm
 refine RStep.of (loadn_s r2 rfl (Nat.le_of_ble_eq_true rfl) ?_)
 obtain ⟨x87, q87, hm⟩ := bnd hm
 refine call_fn (Jcr (n' := n') q87 (LiC.mono Jf.R_ok (((((((((((l13.trans l15).trans l22).trans lf23_0_0).trans l23).trans l28).trans lf29_0_0).trans l29).trans l54).trans l55).trans l66).trans lt0) hp0_0)) .nil ?_
 rintro _ K87 _ l87 ⟨rfl, rfl⟩
 refine eq_int ?_
 obtain rfl := si hm
 refine EndStep.mk _ ((((((((((((l13.trans l15).trans l22).trans lf23_0_0).trans l23).trans l28).trans lf29_0_0).trans l29).trans l54).trans l55).trans l66).trans lt0).trans l87) ⟨rfl, rfl⟩ (ConvH.of (.cons r3 .nil))
