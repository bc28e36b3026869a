/- Functions of the program: mirrors, and that a call returns what the mirror says. Printed by gen.py. -/
import Derived.Test.YtkpipkpdnbconaaGreatDoorG5
set_option linter.unusedVariables false
set_option linter.unusedSimpArgs false
open Go Go.SL Go.Proofs
set_option maxRecDepth 1000000
noncomputable def Jw (i0 : Nat) (code : (List Ju)) (e0 : Ju) (x48 : Jl) (x42 : Int × Int × Bool) (t905 : (List Int)) : List Int → Nat → (List Jl) → Option (Fl (Int × Bool) ((List Jl)))
 | [], _, y2_0 => some (Fl.go y2_0)
 | e2 :: xs2, i2, y2_0 =>
  if decide (e2 ≤ (i0 : Int)) then
  some (Fl.ret (0, false))
  else
  if (decide (e2 ≥ (code.length : Int)) && decide (e0.Op ≠ 12)) then
  some (Fl.ret (0, false))
  else
  (ix y2_0 e2).bind fun x162 =>
  (Jbf x162 ((x48.depth - x42.1) + x42.2.1) t905).bind fun x166 =>
  (ix y2_0 e2).bind fun x169 =>
  if (!x166.2) then
  some (Fl.ret (0, false))
  else
  Jw i0 code e0 x48 x42 t905 xs2 (i2 + 1) (y2_0.set ((e2).toNat) x166.1)
noncomputable def JaA (code : (List Ju)) : List Ju → Nat → Int → (List Jl) → Option (Fl (Int × Bool) (Int × (List Jl)))
 | [], _, y0_0, y0_1 => some (Fl.go (y0_0, y0_1))
 | e0 :: xs0, i0, y0_0, y0_1 =>
  (Jbt e0).bind fun x42 =>
  (ix y0_1 (i0 : Int)).bind fun x48 =>
  (if (((!x42.2.2) || (!x48.reached)) || decide (x48.depth < x42.1)) then some true else (chk (InI ((code.length : Int) - 1))).bind fun _ =>
  some (!((decide (e0.Op = 12)) == (decide ((i0 : Int) = ((code.length : Int) - 1)))))).bind fun x73 =>
  if x73 then
  some (Fl.ret (0, false))
  else
  if (decide (e0.Op = 12) && decide (x48.depth > 0)) then
  some (Fl.ret (0, false))
  else
  (if decide (e0.Op = 3) then (Jbp x48.stored [e0.N]).bind fun x93 =>
  (JbG x93 [e0.N]).bind fun x97 =>
  some (!x97) else some false).bind fun x99 =>
  if x99 then
  some (Fl.ret (0, false))
  else
  (chk (InI (x48.depth - x42.1))).bind fun _ =>
  (chk (InI ((x48.depth - x42.1) + x42.2.1))).bind fun _ =>
  ((if decide (e0.Op = 4) then
  (Jbz x48.stored e0.N).bind fun x114 =>
  some x114
  else
  some x48.stored : Option ((List Int)))).bind fun t905 =>
  ((if decide (e0.Op = 9) then
  some [e0.N]
  else
  some [((i0 : Int) + 1)] : Option ((List Int)))).bind fun t907 =>
  ((if decide (e0.Op = 10) then
  (chk (t907.length + [e0.N].length ≤ lim)).bind fun _ =>
  some (t907 ++ [e0.N])
  else
  some t907 : Option ((List Int)))).bind fun t909 =>
  (chk (t909.length ≤ szMax)).bind fun _ =>
  (Jw i0 code e0 x48 x42 t905 t909 0 y0_1).bind fun s2 => s2.el (fun r => some (Fl.ret r)) fun t2 =>
  JaA code xs0 (i0 + 1) (max (max y0_0 x48.depth) ((x48.depth - x42.1) + x42.2.1)) t2
noncomputable def JbH (code : (List Ju)) : Option (Int × Bool) :=
 if (decide ((code.length : Int) < 1) || decide ((code.length : Int) > 2048)) then
 some (0, false)
 else
 (chk (InI ((code.length : Int) + 1))).bind fun _ =>
 (chk (0 ≤ ((code.length : Int) + 1) ∧ ((code.length : Int) + 1) ≤ (lim : Int))).bind fun _ =>
 (ix (List.replicate (Int.toNat ((code.length : Int) + 1)) ((⟨false, 0, []⟩ : Jl) : Jl)) 0).bind fun x31 =>
 (chk (code.length ≤ szMax)).bind fun _ =>
 (JaA code code 0 0 ((List.replicate (Int.toNat ((code.length : Int) + 1)) ((⟨false, 0, []⟩ : Jl) : Jl)).set ((0 : Int).toNat) (⟨true, x31.depth, x31.stored⟩ : Jl))).bind fun s0 => s0.el some fun t0 =>
 some (t0.1, true)
set_option maxHeartbeats 8000000 in
theorem Jcu {code : (List Ju)} {ap0_0 : Option Addr} {cp0_0 : Nat} {n0 : Nat} {K : Hp} {r : Int × Bool}
  (hm : JbH code = some r) (hp0_0 : RdC Ju.enc K ap0_0 cp0_0 3 code) (en0 : n0 = code.length) :
  Fn Tryz.prog 17 [.slice ap0_0 n0 cp0_0] K [] (fun v K' H' => v = .tuple #[.int .i64 r.1, .bool r.2] ∧ H' = []) := by
 subst en0
 refine Fn.enter Tryz.func17 Tryz.call17 rfl fun F => ?_
 unfold JbH at hm
 conv => whnf
 refine RStep.of (len_slice rfl ?_)
 conv => whnf
 refine cond_s (fun g21_1 => ?_) (fun g21_1 => ?_)
 conv => whnf
 refine cond_t g21_1 ?_
 conv => whnf
 refine cond_t g21_1 ?_
 conv => whnf
 refine cond_t g21_1 ?_
 conv => whnf
 refine cond_go rfl ?_
 conv => whnf
 refine cond_T ?_
 replace hm := ift (or_t g21_1) hm
 obtain rfl := si hm
 conv => whnf
 refine EndStep.mk _ (Hp.Le.refl _) ⟨rfl, rfl⟩ (ConvH.of (.cons r0 .nil))
 conv => whnf
 refine cond_f g21_1 ?_
 conv => whnf
 refine RStep.of (len_slice rfl ?_)
 conv => whnf
 refine cond_f g21_1 ?_
 conv => whnf
 refine cond_f g21_1 ?_
 conv => whnf
 refine cond_go rfl ?_
 conv => whnf
 refine cond_s (fun w25 => ?_) (fun w25 => ?_)
 replace hm := ift (or_u g21_1 w25) hm
 obtain rfl := si hm
 conv => whnf
 refine EndStep.mk _ (Hp.Le.refl _) ⟨rfl, rfl⟩ (ConvH.of (.cons r0 .nil))
 replace hm := iff_ (or_f g21_1 w25) hm
 conv => whnf
 refine RStep.of (len_slice rfl ?_)
 obtain ⟨h28, hm⟩ := chkb hm
 conv => whnf
 refine int_in h28 ?_
 obtain ⟨h29, hm⟩ := chkb hm
 conv => whnf
 refine mk_sliceR [.bool false, .int .i64 0, .slice none 0 0] elT80 rfl rfl rfl h29 fun b29 => ?_
 obtain ⟨x31, l31, k31, hm⟩ := ixb hm
 conv => whnf
 refine RStep.ofN (index_addr rfl rfl (hasO (fun _ => ⟨_, _, rfl⟩) k31) l31 (lt_ofE List.length_replicate.symm l31 k31) ?_)
 conv => whnf
 refine eptr_field rfl (hasO (fun _ => ⟨_, _, rfl⟩) k31) ?_
 obtain ⟨ccw2, hcw2, hRw2⟩ := LR.get (show LR Jl.R _ (List.replicate (Int.toNat ((code.length : Int) + 1)) [.bool false, .int .i64 0, .slice none 0 0]) (List.replicate (Int.toNat ((code.length : Int) + 1)) ((⟨false, 0, []⟩ : Jl) : Jl)) from LR.repl _ ⟨none, 0, rfl, RdC.nil⟩) k31
 obtain ⟨aw2_0, cw2_0, rfl, hw2_0⟩ := hRw2
 conv => whnf
 refine stA (o := 0) [.bool true, .int .i64 x31.depth, .slice aw2_0 x31.stored.length cw2_0] r0 rfl hcw2 rfl (by (conv => whnf); exact ⟨rfl, rfl, (Nat.le_of_ble_eq_true rfl), rfl, rfl, rfl⟩) ?_
 conv => whnf
 refine RStep.of (len_slice rfl ?_)
 obtain ⟨hk0, hm⟩ := chkb hm
 obtain ⟨s0, hl0, hm⟩ := bnd hm
 conv => whnf
 refine code_cut (σ := (Int × (List Jl)) × List (List Value)) [2, 3, 5, 6, 7, 8, 9, 10, 11, 12, 13, 14, 16, 17, 35, 36, 37, 38, 39, 40, 41, 42, 43, 44, 45, 46, 47, 48, 49, 50, 51, 52, 53, 54, 55, 56, 57, 58, 59, 60, 61, 62, 63, 64, 65, 66, 67, 68, 69, 70, 71, 72, 73, 74, 75, 76, 77, 78, 79, 80, 81, 82, 83, 84, 85, 86, 87, 88, 89, 90, 91, 92, 93, 94, 95, 96, 97, 98, 99, 100, 101, 102, 103, 104, 105, 106, 107, 108, 109, 110, 111, 112, 113, 114, 115, 116, 117, 118, 119, 120, 121, 122, 123, 124, 125, 126, 127, 128, 129, 130, 131, 132, 133, 134, 135, 136, 137, 138, 139, 140, 141, 142, 143, 144, 145, 146, 147, 148, 149, 150, 151, 152, 153, 154, 155, 156, 157, 158, 159, 160, 161, 162, 163, 164, 165, 166, 167, 168, 169, 170, 171, 172, 173] (fun (t0, t0_s1) => [(5, .int .i64 t0.1)]) (fun (t0, t0_s1) => [OwnA (some ⟨b29, 0, none⟩) 83 3 (Int.toNat ((code.length : Int) + 1)) t0_s1, F]) (fun zz K1 => match zz with | (t0, t0_s1) => LR Jl.R K1 t0_s1 t0.2 ∧ (0 < t0.2.length → Has (some ⟨b29, 0, none⟩)) ∧ (Int.toNat ((code.length : Int) + 1)) = t0.2.length ∧ s0 = Fl.go t0) ?_ ?_
 refine block_go rfl ?_
 conv => whnf
 refine loop_rule (σ := Nat × Int × (List Jl) × List (List Value)) [2, 3, 5, 6, 7, 8, 9, 10, 11, 12, 13, 14, 16, 17, 35, 36, 37, 38, 39, 40, 41, 42, 43, 44, 45, 46, 47, 48, 49, 50, 51, 52, 53, 54, 55, 56, 57, 58, 59, 60, 61, 62, 63, 64, 65, 66, 67, 68, 69, 70, 71, 72, 73, 74, 75, 76, 77, 78, 79, 80, 81, 82, 83, 84, 85, 86, 87, 88, 89, 90, 91, 92, 93, 94, 95, 96, 97, 98, 99, 100, 101, 102, 103, 104, 105, 106, 107, 108, 109, 110, 111, 112, 113, 114, 115, 116, 117, 118, 119, 120, 121, 122, 123, 124, 125, 126, 127, 128, 129, 130, 131, 132, 133, 134, 135, 136, 137, 138, 139, 140, 141, 142, 143, 144, 145, 146, 147, 148, 149, 150, 151, 152, 153, 154, 155, 156, 157, 158, 159, 160, 161, 162, 163, 164, 165, 166, 167, 168, 169, 170, 171, 172, 173] (fun (i0, y0_0, y0_1, y0_s1) => [(35, .int .i64 (i0 : Int)), (5, .int .i64 y0_0)]) (fun (i0, y0_0, y0_1, y0_s1) => [OwnA (some ⟨b29, 0, none⟩) 83 3 (Int.toNat ((code.length : Int) + 1)) y0_s1, F]) (fun zz K1 => match zz with | (i0, y0_0, y0_1, y0_s1) => LR Jl.R K1 y0_s1 y0_1 ∧ (0 < y0_1.length → Has (some ⟨b29, 0, none⟩)) ∧ (Int.toNat ((code.length : Int) + 1)) = y0_1.length ∧ JaA code (code.drop i0) i0 y0_0 y0_1 = some s0) (fun zz => code.length - zz.1) (0, 0, ((List.replicate (Int.toNat ((code.length : Int) + 1)) ((⟨false, 0, []⟩ : Jl) : Jl)).set ((0 : Int).toNat) (⟨true, x31.depth, x31.stored⟩ : Jl)), ((List.replicate (Int.toNat ((code.length : Int) + 1)) [.bool false, .int .i64 0, .slice none 0 0]).set ((0 : Int).toNat) [.bool true, .int .i64 x31.depth, .slice aw2_0 x31.stored.length cw2_0])) rfl ⟨rfl, rfl, trivial⟩ (ConvH.of (.cons r0 (.cons r0 .nil))) ⟨(LR.set (show LR Jl.R _ (List.replicate (Int.toNat ((code.length : Int) + 1)) [.bool false, .int .i64 0, .slice none 0 0]) (List.replicate (Int.toNat ((code.length : Int) + 1)) ((⟨false, 0, []⟩ : Jl) : Jl)) from LR.repl _ ⟨none, 0, rfl, RdC.nil⟩) ⟨aw2_0, cw2_0, rfl, hw2_0⟩), (by first | simpa using (fun _ => ⟨_, _, rfl⟩) | exact fun _ => ⟨_, _, rfl⟩), ((List.length_replicate.symm).trans List.length_set.symm), hl0⟩ ?_
 clear hl0
 rintro ⟨i0, y0_0, y0_1, y0_s1⟩ Kb0 lk0 ⟨y0_r1, y0_h1, y0_n1, hl0⟩ j0
 conv => whnf
 refine cond_go rfl ?_
 conv => whnf
 refine cond_s (fun w0 => ?_) (fun w0 => ?_)
 obtain ⟨e0, hx0, hd0⟩ := ltx w0
 rw [hd0, JaA.eq_2] at hl0
 conv => whnf
 refine block_go rfl ?_
 conv => whnf
 refine RStep.ofN (index_addr rfl rfl (hasK (hp0_0.mono lk0).rd hx0) (nn _) (lt_ofN hx0) ?_)
 conv => whnf
 refine RStep.of (load_rd_agg i0 _ (hp0_0.mono lk0).rd rfl (mp hx0) rfl ?_)
 conv => whnf
 refine alloc_rule rfl ?_
 intro b7
 conv => whnf
 refine store_rule r0 rfl ?_
 conv => whnf
 refine ⟨rfl, rfl, (Nat.le_of_ble_eq_true rfl), ?_⟩
 conv => whnf
 refine RStep.of (loadn_s r0 rfl (Nat.le_of_ble_eq_true rfl) ?_)
 obtain ⟨x42, q42, hl0⟩ := bnd hl0
 conv => whnf
 refine call_fn (Jcr (x := e0) q42) .nil ?_
 rintro _ K42 _ l42 ⟨rfl, rfl⟩
 obtain ⟨x48, l48, k48, hl0⟩ := ixb hl0
 conv => whnf
 refine RStep.ofN (index_addr rfl rfl (hasO y0_h1 k48) l48 (lt_ofE y0_n1 l48 k48) ?_)
 obtain ⟨cc49, hc49, hR49⟩ := LR.get (LR.mono Jl.R_ok l42 y0_r1) k48
 obtain ⟨a49_0, c49_0, rfl, h49_0⟩ := hR49
 conv => whnf
 refine RStep.of (ldnA (i := ((i0 : Int)).toNat) r1 rfl hc49 rfl ?_)
 conv => whnf
 refine alloc_rule rfl ?_
 intro b11
 conv => whnf
 refine store_rule r0 rfl ?_
 conv => whnf
 refine ⟨rfl, rfl, (Nat.le_of_ble_eq_true rfl), ?_⟩
 conv => whnf
 refine un_not ?_
 conv => whnf
 refine cond_s (fun g52_11 => ?_) (fun g52_11 => ?_)
 conv => whnf
 refine cond_t g52_11 ?_
 conv => whnf
 refine cond_t g52_11 ?_
 conv => whnf
 refine cond_t g52_11 ?_
 conv => whnf
 refine cond_T ?_
 conv => whnf
 refine cond_T ?_
 conv => whnf
 refine cond_T ?_
 conv => whnf
 refine cond_T ?_
 conv => whnf
 refine cond_T ?_
 obtain ⟨x73, e73, hl0⟩ := bnd hl0
 replace e73 := ift (or_t (or_t (not_t (ni_t g52_11)))) e73
 conv => whnf
 refine cond_T ?_
 conv => whnf
 refine cond_T ?_
 conv => whnf
 refine cond_T ?_
 conv => whnf
 refine cond_T ?_
 conv => whnf
 refine cond_T ?_
 conv => whnf
 refine cond_T ?_
 conv => whnf
 refine cond_T ?_
 conv => whnf
 refine cond_T ?_
 conv => whnf
 refine cond_T ?_
 conv => whnf
 refine cond_T ?_
 replace hl0 := ift (si e73).symm hl0
 conv => whnf
 refine cond_T ?_
 conv => whnf
 refine cond_T ?_
 conv => whnf
 refine cond_T ?_
 conv => whnf
 refine cond_T ?_
 conv => whnf
 refine cond_T ?_
 conv => whnf
 refine cond_T ?_
 conv => whnf
 refine cond_go rfl ?_
 conv => whnf
 refine cond_T ?_
 obtain rfl := si hl0
 replace hm := elr hm
 obtain rfl := si hm
 conv => whnf
 refine EndStep.mk _ (lk0.trans l42) ⟨rfl, rfl⟩ (ConvH.of (.cons r3 .nil))
 conv => whnf
 refine Jb rfl ?_
 conv => whnf
 refine cond_f g52_11 ?_
 conv => whnf
 refine RStep.of (load1_s r0 rfl rfl ?_)
 conv => whnf
 refine cond_f g52_11 ?_
 conv => whnf
 refine un_not ?_
 conv => whnf
 refine cond_f g52_11 ?_
 conv => whnf
 refine cond_s (fun g57_11 => ?_) (fun g57_11 => ?_)
 conv => whnf
 refine cond_t g57_11 ?_
 conv => whnf
 refine cond_t g57_11 ?_
 conv => whnf
 refine cond_t g57_11 ?_
 conv => whnf
 refine cond_t g57_11 ?_
 obtain ⟨x73, e73, hl0⟩ := bnd hl0
 replace e73 := ift (or_t (or_u (not_f (ni_f g52_11)) (not_t (ni_t g57_11)))) e73
 conv => whnf
 refine cond_T ?_
 conv => whnf
 refine cond_T ?_
 conv => whnf
 refine cond_T ?_
 conv => whnf
 refine cond_T ?_
 conv => whnf
 refine cond_T ?_
 conv => whnf
 refine cond_T ?_
 conv => whnf
 refine cond_T ?_
 conv => whnf
 refine cond_T ?_
 conv => whnf
 refine cond_T ?_
 conv => whnf
 refine cond_T ?_
 replace hl0 := ift (si e73).symm hl0
 conv => whnf
 refine cond_T ?_
 conv => whnf
 refine cond_T ?_
 conv => whnf
 refine cond_T ?_
 conv => whnf
 refine cond_T ?_
 conv => whnf
 refine cond_T ?_
 conv => whnf
 refine cond_T ?_
 conv => whnf
 refine cond_go rfl ?_
 conv => whnf
 refine cond_T ?_
 obtain rfl := si hl0
 replace hm := elr hm
 obtain rfl := si hm
 conv => whnf
 refine EndStep.mk _ (lk0.trans l42) ⟨rfl, rfl⟩ (ConvH.of (.cons r3 .nil))
 conv => whnf
 refine Jb rfl ?_
 conv => whnf
 refine cond_f g57_11 ?_
 conv => whnf
 refine RStep.of (load1_s r0 rfl rfl ?_)
 conv => whnf
 refine cond_f g57_11 ?_
 conv => whnf
 refine cond_f g57_11 ?_
 conv => whnf
 refine cond_f g57_11 ?_
 obtain ⟨x73, e73, hl0⟩ := bnd hl0
 conv => whnf
 refine cond_s (fun g63_11 => ?_) (fun g63_11 => ?_)
 replace e73 := ift (or_u (or_f (not_f (ni_f g52_11)) (not_f (ni_f g57_11))) g63_11) e73
 conv => whnf
 refine cond_t g63_11 ?_
 conv => whnf
 refine cond_t g63_11 ?_
 conv => whnf
 refine cond_t g63_11 ?_
 conv => whnf
 refine cond_t g63_11 ?_
 conv => whnf
 refine cond_t g63_11 ?_
 conv => whnf
 refine cond_t g63_11 ?_
 conv => whnf
 refine cond_t g63_11 ?_
 conv => whnf
 refine cond_t g63_11 ?_
 conv => whnf
 refine cond_t g63_11 ?_
 replace hl0 := ift (si e73).symm hl0
 conv => whnf
 refine cond_T ?_
 conv => whnf
 refine cond_T ?_
 conv => whnf
 refine cond_T ?_
 conv => whnf
 refine cond_T ?_
 conv => whnf
 refine cond_T ?_
 conv => whnf
 refine cond_T ?_
 conv => whnf
 refine cond_go rfl ?_
 conv => whnf
 refine cond_T ?_
 obtain rfl := si hl0
 replace hm := elr hm
 obtain rfl := si hm
 conv => whnf
 refine EndStep.mk _ (lk0.trans l42) ⟨rfl, rfl⟩ (ConvH.of (.cons r3 .nil))
 replace e73 := iff_ (or_f (or_f (not_f (ni_f g52_11)) (not_f (ni_f g57_11))) g63_11) e73
 conv => whnf
 refine Jb rfl ?_
 conv => whnf
 refine cond_f g63_11 ?_
 conv => whnf
 refine RStep.of (load1_s r1 rfl rfl ?_)
 conv => whnf
 refine cond_f g63_11 ?_
 conv => whnf
 refine eq_int ?_
 conv => whnf
 refine cond_f g63_11 ?_
 conv => whnf
 refine cond_f g63_11 ?_
 conv => whnf
 refine cond_f g63_11 ?_
 conv => whnf
 refine RStep.of (len_slice rfl ?_)
 conv => whnf
 refine cond_f g63_11 ?_
 obtain ⟨h70, e73⟩ := chkb e73
 conv => whnf
 refine int_in h70 ?_
 conv => whnf
 refine cond_f g63_11 ?_
 conv => whnf
 refine eq_int ?_
 conv => whnf
 refine cond_f g63_11 ?_
 conv => whnf
 refine neq_bool rfl ?_
 conv => whnf
 refine cond_f g63_11 ?_
 conv => whnf
 refine cond_s (fun g74_11 => ?_) (fun g74_11 => ?_)
 replace hl0 := ift ((si e73).symm.trans g74_11) hl0
 conv => whnf
 refine cond_t g74_11 ?_
 conv => whnf
 refine cond_t g74_11 ?_
 conv => whnf
 refine cond_t g74_11 ?_
 conv => whnf
 refine cond_t g74_11 ?_
 conv => whnf
 refine cond_t g74_11 ?_
 conv => whnf
 refine cond_go rfl ?_
 conv => whnf
 refine cond_T ?_
 obtain rfl := si hl0
 replace hm := elr hm
 obtain rfl := si hm
 conv => whnf
 refine EndStep.mk _ (lk0.trans l42) ⟨rfl, rfl⟩ (ConvH.of (.cons r3 .nil))
 replace hl0 := iff_ ((si e73).symm.trans g74_11) hl0
 conv => whnf
 refine Jb rfl ?_
 conv => whnf
 refine cond_f g74_11 ?_
 conv => whnf
 refine RStep.of (load1_s r1 rfl rfl ?_)
 conv => whnf
 refine cond_f g74_11 ?_
 conv => whnf
 refine eq_int ?_
 conv => whnf
 refine cond_f g74_11 ?_
 conv => whnf
 refine cond_s (fun g78_11 => ?_) (fun g78_11 => ?_)
 conv => whnf
 refine Jb rfl ?_
 conv => whnf
 refine cond_t g78_11 ?_
 conv => whnf
 refine RStep.of (load1_s r0 rfl rfl ?_)
 conv => whnf
 refine cond_t g78_11 ?_
 conv => whnf
 refine cond_f g74_11 ?_
 conv => whnf
 refine cond_t g78_11 ?_
 conv => whnf
 refine cond_f g74_11 ?_
 conv => whnf
 refine cond_go rfl ?_
 conv => whnf
 refine cond_s (fun w83 => ?_) (fun w83 => ?_)
 replace hl0 := ift (and_t g78_11 w83) hl0
 obtain rfl := si hl0
 replace hm := elr hm
 obtain rfl := si hm
 conv => whnf
 refine EndStep.mk _ (lk0.trans l42) ⟨rfl, rfl⟩ (ConvH.of (.cons r3 .nil))
 replace hl0 := iff_ (and_g g78_11 w83) hl0
 conv => whnf
 refine draw_go_F ⟨⟨[], false⟩, _, [(_, _), (_, _)]⟩ 16 rfl (by kernel_rfl) ⟨Hp.Le.refl _, (ConvH.of (.cons r1 (.cons r0 .nil)))⟩ ?_
 conv => whnf
 refine Jb rfl ?_
 conv => whnf
 refine load1_l m0 rfl rfl ?_
 conv => whnf
 refine eq_int ?_
 obtain ⟨x99, e99, hl0⟩ := bnd hl0
 conv => whnf
 refine cond_s (fun g87_13 => ?_) (fun g87_13 => ?_)
 replace e99 := ift g87_13 e99
 conv => whnf
 refine Jb rfl ?_
 conv => whnf
 refine cond_t g87_13 ?_
 conv => whnf
 refine load1_l m1 rfl rfl ?_
 conv => whnf
 refine cond_t g87_13 ?_
 conv => whnf
 refine Jb rfl ?_
 conv => whnf
 refine cond_t g87_13 ?_
 conv => whnf
 refine load1_l m0 rfl rfl ?_
 conv => whnf
 refine cond_t g87_13 ?_
 conv => whnf
 refine bsA (len := 1) (cl := [.int .i64 e0.N]) elT81 rfl rfl ?_ fun b92 => ?_
 ·conv => whnf
  refine cond_T ?_
  conv => whnf
  first | done | rfl
 conv => whnf
 refine cond_t g87_13 ?_
 conv => whnf
 intro GG9
 obtain ⟨x93, q93, e99⟩ := bnd e99
 conv => whnf
 refine litF (enc := eN) (sz := 1) (l := [e0.N]) Tryz.call38 r0 rfl (fun _ _ => rfl) rfl (Nat.le_of_ble_eq_true rfl) ?_
 refine call_fn (Fn.lend Tryz.call38 (fun K93_1 l93_1 f93_1 => (Jb0 q93 (h49_0.mono l93_1) rfl f93_1 rfl)) (by exact fun _ _ _ _ h => h)) (.cons r0 .nil) ?_
 rintro _ K93 _ l93 ⟨_, rfl, a93_0, c93_0, rfl, h93_0, rfl⟩
 conv => whnf
 refine ⟨⟨l93, (ConvH.of (.cons r3 (.cons r2 .nil)))⟩, ?_⟩
 refine ⟨_, .cons r6 .nil, ⟨l93, (ConvH.of (.cons r3 (.cons r2 .nil)))⟩, ?_⟩
 conv => whnf
 refine cond_t g87_13 ?_
 conv => whnf
 refine Jb rfl ?_
 conv => whnf
 refine cond_t g87_13 ?_
 conv => whnf
 refine load1_l m0 rfl rfl ?_
 conv => whnf
 refine cond_t g87_13 ?_
 conv => whnf
 refine bsA (len := 1) (cl := [.int .i64 e0.N]) elT81 rfl rfl ?_ fun b96 => ?_
 ·conv => whnf
  refine cond_T ?_
  conv => whnf
  first | done | rfl
 conv => whnf
 refine cond_t g87_13 ?_
 conv => whnf
 intro GG13
 obtain ⟨x97, q97, e99⟩ := bnd e99
 conv => whnf
 refine litF (enc := eN) (sz := 1) (l := [e0.N]) Tryz.call37 r0 rfl (fun _ _ => rfl) rfl (Nat.le_of_ble_eq_true rfl) ?_
 refine call_fn (Fn.lend Tryz.call37 (fun K97_0 l97_0 f97_0 => (Fn.lend Tryz.call37 (fun K97_1 l97_1 f97_1 => (Jcm q97 (f97_0.mono l97_1) rfl f97_1 rfl)) (by exact fun _ _ _ _ h => h))) (by exact fun _ _ _ _ h => h)) (.cons r2 (.cons r0 .nil)) ?_
 rintro _ K97 _ l97 ⟨_, rfl, _, rfl, rfl, rfl⟩
 conv => whnf
 refine ⟨⟨(l93.trans l97), (ConvH.of (.cons r4 (.cons r3 .nil)))⟩, ?_⟩
 refine ⟨_, .cons r7 .nil, ⟨(l93.trans l97), (ConvH.of (.cons r4 (.cons r3 .nil)))⟩, ?_⟩
 conv => whnf
 refine cond_t g87_13 ?_
 conv => whnf
 refine un_not ?_
 conv => whnf
 refine cond_t g87_13 ?_
 conv => whnf
 refine cond_go rfl ?_
 conv => whnf
 refine cond_s (fun w99 => ?_) (fun w99 => ?_)
 replace hl0 := ift ((si e99).symm.trans (not_t (ni_t w99))) hl0
 obtain rfl := si hl0
 replace hm := elr hm
 obtain rfl := si hm
 conv => whnf
 refine EndStep.mk _ (((lk0.trans l42).trans l93).trans l97) ⟨rfl, rfl⟩ (ConvH.of (.cons r6 .nil))
 replace hl0 := iff_ ((si e99).symm.trans (not_f (ni_f w99))) hl0
 conv => whnf
 refine draw_go ⟨⟨[], false⟩, _, [(_, _)]⟩ (by kernel_rfl) ⟨Hp.Le.refl _, (ConvH.of (.cons r3 .nil))⟩ ?_
 conv => whnf
 refine Jb rfl ?_
 conv => whnf
 refine load1_l m0 rfl rfl ?_
 obtain ⟨h103, hl0⟩ := chkb hl0
 conv => whnf
 refine int_in h103 ?_
 obtain ⟨h105, hl0⟩ := chkb hl0
 conv => whnf
 refine int_in h105 ?_
 conv => whnf
 refine Jb rfl ?_
 conv => whnf
 refine load1_l m0 rfl rfl ?_
 conv => whnf
 refine Jb rfl ?_
 conv => whnf
 refine RStep.of (load1_s r4 rfl rfl ?_)
 conv => whnf
 refine eq_int ?_
 obtain ⟨s905, hl905, hl0⟩ := bnd hl0
 conv => whnf
 refine code_cut (σ := ((List Int)) × Option Addr × Nat) [13, 111, 112, 113, 114] (fun (t905, t905_a0, t905_c0) => [(13, .slice t905_a0 t905.length t905_c0)]) (fun (t905, t905_a0, t905_c0) => [OwnL eN a93_0 3 1 c93_0 x93, OwnL eN (some ⟨b96, 0, none⟩) 3 1 ([e0.N].length) [e0.N], OwnL eN (some ⟨b92, 0, none⟩) 3 1 ([e0.N].length) [e0.N], Cells b11 83 [.bool x48.reached, .int .i64 x48.depth, .slice a49_0 x48.stored.length c49_0], Cells b7 73 [.int .i64 e0.Op, .int .i64 e0.N, str e0.S], OwnA (some ⟨b29, 0, none⟩) 83 3 (Int.toNat ((code.length : Int) + 1)) y0_s1, F]) (fun zz K1 => match zz with | (t905, t905_a0, t905_c0) => RdC eN K1 t905_a0 t905_c0 1 t905 ∧ t905 = s905) ?_ ?_
 refine cond_go rfl ?_
 conv => whnf
 refine cond_s (fun w110 => ?_) (fun w110 => ?_)
 replace hl905 := ift w110 hl905
 conv => whnf
 refine Jb rfl ?_
 conv => whnf
 refine RStep.of (load1_s r4 rfl rfl ?_)
 obtain ⟨x114, q114, hl905⟩ := bnd hl905
 conv => whnf
 refine call_fn (Jby (n' := e0.N) q114 (h49_0.mono (l93.trans l97)) rfl) .nil ?_
 rintro _ K114 _ l114 ⟨a114_0, c114_0, rfl, h114_0, rfl⟩
 conv => whnf
 refine fMe r0 fun Kr905_0 lr905_0 fr905_0 => ?_
 refine MeetStep.mk (x114, a114_0, c114_0) ⟨rfl, trivial⟩ (by repeat (first | exact trivial | refine And.intro rfl ?_)) (ConvH.of (.cons r0 (.cons r0 (.cons r0 (.cons r0 (.cons r0 (.cons r0 (.cons r0 .nil)))))))) (l114.trans lr905_0) ⟨fr905_0, (si hl905)⟩
 replace hl905 := iff_ w110 hl905
 conv => whnf
 refine MeetStep.mk (x48.stored, a49_0, c49_0) ⟨rfl, trivial⟩ (by repeat (first | exact trivial | refine And.intro rfl ?_)) (ConvH.of (.cons r0 (.cons r0 (.cons r0 (.cons r0 (.cons r0 (.cons r0 (.cons r0 .nil)))))))) (Hp.Le.refl _) ⟨(h49_0.mono (l93.trans l97)), (si hl905)⟩
 rintro ⟨t905, t905_a0, t905_c0⟩ Kt905 lt905 ⟨t905_h0, rfl⟩ j905
 conv => whnf
 refine Jb rfl ?_
 conv => whnf
 refine RStep.of (load1_s r3 rfl rfl ?_)
 conv => whnf
 refine RStep.of (max3_int ?_)
 conv => whnf
 refine int_in (cntz hx0 hk0) ?_
 conv => whnf
 refine bsO (len := 1) (enc := eN) (l := [((i0 : Int) + 1)]) (cl := [.int .i64 ((i0 : Int) + 1)]) elT81 rfl rfl (fun _ _ => rfl) rfl rfl rfl ?_ fun b122 => ?_
 ·conv => whnf
  refine cond_T ?_
  conv => whnf
  first | done | rfl
 conv => whnf
 refine Jb rfl ?_
 conv => whnf
 refine RStep.of (load1_s r5 rfl rfl ?_)
 conv => whnf
 refine eq_int ?_
 obtain ⟨s907, hl907, hl0⟩ := bnd hl0
 conv => whnf
 refine code_cut (σ := ((List Int)) × Option Addr × Nat) [14, 126, 127, 128] (fun (t907, t907_a0, t907_c0) => [(14, .slice t907_a0 t907.length t907_c0)]) (fun (t907, t907_a0, t907_c0) => [OwnL eN t907_a0 3 1 t907_c0 t907, OwnL eN a93_0 3 1 c93_0 x93, OwnL eN (some ⟨b96, 0, none⟩) 3 1 ([e0.N].length) [e0.N], OwnL eN (some ⟨b92, 0, none⟩) 3 1 ([e0.N].length) [e0.N], Cells b11 83 [.bool x48.reached, .int .i64 x48.depth, .slice a49_0 x48.stored.length c49_0], Cells b7 73 [.int .i64 e0.Op, .int .i64 e0.N, str e0.S], OwnA (some ⟨b29, 0, none⟩) 83 3 (Int.toNat ((code.length : Int) + 1)) y0_s1, F]) (fun zz K1 => match zz with | (t907, t907_a0, t907_c0) => (0 < t907.length → Has t907_a0) ∧ t907 = s907) ?_ ?_
 refine cond_go rfl ?_
 conv => whnf
 refine cond_s (fun w125 => ?_) (fun w125 => ?_)
 replace hl907 := ift w125 hl907
 conv => whnf
 refine Jb rfl ?_
 conv => whnf
 refine RStep.of (load1_s r5 rfl rfl ?_)
 conv => whnf
 refine bsO (len := 1) (enc := eN) (l := [e0.N]) (cl := [.int .i64 e0.N]) elT81 rfl rfl (fun _ _ => rfl) rfl rfl rfl ?_ fun b128 => ?_
 ·conv => whnf
  refine cond_T ?_
  conv => whnf
  first | done | rfl
 conv => whnf
 refine MeetStep.mk ([e0.N], (some ⟨b128, 0, none⟩), 1) ⟨rfl, trivial⟩ (by repeat (first | exact trivial | refine And.intro rfl ?_)) (ConvH.of (.cons r0 (.cons r1 (.cons r1 (.cons r1 (.cons r1 (.cons r1 (.cons r1 (.cons r1 .nil))))))))) (Hp.Le.refl _) ⟨(fun _ => ⟨_, _, rfl⟩), (si hl907)⟩
 replace hl907 := iff_ w125 hl907
 conv => whnf
 refine MeetStep.mk ([((i0 : Int) + 1)], (some ⟨b122, 0, none⟩), 1) ⟨rfl, trivial⟩ (by repeat (first | exact trivial | refine And.intro rfl ?_)) (ConvH.of (.cons r0 (.cons r0 (.cons r0 (.cons r0 (.cons r0 (.cons r0 (.cons r0 (.cons r0 .nil))))))))) (Hp.Le.refl _) ⟨(fun _ => ⟨_, _, rfl⟩), (si hl907)⟩
 rintro ⟨t907, t907_a0, t907_c0⟩ Kt907 lt907 ⟨t907_h0, rfl⟩ j907
 conv => whnf
 refine Jb rfl ?_
 conv => whnf
 refine RStep.of (load1_s r5 rfl rfl ?_)
 conv => whnf
 refine eq_int ?_
 obtain ⟨s909, hl909, hl0⟩ := bnd hl0
 conv => whnf
 refine code_cut (σ := ((List Int)) × Option Addr × Nat) [14, 132, 133, 134, 135, 136] (fun (t909, t909_a0, t909_c0) => [(14, .slice t909_a0 t909.length t909_c0)]) (fun (t909, t909_a0, t909_c0) => [OwnL eN t909_a0 3 1 t909_c0 t909, OwnL eN a93_0 3 1 c93_0 x93, OwnL eN (some ⟨b96, 0, none⟩) 3 1 ([e0.N].length) [e0.N], OwnL eN (some ⟨b92, 0, none⟩) 3 1 ([e0.N].length) [e0.N], Cells b11 83 [.bool x48.reached, .int .i64 x48.depth, .slice a49_0 x48.stored.length c49_0], Cells b7 73 [.int .i64 e0.Op, .int .i64 e0.N, str e0.S], OwnA (some ⟨b29, 0, none⟩) 83 3 (Int.toNat ((code.length : Int) + 1)) y0_s1, F]) (fun zz K1 => match zz with | (t909, t909_a0, t909_c0) => (0 < t909.length → Has t909_a0) ∧ t909 = s909) ?_ ?_
 refine cond_go rfl ?_
 conv => whnf
 refine cond_s (fun w131 => ?_) (fun w131 => ?_)
 replace hl909 := ift w131 hl909
 conv => whnf
 refine Jb rfl ?_
 conv => whnf
 refine RStep.of (load1_s r5 rfl rfl ?_)
 conv => whnf
 refine bsO (len := 1) (enc := eN) (l := [e0.N]) (cl := [.int .i64 e0.N]) elT81 rfl rfl (fun _ _ => rfl) rfl rfl rfl ?_ fun b135 => ?_
 ·conv => whnf
  refine cond_T ?_
  conv => whnf
  first | done | rfl
 obtain ⟨h136, hl909⟩ := chkb hl909
 conv => whnf
 refine apE rfl r1 elT81 (src_own' rfl r0 rfl (fun _ => rfl) (fun _ => rfl)) h136 ?_
 intro a136 c136 o136
 conv => whnf
 refine MeetStep.mk ((t907 ++ [e0.N]), a136, c136) ⟨rfl, trivial⟩ (by repeat (first | exact trivial | refine And.intro rfl ?_)) (ConvH.of (.cons r0 (.cons r1 (.cons r1 (.cons r1 (.cons r1 (.cons r1 (.cons r1 (.cons r1 .nil))))))))) (Hp.Le.refl _) ⟨o136, (si hl909)⟩
 replace hl909 := iff_ w131 hl909
 conv => whnf
 refine MeetStep.mk (t907, t907_a0, t907_c0) ⟨rfl, trivial⟩ (by repeat (first | exact trivial | refine And.intro rfl ?_)) (ConvH.of (.cons r0 (.cons r0 (.cons r0 (.cons r0 (.cons r0 (.cons r0 (.cons r0 (.cons r0 .nil))))))))) (Hp.Le.refl _) ⟨t907_h0, (si hl909)⟩
 rintro ⟨t909, t909_a0, t909_c0⟩ Kt909 lt909 ⟨t909_h0, rfl⟩ j909
 conv => whnf
 refine RStep.of (len_slice rfl ?_)
 obtain ⟨hk2, hl0⟩ := chkb hl0
 obtain ⟨s2, hl2, hl0⟩ := bnd hl0
 conv => whnf
 refine code_cut (σ := ((List Jl)) × List (List Value)) [2, 3, 16, 17, 139, 140, 141, 142, 143, 144, 145, 146, 147, 148, 149, 150, 151, 152, 153, 154, 155, 156, 157, 158, 159, 160, 161, 162, 163, 164, 165, 166, 167, 168, 169, 170, 171, 172] (fun (t2, t2_s0) => []) (fun (t2, t2_s0) => [OwnL eN t909_a0 3 1 t909_c0 t909, OwnL eN a93_0 3 1 c93_0 x93, OwnL eN (some ⟨b96, 0, none⟩) 3 1 ([e0.N].length) [e0.N], OwnL eN (some ⟨b92, 0, none⟩) 3 1 ([e0.N].length) [e0.N], Cells b11 83 [.bool x48.reached, .int .i64 x48.depth, .slice a49_0 x48.stored.length c49_0], Cells b7 73 [.int .i64 e0.Op, .int .i64 e0.N, str e0.S], OwnA (some ⟨b29, 0, none⟩) 83 3 (Int.toNat ((code.length : Int) + 1)) t2_s0, F]) (fun zz K1 => match zz with | (t2, t2_s0) => LR Jl.R K1 t2_s0 t2 ∧ (0 < t2.length → Has (some ⟨b29, 0, none⟩)) ∧ (Int.toNat ((code.length : Int) + 1)) = t2.length ∧ s2 = Fl.go t2) ?_ ?_
 refine block_go rfl ?_
 conv => whnf
 refine loop_rule (σ := Nat × (List Jl) × List (List Value)) [2, 3, 16, 17, 139, 140, 141, 142, 143, 144, 145, 146, 147, 148, 149, 150, 151, 152, 153, 154, 155, 156, 157, 158, 159, 160, 161, 162, 163, 164, 165, 166, 167, 168, 169, 170, 171, 172] (fun (i2, y2_0, y2_s0) => [(139, .int .i64 (i2 : Int))]) (fun (i2, y2_0, y2_s0) => [OwnL eN t909_a0 3 1 t909_c0 t909, OwnL eN a93_0 3 1 c93_0 x93, OwnL eN (some ⟨b96, 0, none⟩) 3 1 ([e0.N].length) [e0.N], OwnL eN (some ⟨b92, 0, none⟩) 3 1 ([e0.N].length) [e0.N], Cells b11 83 [.bool x48.reached, .int .i64 x48.depth, .slice a49_0 x48.stored.length c49_0], Cells b7 73 [.int .i64 e0.Op, .int .i64 e0.N, str e0.S], OwnA (some ⟨b29, 0, none⟩) 83 3 (Int.toNat ((code.length : Int) + 1)) y2_s0, F]) (fun zz K1 => match zz with | (i2, y2_0, y2_s0) => LR Jl.R K1 y2_s0 y2_0 ∧ (0 < y2_0.length → Has (some ⟨b29, 0, none⟩)) ∧ (Int.toNat ((code.length : Int) + 1)) = y2_0.length ∧ Jw i0 code e0 x48 x42 t905 (t909.drop i2) i2 y2_0 = some s2) (fun zz => t909.length - zz.1) (0, y0_1, y0_s1) rfl ⟨rfl, trivial⟩ (ConvH.of (.cons r0 (.cons r0 (.cons r0 (.cons r0 (.cons r0 (.cons r0 (.cons r0 (.cons r0 .nil))))))))) ⟨(LR.mono Jl.R_ok (((((l42.trans l93).trans l97).trans lt905).trans lt907).trans lt909) y0_r1), y0_h1, y0_n1, hl2⟩ ?_
 clear hl2
 rintro ⟨i2, y2_0, y2_s0⟩ Kb2 lk2 ⟨y2_r0, y2_h0, y2_n0, hl2⟩ j2
 conv => whnf
 refine cond_go rfl ?_
 conv => whnf
 refine cond_s (fun w2 => ?_) (fun w2 => ?_)
 obtain ⟨e2, hx2, hd2⟩ := ltx w2
 rw [hd2, Jw.eq_2] at hl2
 conv => whnf
 refine block_go rfl ?_
 conv => whnf
 refine RStep.ofN (index_addr rfl rfl (hasO t909_h0 hx2) (nn _) (lt_ofNE rfl hx2) ?_)
 conv => whnf
 refine RStep.of (ld_own (i := i2) (o := 0) r0 rfl hx2 rfl rfl ?_)
 conv => whnf
 refine cond_s (fun g146_27 => ?_) (fun g146_27 => ?_)
 replace hl2 := ift g146_27 hl2
 conv => whnf
 refine cond_t g146_27 ?_
 conv => whnf
 refine cond_t g146_27 ?_
 conv => whnf
 refine cond_t g146_27 ?_
 conv => whnf
 refine cond_t g146_27 ?_
 conv => whnf
 refine cond_t g146_27 ?_
 conv => whnf
 refine cond_t g146_27 ?_
 conv => whnf
 refine cond_go rfl ?_
 conv => whnf
 refine cond_T ?_
 obtain rfl := si hl2
 replace hl0 := elr hl0
 obtain rfl := si hl0
 replace hm := elr hm
 obtain rfl := si hm
 conv => whnf
 refine EndStep.mk _ (((((((lk0.trans l42).trans l93).trans l97).trans lt905).trans lt907).trans lt909).trans lk2) ⟨rfl, rfl⟩ (ConvH.of (.cons r7 .nil))
 replace hl2 := iff_ g146_27 hl2
 conv => whnf
 refine cond_f g146_27 ?_
 conv => whnf
 refine cond_f g146_27 ?_
 conv => whnf
 refine RStep.of (len_slice rfl ?_)
 conv => whnf
 refine cond_f g146_27 ?_
 conv => whnf
 refine cond_f g146_27 ?_
 conv => whnf
 refine cond_s (fun g151_27 => ?_) (fun g151_27 => ?_)
 conv => whnf
 refine Jb rfl ?_
 conv => whnf
 refine cond_t g151_27 ?_
 conv => whnf
 refine RStep.of (load1_s r5 rfl rfl ?_)
 conv => whnf
 refine cond_t g151_27 ?_
 conv => whnf
 refine neq_int ?_
 conv => whnf
 refine cond_f g146_27 ?_
 conv => whnf
 refine cond_t g151_27 ?_
 conv => whnf
 refine cond_f g146_27 ?_
 conv => whnf
 refine cond_go rfl ?_
 conv => whnf
 refine cond_s (fun w156 => ?_) (fun w156 => ?_)
 replace hl2 := ift (and_t g151_27 w156) hl2
 obtain rfl := si hl2
 replace hl0 := elr hl0
 obtain rfl := si hl0
 replace hm := elr hm
 obtain rfl := si hm
 conv => whnf
 refine EndStep.mk _ (((((((lk0.trans l42).trans l93).trans l97).trans lt905).trans lt907).trans lt909).trans lk2) ⟨rfl, rfl⟩ (ConvH.of (.cons r7 .nil))
 replace hl2 := iff_ (and_g g151_27 w156) hl2
 obtain ⟨x162, l162, k162, hl2⟩ := ixb hl2
 conv => whnf
 refine RStep.ofN (index_addr rfl rfl (hasO y2_h0 k162) l162 (lt_ofE y2_n0 l162 k162) ?_)
 obtain ⟨cc163, hc163, hR163⟩ := LR.get y2_r0 k162
 obtain ⟨a163_0, c163_0, rfl, h163_0⟩ := hR163
 conv => whnf
 refine RStep.of (ldnA (i := (e2).toNat) r6 rfl hc163 rfl ?_)
 obtain ⟨x166, q166, hl2⟩ := bnd hl2
 conv => whnf
 refine call_fn (Jax (s := x162) (depth := ((x48.depth - x42.1) + x42.2.1)) q166 h163_0 (t905_h0.mono ((lt907.trans lt909).trans lk2)) rfl) .nil ?_
 rintro _ K166 _ l166 ⟨a166_0, c166_0, rfl, h166_0, rfl⟩
 obtain ⟨x169, l169, k169, hl2⟩ := ixb hl2
 conv => whnf
 refine RStep.ofN (index_addr rfl rfl (hasO y2_h0 k169) l169 (lt_ofE y2_n0 l169 k169) ?_)
 obtain ⟨ccw12, hcw12, _⟩ := LR.get (LR.mono Jl.R_ok l166 y2_r0) k169
 conv => whnf
 refine stA0 [.bool x166.1.reached, .int .i64 x166.1.depth, .slice a166_0 x166.1.stored.length c166_0] r6 rfl hcw12 rfl (by (conv => whnf); exact ⟨rfl, rfl, rfl, rfl⟩) ?_
 conv => whnf
 refine un_not ?_
 conv => whnf
 refine cond_go rfl ?_
 conv => whnf
 refine cond_s (fun w171 => ?_) (fun w171 => ?_)
 replace hl2 := ift (not_t (ni_t w171)) hl2
 obtain rfl := si hl2
 replace hl0 := elr hl0
 obtain rfl := si hl0
 replace hm := elr hm
 obtain rfl := si hm
 conv => whnf
 refine EndStep.mk _ ((((((((lk0.trans l42).trans l93).trans l97).trans lt905).trans lt907).trans lt909).trans lk2).trans l166) ⟨rfl, rfl⟩ (ConvH.of (.cons r7 .nil))
 replace hl2 := iff_ (not_f (ni_f w171)) hl2
 conv => whnf
 refine int_in (cntz hx2 hk2) ?_
 conv => whnf
 refine RoundStep.mk (i2 + 1, (y2_0.set ((e2).toNat) x166.1), (y2_s0.set ((e2).toNat) [.bool x166.1.reached, .int .i64 x166.1.depth, .slice a166_0 x166.1.stored.length c166_0])) ⟨rfl, trivial⟩ (by repeat (first | exact trivial | refine And.intro rfl ?_)) (ConvH.of (.cons r1 (.cons r1 (.cons r1 (.cons r1 (.cons r1 (.cons r1 (.cons r0 (.cons r0 .nil))))))))) (lk2.trans l166) (ltm hx2) ⟨(LR.set (LR.mono Jl.R_ok l166 y2_r0) ⟨a166_0, c166_0, rfl, h166_0⟩), (by first | simpa using y2_h0 | exact fun _ => ⟨_, _, rfl⟩), ((y2_n0).trans List.length_set.symm), hl2⟩
 conv => whnf
 refine cond_f g151_27 ?_
 conv => whnf
 refine cond_f g151_27 ?_
 conv => whnf
 refine cond_f g146_27 ?_
 conv => whnf
 refine cond_f g151_27 ?_
 conv => whnf
 refine cond_f g146_27 ?_
 conv => whnf
 refine cond_go rfl ?_
 conv => whnf
 refine cond_F ?_
 replace hl2 := iff_ (and_f g151_27) hl2
 obtain ⟨x162, l162, k162, hl2⟩ := ixb hl2
 conv => whnf
 refine RStep.ofN (index_addr rfl rfl (hasO y2_h0 k162) l162 (lt_ofE y2_n0 l162 k162) ?_)
 obtain ⟨cc163, hc163, hR163⟩ := LR.get y2_r0 k162
 obtain ⟨a163_0, c163_0, rfl, h163_0⟩ := hR163
 conv => whnf
 refine RStep.of (ldnA (i := (e2).toNat) r6 rfl hc163 rfl ?_)
 obtain ⟨x166, q166, hl2⟩ := bnd hl2
 conv => whnf
 refine call_fn (Jax (s := x162) (depth := ((x48.depth - x42.1) + x42.2.1)) q166 h163_0 (t905_h0.mono ((lt907.trans lt909).trans lk2)) rfl) .nil ?_
 rintro _ K166 _ l166 ⟨a166_0, c166_0, rfl, h166_0, rfl⟩
 obtain ⟨x169, l169, k169, hl2⟩ := ixb hl2
 conv => whnf
 refine RStep.ofN (index_addr rfl rfl (hasO y2_h0 k169) l169 (lt_ofE y2_n0 l169 k169) ?_)
 obtain ⟨ccw14, hcw14, _⟩ := LR.get (LR.mono Jl.R_ok l166 y2_r0) k169
 conv => whnf
 refine stA0 [.bool x166.1.reached, .int .i64 x166.1.depth, .slice a166_0 x166.1.stored.length c166_0] r6 rfl hcw14 rfl (by (conv => whnf); exact ⟨rfl, rfl, rfl, rfl⟩) ?_
 conv => whnf
 refine un_not ?_
 conv => whnf
 refine cond_go rfl ?_
 conv => whnf
 refine cond_s (fun w171 => ?_) (fun w171 => ?_)
 replace hl2 := ift (not_t (ni_t w171)) hl2
 obtain rfl := si hl2
 replace hl0 := elr hl0
 obtain rfl := si hl0
 replace hm := elr hm
 obtain rfl := si hm
 conv => whnf
 refine EndStep.mk _ ((((((((lk0.trans l42).trans l93).trans l97).trans lt905).trans lt907).trans lt909).trans lk2).trans l166) ⟨rfl, rfl⟩ (ConvH.of (.cons r7 .nil))
 replace hl2 := iff_ (not_f (ni_f w171)) hl2
 conv => whnf
 refine int_in (cntz hx2 hk2) ?_
 conv => whnf
 refine RoundStep.mk (i2 + 1, (y2_0.set ((e2).toNat) x166.1), (y2_s0.set ((e2).toNat) [.bool x166.1.reached, .int .i64 x166.1.depth, .slice a166_0 x166.1.stored.length c166_0])) ⟨rfl, trivial⟩ (by repeat (first | exact trivial | refine And.intro rfl ?_)) (ConvH.of (.cons r1 (.cons r1 (.cons r1 (.cons r1 (.cons r1 (.cons r1 (.cons r0 (.cons r0 .nil))))))))) (lk2.trans l166) (ltm hx2) ⟨(LR.set (LR.mono Jl.R_ok l166 y2_r0) ⟨a166_0, c166_0, rfl, h166_0⟩), (by first | simpa using y2_h0 | exact fun _ => ⟨_, _, rfl⟩), ((y2_n0).trans List.length_set.symm), hl2⟩
 rw [lty w2, Jw.eq_1] at hl2
 conv => whnf
 refine cond_T ?_
 conv => whnf
 refine MeetStep.mk (y2_0, y2_s0) trivial (by repeat (first | exact trivial | refine And.intro rfl ?_)) (ConvH.of (.cons r0 (.cons r0 (.cons r0 (.cons r0 (.cons r0 (.cons r0 (.cons r0 (.cons r0 .nil))))))))) lk2 ⟨y2_r0, y2_h0, y2_n0, (si hl2).symm⟩
 rintro ⟨t2, t2_s0⟩ Kt2 lt2 ⟨t2_r0, t2_h0, t2_n0, rfl⟩ j2
 replace hl0 := elg hl0
 conv => whnf
 refine int_in (cntz hx0 hk0) ?_
 conv => whnf
 refine RoundStep.mk (i0 + 1, (max (max y0_0 x48.depth) ((x48.depth - x42.1) + x42.2.1)), t2, t2_s0) ⟨rfl, rfl, trivial⟩ (by repeat (first | exact trivial | refine And.intro rfl ?_)) (ConvH.of (.cons r6 (.cons r6 .nil))) (((((((lk0.trans l42).trans l93).trans l97).trans lt905).trans lt907).trans lt909).trans lt2) (ltm hx0) ⟨t2_r0, t2_h0, t2_n0, hl0⟩
 replace e99 := iff_ g87_13 e99
 conv => whnf
 refine cond_f g87_13 ?_
 conv => whnf
 refine cond_f g87_13 ?_
 conv => whnf
 refine cond_f g87_13 ?_
 conv => whnf
 refine cond_f g87_13 ?_
 conv => whnf
 refine cond_f g87_13 ?_
 conv => whnf
 refine cond_f g87_13 ?_
 conv => whnf
 refine cond_f g87_13 ?_
 conv => whnf
 refine cond_f g87_13 ?_
 conv => whnf
 refine cond_f g87_13 ?_
 conv => whnf
 refine cond_f g87_13 ?_
 conv => whnf
 refine cond_f g87_13 ?_
 conv => whnf
 refine cond_go rfl ?_
 conv => whnf
 refine cond_F ?_
 replace hl0 := iff_ (si e99).symm hl0
 conv => whnf
 refine draw_go ⟨⟨[], false⟩, _, [(_, _)]⟩ (by kernel_rfl) ⟨Hp.Le.refl _, (ConvH.of (.cons r0 .nil))⟩ ?_
 conv => whnf
 refine Jb rfl ?_
 conv => whnf
 refine load1_l m0 rfl rfl ?_
 obtain ⟨h103, hl0⟩ := chkb hl0
 conv => whnf
 refine int_in h103 ?_
 obtain ⟨h105, hl0⟩ := chkb hl0
 conv => whnf
 refine int_in h105 ?_
 conv => whnf
 refine Jb rfl ?_
 conv => whnf
 refine load1_l m0 rfl rfl ?_
 conv => whnf
 refine Jb rfl ?_
 conv => whnf
 refine RStep.of (load1_s r1 rfl rfl ?_)
 conv => whnf
 refine eq_int ?_
 obtain ⟨s916, hl916, hl0⟩ := bnd hl0
 conv => whnf
 refine code_cut (σ := ((List Int)) × Option Addr × Nat) [13, 111, 112, 113, 114] (fun (t916, t916_a0, t916_c0) => [(13, .slice t916_a0 t916.length t916_c0)]) (fun (t916, t916_a0, t916_c0) => [Cells b11 83 [.bool x48.reached, .int .i64 x48.depth, .slice a49_0 x48.stored.length c49_0], Cells b7 73 [.int .i64 e0.Op, .int .i64 e0.N, str e0.S], OwnA (some ⟨b29, 0, none⟩) 83 3 (Int.toNat ((code.length : Int) + 1)) y0_s1, F]) (fun zz K1 => match zz with | (t916, t916_a0, t916_c0) => RdC eN K1 t916_a0 t916_c0 1 t916 ∧ t916 = s916) ?_ ?_
 refine cond_go rfl ?_
 conv => whnf
 refine cond_s (fun w110 => ?_) (fun w110 => ?_)
 replace hl916 := ift w110 hl916
 conv => whnf
 refine Jb rfl ?_
 conv => whnf
 refine RStep.of (load1_s r1 rfl rfl ?_)
 obtain ⟨x114, q114, hl916⟩ := bnd hl916
 conv => whnf
 refine call_fn (Jby (n' := e0.N) q114 h49_0 rfl) .nil ?_
 rintro _ K114 _ l114 ⟨a114_0, c114_0, rfl, h114_0, rfl⟩
 conv => whnf
 refine fMe r0 fun Kr916_0 lr916_0 fr916_0 => ?_
 refine MeetStep.mk (x114, a114_0, c114_0) ⟨rfl, trivial⟩ (by repeat (first | exact trivial | refine And.intro rfl ?_)) (ConvH.of (.cons r0 (.cons r0 (.cons r0 (.cons r0 .nil))))) (l114.trans lr916_0) ⟨fr916_0, (si hl916)⟩
 replace hl916 := iff_ w110 hl916
 conv => whnf
 refine MeetStep.mk (x48.stored, a49_0, c49_0) ⟨rfl, trivial⟩ (by repeat (first | exact trivial | refine And.intro rfl ?_)) (ConvH.of (.cons r0 (.cons r0 (.cons r0 (.cons r0 .nil))))) (Hp.Le.refl _) ⟨h49_0, (si hl916)⟩
 rintro ⟨t916, t916_a0, t916_c0⟩ Kt916 lt916 ⟨t916_h0, rfl⟩ j916
 conv => whnf
 refine Jb rfl ?_
 conv => whnf
 refine RStep.of (load1_s r0 rfl rfl ?_)
 conv => whnf
 refine RStep.of (max3_int ?_)
 conv => whnf
 refine int_in (cntz hx0 hk0) ?_
 conv => whnf
 refine bsO (len := 1) (enc := eN) (l := [((i0 : Int) + 1)]) (cl := [.int .i64 ((i0 : Int) + 1)]) elT81 rfl rfl (fun _ _ => rfl) rfl rfl rfl ?_ fun b122 => ?_
 ·conv => whnf
  refine cond_T ?_
  conv => whnf
  first | done | rfl
 conv => whnf
 refine Jb rfl ?_
 conv => whnf
 refine RStep.of (load1_s r2 rfl rfl ?_)
 conv => whnf
 refine eq_int ?_
 obtain ⟨s918, hl918, hl0⟩ := bnd hl0
 conv => whnf
 refine code_cut (σ := ((List Int)) × Option Addr × Nat) [14, 126, 127, 128] (fun (t918, t918_a0, t918_c0) => [(14, .slice t918_a0 t918.length t918_c0)]) (fun (t918, t918_a0, t918_c0) => [OwnL eN t918_a0 3 1 t918_c0 t918, Cells b11 83 [.bool x48.reached, .int .i64 x48.depth, .slice a49_0 x48.stored.length c49_0], Cells b7 73 [.int .i64 e0.Op, .int .i64 e0.N, str e0.S], OwnA (some ⟨b29, 0, none⟩) 83 3 (Int.toNat ((code.length : Int) + 1)) y0_s1, F]) (fun zz K1 => match zz with | (t918, t918_a0, t918_c0) => (0 < t918.length → Has t918_a0) ∧ t918 = s918) ?_ ?_
 refine cond_go rfl ?_
 conv => whnf
 refine cond_s (fun w125 => ?_) (fun w125 => ?_)
 replace hl918 := ift w125 hl918
 conv => whnf
 refine Jb rfl ?_
 conv => whnf
 refine RStep.of (load1_s r2 rfl rfl ?_)
 conv => whnf
 refine bsO (len := 1) (enc := eN) (l := [e0.N]) (cl := [.int .i64 e0.N]) elT81 rfl rfl (fun _ _ => rfl) rfl rfl rfl ?_ fun b128 => ?_
 ·conv => whnf
  refine cond_T ?_
  conv => whnf
  first | done | rfl
 conv => whnf
 refine MeetStep.mk ([e0.N], (some ⟨b128, 0, none⟩), 1) ⟨rfl, trivial⟩ (by repeat (first | exact trivial | refine And.intro rfl ?_)) (ConvH.of (.cons r0 (.cons r1 (.cons r1 (.cons r1 (.cons r1 .nil)))))) (Hp.Le.refl _) ⟨(fun _ => ⟨_, _, rfl⟩), (si hl918)⟩
 replace hl918 := iff_ w125 hl918
 conv => whnf
 refine MeetStep.mk ([((i0 : Int) + 1)], (some ⟨b122, 0, none⟩), 1) ⟨rfl, trivial⟩ (by repeat (first | exact trivial | refine And.intro rfl ?_)) (ConvH.of (.cons r0 (.cons r0 (.cons r0 (.cons r0 (.cons r0 .nil)))))) (Hp.Le.refl _) ⟨(fun _ => ⟨_, _, rfl⟩), (si hl918)⟩
 rintro ⟨t918, t918_a0, t918_c0⟩ Kt918 lt918 ⟨t918_h0, rfl⟩ j918
 conv => whnf
 refine Jb rfl ?_
 conv => whnf
 refine RStep.of (load1_s r2 rfl rfl ?_)
 conv => whnf
 refine eq_int ?_
 obtain ⟨s920, hl920, hl0⟩ := bnd hl0
 conv => whnf
 refine code_cut (σ := ((List Int)) × Option Addr × Nat) [14, 132, 133, 134, 135, 136] (fun (t920, t920_a0, t920_c0) => [(14, .slice t920_a0 t920.length t920_c0)]) (fun (t920, t920_a0, t920_c0) => [OwnL eN t920_a0 3 1 t920_c0 t920, Cells b11 83 [.bool x48.reached, .int .i64 x48.depth, .slice a49_0 x48.stored.length c49_0], Cells b7 73 [.int .i64 e0.Op, .int .i64 e0.N, str e0.S], OwnA (some ⟨b29, 0, none⟩) 83 3 (Int.toNat ((code.length : Int) + 1)) y0_s1, F]) (fun zz K1 => match zz with | (t920, t920_a0, t920_c0) => (0 < t920.length → Has t920_a0) ∧ t920 = s920) ?_ ?_
 refine cond_go rfl ?_
 conv => whnf
 refine cond_s (fun w131 => ?_) (fun w131 => ?_)
 replace hl920 := ift w131 hl920
 conv => whnf
 refine Jb rfl ?_
 conv => whnf
 refine RStep.of (load1_s r2 rfl rfl ?_)
 conv => whnf
 refine bsO (len := 1) (enc := eN) (l := [e0.N]) (cl := [.int .i64 e0.N]) elT81 rfl rfl (fun _ _ => rfl) rfl rfl rfl ?_ fun b135 => ?_
 ·conv => whnf
  refine cond_T ?_
  conv => whnf
  first | done | rfl
 obtain ⟨h136, hl920⟩ := chkb hl920
 conv => whnf
 refine apE rfl r1 elT81 (src_own' rfl r0 rfl (fun _ => rfl) (fun _ => rfl)) h136 ?_
 intro a136 c136 o136
 conv => whnf
 refine MeetStep.mk ((t918 ++ [e0.N]), a136, c136) ⟨rfl, trivial⟩ (by repeat (first | exact trivial | refine And.intro rfl ?_)) (ConvH.of (.cons r0 (.cons r1 (.cons r1 (.cons r1 (.cons r1 .nil)))))) (Hp.Le.refl _) ⟨o136, (si hl920)⟩
 replace hl920 := iff_ w131 hl920
 conv => whnf
 refine MeetStep.mk (t918, t918_a0, t918_c0) ⟨rfl, trivial⟩ (by repeat (first | exact trivial | refine And.intro rfl ?_)) (ConvH.of (.cons r0 (.cons r0 (.cons r0 (.cons r0 (.cons r0 .nil)))))) (Hp.Le.refl _) ⟨t918_h0, (si hl920)⟩
 rintro ⟨t920, t920_a0, t920_c0⟩ Kt920 lt920 ⟨t920_h0, rfl⟩ j920
 conv => whnf
 refine RStep.of (len_slice rfl ?_)
 obtain ⟨hk2, hl0⟩ := chkb hl0
 obtain ⟨s2, hl2, hl0⟩ := bnd hl0
 conv => whnf
 refine code_cut (σ := ((List Jl)) × List (List Value)) [2, 3, 16, 17, 139, 140, 141, 142, 143, 144, 145, 146, 147, 148, 149, 150, 151, 152, 153, 154, 155, 156, 157, 158, 159, 160, 161, 162, 163, 164, 165, 166, 167, 168, 169, 170, 171, 172] (fun (t2, t2_s0) => []) (fun (t2, t2_s0) => [OwnL eN t920_a0 3 1 t920_c0 t920, Cells b11 83 [.bool x48.reached, .int .i64 x48.depth, .slice a49_0 x48.stored.length c49_0], Cells b7 73 [.int .i64 e0.Op, .int .i64 e0.N, str e0.S], OwnA (some ⟨b29, 0, none⟩) 83 3 (Int.toNat ((code.length : Int) + 1)) t2_s0, F]) (fun zz K1 => match zz with | (t2, t2_s0) => LR Jl.R K1 t2_s0 t2 ∧ (0 < t2.length → Has (some ⟨b29, 0, none⟩)) ∧ (Int.toNat ((code.length : Int) + 1)) = t2.length ∧ s2 = Fl.go t2) ?_ ?_
 refine block_go rfl ?_
 conv => whnf
 refine loop_rule (σ := Nat × (List Jl) × List (List Value)) [2, 3, 16, 17, 139, 140, 141, 142, 143, 144, 145, 146, 147, 148, 149, 150, 151, 152, 153, 154, 155, 156, 157, 158, 159, 160, 161, 162, 163, 164, 165, 166, 167, 168, 169, 170, 171, 172] (fun (i2, y2_0, y2_s0) => [(139, .int .i64 (i2 : Int))]) (fun (i2, y2_0, y2_s0) => [OwnL eN t920_a0 3 1 t920_c0 t920, Cells b11 83 [.bool x48.reached, .int .i64 x48.depth, .slice a49_0 x48.stored.length c49_0], Cells b7 73 [.int .i64 e0.Op, .int .i64 e0.N, str e0.S], OwnA (some ⟨b29, 0, none⟩) 83 3 (Int.toNat ((code.length : Int) + 1)) y2_s0, F]) (fun zz K1 => match zz with | (i2, y2_0, y2_s0) => LR Jl.R K1 y2_s0 y2_0 ∧ (0 < y2_0.length → Has (some ⟨b29, 0, none⟩)) ∧ (Int.toNat ((code.length : Int) + 1)) = y2_0.length ∧ Jw i0 code e0 x48 x42 t916 (t920.drop i2) i2 y2_0 = some s2) (fun zz => t920.length - zz.1) (0, y0_1, y0_s1) rfl ⟨rfl, trivial⟩ (ConvH.of (.cons r0 (.cons r0 (.cons r0 (.cons r0 (.cons r0 .nil)))))) ⟨(LR.mono Jl.R_ok (((l42.trans lt916).trans lt918).trans lt920) y0_r1), y0_h1, y0_n1, hl2⟩ ?_
 clear hl2
 rintro ⟨i2, y2_0, y2_s0⟩ Kb2 lk2 ⟨y2_r0, y2_h0, y2_n0, hl2⟩ j2
 conv => whnf
 refine cond_go rfl ?_
 conv => whnf
 refine cond_s (fun w2 => ?_) (fun w2 => ?_)
 obtain ⟨e2, hx2, hd2⟩ := ltx w2
 rw [hd2, Jw.eq_2] at hl2
 conv => whnf
 refine block_go rfl ?_
 conv => whnf
 refine RStep.ofN (index_addr rfl rfl (hasO t920_h0 hx2) (nn _) (lt_ofNE rfl hx2) ?_)
 conv => whnf
 refine RStep.of (ld_own (i := i2) (o := 0) r0 rfl hx2 rfl rfl ?_)
 conv => whnf
 refine cond_s (fun g146_27 => ?_) (fun g146_27 => ?_)
 replace hl2 := ift g146_27 hl2
 conv => whnf
 refine cond_t g146_27 ?_
 conv => whnf
 refine cond_t g146_27 ?_
 conv => whnf
 refine cond_t g146_27 ?_
 conv => whnf
 refine cond_t g146_27 ?_
 conv => whnf
 refine cond_t g146_27 ?_
 conv => whnf
 refine cond_t g146_27 ?_
 conv => whnf
 refine cond_go rfl ?_
 conv => whnf
 refine cond_T ?_
 obtain rfl := si hl2
 replace hl0 := elr hl0
 obtain rfl := si hl0
 replace hm := elr hm
 obtain rfl := si hm
 conv => whnf
 refine EndStep.mk _ (((((lk0.trans l42).trans lt916).trans lt918).trans lt920).trans lk2) ⟨rfl, rfl⟩ (ConvH.of (.cons r4 .nil))
 replace hl2 := iff_ g146_27 hl2
 conv => whnf
 refine cond_f g146_27 ?_
 conv => whnf
 refine cond_f g146_27 ?_
 conv => whnf
 refine RStep.of (len_slice rfl ?_)
 conv => whnf
 refine cond_f g146_27 ?_
 conv => whnf
 refine cond_f g146_27 ?_
 conv => whnf
 refine cond_s (fun g151_27 => ?_) (fun g151_27 => ?_)
 conv => whnf
 refine Jb rfl ?_
 conv => whnf
 refine cond_t g151_27 ?_
 conv => whnf
 refine RStep.of (load1_s r2 rfl rfl ?_)
 conv => whnf
 refine cond_t g151_27 ?_
 conv => whnf
 refine neq_int ?_
 conv => whnf
 refine cond_f g146_27 ?_
 conv => whnf
 refine cond_t g151_27 ?_
 conv => whnf
 refine cond_f g146_27 ?_
 conv => whnf
 refine cond_go rfl ?_
 conv => whnf
 refine cond_s (fun w156 => ?_) (fun w156 => ?_)
 replace hl2 := ift (and_t g151_27 w156) hl2
 obtain rfl := si hl2
 replace hl0 := elr hl0
 obtain rfl := si hl0
 replace hm := elr hm
 obtain rfl := si hm
 conv => whnf
 refine EndStep.mk _ (((((lk0.trans l42).trans lt916).trans lt918).trans lt920).trans lk2) ⟨rfl, rfl⟩ (ConvH.of (.cons r4 .nil))
 replace hl2 := iff_ (and_g g151_27 w156) hl2
 obtain ⟨x162, l162, k162, hl2⟩ := ixb hl2
 conv => whnf
 refine RStep.ofN (index_addr rfl rfl (hasO y2_h0 k162) l162 (lt_ofE y2_n0 l162 k162) ?_)
 obtain ⟨cc163, hc163, hR163⟩ := LR.get y2_r0 k162
 obtain ⟨a163_0, c163_0, rfl, h163_0⟩ := hR163
 conv => whnf
 refine RStep.of (ldnA (i := (e2).toNat) r3 rfl hc163 rfl ?_)
 obtain ⟨x166, q166, hl2⟩ := bnd hl2
 conv => whnf
 refine call_fn (Jax (s := x162) (depth := ((x48.depth - x42.1) + x42.2.1)) q166 h163_0 (t916_h0.mono ((lt918.trans lt920).trans lk2)) rfl) .nil ?_
 rintro _ K166 _ l166 ⟨a166_0, c166_0, rfl, h166_0, rfl⟩
 obtain ⟨x169, l169, k169, hl2⟩ := ixb hl2
 conv => whnf
 refine RStep.ofN (index_addr rfl rfl (hasO y2_h0 k169) l169 (lt_ofE y2_n0 l169 k169) ?_)
 obtain ⟨ccw23, hcw23, _⟩ := LR.get (LR.mono Jl.R_ok l166 y2_r0) k169
 conv => whnf
 refine stA0 [.bool x166.1.reached, .int .i64 x166.1.depth, .slice a166_0 x166.1.stored.length c166_0] r3 rfl hcw23 rfl (by (conv => whnf); exact ⟨rfl, rfl, rfl, rfl⟩) ?_
 conv => whnf
 refine un_not ?_
 conv => whnf
 refine cond_go rfl ?_
 conv => whnf
 refine cond_s (fun w171 => ?_) (fun w171 => ?_)
 replace hl2 := ift (not_t (ni_t w171)) hl2
 obtain rfl := si hl2
 replace hl0 := elr hl0
 obtain rfl := si hl0
 replace hm := elr hm
 obtain rfl := si hm
 conv => whnf
 refine EndStep.mk _ ((((((lk0.trans l42).trans lt916).trans lt918).trans lt920).trans lk2).trans l166) ⟨rfl, rfl⟩ (ConvH.of (.cons r4 .nil))
 replace hl2 := iff_ (not_f (ni_f w171)) hl2
 conv => whnf
 refine int_in (cntz hx2 hk2) ?_
 conv => whnf
 refine RoundStep.mk (i2 + 1, (y2_0.set ((e2).toNat) x166.1), (y2_s0.set ((e2).toNat) [.bool x166.1.reached, .int .i64 x166.1.depth, .slice a166_0 x166.1.stored.length c166_0])) ⟨rfl, trivial⟩ (by repeat (first | exact trivial | refine And.intro rfl ?_)) (ConvH.of (.cons r1 (.cons r1 (.cons r1 (.cons r0 (.cons r0 .nil)))))) (lk2.trans l166) (ltm hx2) ⟨(LR.set (LR.mono Jl.R_ok l166 y2_r0) ⟨a166_0, c166_0, rfl, h166_0⟩), (by first | simpa using y2_h0 | exact fun _ => ⟨_, _, rfl⟩), ((y2_n0).trans List.length_set.symm), hl2⟩
 conv => whnf
 refine cond_f g151_27 ?_
 conv => whnf
 refine cond_f g151_27 ?_
 conv => whnf
 refine cond_f g146_27 ?_
 conv => whnf
 refine cond_f g151_27 ?_
 conv => whnf
 refine cond_f g146_27 ?_
 conv => whnf
 refine cond_go rfl ?_
 conv => whnf
 refine cond_F ?_
 replace hl2 := iff_ (and_f g151_27) hl2
 obtain ⟨x162, l162, k162, hl2⟩ := ixb hl2
 conv => whnf
 refine RStep.ofN (index_addr rfl rfl (hasO y2_h0 k162) l162 (lt_ofE y2_n0 l162 k162) ?_)
 obtain ⟨cc163, hc163, hR163⟩ := LR.get y2_r0 k162
 obtain ⟨a163_0, c163_0, rfl, h163_0⟩ := hR163
 conv => whnf
 refine RStep.of (ldnA (i := (e2).toNat) r3 rfl hc163 rfl ?_)
 obtain ⟨x166, q166, hl2⟩ := bnd hl2
 conv => whnf
 refine call_fn (Jax (s := x162) (depth := ((x48.depth - x42.1) + x42.2.1)) q166 h163_0 (t916_h0.mono ((lt918.trans lt920).trans lk2)) rfl) .nil ?_
 rintro _ K166 _ l166 ⟨a166_0, c166_0, rfl, h166_0, rfl⟩
 obtain ⟨x169, l169, k169, hl2⟩ := ixb hl2
 conv => whnf
 refine RStep.ofN (index_addr rfl rfl (hasO y2_h0 k169) l169 (lt_ofE y2_n0 l169 k169) ?_)
 obtain ⟨ccw25, hcw25, _⟩ := LR.get (LR.mono Jl.R_ok l166 y2_r0) k169
 conv => whnf
 refine stA0 [.bool x166.1.reached, .int .i64 x166.1.depth, .slice a166_0 x166.1.stored.length c166_0] r3 rfl hcw25 rfl (by (conv => whnf); exact ⟨rfl, rfl, rfl, rfl⟩) ?_
 conv => whnf
 refine un_not ?_
 conv => whnf
 refine cond_go rfl ?_
 conv => whnf
 refine cond_s (fun w171 => ?_) (fun w171 => ?_)
 replace hl2 := ift (not_t (ni_t w171)) hl2
 obtain rfl := si hl2
 replace hl0 := elr hl0
 obtain rfl := si hl0
 replace hm := elr hm
 obtain rfl := si hm
 conv => whnf
 refine EndStep.mk _ ((((((lk0.trans l42).trans lt916).trans lt918).trans lt920).trans lk2).trans l166) ⟨rfl, rfl⟩ (ConvH.of (.cons r4 .nil))
 replace hl2 := iff_ (not_f (ni_f w171)) hl2
 conv => whnf
 refine int_in (cntz hx2 hk2) ?_
 conv => whnf
 refine RoundStep.mk (i2 + 1, (y2_0.set ((e2).toNat) x166.1), (y2_s0.set ((e2).toNat) [.bool x166.1.reached, .int .i64 x166.1.depth, .slice a166_0 x166.1.stored.length c166_0])) ⟨rfl, trivial⟩ (by repeat (first | exact trivial | refine And.intro rfl ?_)) (ConvH.of (.cons r1 (.cons r1 (.cons r1 (.cons r0 (.cons r0 .nil)))))) (lk2.trans l166) (ltm hx2) ⟨(LR.set (LR.mono Jl.R_ok l166 y2_r0) ⟨a166_0, c166_0, rfl, h166_0⟩), (by first | simpa using y2_h0 | exact fun _ => ⟨_, _, rfl⟩), ((y2_n0).trans List.length_set.symm), hl2⟩
 rw [lty w2, Jw.eq_1] at hl2
 conv => whnf
 refine cond_T ?_
 conv => whnf
 refine MeetStep.mk (y2_0, y2_s0) trivial (by repeat (first | exact trivial | refine And.intro rfl ?_)) (ConvH.of (.cons r0 (.cons r0 (.cons r0 (.cons r0 (.cons r0 .nil)))))) lk2 ⟨y2_r0, y2_h0, y2_n0, (si hl2).symm⟩
 rintro ⟨t2, t2_s0⟩ Kt2 lt2 ⟨t2_r0, t2_h0, t2_n0, rfl⟩ j2
 replace hl0 := elg hl0
 conv => whnf
 refine int_in (cntz hx0 hk0) ?_
 conv => whnf
 refine RoundStep.mk (i0 + 1, (max (max y0_0 x48.depth) ((x48.depth - x42.1) + x42.2.1)), t2, t2_s0) ⟨rfl, rfl, trivial⟩ (by repeat (first | exact trivial | refine And.intro rfl ?_)) (ConvH.of (.cons r3 (.cons r3 .nil))) (((((lk0.trans l42).trans lt916).trans lt918).trans lt920).trans lt2) (ltm hx0) ⟨t2_r0, t2_h0, t2_n0, hl0⟩
 conv => whnf
 refine cond_f g78_11 ?_
 conv => whnf
 refine cond_f g78_11 ?_
 conv => whnf
 refine cond_f g74_11 ?_
 conv => whnf
 refine cond_f g78_11 ?_
 conv => whnf
 refine cond_f g74_11 ?_
 conv => whnf
 refine cond_go rfl ?_
 conv => whnf
 refine cond_F ?_
 replace hl0 := iff_ (and_f g78_11) hl0
 conv => whnf
 refine draw_go_F ⟨⟨[], false⟩, _, [(_, _), (_, _)]⟩ 16 rfl (by kernel_rfl) ⟨Hp.Le.refl _, (ConvH.of (.cons r1 (.cons r0 .nil)))⟩ ?_
 conv => whnf
 refine Jb rfl ?_
 conv => whnf
 refine load1_l m0 rfl rfl ?_
 conv => whnf
 refine eq_int ?_
 obtain ⟨x99, e99, hl0⟩ := bnd hl0
 conv => whnf
 refine cond_s (fun g87_13 => ?_) (fun g87_13 => ?_)
 replace e99 := ift g87_13 e99
 conv => whnf
 refine Jb rfl ?_
 conv => whnf
 refine cond_t g87_13 ?_
 conv => whnf
 refine load1_l m1 rfl rfl ?_
 conv => whnf
 refine cond_t g87_13 ?_
 conv => whnf
 refine Jb rfl ?_
 conv => whnf
 refine cond_t g87_13 ?_
 conv => whnf
 refine load1_l m0 rfl rfl ?_
 conv => whnf
 refine cond_t g87_13 ?_
 conv => whnf
 refine bsA (len := 1) (cl := [.int .i64 e0.N]) elT81 rfl rfl ?_ fun b92 => ?_
 ·conv => whnf
  refine cond_T ?_
  conv => whnf
  first | done | rfl
 conv => whnf
 refine cond_t g87_13 ?_
 conv => whnf
 intro GG9
 obtain ⟨x93, q93, e99⟩ := bnd e99
 conv => whnf
 refine litF (enc := eN) (sz := 1) (l := [e0.N]) Tryz.call38 r0 rfl (fun _ _ => rfl) rfl (Nat.le_of_ble_eq_true rfl) ?_
 refine call_fn (Fn.lend Tryz.call38 (fun K93_1 l93_1 f93_1 => (Jb0 q93 (h49_0.mono l93_1) rfl f93_1 rfl)) (by exact fun _ _ _ _ h => h)) (.cons r0 .nil) ?_
 rintro _ K93 _ l93 ⟨_, rfl, a93_0, c93_0, rfl, h93_0, rfl⟩
 conv => whnf
 refine ⟨⟨l93, (ConvH.of (.cons r3 (.cons r2 .nil)))⟩, ?_⟩
 refine ⟨_, .cons r6 .nil, ⟨l93, (ConvH.of (.cons r3 (.cons r2 .nil)))⟩, ?_⟩
 conv => whnf
 refine cond_t g87_13 ?_
 conv => whnf
 refine Jb rfl ?_
 conv => whnf
 refine cond_t g87_13 ?_
 conv => whnf
 refine load1_l m0 rfl rfl ?_
 conv => whnf
 refine cond_t g87_13 ?_
 conv => whnf
 refine bsA (len := 1) (cl := [.int .i64 e0.N]) elT81 rfl rfl ?_ fun b96 => ?_
 ·conv => whnf
  refine cond_T ?_
  conv => whnf
  first | done | rfl
 conv => whnf
 refine cond_t g87_13 ?_
 conv => whnf
 intro GG13
 obtain ⟨x97, q97, e99⟩ := bnd e99
 conv => whnf
 refine litF (enc := eN) (sz := 1) (l := [e0.N]) Tryz.call37 r0 rfl (fun _ _ => rfl) rfl (Nat.le_of_ble_eq_true rfl) ?_
 refine call_fn (Fn.lend Tryz.call37 (fun K97_0 l97_0 f97_0 => (Fn.lend Tryz.call37 (fun K97_1 l97_1 f97_1 => (Jcm q97 (f97_0.mono l97_1) rfl f97_1 rfl)) (by exact fun _ _ _ _ h => h))) (by exact fun _ _ _ _ h => h)) (.cons r2 (.cons r0 .nil)) ?_
 rintro _ K97 _ l97 ⟨_, rfl, _, rfl, rfl, rfl⟩
 conv => whnf
 refine ⟨⟨(l93.trans l97), (ConvH.of (.cons r4 (.cons r3 .nil)))⟩, ?_⟩
 refine ⟨_, .cons r7 .nil, ⟨(l93.trans l97), (ConvH.of (.cons r4 (.cons r3 .nil)))⟩, ?_⟩
 conv => whnf
 refine cond_t g87_13 ?_
 conv => whnf
 refine un_not ?_
 conv => whnf
 refine cond_t g87_13 ?_
 conv => whnf
 refine cond_go rfl ?_
 conv => whnf
 refine cond_s (fun w99 => ?_) (fun w99 => ?_)
 replace hl0 := ift ((si e99).symm.trans (not_t (ni_t w99))) hl0
 obtain rfl := si hl0
 replace hm := elr hm
 obtain rfl := si hm
 conv => whnf
 refine EndStep.mk _ (((lk0.trans l42).trans l93).trans l97) ⟨rfl, rfl⟩ (ConvH.of (.cons r6 .nil))
 replace hl0 := iff_ ((si e99).symm.trans (not_f (ni_f w99))) hl0
 conv => whnf
 refine draw_go ⟨⟨[], false⟩, _, [(_, _)]⟩ (by kernel_rfl) ⟨Hp.Le.refl _, (ConvH.of (.cons r3 .nil))⟩ ?_
 conv => whnf
 refine Jb rfl ?_
 conv => whnf
 refine load1_l m0 rfl rfl ?_
 obtain ⟨h103, hl0⟩ := chkb hl0
 conv => whnf
 refine int_in h103 ?_
 obtain ⟨h105, hl0⟩ := chkb hl0
 conv => whnf
 refine int_in h105 ?_
 conv => whnf
 refine Jb rfl ?_
 conv => whnf
 refine load1_l m0 rfl rfl ?_
 conv => whnf
 refine Jb rfl ?_
 conv => whnf
 refine RStep.of (load1_s r4 rfl rfl ?_)
 conv => whnf
 refine eq_int ?_
 obtain ⟨s928, hl928, hl0⟩ := bnd hl0
 conv => whnf
 refine code_cut (σ := ((List Int)) × Option Addr × Nat) [13, 111, 112, 113, 114] (fun (t928, t928_a0, t928_c0) => [(13, .slice t928_a0 t928.length t928_c0)]) (fun (t928, t928_a0, t928_c0) => [OwnL eN a93_0 3 1 c93_0 x93, OwnL eN (some ⟨b96, 0, none⟩) 3 1 ([e0.N].length) [e0.N], OwnL eN (some ⟨b92, 0, none⟩) 3 1 ([e0.N].length) [e0.N], Cells b11 83 [.bool x48.reached, .int .i64 x48.depth, .slice a49_0 x48.stored.length c49_0], Cells b7 73 [.int .i64 e0.Op, .int .i64 e0.N, str e0.S], OwnA (some ⟨b29, 0, none⟩) 83 3 (Int.toNat ((code.length : Int) + 1)) y0_s1, F]) (fun zz K1 => match zz with | (t928, t928_a0, t928_c0) => RdC eN K1 t928_a0 t928_c0 1 t928 ∧ t928 = s928) ?_ ?_
 refine cond_go rfl ?_
 conv => whnf
 refine cond_s (fun w110 => ?_) (fun w110 => ?_)
 replace hl928 := ift w110 hl928
 conv => whnf
 refine Jb rfl ?_
 conv => whnf
 refine RStep.of (load1_s r4 rfl rfl ?_)
 obtain ⟨x114, q114, hl928⟩ := bnd hl928
 conv => whnf
 refine call_fn (Jby (n' := e0.N) q114 (h49_0.mono (l93.trans l97)) rfl) .nil ?_
 rintro _ K114 _ l114 ⟨a114_0, c114_0, rfl, h114_0, rfl⟩
 conv => whnf
 refine fMe r0 fun Kr928_0 lr928_0 fr928_0 => ?_
 refine MeetStep.mk (x114, a114_0, c114_0) ⟨rfl, trivial⟩ (by repeat (first | exact trivial | refine And.intro rfl ?_)) (ConvH.of (.cons r0 (.cons r0 (.cons r0 (.cons r0 (.cons r0 (.cons r0 (.cons r0 .nil)))))))) (l114.trans lr928_0) ⟨fr928_0, (si hl928)⟩
 replace hl928 := iff_ w110 hl928
 conv => whnf
 refine MeetStep.mk (x48.stored, a49_0, c49_0) ⟨rfl, trivial⟩ (by repeat (first | exact trivial | refine And.intro rfl ?_)) (ConvH.of (.cons r0 (.cons r0 (.cons r0 (.cons r0 (.cons r0 (.cons r0 (.cons r0 .nil)))))))) (Hp.Le.refl _) ⟨(h49_0.mono (l93.trans l97)), (si hl928)⟩
 rintro ⟨t928, t928_a0, t928_c0⟩ Kt928 lt928 ⟨t928_h0, rfl⟩ j928
 conv => whnf
 refine Jb rfl ?_
 conv => whnf
 refine RStep.of (load1_s r3 rfl rfl ?_)
 conv => whnf
 refine RStep.of (max3_int ?_)
 conv => whnf
 refine int_in (cntz hx0 hk0) ?_
 conv => whnf
 refine bsO (len := 1) (enc := eN) (l := [((i0 : Int) + 1)]) (cl := [.int .i64 ((i0 : Int) + 1)]) elT81 rfl rfl (fun _ _ => rfl) rfl rfl rfl ?_ fun b122 => ?_
 ·conv => whnf
  refine cond_T ?_
  conv => whnf
  first | done | rfl
 conv => whnf
 refine Jb rfl ?_
 conv => whnf
 refine RStep.of (load1_s r5 rfl rfl ?_)
 conv => whnf
 refine eq_int ?_
 obtain ⟨s930, hl930, hl0⟩ := bnd hl0
 conv => whnf
 refine code_cut (σ := ((List Int)) × Option Addr × Nat) [14, 126, 127, 128] (fun (t930, t930_a0, t930_c0) => [(14, .slice t930_a0 t930.length t930_c0)]) (fun (t930, t930_a0, t930_c0) => [OwnL eN t930_a0 3 1 t930_c0 t930, OwnL eN a93_0 3 1 c93_0 x93, OwnL eN (some ⟨b96, 0, none⟩) 3 1 ([e0.N].length) [e0.N], OwnL eN (some ⟨b92, 0, none⟩) 3 1 ([e0.N].length) [e0.N], Cells b11 83 [.bool x48.reached, .int .i64 x48.depth, .slice a49_0 x48.stored.length c49_0], Cells b7 73 [.int .i64 e0.Op, .int .i64 e0.N, str e0.S], OwnA (some ⟨b29, 0, none⟩) 83 3 (Int.toNat ((code.length : Int) + 1)) y0_s1, F]) (fun zz K1 => match zz with | (t930, t930_a0, t930_c0) => (0 < t930.length → Has t930_a0) ∧ t930 = s930) ?_ ?_
 refine cond_go rfl ?_
 conv => whnf
 refine cond_s (fun w125 => ?_) (fun w125 => ?_)
 replace hl930 := ift w125 hl930
 conv => whnf
 refine Jb rfl ?_
 conv => whnf
 refine RStep.of (load1_s r5 rfl rfl ?_)
 conv => whnf
 refine bsO (len := 1) (enc := eN) (l := [e0.N]) (cl := [.int .i64 e0.N]) elT81 rfl rfl (fun _ _ => rfl) rfl rfl rfl ?_ fun b128 => ?_
 ·conv => whnf
  refine cond_T ?_
  conv => whnf
  first | done | rfl
 conv => whnf
 refine MeetStep.mk ([e0.N], (some ⟨b128, 0, none⟩), 1) ⟨rfl, trivial⟩ (by repeat (first | exact trivial | refine And.intro rfl ?_)) (ConvH.of (.cons r0 (.cons r1 (.cons r1 (.cons r1 (.cons r1 (.cons r1 (.cons r1 (.cons r1 .nil))))))))) (Hp.Le.refl _) ⟨(fun _ => ⟨_, _, rfl⟩), (si hl930)⟩
 replace hl930 := iff_ w125 hl930
 conv => whnf
 refine MeetStep.mk ([((i0 : Int) + 1)], (some ⟨b122, 0, none⟩), 1) ⟨rfl, trivial⟩ (by repeat (first | exact trivial | refine And.intro rfl ?_)) (ConvH.of (.cons r0 (.cons r0 (.cons r0 (.cons r0 (.cons r0 (.cons r0 (.cons r0 (.cons r0 .nil))))))))) (Hp.Le.refl _) ⟨(fun _ => ⟨_, _, rfl⟩), (si hl930)⟩
 rintro ⟨t930, t930_a0, t930_c0⟩ Kt930 lt930 ⟨t930_h0, rfl⟩ j930
 conv => whnf
 refine Jb rfl ?_
 conv => whnf
 refine RStep.of (load1_s r5 rfl rfl ?_)
 conv => whnf
 refine eq_int ?_
 obtain ⟨s932, hl932, hl0⟩ := bnd hl0
 conv => whnf
 refine code_cut (σ := ((List Int)) × Option Addr × Nat) [14, 132, 133, 134, 135, 136] (fun (t932, t932_a0, t932_c0) => [(14, .slice t932_a0 t932.length t932_c0)]) (fun (t932, t932_a0, t932_c0) => [OwnL eN t932_a0 3 1 t932_c0 t932, OwnL eN a93_0 3 1 c93_0 x93, OwnL eN (some ⟨b96, 0, none⟩) 3 1 ([e0.N].length) [e0.N], OwnL eN (some ⟨b92, 0, none⟩) 3 1 ([e0.N].length) [e0.N], Cells b11 83 [.bool x48.reached, .int .i64 x48.depth, .slice a49_0 x48.stored.length c49_0], Cells b7 73 [.int .i64 e0.Op, .int .i64 e0.N, str e0.S], OwnA (some ⟨b29, 0, none⟩) 83 3 (Int.toNat ((code.length : Int) + 1)) y0_s1, F]) (fun zz K1 => match zz with | (t932, t932_a0, t932_c0) => (0 < t932.length → Has t932_a0) ∧ t932 = s932) ?_ ?_
 refine cond_go rfl ?_
 conv => whnf
 refine cond_s (fun w131 => ?_) (fun w131 => ?_)
 replace hl932 := ift w131 hl932
 conv => whnf
 refine Jb rfl ?_
 conv => whnf
 refine RStep.of (load1_s r5 rfl rfl ?_)
 conv => whnf
 refine bsO (len := 1) (enc := eN) (l := [e0.N]) (cl := [.int .i64 e0.N]) elT81 rfl rfl (fun _ _ => rfl) rfl rfl rfl ?_ fun b135 => ?_
 ·conv => whnf
  refine cond_T ?_
  conv => whnf
  first | done | rfl
 obtain ⟨h136, hl932⟩ := chkb hl932
 conv => whnf
 refine apE rfl r1 elT81 (src_own' rfl r0 rfl (fun _ => rfl) (fun _ => rfl)) h136 ?_
 intro a136 c136 o136
 conv => whnf
 refine MeetStep.mk ((t930 ++ [e0.N]), a136, c136) ⟨rfl, trivial⟩ (by repeat (first | exact trivial | refine And.intro rfl ?_)) (ConvH.of (.cons r0 (.cons r1 (.cons r1 (.cons r1 (.cons r1 (.cons r1 (.cons r1 (.cons r1 .nil))))))))) (Hp.Le.refl _) ⟨o136, (si hl932)⟩
 replace hl932 := iff_ w131 hl932
 conv => whnf
 refine MeetStep.mk (t930, t930_a0, t930_c0) ⟨rfl, trivial⟩ (by repeat (first | exact trivial | refine And.intro rfl ?_)) (ConvH.of (.cons r0 (.cons r0 (.cons r0 (.cons r0 (.cons r0 (.cons r0 (.cons r0 (.cons r0 .nil))))))))) (Hp.Le.refl _) ⟨t930_h0, (si hl932)⟩
 rintro ⟨t932, t932_a0, t932_c0⟩ Kt932 lt932 ⟨t932_h0, rfl⟩ j932
 conv => whnf
 refine RStep.of (len_slice rfl ?_)
 obtain ⟨hk2, hl0⟩ := chkb hl0
 obtain ⟨s2, hl2, hl0⟩ := bnd hl0
 conv => whnf
 refine code_cut (σ := ((List Jl)) × List (List Value)) [2, 3, 16, 17, 139, 140, 141, 142, 143, 144, 145, 146, 147, 148, 149, 150, 151, 152, 153, 154, 155, 156, 157, 158, 159, 160, 161, 162, 163, 164, 165, 166, 167, 168, 169, 170, 171, 172] (fun (t2, t2_s0) => []) (fun (t2, t2_s0) => [OwnL eN t932_a0 3 1 t932_c0 t932, OwnL eN a93_0 3 1 c93_0 x93, OwnL eN (some ⟨b96, 0, none⟩) 3 1 ([e0.N].length) [e0.N], OwnL eN (some ⟨b92, 0, none⟩) 3 1 ([e0.N].length) [e0.N], Cells b11 83 [.bool x48.reached, .int .i64 x48.depth, .slice a49_0 x48.stored.length c49_0], Cells b7 73 [.int .i64 e0.Op, .int .i64 e0.N, str e0.S], OwnA (some ⟨b29, 0, none⟩) 83 3 (Int.toNat ((code.length : Int) + 1)) t2_s0, F]) (fun zz K1 => match zz with | (t2, t2_s0) => LR Jl.R K1 t2_s0 t2 ∧ (0 < t2.length → Has (some ⟨b29, 0, none⟩)) ∧ (Int.toNat ((code.length : Int) + 1)) = t2.length ∧ s2 = Fl.go t2) ?_ ?_
 refine block_go rfl ?_
 conv => whnf
 refine loop_rule (σ := Nat × (List Jl) × List (List Value)) [2, 3, 16, 17, 139, 140, 141, 142, 143, 144, 145, 146, 147, 148, 149, 150, 151, 152, 153, 154, 155, 156, 157, 158, 159, 160, 161, 162, 163, 164, 165, 166, 167, 168, 169, 170, 171, 172] (fun (i2, y2_0, y2_s0) => [(139, .int .i64 (i2 : Int))]) (fun (i2, y2_0, y2_s0) => [OwnL eN t932_a0 3 1 t932_c0 t932, OwnL eN a93_0 3 1 c93_0 x93, OwnL eN (some ⟨b96, 0, none⟩) 3 1 ([e0.N].length) [e0.N], OwnL eN (some ⟨b92, 0, none⟩) 3 1 ([e0.N].length) [e0.N], Cells b11 83 [.bool x48.reached, .int .i64 x48.depth, .slice a49_0 x48.stored.length c49_0], Cells b7 73 [.int .i64 e0.Op, .int .i64 e0.N, str e0.S], OwnA (some ⟨b29, 0, none⟩) 83 3 (Int.toNat ((code.length : Int) + 1)) y2_s0, F]) (fun zz K1 => match zz with | (i2, y2_0, y2_s0) => LR Jl.R K1 y2_s0 y2_0 ∧ (0 < y2_0.length → Has (some ⟨b29, 0, none⟩)) ∧ (Int.toNat ((code.length : Int) + 1)) = y2_0.length ∧ Jw i0 code e0 x48 x42 t928 (t932.drop i2) i2 y2_0 = some s2) (fun zz => t932.length - zz.1) (0, y0_1, y0_s1) rfl ⟨rfl, trivial⟩ (ConvH.of (.cons r0 (.cons r0 (.cons r0 (.cons r0 (.cons r0 (.cons r0 (.cons r0 (.cons r0 .nil))))))))) ⟨(LR.mono Jl.R_ok (((((l42.trans l93).trans l97).trans lt928).trans lt930).trans lt932) y0_r1), y0_h1, y0_n1, hl2⟩ ?_
 clear hl2
 rintro ⟨i2, y2_0, y2_s0⟩ Kb2 lk2 ⟨y2_r0, y2_h0, y2_n0, hl2⟩ j2
 conv => whnf
 refine cond_go rfl ?_
 conv => whnf
 refine cond_s (fun w2 => ?_) (fun w2 => ?_)
 obtain ⟨e2, hx2, hd2⟩ := ltx w2
 rw [hd2, Jw.eq_2] at hl2
 conv => whnf
 refine block_go rfl ?_
 conv => whnf
 refine RStep.ofN (index_addr rfl rfl (hasO t932_h0 hx2) (nn _) (lt_ofNE rfl hx2) ?_)
 conv => whnf
 refine RStep.of (ld_own (i := i2) (o := 0) r0 rfl hx2 rfl rfl ?_)
 conv => whnf
 refine cond_s (fun g146_27 => ?_) (fun g146_27 => ?_)
 replace hl2 := ift g146_27 hl2
 conv => whnf
 refine cond_t g146_27 ?_
 conv => whnf
 refine cond_t g146_27 ?_
 conv => whnf
 refine cond_t g146_27 ?_
 conv => whnf
 refine cond_t g146_27 ?_
 conv => whnf
 refine cond_t g146_27 ?_
 conv => whnf
 refine cond_t g146_27 ?_
 conv => whnf
 refine cond_go rfl ?_
 conv => whnf
 refine cond_T ?_
 obtain rfl := si hl2
 replace hl0 := elr hl0
 obtain rfl := si hl0
 replace hm := elr hm
 obtain rfl := si hm
 conv => whnf
 refine EndStep.mk _ (((((((lk0.trans l42).trans l93).trans l97).trans lt928).trans lt930).trans lt932).trans lk2) ⟨rfl, rfl⟩ (ConvH.of (.cons r7 .nil))
 replace hl2 := iff_ g146_27 hl2
 conv => whnf
 refine cond_f g146_27 ?_
 conv => whnf
 refine cond_f g146_27 ?_
 conv => whnf
 refine RStep.of (len_slice rfl ?_)
 conv => whnf
 refine cond_f g146_27 ?_
 conv => whnf
 refine cond_f g146_27 ?_
 conv => whnf
 refine cond_s (fun g151_27 => ?_) (fun g151_27 => ?_)
 conv => whnf
 refine Jb rfl ?_
 conv => whnf
 refine cond_t g151_27 ?_
 conv => whnf
 refine RStep.of (load1_s r5 rfl rfl ?_)
 conv => whnf
 refine cond_t g151_27 ?_
 conv => whnf
 refine neq_int ?_
 conv => whnf
 refine cond_f g146_27 ?_
 conv => whnf
 refine cond_t g151_27 ?_
 conv => whnf
 refine cond_f g146_27 ?_
 conv => whnf
 refine cond_go rfl ?_
 conv => whnf
 refine cond_s (fun w156 => ?_) (fun w156 => ?_)
 replace hl2 := ift (and_t g151_27 w156) hl2
 obtain rfl := si hl2
 replace hl0 := elr hl0
 obtain rfl := si hl0
 replace hm := elr hm
 obtain rfl := si hm
 conv => whnf
 refine EndStep.mk _ (((((((lk0.trans l42).trans l93).trans l97).trans lt928).trans lt930).trans lt932).trans lk2) ⟨rfl, rfl⟩ (ConvH.of (.cons r7 .nil))
 replace hl2 := iff_ (and_g g151_27 w156) hl2
 obtain ⟨x162, l162, k162, hl2⟩ := ixb hl2
 conv => whnf
 refine RStep.ofN (index_addr rfl rfl (hasO y2_h0 k162) l162 (lt_ofE y2_n0 l162 k162) ?_)
 obtain ⟨cc163, hc163, hR163⟩ := LR.get y2_r0 k162
 obtain ⟨a163_0, c163_0, rfl, h163_0⟩ := hR163
 conv => whnf
 refine RStep.of (ldnA (i := (e2).toNat) r6 rfl hc163 rfl ?_)
 obtain ⟨x166, q166, hl2⟩ := bnd hl2
 conv => whnf
 refine call_fn (Jax (s := x162) (depth := ((x48.depth - x42.1) + x42.2.1)) q166 h163_0 (t928_h0.mono ((lt930.trans lt932).trans lk2)) rfl) .nil ?_
 rintro _ K166 _ l166 ⟨a166_0, c166_0, rfl, h166_0, rfl⟩
 obtain ⟨x169, l169, k169, hl2⟩ := ixb hl2
 conv => whnf
 refine RStep.ofN (index_addr rfl rfl (hasO y2_h0 k169) l169 (lt_ofE y2_n0 l169 k169) ?_)
 obtain ⟨ccw35, hcw35, _⟩ := LR.get (LR.mono Jl.R_ok l166 y2_r0) k169
 conv => whnf
 refine stA0 [.bool x166.1.reached, .int .i64 x166.1.depth, .slice a166_0 x166.1.stored.length c166_0] r6 rfl hcw35 rfl (by (conv => whnf); exact ⟨rfl, rfl, rfl, rfl⟩) ?_
 conv => whnf
 refine un_not ?_
 conv => whnf
 refine cond_go rfl ?_
 conv => whnf
 refine cond_s (fun w171 => ?_) (fun w171 => ?_)
 replace hl2 := ift (not_t (ni_t w171)) hl2
 obtain rfl := si hl2
 replace hl0 := elr hl0
 obtain rfl := si hl0
 replace hm := elr hm
 obtain rfl := si hm
 conv => whnf
 refine EndStep.mk _ ((((((((lk0.trans l42).trans l93).trans l97).trans lt928).trans lt930).trans lt932).trans lk2).trans l166) ⟨rfl, rfl⟩ (ConvH.of (.cons r7 .nil))
 replace hl2 := iff_ (not_f (ni_f w171)) hl2
 conv => whnf
 refine int_in (cntz hx2 hk2) ?_
 conv => whnf
 refine RoundStep.mk (i2 + 1, (y2_0.set ((e2).toNat) x166.1), (y2_s0.set ((e2).toNat) [.bool x166.1.reached, .int .i64 x166.1.depth, .slice a166_0 x166.1.stored.length c166_0])) ⟨rfl, trivial⟩ (by repeat (first | exact trivial | refine And.intro rfl ?_)) (ConvH.of (.cons r1 (.cons r1 (.cons r1 (.cons r1 (.cons r1 (.cons r1 (.cons r0 (.cons r0 .nil))))))))) (lk2.trans l166) (ltm hx2) ⟨(LR.set (LR.mono Jl.R_ok l166 y2_r0) ⟨a166_0, c166_0, rfl, h166_0⟩), (by first | simpa using y2_h0 | exact fun _ => ⟨_, _, rfl⟩), ((y2_n0).trans List.length_set.symm), hl2⟩
 conv => whnf
 refine cond_f g151_27 ?_
 conv => whnf
 refine cond_f g151_27 ?_
 conv => whnf
 refine cond_f g146_27 ?_
 conv => whnf
 refine cond_f g151_27 ?_
 conv => whnf
 refine cond_f g146_27 ?_
 conv => whnf
 refine cond_go rfl ?_
 conv => whnf
 refine cond_F ?_
 replace hl2 := iff_ (and_f g151_27) hl2
 obtain ⟨x162, l162, k162, hl2⟩ := ixb hl2
 conv => whnf
 refine RStep.ofN (index_addr rfl rfl (hasO y2_h0 k162) l162 (lt_ofE y2_n0 l162 k162) ?_)
 obtain ⟨cc163, hc163, hR163⟩ := LR.get y2_r0 k162
 obtain ⟨a163_0, c163_0, rfl, h163_0⟩ := hR163
 conv => whnf
 refine RStep.of (ldnA (i := (e2).toNat) r6 rfl hc163 rfl ?_)
 obtain ⟨x166, q166, hl2⟩ := bnd hl2
 conv => whnf
 refine call_fn (Jax (s := x162) (depth := ((x48.depth - x42.1) + x42.2.1)) q166 h163_0 (t928_h0.mono ((lt930.trans lt932).trans lk2)) rfl) .nil ?_
 rintro _ K166 _ l166 ⟨a166_0, c166_0, rfl, h166_0, rfl⟩
 obtain ⟨x169, l169, k169, hl2⟩ := ixb hl2
 conv => whnf
 refine RStep.ofN (index_addr rfl rfl (hasO y2_h0 k169) l169 (lt_ofE y2_n0 l169 k169) ?_)
 obtain ⟨ccw37, hcw37, _⟩ := LR.get (LR.mono Jl.R_ok l166 y2_r0) k169
 conv => whnf
 refine stA0 [.bool x166.1.reached, .int .i64 x166.1.depth, .slice a166_0 x166.1.stored.length c166_0] r6 rfl hcw37 rfl (by (conv => whnf); exact ⟨rfl, rfl, rfl, rfl⟩) ?_
 conv => whnf
 refine un_not ?_
 conv => whnf
 refine cond_go rfl ?_
 conv => whnf
 refine cond_s (fun w171 => ?_) (fun w171 => ?_)
 replace hl2 := ift (not_t (ni_t w171)) hl2
 obtain rfl := si hl2
 replace hl0 := elr hl0
 obtain rfl := si hl0
 replace hm := elr hm
 obtain rfl := si hm
 conv => whnf
 refine EndStep.mk _ ((((((((lk0.trans l42).trans l93).trans l97).trans lt928).trans lt930).trans lt932).trans lk2).trans l166) ⟨rfl, rfl⟩ (ConvH.of (.cons r7 .nil))
 replace hl2 := iff_ (not_f (ni_f w171)) hl2
 conv => whnf
 refine int_in (cntz hx2 hk2) ?_
 conv => whnf
 refine RoundStep.mk (i2 + 1, (y2_0.set ((e2).toNat) x166.1), (y2_s0.set ((e2).toNat) [.bool x166.1.reached, .int .i64 x166.1.depth, .slice a166_0 x166.1.stored.length c166_0])) ⟨rfl, trivial⟩ (by repeat (first | exact trivial | refine And.intro rfl ?_)) (ConvH.of (.cons r1 (.cons r1 (.cons r1 (.cons r1 (.cons r1 (.cons r1 (.cons r0 (.cons r0 .nil))))))))) (lk2.trans l166) (ltm hx2) ⟨(LR.set (LR.mono Jl.R_ok l166 y2_r0) ⟨a166_0, c166_0, rfl, h166_0⟩), (by first | simpa using y2_h0 | exact fun _ => ⟨_, _, rfl⟩), ((y2_n0).trans List.length_set.symm), hl2⟩
 rw [lty w2, Jw.eq_1] at hl2
 conv => whnf
 refine cond_T ?_
 conv => whnf
 refine MeetStep.mk (y2_0, y2_s0) trivial (by repeat (first | exact trivial | refine And.intro rfl ?_)) (ConvH.of (.cons r0 (.cons r0 (.cons r0 (.cons r0 (.cons r0 (.cons r0 (.cons r0 (.cons r0 .nil))))))))) lk2 ⟨y2_r0, y2_h0, y2_n0, (si hl2).symm⟩
 rintro ⟨t2, t2_s0⟩ Kt2 lt2 ⟨t2_r0, t2_h0, t2_n0, rfl⟩ j2
 replace hl0 := elg hl0
 conv => whnf
 refine int_in (cntz hx0 hk0) ?_
 conv => whnf
 refine RoundStep.mk (i0 + 1, (max (max y0_0 x48.depth) ((x48.depth - x42.1) + x42.2.1)), t2, t2_s0) ⟨rfl, rfl, trivial⟩ (by repeat (first | exact trivial | refine And.intro rfl ?_)) (ConvH.of (.cons r6 (.cons r6 .nil))) (((((((lk0.trans l42).trans l93).trans l97).trans lt928).trans lt930).trans lt932).trans lt2) (ltm hx0) ⟨t2_r0, t2_h0, t2_n0, hl0⟩
 replace e99 := iff_ g87_13 e99
 conv => whnf
 refine cond_f g87_13 ?_
 conv => whnf
 refine cond_f g87_13 ?_
 conv => whnf
 refine cond_f g87_13 ?_
 conv => whnf
 refine cond_f g87_13 ?_
 conv => whnf
 refine cond_f g87_13 ?_
 conv => whnf
 refine cond_f g87_13 ?_
 conv => whnf
 refine cond_f g87_13 ?_
 conv => whnf
 refine cond_f g87_13 ?_
 conv => whnf
 refine cond_f g87_13 ?_
 conv => whnf
 refine cond_f g87_13 ?_
 conv => whnf
 refine cond_f g87_13 ?_
 conv => whnf
 refine cond_go rfl ?_
 conv => whnf
 refine cond_F ?_
 replace hl0 := iff_ (si e99).symm hl0
 conv => whnf
 refine draw_go ⟨⟨[], false⟩, _, [(_, _)]⟩ (by kernel_rfl) ⟨Hp.Le.refl _, (ConvH.of (.cons r0 .nil))⟩ ?_
 conv => whnf
 refine Jb rfl ?_
 conv => whnf
 refine load1_l m0 rfl rfl ?_
 obtain ⟨h103, hl0⟩ := chkb hl0
 conv => whnf
 refine int_in h103 ?_
 obtain ⟨h105, hl0⟩ := chkb hl0
 conv => whnf
 refine int_in h105 ?_
 conv => whnf
 refine Jb rfl ?_
 conv => whnf
 refine load1_l m0 rfl rfl ?_
 conv => whnf
 refine Jb rfl ?_
 conv => whnf
 refine RStep.of (load1_s r1 rfl rfl ?_)
 conv => whnf
 refine eq_int ?_
 obtain ⟨s939, hl939, hl0⟩ := bnd hl0
 conv => whnf
 refine code_cut (σ := ((List Int)) × Option Addr × Nat) [13, 111, 112, 113, 114] (fun (t939, t939_a0, t939_c0) => [(13, .slice t939_a0 t939.length t939_c0)]) (fun (t939, t939_a0, t939_c0) => [Cells b11 83 [.bool x48.reached, .int .i64 x48.depth, .slice a49_0 x48.stored.length c49_0], Cells b7 73 [.int .i64 e0.Op, .int .i64 e0.N, str e0.S], OwnA (some ⟨b29, 0, none⟩) 83 3 (Int.toNat ((code.length : Int) + 1)) y0_s1, F]) (fun zz K1 => match zz with | (t939, t939_a0, t939_c0) => RdC eN K1 t939_a0 t939_c0 1 t939 ∧ t939 = s939) ?_ ?_
 refine cond_go rfl ?_
 conv => whnf
 refine cond_s (fun w110 => ?_) (fun w110 => ?_)
 replace hl939 := ift w110 hl939
 conv => whnf
 refine Jb rfl ?_
 conv => whnf
 refine RStep.of (load1_s r1 rfl rfl ?_)
 obtain ⟨x114, q114, hl939⟩ := bnd hl939
 conv => whnf
 refine call_fn (Jby (n' := e0.N) q114 h49_0 rfl) .nil ?_
 rintro _ K114 _ l114 ⟨a114_0, c114_0, rfl, h114_0, rfl⟩
 conv => whnf
 refine fMe r0 fun Kr939_0 lr939_0 fr939_0 => ?_
 refine MeetStep.mk (x114, a114_0, c114_0) ⟨rfl, trivial⟩ (by repeat (first | exact trivial | refine And.intro rfl ?_)) (ConvH.of (.cons r0 (.cons r0 (.cons r0 (.cons r0 .nil))))) (l114.trans lr939_0) ⟨fr939_0, (si hl939)⟩
 replace hl939 := iff_ w110 hl939
 conv => whnf
 refine MeetStep.mk (x48.stored, a49_0, c49_0) ⟨rfl, trivial⟩ (by repeat (first | exact trivial | refine And.intro rfl ?_)) (ConvH.of (.cons r0 (.cons r0 (.cons r0 (.cons r0 .nil))))) (Hp.Le.refl _) ⟨h49_0, (si hl939)⟩
 rintro ⟨t939, t939_a0, t939_c0⟩ Kt939 lt939 ⟨t939_h0, rfl⟩ j939
 conv => whnf
 refine Jb rfl ?_
 conv => whnf
 refine RStep.of (load1_s r0 rfl rfl ?_)
 conv => whnf
 refine RStep.of (max3_int ?_)
 conv => whnf
 refine int_in (cntz hx0 hk0) ?_
 conv => whnf
 refine bsO (len := 1) (enc := eN) (l := [((i0 : Int) + 1)]) (cl := [.int .i64 ((i0 : Int) + 1)]) elT81 rfl rfl (fun _ _ => rfl) rfl rfl rfl ?_ fun b122 => ?_
 ·conv => whnf
  refine cond_T ?_
  conv => whnf
  first | done | rfl
 conv => whnf
 refine Jb rfl ?_
 conv => whnf
 refine RStep.of (load1_s r2 rfl rfl ?_)
 conv => whnf
 refine eq_int ?_
 obtain ⟨s941, hl941, hl0⟩ := bnd hl0
 conv => whnf
 refine code_cut (σ := ((List Int)) × Option Addr × Nat) [14, 126, 127, 128] (fun (t941, t941_a0, t941_c0) => [(14, .slice t941_a0 t941.length t941_c0)]) (fun (t941, t941_a0, t941_c0) => [OwnL eN t941_a0 3 1 t941_c0 t941, Cells b11 83 [.bool x48.reached, .int .i64 x48.depth, .slice a49_0 x48.stored.length c49_0], Cells b7 73 [.int .i64 e0.Op, .int .i64 e0.N, str e0.S], OwnA (some ⟨b29, 0, none⟩) 83 3 (Int.toNat ((code.length : Int) + 1)) y0_s1, F]) (fun zz K1 => match zz with | (t941, t941_a0, t941_c0) => (0 < t941.length → Has t941_a0) ∧ t941 = s941) ?_ ?_
 refine cond_go rfl ?_
 conv => whnf
 refine cond_s (fun w125 => ?_) (fun w125 => ?_)
 replace hl941 := ift w125 hl941
 conv => whnf
 refine Jb rfl ?_
 conv => whnf
 refine RStep.of (load1_s r2 rfl rfl ?_)
 conv => whnf
 refine bsO (len := 1) (enc := eN) (l := [e0.N]) (cl := [.int .i64 e0.N]) elT81 rfl rfl (fun _ _ => rfl) rfl rfl rfl ?_ fun b128 => ?_
 ·conv => whnf
  refine cond_T ?_
  conv => whnf
  first | done | rfl
 conv => whnf
 refine MeetStep.mk ([e0.N], (some ⟨b128, 0, none⟩), 1) ⟨rfl, trivial⟩ (by repeat (first | exact trivial | refine And.intro rfl ?_)) (ConvH.of (.cons r0 (.cons r1 (.cons r1 (.cons r1 (.cons r1 .nil)))))) (Hp.Le.refl _) ⟨(fun _ => ⟨_, _, rfl⟩), (si hl941)⟩
 replace hl941 := iff_ w125 hl941
 conv => whnf
 refine MeetStep.mk ([((i0 : Int) + 1)], (some ⟨b122, 0, none⟩), 1) ⟨rfl, trivial⟩ (by repeat (first | exact trivial | refine And.intro rfl ?_)) (ConvH.of (.cons r0 (.cons r0 (.cons r0 (.cons r0 (.cons r0 .nil)))))) (Hp.Le.refl _) ⟨(fun _ => ⟨_, _, rfl⟩), (si hl941)⟩
 rintro ⟨t941, t941_a0, t941_c0⟩ Kt941 lt941 ⟨t941_h0, rfl⟩ j941
 conv => whnf
 refine Jb rfl ?_
 conv => whnf
 refine RStep.of (load1_s r2 rfl rfl ?_)
 conv => whnf
 refine eq_int ?_
 obtain ⟨s943, hl943, hl0⟩ := bnd hl0
 conv => whnf
 refine code_cut (σ := ((List Int)) × Option Addr × Nat) [14, 132, 133, 134, 135, 136] (fun (t943, t943_a0, t943_c0) => [(14, .slice t943_a0 t943.length t943_c0)]) (fun (t943, t943_a0, t943_c0) => [OwnL eN t943_a0 3 1 t943_c0 t943, Cells b11 83 [.bool x48.reached, .int .i64 x48.depth, .slice a49_0 x48.stored.length c49_0], Cells b7 73 [.int .i64 e0.Op, .int .i64 e0.N, str e0.S], OwnA (some ⟨b29, 0, none⟩) 83 3 (Int.toNat ((code.length : Int) + 1)) y0_s1, F]) (fun zz K1 => match zz with | (t943, t943_a0, t943_c0) => (0 < t943.length → Has t943_a0) ∧ t943 = s943) ?_ ?_
 refine cond_go rfl ?_
 conv => whnf
 refine cond_s (fun w131 => ?_) (fun w131 => ?_)
 replace hl943 := ift w131 hl943
 conv => whnf
 refine Jb rfl ?_
 conv => whnf
 refine RStep.of (load1_s r2 rfl rfl ?_)
 conv => whnf
 refine bsO (len := 1) (enc := eN) (l := [e0.N]) (cl := [.int .i64 e0.N]) elT81 rfl rfl (fun _ _ => rfl) rfl rfl rfl ?_ fun b135 => ?_
 ·conv => whnf
  refine cond_T ?_
  conv => whnf
  first | done | rfl
 obtain ⟨h136, hl943⟩ := chkb hl943
 conv => whnf
 refine apE rfl r1 elT81 (src_own' rfl r0 rfl (fun _ => rfl) (fun _ => rfl)) h136 ?_
 intro a136 c136 o136
 conv => whnf
 refine MeetStep.mk ((t941 ++ [e0.N]), a136, c136) ⟨rfl, trivial⟩ (by repeat (first | exact trivial | refine And.intro rfl ?_)) (ConvH.of (.cons r0 (.cons r1 (.cons r1 (.cons r1 (.cons r1 .nil)))))) (Hp.Le.refl _) ⟨o136, (si hl943)⟩
 replace hl943 := iff_ w131 hl943
 conv => whnf
 refine MeetStep.mk (t941, t941_a0, t941_c0) ⟨rfl, trivial⟩ (by repeat (first | exact trivial | refine And.intro rfl ?_)) (ConvH.of (.cons r0 (.cons r0 (.cons r0 (.cons r0 (.cons r0 .nil)))))) (Hp.Le.refl _) ⟨t941_h0, (si hl943)⟩
 rintro ⟨t943, t943_a0, t943_c0⟩ Kt943 lt943 ⟨t943_h0, rfl⟩ j943
 conv => whnf
 refine RStep.of (len_slice rfl ?_)
 obtain ⟨hk2, hl0⟩ := chkb hl0
 obtain ⟨s2, hl2, hl0⟩ := bnd hl0
 conv => whnf
 refine code_cut (σ := ((List Jl)) × List (List Value)) [2, 3, 16, 17, 139, 140, 141, 142, 143, 144, 145, 146, 147, 148, 149, 150, 151, 152, 153, 154, 155, 156, 157, 158, 159, 160, 161, 162, 163, 164, 165, 166, 167, 168, 169, 170, 171, 172] (fun (t2, t2_s0) => []) (fun (t2, t2_s0) => [OwnL eN t943_a0 3 1 t943_c0 t943, Cells b11 83 [.bool x48.reached, .int .i64 x48.depth, .slice a49_0 x48.stored.length c49_0], Cells b7 73 [.int .i64 e0.Op, .int .i64 e0.N, str e0.S], OwnA (some ⟨b29, 0, none⟩) 83 3 (Int.toNat ((code.length : Int) + 1)) t2_s0, F]) (fun zz K1 => match zz with | (t2, t2_s0) => LR Jl.R K1 t2_s0 t2 ∧ (0 < t2.length → Has (some ⟨b29, 0, none⟩)) ∧ (Int.toNat ((code.length : Int) + 1)) = t2.length ∧ s2 = Fl.go t2) ?_ ?_
 refine block_go rfl ?_
 conv => whnf
 refine loop_rule (σ := Nat × (List Jl) × List (List Value)) [2, 3, 16, 17, 139, 140, 141, 142, 143, 144, 145, 146, 147, 148, 149, 150, 151, 152, 153, 154, 155, 156, 157, 158, 159, 160, 161, 162, 163, 164, 165, 166, 167, 168, 169, 170, 171, 172] (fun (i2, y2_0, y2_s0) => [(139, .int .i64 (i2 : Int))]) (fun (i2, y2_0, y2_s0) => [OwnL eN t943_a0 3 1 t943_c0 t943, Cells b11 83 [.bool x48.reached, .int .i64 x48.depth, .slice a49_0 x48.stored.length c49_0], Cells b7 73 [.int .i64 e0.Op, .int .i64 e0.N, str e0.S], OwnA (some ⟨b29, 0, none⟩) 83 3 (Int.toNat ((code.length : Int) + 1)) y2_s0, F]) (fun zz K1 => match zz with | (i2, y2_0, y2_s0) => LR Jl.R K1 y2_s0 y2_0 ∧ (0 < y2_0.length → Has (some ⟨b29, 0, none⟩)) ∧ (Int.toNat ((code.length : Int) + 1)) = y2_0.length ∧ Jw i0 code e0 x48 x42 t939 (t943.drop i2) i2 y2_0 = some s2) (fun zz => t943.length - zz.1) (0, y0_1, y0_s1) rfl ⟨rfl, trivial⟩ (ConvH.of (.cons r0 (.cons r0 (.cons r0 (.cons r0 (.cons r0 .nil)))))) ⟨(LR.mono Jl.R_ok (((l42.trans lt939).trans lt941).trans lt943) y0_r1), y0_h1, y0_n1, hl2⟩ ?_
 clear hl2
 rintro ⟨i2, y2_0, y2_s0⟩ Kb2 lk2 ⟨y2_r0, y2_h0, y2_n0, hl2⟩ j2
 conv => whnf
 refine cond_go rfl ?_
 conv => whnf
 refine cond_s (fun w2 => ?_) (fun w2 => ?_)
 obtain ⟨e2, hx2, hd2⟩ := ltx w2
 rw [hd2, Jw.eq_2] at hl2
 conv => whnf
 refine block_go rfl ?_
 conv => whnf
 refine RStep.ofN (index_addr rfl rfl (hasO t943_h0 hx2) (nn _) (lt_ofNE rfl hx2) ?_)
 conv => whnf
 refine RStep.of (ld_own (i := i2) (o := 0) r0 rfl hx2 rfl rfl ?_)
 conv => whnf
 refine cond_s (fun g146_27 => ?_) (fun g146_27 => ?_)
 replace hl2 := ift g146_27 hl2
 conv => whnf
 refine cond_t g146_27 ?_
 conv => whnf
 refine cond_t g146_27 ?_
 conv => whnf
 refine cond_t g146_27 ?_
 conv => whnf
 refine cond_t g146_27 ?_
 conv => whnf
 refine cond_t g146_27 ?_
 conv => whnf
 refine cond_t g146_27 ?_
 conv => whnf
 refine cond_go rfl ?_
 conv => whnf
 refine cond_T ?_
 obtain rfl := si hl2
 replace hl0 := elr hl0
 obtain rfl := si hl0
 replace hm := elr hm
 obtain rfl := si hm
 conv => whnf
 refine EndStep.mk _ (((((lk0.trans l42).trans lt939).trans lt941).trans lt943).trans lk2) ⟨rfl, rfl⟩ (ConvH.of (.cons r4 .nil))
 replace hl2 := iff_ g146_27 hl2
 conv => whnf
 refine cond_f g146_27 ?_
 conv => whnf
 refine cond_f g146_27 ?_
 conv => whnf
 refine RStep.of (len_slice rfl ?_)
 conv => whnf
 refine cond_f g146_27 ?_
 conv => whnf
 refine cond_f g146_27 ?_
 conv => whnf
 refine cond_s (fun g151_27 => ?_) (fun g151_27 => ?_)
 conv => whnf
 refine Jb rfl ?_
 conv => whnf
 refine cond_t g151_27 ?_
 conv => whnf
 refine RStep.of (load1_s r2 rfl rfl ?_)
 conv => whnf
 refine cond_t g151_27 ?_
 conv => whnf
 refine neq_int ?_
 conv => whnf
 refine cond_f g146_27 ?_
 conv => whnf
 refine cond_t g151_27 ?_
 conv => whnf
 refine cond_f g146_27 ?_
 conv => whnf
 refine cond_go rfl ?_
 conv => whnf
 refine cond_s (fun w156 => ?_) (fun w156 => ?_)
 replace hl2 := ift (and_t g151_27 w156) hl2
 obtain rfl := si hl2
 replace hl0 := elr hl0
 obtain rfl := si hl0
 replace hm := elr hm
 obtain rfl := si hm
 conv => whnf
 refine EndStep.mk _ (((((lk0.trans l42).trans lt939).trans lt941).trans lt943).trans lk2) ⟨rfl, rfl⟩ (ConvH.of (.cons r4 .nil))
 replace hl2 := iff_ (and_g g151_27 w156) hl2
 obtain ⟨x162, l162, k162, hl2⟩ := ixb hl2
 conv => whnf
 refine RStep.ofN (index_addr rfl rfl (hasO y2_h0 k162) l162 (lt_ofE y2_n0 l162 k162) ?_)
 obtain ⟨cc163, hc163, hR163⟩ := LR.get y2_r0 k162
 obtain ⟨a163_0, c163_0, rfl, h163_0⟩ := hR163
 conv => whnf
 refine RStep.of (ldnA (i := (e2).toNat) r3 rfl hc163 rfl ?_)
 obtain ⟨x166, q166, hl2⟩ := bnd hl2
 conv => whnf
 refine call_fn (Jax (s := x162) (depth := ((x48.depth - x42.1) + x42.2.1)) q166 h163_0 (t939_h0.mono ((lt941.trans lt943).trans lk2)) rfl) .nil ?_
 rintro _ K166 _ l166 ⟨a166_0, c166_0, rfl, h166_0, rfl⟩
 obtain ⟨x169, l169, k169, hl2⟩ := ixb hl2
 conv => whnf
 refine RStep.ofN (index_addr rfl rfl (hasO y2_h0 k169) l169 (lt_ofE y2_n0 l169 k169) ?_)
 obtain ⟨ccw46, hcw46, _⟩ := LR.get (LR.mono Jl.R_ok l166 y2_r0) k169
 conv => whnf
 refine stA0 [.bool x166.1.reached, .int .i64 x166.1.depth, .slice a166_0 x166.1.stored.length c166_0] r3 rfl hcw46 rfl (by (conv => whnf); exact ⟨rfl, rfl, rfl, rfl⟩) ?_
 conv => whnf
 refine un_not ?_
 conv => whnf
 refine cond_go rfl ?_
 conv => whnf
 refine cond_s (fun w171 => ?_) (fun w171 => ?_)
 replace hl2 := ift (not_t (ni_t w171)) hl2
 obtain rfl := si hl2
 replace hl0 := elr hl0
 obtain rfl := si hl0
 replace hm := elr hm
 obtain rfl := si hm
 conv => whnf
 refine EndStep.mk _ ((((((lk0.trans l42).trans lt939).trans lt941).trans lt943).trans lk2).trans l166) ⟨rfl, rfl⟩ (ConvH.of (.cons r4 .nil))
 replace hl2 := iff_ (not_f (ni_f w171)) hl2
 conv => whnf
 refine int_in (cntz hx2 hk2) ?_
 conv => whnf
 refine RoundStep.mk (i2 + 1, (y2_0.set ((e2).toNat) x166.1), (y2_s0.set ((e2).toNat) [.bool x166.1.reached, .int .i64 x166.1.depth, .slice a166_0 x166.1.stored.length c166_0])) ⟨rfl, trivial⟩ (by repeat (first | exact trivial | refine And.intro rfl ?_)) (ConvH.of (.cons r1 (.cons r1 (.cons r1 (.cons r0 (.cons r0 .nil)))))) (lk2.trans l166) (ltm hx2) ⟨(LR.set (LR.mono Jl.R_ok l166 y2_r0) ⟨a166_0, c166_0, rfl, h166_0⟩), (by first | simpa using y2_h0 | exact fun _ => ⟨_, _, rfl⟩), ((y2_n0).trans List.length_set.symm), hl2⟩
 conv => whnf
 refine cond_f g151_27 ?_
 conv => whnf
 refine cond_f g151_27 ?_
 conv => whnf
 refine cond_f g146_27 ?_
 conv => whnf
 refine cond_f g151_27 ?_
 conv => whnf
 refine cond_f g146_27 ?_
 conv => whnf
 refine cond_go rfl ?_
 conv => whnf
 refine cond_F ?_
 replace hl2 := iff_ (and_f g151_27) hl2
 obtain ⟨x162, l162, k162, hl2⟩ := ixb hl2
 conv => whnf
 refine RStep.ofN (index_addr rfl rfl (hasO y2_h0 k162) l162 (lt_ofE y2_n0 l162 k162) ?_)
 obtain ⟨cc163, hc163, hR163⟩ := LR.get y2_r0 k162
 obtain ⟨a163_0, c163_0, rfl, h163_0⟩ := hR163
 conv => whnf
 refine RStep.of (ldnA (i := (e2).toNat) r3 rfl hc163 rfl ?_)
 obtain ⟨x166, q166, hl2⟩ := bnd hl2
 conv => whnf
 refine call_fn (Jax (s := x162) (depth := ((x48.depth - x42.1) + x42.2.1)) q166 h163_0 (t939_h0.mono ((lt941.trans lt943).trans lk2)) rfl) .nil ?_
 rintro _ K166 _ l166 ⟨a166_0, c166_0, rfl, h166_0, rfl⟩
 obtain ⟨x169, l169, k169, hl2⟩ := ixb hl2
 conv => whnf
 refine RStep.ofN (index_addr rfl rfl (hasO y2_h0 k169) l169 (lt_ofE y2_n0 l169 k169) ?_)
 obtain ⟨ccw48, hcw48, _⟩ := LR.get (LR.mono Jl.R_ok l166 y2_r0) k169
 conv => whnf
 refine stA0 [.bool x166.1.reached, .int .i64 x166.1.depth, .slice a166_0 x166.1.stored.length c166_0] r3 rfl hcw48 rfl (by (conv => whnf); exact ⟨rfl, rfl, rfl, rfl⟩) ?_
 conv => whnf
 refine un_not ?_
 conv => whnf
 refine cond_go rfl ?_
 conv => whnf
 refine cond_s (fun w171 => ?_) (fun w171 => ?_)
 replace hl2 := ift (not_t (ni_t w171)) hl2
 obtain rfl := si hl2
 replace hl0 := elr hl0
 obtain rfl := si hl0
 replace hm := elr hm
 obtain rfl := si hm
 conv => whnf
 refine EndStep.mk _ ((((((lk0.trans l42).trans lt939).trans lt941).trans lt943).trans lk2).trans l166) ⟨rfl, rfl⟩ (ConvH.of (.cons r4 .nil))
 replace hl2 := iff_ (not_f (ni_f w171)) hl2
 conv => whnf
 refine int_in (cntz hx2 hk2) ?_
 conv => whnf
 refine RoundStep.mk (i2 + 1, (y2_0.set ((e2).toNat) x166.1), (y2_s0.set ((e2).toNat) [.bool x166.1.reached, .int .i64 x166.1.depth, .slice a166_0 x166.1.stored.length c166_0])) ⟨rfl, trivial⟩ (by repeat (first | exact trivial | refine And.intro rfl ?_)) (ConvH.of (.cons r1 (.cons r1 (.cons r1 (.cons r0 (.cons r0 .nil)))))) (lk2.trans l166) (ltm hx2) ⟨(LR.set (LR.mono Jl.R_ok l166 y2_r0) ⟨a166_0, c166_0, rfl, h166_0⟩), (by first | simpa using y2_h0 | exact fun _ => ⟨_, _, rfl⟩), ((y2_n0).trans List.length_set.symm), hl2⟩
 rw [lty w2, Jw.eq_1] at hl2
 conv => whnf
 refine cond_T ?_
 conv => whnf
 refine MeetStep.mk (y2_0, y2_s0) trivial (by repeat (first | exact trivial | refine And.intro rfl ?_)) (ConvH.of (.cons r0 (.cons r0 (.cons r0 (.cons r0 (.cons r0 .nil)))))) lk2 ⟨y2_r0, y2_h0, y2_n0, (si hl2).symm⟩
 rintro ⟨t2, t2_s0⟩ Kt2 lt2 ⟨t2_r0, t2_h0, t2_n0, rfl⟩ j2
 replace hl0 := elg hl0
 conv => whnf
 refine int_in (cntz hx0 hk0) ?_
 conv => whnf
 refine RoundStep.mk (i0 + 1, (max (max y0_0 x48.depth) ((x48.depth - x42.1) + x42.2.1)), t2, t2_s0) ⟨rfl, rfl, trivial⟩ (by repeat (first | exact trivial | refine And.intro rfl ?_)) (ConvH.of (.cons r3 (.cons r3 .nil))) (((((lk0.trans l42).trans lt939).trans lt941).trans lt943).trans lt2) (ltm hx0) ⟨t2_r0, t2_h0, t2_n0, hl0⟩
 rw [lty w0, JaA.eq_1] at hl0
 conv => whnf
 refine cond_T ?_
 conv => whnf
 refine MeetStep.mk ((y0_0, y0_1), y0_s1) ⟨rfl, trivial⟩ (by repeat (first | exact trivial | refine And.intro rfl ?_)) (ConvH.of (.cons r0 (.cons r0 .nil))) lk0 ⟨y0_r1, y0_h1, y0_n1, (si hl0).symm⟩
 rintro ⟨t0, t0_s1⟩ Kt0 lt0 ⟨t0_r1, t0_h1, t0_n1, rfl⟩ j0
 replace hm := elg hm
 obtain rfl := si hm
 conv => whnf
 refine EndStep.mk _ lt0 ⟨rfl, rfl⟩ (ConvH.of (.cons r1 .nil))
noncomputable def JY (rec_ : (Ja → (List Jh) → Option (Int × Int))) (env : (List Jh)) : List Ja → Nat → (List Int) → Int → Int → Option ((List Int) × Int × Int)
 | [], _, y0_0, y0_1, y0_2 => some (y0_0, y0_1, y0_2)
 | e0 :: xs0, i0, y0_0, y0_1, y0_2 =>
  (rec_ e0 env).bind fun x27 =>
  (chk (y0_0.length + [x27.1].length ≤ lim)).bind fun _ =>
  if decide ((i0 : Int) = 0) then
  (chk (InI (y0_2 + x27.2))).bind fun _ =>
  JY rec_ env xs0 (i0 + 1) (y0_0 ++ [x27.1]) x27.2 (y0_2 + x27.2)
  else
  (chk (InI (y0_2 + x27.2))).bind fun _ =>
  JY rec_ env xs0 (i0 + 1) (y0_0 ++ [x27.1]) y0_1 (y0_2 + x27.2)
noncomputable def Jau : Nat → Ja → (List Jh) → Option (Int × Int)
 | 0, _, _ => none
 | n + 1, n', env =>
  (chk (n'.Kids.length ≤ szMax)).bind fun _ =>
  (JY (Jau n) env n'.Kids 0 [] 0 0).bind fun t0 =>
  if decide (n'.Kind = 20) then
  some (2, 1)
  else
  if decide (n'.Kind = 21) then
  some (1, 1)
  else
  if decide (n'.Kind = 22) then
  some (3, 3)
  else
  if decide (n'.Kind = 23) then
  (Jah n n'.Text env).bind fun x56 =>
  some (x56, 1)
  else
  if decide (n'.Kind = 24) then
  (JM (⟨0, none⟩ : Ji) n' t0.1).bind fun x62 =>
  if decide (x62.1 = 1) then
  (chk (InI (t0.2.2 + 32))).bind fun _ =>
  (chk (InI ((t0.2.2 + 32) + 1))).bind fun _ =>
  some (x62.1, ((t0.2.2 + 32) + 1))
  else
  (chk (InI (t0.2.2 + 1))).bind fun _ =>
  some (x62.1, (t0.2.2 + 1))
  else
  if decide (n'.Kind = 14) then
  if decide (n'.Kind = 14) then
  (chk (InI (t0.2.1 + 1))).bind fun _ =>
  (chk (InI (t0.2.2 - t0.2.1))).bind fun _ =>
  (chk (InI ((t0.2.2 - t0.2.1) + 1))).bind fun _ =>
  (chk (InI ((t0.2.1 + 1) + (max 3 ((t0.2.2 - t0.2.1) + 1))))).bind fun _ =>
  some (3, ((t0.2.1 + 1) + (max 3 ((t0.2.2 - t0.2.1) + 1))))
  else
  (chk (InI (t0.2.1 + 1))).bind fun _ =>
  (chk (InI (t0.2.2 - t0.2.1))).bind fun _ =>
  (chk (InI ((t0.2.1 + 1) + (max 4 (t0.2.2 - t0.2.1))))).bind fun _ =>
  some (3, ((t0.2.1 + 1) + (max 4 (t0.2.2 - t0.2.1))))
  else
  if decide (n'.Kind = 13) then
  if decide (n'.Kind = 14) then
  (chk (InI (t0.2.1 + 1))).bind fun _ =>
  (chk (InI (t0.2.2 - t0.2.1))).bind fun _ =>
  (chk (InI ((t0.2.2 - t0.2.1) + 1))).bind fun _ =>
  (chk (InI ((t0.2.1 + 1) + (max 3 ((t0.2.2 - t0.2.1) + 1))))).bind fun _ =>
  some (3, ((t0.2.1 + 1) + (max 3 ((t0.2.2 - t0.2.1) + 1))))
  else
  (chk (InI (t0.2.1 + 1))).bind fun _ =>
  (chk (InI (t0.2.2 - t0.2.1))).bind fun _ =>
  (chk (InI ((t0.2.1 + 1) + (max 4 (t0.2.2 - t0.2.1))))).bind fun _ =>
  some (3, ((t0.2.1 + 1) + (max 4 (t0.2.2 - t0.2.1))))
  else
  (JH n' t0.1).bind fun x93 =>
  if decide (x93 = 1) then
  (chk (InI (t0.2.2 + 32))).bind fun _ =>
  (chk (InI ((t0.2.2 + 32) + 1))).bind fun _ =>
  some (x93, ((t0.2.2 + 32) + 1))
  else
  (chk (InI (t0.2.2 + 1))).bind fun _ =>
  some (x93, (t0.2.2 + 1))
set_option maxHeartbeats 8000000 in
theorem Jcj : ∀ {n : Nat} {n' : Ja} {env : (List Jh)} {ap0_0 : Option Addr} {cp0_0 : Nat} {ap1_0 : Option Addr} {cp1_0 : Nat} {n1 : Nat} {K : Hp} {r : Int × Int}
  (hm : Jau n n' env = some r) (hp0_0 : LiC Ja.R K ap0_0 cp0_0 4 n'.Kids) (hp1_0 : RdC Jh.enc K ap1_0 cp1_0 2 env) (en1 : n1 = env.length),
  Fn Tryz.prog 72 [.agg #[.int .i64 n'.Kind, str n'.Text, .slice ap0_0 n'.Kids.length cp0_0, .int .i64 n'.Line], .slice ap1_0 n1 cp1_0] K [] (fun v K' H' => v = .tuple #[.int .i64 r.1, .int .i64 r.2] ∧ H' = []) := by
 intro n
 induction n with
 | zero =>
  intro n' env ap0_0 cp0_0 ap1_0 cp1_0 n1 K r hm hp0_0 hp1_0 en1
  rw [Jau.eq_1] at hm; cases hm
 | succ n ih =>
  intro n' env ap0_0 cp0_0 ap1_0 cp1_0 n1 K r hm hp0_0 hp1_0 en1
  subst en1
  refine Fn.enter Tryz.func72 Tryz.call72 rfl fun F => ?_
  rw [Jau.eq_2] at hm
  refine box_rule ?_
  intro b2
  refine Jb rfl (RStep.of (load1_s r0 rfl rfl (RStep.of (len_slice rfl ?_))))
  obtain ⟨hk0, hm⟩ := chkb hm
  obtain ⟨s0, hl0, hm⟩ := bnd hm
  refine nilC eN 3 1 ?_
  refine code_cut (σ := ((List Int) × Int × Int) × Option Addr × Nat) [6, 7, 8, 9, 10, 11, 12, 19, 20, 21, 22, 23, 24, 25, 26, 27, 28, 29, 30, 31, 32, 33, 34, 35, 36, 37, 38, 39, 40] (fun (t0, t0_a0, t0_c0) => [(6, .slice t0_a0 t0.1.length t0_c0), (7, .int .i64 t0.2.1), (8, .int .i64 t0.2.2)]) (fun (t0, t0_a0, t0_c0) => [OwnL eN t0_a0 3 1 t0_c0 t0.1, Cells b2 34 [.int .i64 n'.Kind, str n'.Text, .slice ap0_0 n'.Kids.length cp0_0, .int .i64 n'.Line], F]) (fun zz K1 => match zz with | (t0, t0_a0, t0_c0) => (0 < t0.1.length → Has t0_a0) ∧ t0 = s0) ?_ ?_
  refine block_go rfl ?_
  refine loop_rule (σ := Nat × (List Int) × Int × Int × Option Addr × Nat) [6, 7, 8, 9, 10, 11, 12, 19, 20, 21, 22, 23, 24, 25, 26, 27, 28, 29, 30, 31, 32, 33, 34, 35, 36, 37, 38, 39, 40] (fun (i0, y0_0, y0_1, y0_2, y0_a0, y0_c0) => [(19, .int .i64 (i0 : Int)), (6, .slice y0_a0 y0_0.length y0_c0), (7, .int .i64 y0_1), (8, .int .i64 y0_2)]) (fun (i0, y0_0, y0_1, y0_2, y0_a0, y0_c0) => [OwnL eN y0_a0 3 1 y0_c0 y0_0, Cells b2 34 [.int .i64 n'.Kind, str n'.Text, .slice ap0_0 n'.Kids.length cp0_0, .int .i64 n'.Line], F]) (fun zz K1 => match zz with | (i0, y0_0, y0_1, y0_2, y0_a0, y0_c0) => (0 < y0_0.length → Has y0_a0) ∧ JY (Jau n) env (n'.Kids.drop i0) i0 y0_0 y0_1 y0_2 = some s0) (fun zz => n'.Kids.length - zz.1) (0, [], 0, 0, none, 0) rfl ⟨rfl, rfl, rfl, rfl, trivial⟩ (ConvH.of (.cons r0 (.cons r0 (.cons r0 .nil)))) ⟨(fun h => by simp at h), hl0⟩ ?_
  clear hl0
  rintro ⟨i0, y0_0, y0_1, y0_2, y0_a0, y0_c0⟩ Kb0 lk0 ⟨y0_h0, hl0⟩ j0
  refine cond_go rfl ?_
  refine cond_s (fun w0 => ?_) (fun w0 => ?_)
  obtain ⟨e0, hx0, hd0⟩ := ltx w0
  rw [hd0, JY.eq_2] at hl0
  refine block_go rfl ?_
  refine RStep.ofN (index_addr rfl rfl (hasR (LiC.mono Ja.R_ok lk0 hp0_0).rd hx0) (nn _) (lt_ofN hx0) ?_)
  obtain ⟨ss23, cc23, hr23, hc23, hR23⟩ := LiR.get (LiC.mono Ja.R_ok lk0 hp0_0).rd hx0
  obtain ⟨a23_0, c23_0, rfl, h23_0⟩ := Ja.out hR23
  refine RStep.of (load_rd_agg i0 _ hr23 rfl hc23 rfl ?_)
  refine alloc_rule rfl ?_
  intro b10
  refine store_rule r0 rfl ?_
  refine ⟨rfl, rfl, (Nat.le_of_ble_eq_true rfl), ?_⟩
  refine RStep.of (loadn_s r0 rfl (Nat.le_of_ble_eq_true rfl) ?_)
  obtain ⟨x27, q27, hl0⟩ := bnd hl0
  refine call_fn (ih (n' := e0) q27 h23_0 (hp1_0.mono lk0) rfl) .nil ?_
  rintro _ K27 _ l27 ⟨rfl, rfl⟩
  refine bsO (len := 1) (enc := eN) (l := [x27.1]) (cl := [.int .i64 x27.1]) elT81 rfl rfl (fun _ _ => rfl) rfl rfl rfl ?_ fun b32 => ?_
  ·conv => whnf
   refine cond_T ?_
   first | done | rfl
  obtain ⟨h33, hl0⟩ := chkb hl0
  refine apE rfl r2 elT81 (src_own' rfl r0 rfl (fun _ => rfl) (fun _ => rfl)) h33 ?_
  intro a33 c33 o33
  refine eq_int (cond_go rfl ?_)
  refine cond_s (fun w35 => ?_) (fun w35 => ?_)
  replace hl0 := ift w35 hl0
  obtain ⟨h39, hl0⟩ := chkb hl0
  refine int_in h39 (int_in (cntz hx0 hk0) ?_)
  refine RoundStep.mk (i0 + 1, (y0_0 ++ [x27.1]), x27.2, (y0_2 + x27.2), a33, c33) ⟨rfl, rfl, rfl, rfl, trivial⟩ (by repeat (first | exact trivial | refine And.intro rfl ?_)) (ConvH.of (.cons r0 (.cons r2 (.cons r2 .nil)))) (lk0.trans l27) (ltm hx0) ⟨o33, hl0⟩
  replace hl0 := iff_ w35 hl0
  obtain ⟨h39, hl0⟩ := chkb hl0
  refine int_in h39 (int_in (cntz hx0 hk0) ?_)
  refine RoundStep.mk (i0 + 1, (y0_0 ++ [x27.1]), y0_1, (y0_2 + x27.2), a33, c33) ⟨rfl, rfl, rfl, rfl, trivial⟩ (by repeat (first | exact trivial | refine And.intro rfl ?_)) (ConvH.of (.cons r0 (.cons r2 (.cons r2 .nil)))) (lk0.trans l27) (ltm hx0) ⟨o33, hl0⟩
  rw [lty w0, JY.eq_1] at hl0
  refine cond_T ?_
  refine MeetStep.mk ((y0_0, y0_1, y0_2), y0_a0, y0_c0) ⟨rfl, rfl, rfl, trivial⟩ (by repeat (first | exact trivial | refine And.intro rfl ?_)) (ConvH.of (.cons r0 (.cons r0 (.cons r0 .nil)))) lk0 ⟨y0_h0, (si hl0)⟩
  rintro ⟨t0, t0_a0, t0_c0⟩ Kt0 lt0 ⟨t0_h0, rfl⟩ j0
  refine build_struct rfl rfl ?_
  refine box_rule ?_
  intro b42
  refine Jb rfl (RStep.of (load1_s r2 rfl rfl ?_))
  refine block_go rfl ?_
  refine eq_int (cond_go rfl ?_)
  refine cond_s (fun w45 => ?_) (fun w45 => ?_)
  replace hm := ift w45 hm
  obtain rfl := si hm
  refine EndStep.mk _ lt0 ⟨rfl, rfl⟩ (ConvH.of (.cons r3 .nil))
  replace hm := iff_ w45 hm
  refine eq_int (cond_go rfl ?_)
  refine cond_s (fun w47 => ?_) (fun w47 => ?_)
  replace hm := ift w47 hm
  obtain rfl := si hm
  refine EndStep.mk _ lt0 ⟨rfl, rfl⟩ (ConvH.of (.cons r3 .nil))
  replace hm := iff_ w47 hm
  refine eq_int (cond_go rfl ?_)
  refine cond_s (fun w49 => ?_) (fun w49 => ?_)
  replace hm := ift w49 hm
  obtain rfl := si hm
  refine EndStep.mk _ lt0 ⟨rfl, rfl⟩ (ConvH.of (.cons r3 .nil))
  replace hm := iff_ w49 hm
  refine eq_int (cond_go rfl ?_)
  refine cond_s (fun w51 => ?_) (fun w51 => ?_)
  replace hm := ift w51 hm
  refine Jb rfl (RStep.of (load1_s r2 rfl rfl ?_))
  obtain ⟨x56, q56, hm⟩ := bnd hm
  refine call_fn (Jbj (name := n'.Text) q56 (hp1_0.mono lt0) rfl) .nil ?_
  rintro _ K56 _ l56 ⟨rfl, rfl⟩
  obtain rfl := si hm
  refine EndStep.mk _ (lt0.trans l56) ⟨rfl, rfl⟩ (ConvH.of (.cons r3 .nil))
  replace hm := iff_ w51 hm
  refine eq_int (cond_go rfl ?_)
  refine cond_s (fun w57 => ?_) (fun w57 => ?_)
  replace hm := ift w57 hm
  refine RStep.of (loadn_s r2 rfl (Nat.le_of_ble_eq_true rfl) ?_)
  obtain ⟨x62, q62, hm⟩ := bnd hm
  refine call_fn (Fn.lend Tryz.call90 (fun K62_2 l62_2 f62_2 => (Jbe (c := (⟨0, none⟩ : Ji)) (n' := n') q62 (LiC.mono Ja.R_ok (lt0.trans l62_2) hp0_0) f62_2 rfl)) (by exact fun _ _ _ _ h => h)) (.cons r1 (.cons r0 .nil)) ?_
  rintro _ K62 _ l62 ⟨_, rfl, rfl, rfl⟩
  refine eq_int (cond_go rfl ?_)
  refine cond_s (fun w64 => ?_) (fun w64 => ?_)
  replace hm := ift w64 hm
  obtain ⟨h66, hm⟩ := chkb hm
  refine int_in h66 ?_
  obtain ⟨h69, hm⟩ := chkb hm
  refine int_in h69 ?_
  obtain rfl := si hm
  refine EndStep.mk _ (lt0.trans l62) ⟨rfl, rfl⟩ (ConvH.of (.cons r3 .nil))
  replace hm := iff_ w64 hm
  obtain ⟨h69, hm⟩ := chkb hm
  refine int_in h69 ?_
  obtain rfl := si hm
  refine EndStep.mk _ (lt0.trans l62) ⟨rfl, rfl⟩ (ConvH.of (.cons r3 .nil))
  replace hm := iff_ w57 hm
  refine eq_int (cond_go rfl ?_)
  refine cond_s (fun w70 => ?_) (fun w70 => ?_)
  replace hm := ift w70 hm
  refine cond_go rfl (cond_t w70 (Jb rfl (RStep.of (load1_s r2 rfl rfl (eq_int (cond_go rfl ?_))))))
  refine cond_s (fun w75 => ?_) (fun w75 => ?_)
  replace hm := ift w75 hm
  obtain ⟨h77, hm⟩ := chkb hm
  refine int_in h77 ?_
  obtain ⟨h80, hm⟩ := chkb hm
  refine int_in h80 ?_
  obtain ⟨h81, hm⟩ := chkb hm
  refine int_in h81 (RStep.of (max_int ?_))
  obtain ⟨h83, hm⟩ := chkb hm
  refine int_in h83 ?_
  obtain rfl := si hm
  refine EndStep.mk _ lt0 ⟨rfl, rfl⟩ (ConvH.of (.cons r3 .nil))
  replace hm := iff_ w75 hm
  obtain ⟨h85, hm⟩ := chkb hm
  refine int_in h85 ?_
  obtain ⟨h88, hm⟩ := chkb hm
  refine int_in h88 (RStep.of (max_int ?_))
  obtain ⟨h90, hm⟩ := chkb hm
  refine int_in h90 ?_
  obtain rfl := si hm
  refine EndStep.mk _ lt0 ⟨rfl, rfl⟩ (ConvH.of (.cons r3 .nil))
  replace hm := iff_ w70 hm
  refine eq_int (cond_go rfl ?_)
  refine cond_s (fun w70 => ?_) (fun w70 => ?_)
  replace hm := ift w70 hm
  refine Jb rfl (RStep.of (load1_s r2 rfl rfl (eq_int (cond_go rfl ?_))))
  refine cond_s (fun w75 => ?_) (fun w75 => ?_)
  replace hm := ift w75 hm
  obtain ⟨h77, hm⟩ := chkb hm
  refine int_in h77 ?_
  obtain ⟨h80, hm⟩ := chkb hm
  refine int_in h80 ?_
  obtain ⟨h81, hm⟩ := chkb hm
  refine int_in h81 (RStep.of (max_int ?_))
  obtain ⟨h83, hm⟩ := chkb hm
  refine int_in h83 ?_
  obtain rfl := si hm
  refine EndStep.mk _ lt0 ⟨rfl, rfl⟩ (ConvH.of (.cons r3 .nil))
  replace hm := iff_ w75 hm
  obtain ⟨h85, hm⟩ := chkb hm
  refine int_in h85 ?_
  obtain ⟨h88, hm⟩ := chkb hm
  refine int_in h88 (RStep.of (max_int ?_))
  obtain ⟨h90, hm⟩ := chkb hm
  refine int_in h90 ?_
  obtain rfl := si hm
  refine EndStep.mk _ lt0 ⟨rfl, rfl⟩ (ConvH.of (.cons r3 .nil))
  replace hm := iff_ w70 hm
  refine RStep.of (loadn_s r2 rfl (Nat.le_of_ble_eq_true rfl) ?_)
  obtain ⟨x93, q93, hm⟩ := bnd hm
  refine call_fn (Fn.lend Tryz.call91 (fun K93_1 l93_1 f93_1 => (Jbw (n' := n') q93 (LiC.mono Ja.R_ok (lt0.trans l93_1) hp0_0) f93_1 rfl)) (by exact fun _ _ _ _ h => h)) (.cons r1 .nil) ?_
  rintro _ K93 _ l93 ⟨_, rfl, rfl, rfl⟩
  refine eq_int (cond_go rfl ?_)
  refine cond_s (fun w95 => ?_) (fun w95 => ?_)
  replace hm := ift w95 hm
  obtain ⟨h97, hm⟩ := chkb hm
  refine int_in h97 ?_
  obtain ⟨h100, hm⟩ := chkb hm
  refine int_in h100 ?_
  obtain rfl := si hm
  refine EndStep.mk _ (lt0.trans l93) ⟨rfl, rfl⟩ (ConvH.of (.cons r3 .nil))
  replace hm := iff_ w95 hm
  obtain ⟨h100, hm⟩ := chkb hm
  refine int_in h100 ?_
  obtain rfl := si hm
  refine EndStep.mk _ (lt0.trans l93) ⟨rfl, rfl⟩ (ConvH.of (.cons r3 .nil))
noncomputable def JQ (n : Nat) (rec_ : ((List Ja) → (List Jh) → Option (Int))) : List Ja → Nat → (List Jh) → Int → Option ((List Jh) × Int)
 | [], _, y0_0, y0_1 => some (y0_0, y0_1)
 | e0 :: xs0, i0, y0_0, y0_1 =>
  (chk (InI (y0_1 + 1))).bind fun _ =>
  if decide ((e0.Kids.length : Int) = 0) then
  JQ n rec_ xs0 (i0 + 1) y0_0 (y0_1 + 1)
  else
  (ix e0.Kids 0).bind fun x26 =>
  (Jau n x26 y0_0).bind fun x29 =>
  (chk (InI ((y0_1 + 1) + x29.2))).bind fun _ =>
  if decide (e0.Kind = 3) then
  (JX y0_0 e0.Text x29.1).bind fun x43 =>
  JQ n rec_ xs0 (i0 + 1) x43 ((y0_1 + 1) + x29.2)
  else
  if decide (e0.Kind = 2) then
  (ix e0.Kids 1).bind fun x48 =>
  (J1 x48).bind fun x50 =>
  (rec_ x50 y0_0).bind fun x52 =>
  if decide ((e0.Kids.length : Int) > 2) then
  (chk (InI (x52 + 1))).bind fun _ =>
  (ix e0.Kids 2).bind fun x61 =>
  (J1 x61).bind fun x63 =>
  (rec_ x63 y0_0).bind fun x65 =>
  (chk (InI (((y0_1 + 1) + x29.2) + (max (x52 + 1) x65)))).bind fun _ =>
  JQ n rec_ xs0 (i0 + 1) y0_0 (((y0_1 + 1) + x29.2) + (max (x52 + 1) x65))
  else
  (chk (InI (((y0_1 + 1) + x29.2) + x52))).bind fun _ =>
  JQ n rec_ xs0 (i0 + 1) y0_0 (((y0_1 + 1) + x29.2) + x52)
  else
  JQ n rec_ xs0 (i0 + 1) y0_0 ((y0_1 + 1) + x29.2)
noncomputable def Jad : Nat → (List Ja) → (List Jh) → Option (Int)
 | 0, _, _ => none
 | n + 1, list, env =>
  (chk (list.length ≤ szMax)).bind fun _ =>
  (JQ n (Jad n) list 0 env 0).bind fun t0 =>
  some t0.2
set_option maxHeartbeats 8000000 in
theorem Jck : ∀ {n : Nat} {list : (List Ja)} {env : (List Jh)} {ap0_0 : Option Addr} {cp0_0 : Nat} {n0 : Nat} {ap1_0 : Option Addr} {cp1_0 : Nat} {n1 : Nat} {K : Hp} {r : Int}
  (hm : Jad n list env = some r) (hp0_0 : LiC Ja.R K ap0_0 cp0_0 4 list) (en0 : n0 = list.length) (hp1_0 : RdC Jh.enc K ap1_0 cp1_0 2 env) (en1 : n1 = env.length),
  Fn Tryz.prog 48 [.slice ap0_0 n0 cp0_0, .slice ap1_0 n1 cp1_0] K [] (fun v K' H' => v = .int .i64 r ∧ H' = []) := by
 intro n
 induction n with
 | zero =>
  intro list env ap0_0 cp0_0 n0 ap1_0 cp1_0 n1 K r hm hp0_0 en0 hp1_0 en1
  rw [Jad.eq_1] at hm; cases hm
 | succ n ih =>
  intro list env ap0_0 cp0_0 n0 ap1_0 cp1_0 n1 K r hm hp0_0 en0 hp1_0 en1
  subst en0
  subst en1
  refine Fn.enter Tryz.func48 Tryz.call48 rfl fun F => ?_
  rw [Jad.eq_2] at hm
  refine RStep.of (len_slice rfl ?_)
  obtain ⟨hk0, hm⟩ := chkb hm
  obtain ⟨s0, hl0, hm⟩ := bnd hm
  refine code_cut (σ := ((List Jh) × Int) × Option Addr × Nat) [1, 5, 7, 8, 9, 10, 13, 14, 15, 16, 17, 18, 19, 20, 21, 22, 23, 24, 25, 26, 27, 28, 29, 30, 31, 32, 33, 34, 35, 36, 37, 38, 39, 40, 41, 42, 43, 44, 45, 46, 47, 48, 49, 50, 51, 52, 53, 54, 55, 56, 57, 58, 59, 60, 61, 62, 63, 64, 65, 66, 67, 68, 69, 70] (fun (t0, t0_a0, t0_c0) => [(1, .slice t0_a0 t0.1.length t0_c0), (5, .int .i64 t0.2)]) (fun (t0, t0_a0, t0_c0) => [F]) (fun zz K1 => match zz with | (t0, t0_a0, t0_c0) => RdC Jh.enc K1 t0_a0 t0_c0 2 t0.1 ∧ t0 = s0) ?_ ?_
  refine block_go rfl ?_
  refine loop_rule (σ := Nat × (List Jh) × Int × Option Addr × Nat) [1, 5, 7, 8, 9, 10, 13, 14, 15, 16, 17, 18, 19, 20, 21, 22, 23, 24, 25, 26, 27, 28, 29, 30, 31, 32, 33, 34, 35, 36, 37, 38, 39, 40, 41, 42, 43, 44, 45, 46, 47, 48, 49, 50, 51, 52, 53, 54, 55, 56, 57, 58, 59, 60, 61, 62, 63, 64, 65, 66, 67, 68, 69, 70] (fun (i0, y0_0, y0_1, y0_a0, y0_c0) => [(13, .int .i64 (i0 : Int)), (1, .slice y0_a0 y0_0.length y0_c0), (5, .int .i64 y0_1)]) (fun (i0, y0_0, y0_1, y0_a0, y0_c0) => [F]) (fun zz K1 => match zz with | (i0, y0_0, y0_1, y0_a0, y0_c0) => RdC Jh.enc K1 y0_a0 y0_c0 2 y0_0 ∧ JQ n (Jad n) (list.drop i0) i0 y0_0 y0_1 = some s0) (fun zz => list.length - zz.1) (0, env, 0, ap1_0, cp1_0) rfl ⟨rfl, rfl, rfl, trivial⟩ (ConvH.of (.cons r0 .nil)) ⟨hp1_0, hl0⟩ ?_
  clear hl0
  rintro ⟨i0, y0_0, y0_1, y0_a0, y0_c0⟩ Kb0 lk0 ⟨y0_h0, hl0⟩ j0
  refine cond_go rfl ?_
  refine cond_s (fun w0 => ?_) (fun w0 => ?_)
  obtain ⟨e0, hx0, hd0⟩ := ltx w0
  rw [hd0, JQ.eq_2] at hl0
  refine block_go rfl ?_
  refine RStep.ofN (index_addr rfl rfl (hasR (LiC.mono Ja.R_ok lk0 hp0_0).rd hx0) (nn _) (lt_ofN hx0) ?_)
  obtain ⟨ss16, cc16, hr16, hc16, hR16⟩ := LiR.get (LiC.mono Ja.R_ok lk0 hp0_0).rd hx0
  obtain ⟨a16_0, c16_0, rfl, h16_0⟩ := Ja.out hR16
  refine RStep.of (load_rd_agg i0 _ hr16 rfl hc16 rfl ?_)
  refine alloc_rule rfl ?_
  intro b7
  refine store_rule r0 rfl ?_
  refine ⟨rfl, rfl, (Nat.le_of_ble_eq_true rfl), ?_⟩
  obtain ⟨h18, hl0⟩ := chkb hl0
  refine int_in h18 (Jb rfl (RStep.of (load1_s r0 rfl rfl (RStep.of (len_slice rfl (eq_int (cond_go rfl ?_)))))))
  refine cond_s (fun w22 => ?_) (fun w22 => ?_)
  replace hl0 := ift w22 hl0
  refine cond_T (int_in (cntz hx0 hk0) ?_)
  refine RoundStep.mk (i0 + 1, y0_0, (y0_1 + 1), y0_a0, y0_c0) ⟨rfl, rfl, rfl, trivial⟩ (by repeat (first | exact trivial | refine And.intro rfl ?_)) (ConvH.of (.cons r1 .nil)) lk0 (ltm hx0) ⟨y0_h0, hl0⟩
  replace hl0 := iff_ w22 hl0
  refine Jb rfl (RStep.of (load1_s r0 rfl rfl ?_))
  obtain ⟨x26, l26, k26, hl0⟩ := ixb hl0
  refine RStep.ofN (index_addr rfl rfl (hasR h16_0.rd k26) l26 (lt_ofE rfl l26 k26) ?_)
  obtain ⟨ss27, cc27, hr27, hc27, hR27⟩ := LiR.get h16_0.rd k26
  obtain ⟨a27_0, c27_0, rfl, h27_0⟩ := Ja.out hR27
  refine RStep.of (load_rd_agg ((0 : Int).toNat) _ hr27 rfl hc27 rfl ?_)
  obtain ⟨x29, q29, hl0⟩ := bnd hl0
  refine call_fn (Jcj (n' := x26) q29 h27_0 y0_h0 rfl) .nil ?_
  rintro _ K29 _ l29 ⟨rfl, rfl⟩
  obtain ⟨h34, hl0⟩ := chkb hl0
  refine int_in h34 (Jb rfl (RStep.of (load1_s r0 rfl rfl ?_)))
  refine block_go rfl ?_
  refine eq_int (cond_go rfl ?_)
  refine cond_s (fun w37 => ?_) (fun w37 => ?_)
  replace hl0 := ift w37 hl0
  refine Jb rfl (RStep.of (load1_s r0 rfl rfl ?_))
  obtain ⟨x43, q43, hl0⟩ := bnd hl0
  refine call_fn (JW (name := e0.Text) (t := x29.1) q43 (y0_h0.mono l29) rfl) .nil ?_
  rintro _ K43 _ l43 ⟨a43_0, c43_0, rfl, h43_0, rfl⟩
  refine int_in (cntz hx0 hk0) ?_
  refine fRo r0 fun Kr0_0 lr0_0 fr0_0 => ?_
  refine RoundStep.mk (i0 + 1, x43, ((y0_1 + 1) + x29.2), a43_0, c43_0) ⟨rfl, rfl, rfl, trivial⟩ (by repeat (first | exact trivial | refine And.intro rfl ?_)) (ConvH.of (.cons r1 .nil)) (((lk0.trans l29).trans l43).trans lr0_0) (ltm hx0) ⟨fr0_0, hl0⟩
  replace hl0 := iff_ w37 hl0
  refine eq_int (cond_go rfl ?_)
  refine cond_s (fun w44 => ?_) (fun w44 => ?_)
  replace hl0 := ift w44 hl0
  refine Jb rfl (RStep.of (load1_s r0 rfl rfl ?_))
  obtain ⟨x48, l48, k48, hl0⟩ := ixb hl0
  refine RStep.ofN (index_addr rfl rfl (hasR (LiC.mono Ja.R_ok l29 h16_0).rd k48) l48 (lt_ofE rfl l48 k48) ?_)
  obtain ⟨ss49, cc49, hr49, hc49, hR49⟩ := LiR.get (LiC.mono Ja.R_ok l29 h16_0).rd k48
  obtain ⟨a49_0, c49_0, rfl, h49_0⟩ := Ja.out hR49
  refine RStep.of (load_rd_agg ((1 : Int).toNat) _ hr49 rfl hc49 rfl ?_)
  obtain ⟨x50, q50, hl0⟩ := bnd hl0
  refine call_fn (Jay (n' := x48) q50 h49_0) .nil ?_
  rintro _ K50 _ l50 ⟨a50_0, c50_0, rfl, h50_0, rfl⟩
  obtain ⟨x52, q52, hl0⟩ := bnd hl0
  refine call_fn (ih q52 h50_0 rfl (y0_h0.mono (l29.trans l50)) rfl) .nil ?_
  rintro _ K52 _ l52 ⟨rfl, rfl⟩
  refine Jb rfl (RStep.of (load1_s r0 rfl rfl (RStep.of (len_slice rfl (cond_go rfl ?_)))))
  refine cond_s (fun w56 => ?_) (fun w56 => ?_)
  replace hl0 := ift w56 hl0
  obtain ⟨h58, hl0⟩ := chkb hl0
  refine int_in h58 (Jb rfl (RStep.of (load1_s r0 rfl rfl ?_)))
  obtain ⟨x61, l61, k61, hl0⟩ := ixb hl0
  refine RStep.ofN (index_addr rfl rfl (hasR (LiC.mono Ja.R_ok ((l29.trans l50).trans l52) h16_0).rd k61) l61 (lt_ofE rfl l61 k61) ?_)
  obtain ⟨ss62, cc62, hr62, hc62, hR62⟩ := LiR.get (LiC.mono Ja.R_ok ((l29.trans l50).trans l52) h16_0).rd k61
  obtain ⟨a62_0, c62_0, rfl, h62_0⟩ := Ja.out hR62
  refine RStep.of (load_rd_agg ((2 : Int).toNat) _ hr62 rfl hc62 rfl ?_)
  obtain ⟨x63, q63, hl0⟩ := bnd hl0
  refine call_fn (Jay (n' := x61) q63 h62_0) .nil ?_
  rintro _ K63 _ l63 ⟨a63_0, c63_0, rfl, h63_0, rfl⟩
  obtain ⟨x65, q65, hl0⟩ := bnd hl0
  refine call_fn (ih q65 h63_0 rfl (y0_h0.mono (((l29.trans l50).trans l52).trans l63)) rfl) .nil ?_
  rintro _ K65 _ l65 ⟨rfl, rfl⟩
  refine RStep.of (max_int ?_)
  obtain ⟨h69, hl0⟩ := chkb hl0
  refine int_in h69 (int_in (cntz hx0 hk0) ?_)
  refine RoundStep.mk (i0 + 1, y0_0, (((y0_1 + 1) + x29.2) + (max (x52 + 1) x65)), y0_a0, y0_c0) ⟨rfl, rfl, rfl, trivial⟩ (by repeat (first | exact trivial | refine And.intro rfl ?_)) (ConvH.of (.cons r1 .nil)) (((((lk0.trans l29).trans l50).trans l52).trans l63).trans l65) (ltm hx0) ⟨(y0_h0.mono ((((l29.trans l50).trans l52).trans l63).trans l65)), hl0⟩
  replace hl0 := iff_ w56 hl0
  obtain ⟨h69, hl0⟩ := chkb hl0
  refine int_in h69 (int_in (cntz hx0 hk0) ?_)
  refine RoundStep.mk (i0 + 1, y0_0, (((y0_1 + 1) + x29.2) + x52), y0_a0, y0_c0) ⟨rfl, rfl, rfl, trivial⟩ (by repeat (first | exact trivial | refine And.intro rfl ?_)) (ConvH.of (.cons r1 .nil)) (((lk0.trans l29).trans l50).trans l52) (ltm hx0) ⟨(y0_h0.mono ((l29.trans l50).trans l52)), hl0⟩
  replace hl0 := iff_ w44 hl0
  refine int_in (cntz hx0 hk0) ?_
  refine RoundStep.mk (i0 + 1, y0_0, ((y0_1 + 1) + x29.2), y0_a0, y0_c0) ⟨rfl, rfl, rfl, trivial⟩ (by repeat (first | exact trivial | refine And.intro rfl ?_)) (ConvH.of (.cons r1 .nil)) (lk0.trans l29) (ltm hx0) ⟨(y0_h0.mono l29), hl0⟩
  rw [lty w0, JQ.eq_1] at hl0
  refine cond_T ?_
  refine MeetStep.mk ((y0_0, y0_1), y0_a0, y0_c0) ⟨rfl, rfl, trivial⟩ (by repeat (first | exact trivial | refine And.intro rfl ?_)) (ConvH.of (.cons r0 .nil)) lk0 ⟨y0_h0, (si hl0)⟩
  rintro ⟨t0, t0_a0, t0_c0⟩ Kt0 lt0 ⟨t0_h0, rfl⟩ j0
  obtain rfl := si hm
  refine EndStep.mk _ lt0 ⟨rfl, rfl⟩ (ConvH.of (.cons r0 .nil))
noncomputable def Jbb (n : Nat) (program : Ja) : Option (Int × Err) :=
 (JaY n program).bind fun x8 =>
 if x8.2.isSome then
 some (0, x8.2)
 else
 (Jad n program.Kids []).bind fun x16 =>
 (chk (InI (x16 + 1))).bind fun _ =>
 some ((x16 + 1), none)
set_option maxHeartbeats 8000000 in
theorem Jcl {n : Nat} {program : Ja} {ap0_0 : Option Addr} {cp0_0 : Nat} {K : Hp} {r : Int × Err}
  (hm : Jbb n program = some r) (hp0_0 : LiC Ja.R K ap0_0 cp0_0 4 program.Kids) (hG1 : GlL eS 1 1 Js K) (hG2 : GlL eS 1 2 Jx K) (hG3 : GlL eS 1 3 JD K) (hG4 : GlL eS 1 4 gkw0 K) :
  Fn Tryz.prog 26 [.agg #[.int .i64 program.Kind, str program.Text, .slice ap0_0 program.Kids.length cp0_0, .int .i64 program.Line]] K [] (fun v K' H' => v = .tuple #[.int .i64 r.1, errV 44 r.2] ∧ H' = []) := by
 obtain ⟨ga1, gn1, gc1, gn_, gs1, gd1⟩ := id hG1
 subst gn_
 obtain ⟨ga2, gn2, gc2, gn_, gs2, gd2⟩ := id hG2
 subst gn_
 obtain ⟨ga3, gn3, gc3, gn_, gs3, gd3⟩ := id hG3
 subst gn_
 obtain ⟨ga4, gn4, gc4, gn_, gs4, gd4⟩ := id hG4
 subst gn_
 refine Fn.enter Tryz.func26 Tryz.call26 rfl fun F => ?_
 unfold Jbb at hm
 refine box_rule ?_
 intro b1
 refine RStep.of (loadn_s r0 rfl (Nat.le_of_ble_eq_true rfl) ?_)
 obtain ⟨x8, q8, hm⟩ := bnd hm
 refine call_fn (JbS (program := program) q8 hp0_0 hG1 hG2 hG3 hG4) .nil ?_
 rintro _ K8 _ l8 ⟨rfl, rfl⟩
 refine neq_err rfl (cond_go rfl ?_)
 refine cond_s (fun w12 => ?_) (fun w12 => ?_)
 replace hm := ift w12 hm
 obtain rfl := si hm
 refine EndStep.mk _ l8 ⟨rfl, rfl⟩ (ConvH.of (.cons r1 .nil))
 replace hm := iff_ w12 hm
 refine Jb rfl (RStep.of (load1_s r0 rfl rfl ?_))
 obtain ⟨x16, q16, hm⟩ := bnd hm
 refine call_fn (Jck q16 (LiC.mono Ja.R_ok l8 hp0_0) rfl RdC.nil rfl) .nil ?_
 rintro _ K16 _ l16 ⟨rfl, rfl⟩
 obtain ⟨h17, hm⟩ := chkb hm
 refine int_in h17 ?_
 obtain rfl := si hm
 refine EndStep.mk _ (l8.trans l16) ⟨rfl, rfl⟩ (ConvH.of (.cons r1 .nil))
