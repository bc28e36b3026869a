/- Functions of the program: mirrors, and that a call returns what the mirror says. Printed by gen.py. -/
import Derived.Test.YtdnelkmckpapgaaDoorG2
set_option linter.unusedVariables false
set_option linter.unusedSimpArgs false
open Go Go.SL Go.Proofs
set_option maxRecDepth 1000000
noncomputable def ruletype_checker_block_L3 (rec_ : (S_ruletype_checker → (List S_ruletree_Node) → (List S_ruletype_Binding) → Option (S_ruletype_checker))) (y0_0 : (List S_ruletype_Binding)) : List S_ruletree_Node → Nat → Int → Err → Option (Int × Err)
 | [], _, y3_0, y3_1 => some (y3_0, y3_1)
 | e3 :: xs3, i3, y3_0, y3_1 =>
  (ruletype_branch e3).bind fun x83 =>
  (rec_ (⟨y3_0, y3_1⟩ : S_ruletype_checker) x83 y0_0).bind fun x85 =>
  ruletype_checker_block_L3 rec_ y0_0 xs3 (i3 + 1) x85.line x85.err
noncomputable def ruletype_checker_block_L0 (n : Nat) (rec_ : (S_ruletype_checker → (List S_ruletree_Node) → (List S_ruletype_Binding) → Option (S_ruletype_checker))) : List S_ruletree_Node → Nat → (List S_ruletype_Binding) → Int → Err → Option (Fl (S_ruletype_checker) ((List S_ruletype_Binding) × Int × Err))
 | [], _, y0_0, y0_1, y0_2 => some (Fl.go (y0_0, y0_1, y0_2))
 | e0 :: xs0, i0, y0_0, y0_1, y0_2 =>
  if decide ((e0.Kids.length : Int) = 0) then
  ruletype_checker_block_L0 n rec_ xs0 (i0 + 1) y0_0 y0_1 y0_2
  else
  (ix e0.Kids 0).bind fun x25 =>
  (ruletype_checker_expr n (⟨y0_1, y0_2⟩ : S_ruletype_checker) x25 y0_0).bind fun x28 =>
  (ruletype_needs e0).bind fun x30 =>
  if ((x28.2.err.isNone && decide (x30 ≠ 0)) && decide (x28.1 ≠ x30)) then
  (ruletype_checker_fail x28.2 e0 (some 9)).bind fun x48 =>
  if x48.err.isSome then
  some (Fl.ret x48)
  else
  if decide (e0.Kind = 3) then
  (ruletype_declared n e0.Text y0_0).bind fun x61 =>
  if x61 then
  (ruletype_checker_fail x48 e0 (some 4)).bind fun x65 =>
  (ruletype_extended y0_0 e0.Text x28.1).bind fun x70 =>
  if x65.err.isSome then
  some (Fl.ret x65)
  else
  ruletype_checker_block_L0 n rec_ xs0 (i0 + 1) x70 x65.line x65.err
  else
  (ruletype_extended y0_0 e0.Text x28.1).bind fun x70 =>
  if x48.err.isSome then
  some (Fl.ret x48)
  else
  ruletype_checker_block_L0 n rec_ xs0 (i0 + 1) x70 x48.line x48.err
  else
  if decide (e0.Kind = 2) then
  (chk (0 ≤ (1 : Int) ∧ (1 : Int) ≤ (e0.Kids.length : Int) ∧ (e0.Kids.length : Int) ≤ (e0.Kids.length : Int))).bind fun _ =>
  (chk ((subL e0.Kids (1 : Int) (e0.Kids.length : Int)).length ≤ szMax)).bind fun _ =>
  (ruletype_checker_block_L3 rec_ y0_0 (subL e0.Kids (1 : Int) (e0.Kids.length : Int)) 0 x48.line x48.err).bind fun t3 =>
  if t3.2.isSome then
  some (Fl.ret (⟨t3.1, t3.2⟩ : S_ruletype_checker))
  else
  ruletype_checker_block_L0 n rec_ xs0 (i0 + 1) y0_0 t3.1 t3.2
  else
  if x48.err.isSome then
  some (Fl.ret x48)
  else
  ruletype_checker_block_L0 n rec_ xs0 (i0 + 1) y0_0 x48.line x48.err
  else
  if x28.2.err.isSome then
  some (Fl.ret x28.2)
  else
  if decide (e0.Kind = 3) then
  (ruletype_declared n e0.Text y0_0).bind fun x61 =>
  if x61 then
  (ruletype_checker_fail x28.2 e0 (some 4)).bind fun x65 =>
  (ruletype_extended y0_0 e0.Text x28.1).bind fun x70 =>
  if x65.err.isSome then
  some (Fl.ret x65)
  else
  ruletype_checker_block_L0 n rec_ xs0 (i0 + 1) x70 x65.line x65.err
  else
  (ruletype_extended y0_0 e0.Text x28.1).bind fun x70 =>
  if x28.2.err.isSome then
  some (Fl.ret x28.2)
  else
  ruletype_checker_block_L0 n rec_ xs0 (i0 + 1) x70 x28.2.line x28.2.err
  else
  if decide (e0.Kind = 2) then
  (chk (0 ≤ (1 : Int) ∧ (1 : Int) ≤ (e0.Kids.length : Int) ∧ (e0.Kids.length : Int) ≤ (e0.Kids.length : Int))).bind fun _ =>
  (chk ((subL e0.Kids (1 : Int) (e0.Kids.length : Int)).length ≤ szMax)).bind fun _ =>
  (ruletype_checker_block_L3 rec_ y0_0 (subL e0.Kids (1 : Int) (e0.Kids.length : Int)) 0 x28.2.line x28.2.err).bind fun t3 =>
  if t3.2.isSome then
  some (Fl.ret (⟨t3.1, t3.2⟩ : S_ruletype_checker))
  else
  ruletype_checker_block_L0 n rec_ xs0 (i0 + 1) y0_0 t3.1 t3.2
  else
  if x28.2.err.isSome then
  some (Fl.ret x28.2)
  else
  ruletype_checker_block_L0 n rec_ xs0 (i0 + 1) y0_0 x28.2.line x28.2.err
noncomputable def ruletype_checker_block : Nat → S_ruletype_checker → (List S_ruletree_Node) → (List S_ruletype_Binding) → Option (S_ruletype_checker)
 | 0, _, _, _ => none
 | n + 1, c, list, env =>
  (chk (list.length ≤ szMax)).bind fun _ =>
  (ruletype_checker_block_L0 n (ruletype_checker_block n) list 0 env c.line c.err).bind fun s0 => s0.el some fun t0 =>
  some (⟨t0.2.1, t0.2.2⟩ : S_ruletype_checker)
set_option maxHeartbeats 8000000 in
theorem ruletype_checker_block_ok : ∀ {n : Nat} {c : S_ruletype_checker} {list : (List S_ruletree_Node)} {env : (List S_ruletype_Binding)} {b0 : Nat} {ap1_0 : Option Addr} {cp1_0 : Nat} {n1 : Nat} {ap2_0 : Option Addr} {cp2_0 : Nat} {n2 : Nat} {K : Hp} {r : S_ruletype_checker}
  (hm : ruletype_checker_block n c list env = some r) (hp1_0 : LiC S_ruletree_Node.R K ap1_0 cp1_0 4 list) (en1 : n1 = list.length) (hp2_0 : RdC S_ruletype_Binding.enc K ap2_0 cp2_0 2 env) (en2 : n2 = env.length),
  Fn Tryd.prog 33 [.pointer (some ⟨b0, 0, none⟩), .slice ap1_0 n1 cp1_0, .slice ap2_0 n2 cp2_0] K [Cells b0 68 [.int .i64 c.line, errV 46 c.err]] (fun v K' H' => v = .tuple #[] ∧ H' = [Cells b0 68 [.int .i64 r.line, errV 46 r.err]]) := by
 intro n
 induction n with
 | zero =>
  intro c list env b0 ap1_0 cp1_0 n1 ap2_0 cp2_0 n2 K r hm hp1_0 en1 hp2_0 en2
  rw [ruletype_checker_block.eq_1] at hm; cases hm
 | succ n ih =>
  intro c list env b0 ap1_0 cp1_0 n1 ap2_0 cp2_0 n2 K r hm hp1_0 en1 hp2_0 en2
  subst en1
  subst en2
  refine Fn.enter Tryd.func33 Tryd.call33 rfl fun F => ?_
  rw [ruletype_checker_block.eq_2] at hm
  conv => whnf
  refine RStep.of (len_slice rfl ?_)
  obtain ⟨hk0, hm⟩ := chkb hm
  obtain ⟨s0, hl0, hm⟩ := bnd hm
  conv => whnf
  refine code_cut (σ := ((List S_ruletype_Binding) × Int × Err) × Option Addr × Nat) [2, 7, 8, 9, 11, 14, 15, 16, 17, 18, 19, 20, 21, 22, 23, 24, 25, 26, 27, 28, 29, 30, 31, 32, 33, 34, 35, 36, 37, 38, 39, 40, 41, 42, 43, 44, 45, 46, 47, 48, 49, 50, 51, 52, 53, 54, 55, 56, 57, 58, 59, 60, 61, 62, 63, 64, 65, 66, 67, 68, 69, 70, 71, 72, 73, 74, 75, 76, 77, 78, 79, 80, 81, 82, 83, 84, 85, 86, 87, 88, 89, 90, 91, 92] (fun (t0, t0_a0, t0_c0) => [(2, .slice t0_a0 t0.1.length t0_c0)]) (fun (t0, t0_a0, t0_c0) => [Cells b0 68 [.int .i64 t0.2.1, errV 46 t0.2.2], F]) (fun zz K1 => match zz with | (t0, t0_a0, t0_c0) => RdC S_ruletype_Binding.enc K1 t0_a0 t0_c0 2 t0.1 ∧ s0 = Fl.go t0) ?_ ?_
  ·refine block_go rfl ?_
   conv => whnf
   refine loop_rule (σ := Nat × (List S_ruletype_Binding) × Int × Err × Option Addr × Nat) [2, 7, 8, 9, 11, 14, 15, 16, 17, 18, 19, 20, 21, 22, 23, 24, 25, 26, 27, 28, 29, 30, 31, 32, 33, 34, 35, 36, 37, 38, 39, 40, 41, 42, 43, 44, 45, 46, 47, 48, 49, 50, 51, 52, 53, 54, 55, 56, 57, 58, 59, 60, 61, 62, 63, 64, 65, 66, 67, 68, 69, 70, 71, 72, 73, 74, 75, 76, 77, 78, 79, 80, 81, 82, 83, 84, 85, 86, 87, 88, 89, 90, 91, 92] (fun (i0, y0_0, y0_1, y0_2, y0_a0, y0_c0) => [(14, .int .i64 (i0 : Int)), (2, .slice y0_a0 y0_0.length y0_c0)]) (fun (i0, y0_0, y0_1, y0_2, y0_a0, y0_c0) => [Cells b0 68 [.int .i64 y0_1, errV 46 y0_2], F]) (fun zz K1 => match zz with | (i0, y0_0, y0_1, y0_2, y0_a0, y0_c0) => RdC S_ruletype_Binding.enc K1 y0_a0 y0_c0 2 y0_0 ∧ ruletype_checker_block_L0 n (ruletype_checker_block n) (list.drop i0) i0 y0_0 y0_1 y0_2 = some s0) (fun zz => list.length - zz.1) (0, env, c.line, c.err, ap2_0, cp2_0) rfl ⟨rfl, rfl, trivial⟩ (ConvH.of (.cons r0 (.cons r0 .nil))) ⟨hp2_0, hl0⟩ ?_
   clear hl0
   rintro ⟨i0, y0_0, y0_1, y0_2, y0_a0, y0_c0⟩ Kb0 lk0 ⟨y0_h0, hl0⟩ j0
   conv => whnf
   refine cond_go rfl ?_
   conv => whnf
   refine cond_s (fun w0 => ?_) (fun w0 => ?_)
   ·obtain ⟨e0, hx0, hd0⟩ := ltx w0
    rw [hd0, ruletype_checker_block_L0.eq_2] at hl0
    conv => whnf
    refine block_go rfl ?_
    conv => whnf
    refine RStep.ofN (index_addr rfl rfl (hasR (LiC.mono S_ruletree_Node.R_ok lk0 hp1_0).rd hx0) (nn _) (lt_ofN hx0) ?_)
    obtain ⟨ss17, cc17, hr17, hc17, hR17⟩ := LiR.get (LiC.mono S_ruletree_Node.R_ok lk0 hp1_0).rd hx0
    obtain ⟨a17_0, c17_0, rfl, h17_0⟩ := S_ruletree_Node.out hR17
    conv => whnf
    refine RStep.of (load_rd_agg i0 _ hr17 rfl hc17 rfl ?_)
    conv => whnf
    refine alloc_rule rfl ?_
    intro b7
    conv => whnf
    refine store_rule r0 rfl ?_
    conv => whnf
    refine ⟨rfl, rfl, (Nat.le_of_ble_eq_true rfl), ?_⟩
    conv => whnf
    refine field_addr rfl ?_
    conv => whnf
    refine RStep.of (load1_s r0 rfl rfl ?_)
    conv => whnf
    refine RStep.of (len_slice rfl ?_)
    conv => whnf
    refine eq_int ?_
    conv => whnf
    refine cond_go rfl ?_
    conv => whnf
    refine cond_s (fun w21 => ?_) (fun w21 => ?_)
    ·replace hl0 := ift w21 hl0
     conv => whnf
     refine cond_T ?_
     conv => whnf
     refine int_in (cntz hx0 hk0) ?_
     conv => whnf
     refine RoundStep.mk (i0 + 1, y0_0, y0_1, y0_2, y0_a0, y0_c0) ⟨rfl, rfl, trivial⟩ (by repeat (first | exact trivial | refine And.intro rfl ?_)) (ConvH.of (.cons r1 (.cons r1 .nil))) lk0 (ltm hx0) ⟨y0_h0, hl0⟩
    ·replace hl0 := iff_ w21 hl0
     conv => whnf
     refine field_addr rfl ?_
     conv => whnf
     refine RStep.of (load1_s r0 rfl rfl ?_)
     obtain ⟨x25, l25, k25, hl0⟩ := ixb hl0
     conv => whnf
     refine RStep.ofN (index_addr rfl rfl (hasR h17_0.rd k25) l25 (lt_ofE rfl l25 k25) ?_)
     obtain ⟨ss26, cc26, hr26, hc26, hR26⟩ := LiR.get h17_0.rd k25
     obtain ⟨a26_0, c26_0, rfl, h26_0⟩ := S_ruletree_Node.out hR26
     conv => whnf
     refine RStep.of (load_rd_agg ((0 : Int).toNat) _ hr26 rfl hc26 rfl ?_)
     obtain ⟨x28, q28, hl0⟩ := bnd hl0
     conv => whnf
     refine call_fn (ruletype_checker_expr_ok (c := (⟨y0_1, y0_2⟩ : S_ruletype_checker)) (n' := x25) q28 h26_0 y0_h0 rfl) (.cons r1 .nil) ?_
     rintro _ K28 _ l28 ⟨rfl, rfl⟩
     conv => whnf
     refine RStep.of (loadn_s r1 rfl (Nat.le_of_ble_eq_true rfl) ?_)
     obtain ⟨x30, q30, hl0⟩ := bnd hl0
     conv => whnf
     refine call_fn (ruletype_needs_ok (n' := e0) q30 (LiC.mono S_ruletree_Node.R_ok l28 h17_0)) .nil ?_
     rintro _ K30 _ l30 ⟨rfl, rfl⟩
     conv => whnf
     refine nil_check ?_
     conv => whnf
     refine field_addr rfl ?_
     conv => whnf
     refine RStep.of (load1_s r0 rfl rfl ?_)
     conv => whnf
     refine eq_err rfl ?_
     conv => whnf
     refine cond_s (fun g36_6 => ?_) (fun g36_6 => ?_)
     ·conv => whnf
      refine cond_t g36_6 ?_
      conv => whnf
      refine neq_int ?_
      conv => whnf
      refine cond_t g36_6 ?_
      conv => whnf
      refine cond_s (fun g40_6 => ?_) (fun g40_6 => ?_)
      ·conv => whnf
       refine cond_t g40_6 ?_
       conv => whnf
       refine cond_t g40_6 ?_
       conv => whnf
       refine neq_int ?_
       conv => whnf
       refine cond_t g40_6 ?_
       conv => whnf
       refine cond_go rfl ?_
       conv => whnf
       refine cond_s (fun w44 => ?_) (fun w44 => ?_)
       ·replace hl0 := ift (and_t (and_t g36_6 g40_6) w44) hl0
        conv => whnf
        refine RStep.of (loadn_s r1 rfl (Nat.le_of_ble_eq_true rfl) ?_)
        conv => whnf
        refine mk_iface rfl ?_
        obtain ⟨x48, q48, hl0⟩ := bnd hl0
        conv => whnf
        refine call_fn (ruletype_checker_fail_ok (c := x28.2) (n' := e0) (err := (some 9)) q48 (LiC.mono S_ruletree_Node.R_ok (l28.trans l30) h17_0)) (.cons r0 .nil) ?_
        rintro _ K48 _ l48 ⟨rfl, rfl⟩
        conv => whnf
        refine nil_check ?_
        conv => whnf
        refine field_addr rfl ?_
        conv => whnf
        refine RStep.of (load1_s r0 rfl rfl ?_)
        conv => whnf
        refine neq_err rfl ?_
        conv => whnf
        refine cond_go rfl ?_
        conv => whnf
        refine cond_s (fun w53 => ?_) (fun w53 => ?_)
        ·replace hl0 := ift w53 hl0
         obtain rfl := si hl0
         replace hm := elr hm
         obtain rfl := si hm
         conv => whnf
         refine EndStep.mk _ (((lk0.trans l28).trans l30).trans l48) ⟨rfl, rfl⟩ (ConvH.of (.cons r0 (.cons r1 .nil)))
        ·replace hl0 := iff_ w53 hl0
         conv => whnf
         refine field_addr rfl ?_
         conv => whnf
         refine RStep.of (load1_s r1 rfl rfl ?_)
         conv => whnf
         refine block_go rfl ?_
         conv => whnf
         refine eq_int ?_
         conv => whnf
         refine cond_go rfl ?_
         conv => whnf
         refine cond_s (fun w56 => ?_) (fun w56 => ?_)
         ·replace hl0 := ift w56 hl0
          conv => whnf
          refine field_addr rfl ?_
          conv => whnf
          refine RStep.of (load1_s r1 rfl rfl ?_)
          obtain ⟨x61, q61, hl0⟩ := bnd hl0
          conv => whnf
          refine call_fn (ruletype_declared_ok (name := e0.Text) q61 (y0_h0.mono ((l28.trans l30).trans l48)) rfl) .nil ?_
          rintro _ K61 _ l61 ⟨rfl, rfl⟩
          conv => whnf
          refine cond_go rfl ?_
          conv => whnf
          refine cond_s (fun w61 => ?_) (fun w61 => ?_)
          ·replace hl0 := ift w61 hl0
           conv => whnf
           refine RStep.of (loadn_s r1 rfl (Nat.le_of_ble_eq_true rfl) ?_)
           conv => whnf
           refine mk_iface rfl ?_
           obtain ⟨x65, q65, hl0⟩ := bnd hl0
           conv => whnf
           refine call_fn (ruletype_checker_fail_ok (c := x48) (n' := e0) (err := (some 4)) q65 (LiC.mono S_ruletree_Node.R_ok (((l28.trans l30).trans l48).trans l61) h17_0)) (.cons r0 .nil) ?_
           rintro _ K65 _ l65 ⟨rfl, rfl⟩
           conv => whnf
           refine field_addr rfl ?_
           conv => whnf
           refine RStep.of (load1_s r1 rfl rfl ?_)
           obtain ⟨x70, q70, hl0⟩ := bnd hl0
           conv => whnf
           refine call_fn (ruletype_extended_ok (name := e0.Text) (t := x28.1) q70 (y0_h0.mono ((((l28.trans l30).trans l48).trans l61).trans l65)) rfl) .nil ?_
           rintro _ K70 _ l70 ⟨a70_0, c70_0, rfl, h70_0, rfl⟩
           conv => whnf
           refine nil_check ?_
           conv => whnf
           refine field_addr rfl ?_
           conv => whnf
           refine RStep.of (load1_s r1 rfl rfl ?_)
           conv => whnf
           refine neq_err rfl ?_
           conv => whnf
           refine cond_go rfl ?_
           conv => whnf
           refine cond_s (fun w91 => ?_) (fun w91 => ?_)
           ·replace hl0 := ift w91 hl0
            obtain rfl := si hl0
            replace hm := elr hm
            obtain rfl := si hm
            conv => whnf
            refine EndStep.mk _ ((((((lk0.trans l28).trans l30).trans l48).trans l61).trans l65).trans l70) ⟨rfl, rfl⟩ (ConvH.of (.cons r1 (.cons r2 .nil)))
           ·replace hl0 := iff_ w91 hl0
            conv => whnf
            refine int_in (cntz hx0 hk0) ?_
            conv => whnf
            refine fRo r0 fun Kr0_0 lr0_0 fr0_0 => ?_
            refine RoundStep.mk (i0 + 1, x70, x65.line, x65.err, a70_0, c70_0) ⟨rfl, rfl, trivial⟩ (by repeat (first | exact trivial | refine And.intro rfl ?_)) (ConvH.of (.cons r0 (.cons r1 .nil))) (((((((lk0.trans l28).trans l30).trans l48).trans l61).trans l65).trans l70).trans lr0_0) (ltm hx0) ⟨fr0_0, hl0⟩
          ·replace hl0 := iff_ w61 hl0
           conv => whnf
           refine field_addr rfl ?_
           conv => whnf
           refine RStep.of (load1_s r1 rfl rfl ?_)
           obtain ⟨x70, q70, hl0⟩ := bnd hl0
           conv => whnf
           refine call_fn (ruletype_extended_ok (name := e0.Text) (t := x28.1) q70 (y0_h0.mono (((l28.trans l30).trans l48).trans l61)) rfl) .nil ?_
           rintro _ K70 _ l70 ⟨a70_0, c70_0, rfl, h70_0, rfl⟩
           conv => whnf
           refine nil_check ?_
           conv => whnf
           refine field_addr rfl ?_
           conv => whnf
           refine RStep.of (load1_s r1 rfl rfl ?_)
           conv => whnf
           refine neq_err rfl ?_
           conv => whnf
           refine cond_go rfl ?_
           conv => whnf
           refine cond_s (fun w91 => ?_) (fun w91 => ?_)
           ·replace hl0 := ift w91 hl0
            obtain rfl := si hl0
            replace hm := elr hm
            obtain rfl := si hm
            conv => whnf
            refine EndStep.mk _ (((((lk0.trans l28).trans l30).trans l48).trans l61).trans l70) ⟨rfl, rfl⟩ (ConvH.of (.cons r1 (.cons r2 .nil)))
           ·replace hl0 := iff_ w91 hl0
            conv => whnf
            refine int_in (cntz hx0 hk0) ?_
            conv => whnf
            refine fRo r0 fun Kr0_0 lr0_0 fr0_0 => ?_
            refine RoundStep.mk (i0 + 1, x70, x48.line, x48.err, a70_0, c70_0) ⟨rfl, rfl, trivial⟩ (by repeat (first | exact trivial | refine And.intro rfl ?_)) (ConvH.of (.cons r0 (.cons r1 .nil))) ((((((lk0.trans l28).trans l30).trans l48).trans l61).trans l70).trans lr0_0) (ltm hx0) ⟨fr0_0, hl0⟩
         ·replace hl0 := iff_ w56 hl0
          conv => whnf
          refine eq_int ?_
          conv => whnf
          refine cond_go rfl ?_
          conv => whnf
          refine cond_s (fun w71 => ?_) (fun w71 => ?_)
          ·replace hl0 := ift w71 hl0
           conv => whnf
           refine field_addr rfl ?_
           conv => whnf
           refine RStep.of (load1_s r1 rfl rfl ?_)
           obtain ⟨h75, hl0⟩ := chkb hl0
           have h75_ := (LiC.mono S_ruletree_Node.R_ok ((l28.trans l30).trans l48) h17_0).subC h75
           conv => whnf
           refine RStep.ofN (sl_slN (l := e0.Kids) (lo := (some 1)) (hi := none) (lo' := (1 : Int)) (hi' := (e0.Kids.length : Int)) rfl rfl rfl rfl rfl (LiC.mono S_ruletree_Node.R_ok ((l28.trans l30).trans l48) h17_0).le h75 ?_)
           conv => whnf
           refine RStep.of (len_slice rfl ?_)
           obtain ⟨hk3, hl0⟩ := chkb hl0
           obtain ⟨s3, hl3, hl0⟩ := bnd hl0
           conv => whnf
           refine code_cut (σ := (Int × Err)) [11, 77, 78, 79, 80, 81, 82, 83, 84, 85, 86] (fun t3 => []) (fun t3 => [Cells b0 68 [.int .i64 t3.1, errV 46 t3.2], Cells b7 33 [.int .i64 e0.Kind, str e0.Text, .slice a17_0 e0.Kids.length c17_0, .int .i64 e0.Line], F]) (fun zz K1 => match zz with | t3 => t3 = s3) ?_ ?_
           ·refine block_go rfl ?_
            conv => whnf
            refine loop_rule (σ := Nat × Int × Err) [11, 77, 78, 79, 80, 81, 82, 83, 84, 85, 86] (fun (i3, y3_0, y3_1) => [(77, .int .i64 (i3 : Int))]) (fun (i3, y3_0, y3_1) => [Cells b0 68 [.int .i64 y3_0, errV 46 y3_1], Cells b7 33 [.int .i64 e0.Kind, str e0.Text, .slice a17_0 e0.Kids.length c17_0, .int .i64 e0.Line], F]) (fun zz K1 => match zz with | (i3, y3_0, y3_1) => ruletype_checker_block_L3 (ruletype_checker_block n) y0_0 ((subL e0.Kids (1 : Int) (e0.Kids.length : Int)).drop i3) i3 y3_0 y3_1 = some s3) (fun zz => (subL e0.Kids (1 : Int) (e0.Kids.length : Int)).length - zz.1) (0, x48.line, x48.err) rfl ⟨rfl, trivial⟩ (ConvH.of (.cons r0 (.cons r0 (.cons r0 .nil)))) hl3 ?_
            clear hl3
            rintro ⟨i3, y3_0, y3_1⟩ Kb3 lk3 hl3 j3
            conv at hl3 => whnf
            conv => whnf
            refine cond_go rfl ?_
            conv => whnf
            refine cond_s (fun w3 => ?_) (fun w3 => ?_)
            ·obtain ⟨e3, hx3, hd3⟩ := ltx w3
             rw [hd3, ruletype_checker_block_L3.eq_2] at hl3
             conv => whnf
             refine block_go rfl ?_
             conv => whnf
             refine RStep.ofN (index_addr rfl rfl (hasR (LiC.mono S_ruletree_Node.R_ok lk3 h75_).rd hx3) (nn _) (lt_ofN hx3) ?_)
             obtain ⟨ss80, cc80, hr80, hc80, hR80⟩ := LiR.get (LiC.mono S_ruletree_Node.R_ok lk3 h75_).rd hx3
             obtain ⟨a80_0, c80_0, rfl, h80_0⟩ := S_ruletree_Node.out hR80
             conv => whnf
             refine RStep.of (load_rd_agg i3 _ hr80 rfl hc80 rfl ?_)
             conv => whnf
             refine alloc_rule rfl ?_
             intro b11
             conv => whnf
             refine store_rule r0 rfl ?_
             conv => whnf
             refine ⟨rfl, rfl, (Nat.le_of_ble_eq_true rfl), ?_⟩
             conv => whnf
             refine RStep.of (loadn_s r0 rfl (Nat.le_of_ble_eq_true rfl) ?_)
             obtain ⟨x83, q83, hl3⟩ := bnd hl3
             conv => whnf
             refine call_fn (ruletype_branch_ok (n' := e3) q83 h80_0) .nil ?_
             rintro _ K83 _ l83 ⟨a83_0, c83_0, rfl, h83_0, rfl⟩
             obtain ⟨x85, q85, hl3⟩ := bnd hl3
             conv => whnf
             refine call_fn (ih (c := (⟨y3_0, y3_1⟩ : S_ruletype_checker)) q85 h83_0 rfl (y0_h0.mono ((((l28.trans l30).trans l48).trans lk3).trans l83)) rfl) (.cons r1 .nil) ?_
             rintro _ K85 _ l85 ⟨rfl, rfl⟩
             conv => whnf
             refine int_in (cntz hx3 hk3) ?_
             conv => whnf
             refine RoundStep.mk (i3 + 1, x85.line, x85.err) ⟨rfl, trivial⟩ (by repeat (first | exact trivial | refine And.intro rfl ?_)) (ConvH.of (.cons r0 (.cons r1 (.cons r1 .nil)))) ((lk3.trans l83).trans l85) (ltm hx3) hl3
            ·rw [lty w3, ruletype_checker_block_L3.eq_1] at hl3
             conv => whnf
             refine cond_T ?_
             conv => whnf
             refine MeetStep.mk ((y3_0, y3_1)) trivial (by repeat (first | exact trivial | refine And.intro rfl ?_)) (ConvH.of (.cons r0 (.cons r0 (.cons r0 .nil)))) lk3 (si hl3)
           ·rintro t3 Kt3 lt3 rfl j3
            conv => whnf
            refine nil_check ?_
            conv => whnf
            refine field_addr rfl ?_
            conv => whnf
            refine RStep.of (load1_s r0 rfl rfl ?_)
            conv => whnf
            refine neq_err rfl ?_
            conv => whnf
            refine cond_go rfl ?_
            conv => whnf
            refine cond_s (fun w91 => ?_) (fun w91 => ?_)
            ·replace hl0 := ift w91 hl0
             obtain rfl := si hl0
             replace hm := elr hm
             obtain rfl := si hm
             conv => whnf
             refine EndStep.mk _ ((((lk0.trans l28).trans l30).trans l48).trans lt3) ⟨rfl, rfl⟩ (ConvH.of (.cons r0 (.cons r1 .nil)))
            ·replace hl0 := iff_ w91 hl0
             conv => whnf
             refine int_in (cntz hx0 hk0) ?_
             conv => whnf
             refine RoundStep.mk (i0 + 1, y0_0, t3.1, t3.2, y0_a0, y0_c0) ⟨rfl, rfl, trivial⟩ (by repeat (first | exact trivial | refine And.intro rfl ?_)) (ConvH.of (.cons r0 (.cons r1 .nil))) ((((lk0.trans l28).trans l30).trans l48).trans lt3) (ltm hx0) ⟨(y0_h0.mono (((l28.trans l30).trans l48).trans lt3)), hl0⟩
          ·replace hl0 := iff_ w71 hl0
           conv => whnf
           refine nil_check ?_
           conv => whnf
           refine field_addr rfl ?_
           conv => whnf
           refine RStep.of (load1_s r0 rfl rfl ?_)
           conv => whnf
           refine neq_err rfl ?_
           conv => whnf
           refine cond_go rfl ?_
           conv => whnf
           refine cond_s (fun w91 => ?_) (fun w91 => ?_)
           ·replace hl0 := ift w91 hl0
            obtain rfl := si hl0
            replace hm := elr hm
            obtain rfl := si hm
            conv => whnf
            refine EndStep.mk _ (((lk0.trans l28).trans l30).trans l48) ⟨rfl, rfl⟩ (ConvH.of (.cons r0 (.cons r1 .nil)))
           ·replace hl0 := iff_ w91 hl0
            conv => whnf
            refine int_in (cntz hx0 hk0) ?_
            conv => whnf
            refine RoundStep.mk (i0 + 1, y0_0, x48.line, x48.err, y0_a0, y0_c0) ⟨rfl, rfl, trivial⟩ (by repeat (first | exact trivial | refine And.intro rfl ?_)) (ConvH.of (.cons r0 (.cons r1 .nil))) (((lk0.trans l28).trans l30).trans l48) (ltm hx0) ⟨(y0_h0.mono ((l28.trans l30).trans l48)), hl0⟩
       ·replace hl0 := iff_ (and_g (and_t g36_6 g40_6) w44) hl0
        conv => whnf
        refine nil_check ?_
        conv => whnf
        refine field_addr rfl ?_
        conv => whnf
        refine RStep.of (load1_s r0 rfl rfl ?_)
        conv => whnf
        refine neq_err rfl ?_
        conv => whnf
        refine cond_go rfl ?_
        conv => whnf
        refine cond_s (fun w53 => ?_) (fun w53 => ?_)
        ·replace hl0 := ift w53 hl0
         obtain rfl := si hl0
         replace hm := elr hm
         obtain rfl := si hm
         conv => whnf
         refine EndStep.mk _ ((lk0.trans l28).trans l30) ⟨rfl, rfl⟩ (ConvH.of (.cons r0 (.cons r1 .nil)))
        ·replace hl0 := iff_ w53 hl0
         conv => whnf
         refine field_addr rfl ?_
         conv => whnf
         refine RStep.of (load1_s r1 rfl rfl ?_)
         conv => whnf
         refine block_go rfl ?_
         conv => whnf
         refine eq_int ?_
         conv => whnf
         refine cond_go rfl ?_
         conv => whnf
         refine cond_s (fun w56 => ?_) (fun w56 => ?_)
         ·replace hl0 := ift w56 hl0
          conv => whnf
          refine field_addr rfl ?_
          conv => whnf
          refine RStep.of (load1_s r1 rfl rfl ?_)
          obtain ⟨x61, q61, hl0⟩ := bnd hl0
          conv => whnf
          refine call_fn (ruletype_declared_ok (name := e0.Text) q61 (y0_h0.mono (l28.trans l30)) rfl) .nil ?_
          rintro _ K61 _ l61 ⟨rfl, rfl⟩
          conv => whnf
          refine cond_go rfl ?_
          conv => whnf
          refine cond_s (fun w61 => ?_) (fun w61 => ?_)
          ·replace hl0 := ift w61 hl0
           conv => whnf
           refine RStep.of (loadn_s r1 rfl (Nat.le_of_ble_eq_true rfl) ?_)
           conv => whnf
           refine mk_iface rfl ?_
           obtain ⟨x65, q65, hl0⟩ := bnd hl0
           conv => whnf
           refine call_fn (ruletype_checker_fail_ok (c := x28.2) (n' := e0) (err := (some 4)) q65 (LiC.mono S_ruletree_Node.R_ok ((l28.trans l30).trans l61) h17_0)) (.cons r0 .nil) ?_
           rintro _ K65 _ l65 ⟨rfl, rfl⟩
           conv => whnf
           refine field_addr rfl ?_
           conv => whnf
           refine RStep.of (load1_s r1 rfl rfl ?_)
           obtain ⟨x70, q70, hl0⟩ := bnd hl0
           conv => whnf
           refine call_fn (ruletype_extended_ok (name := e0.Text) (t := x28.1) q70 (y0_h0.mono (((l28.trans l30).trans l61).trans l65)) rfl) .nil ?_
           rintro _ K70 _ l70 ⟨a70_0, c70_0, rfl, h70_0, rfl⟩
           conv => whnf
           refine nil_check ?_
           conv => whnf
           refine field_addr rfl ?_
           conv => whnf
           refine RStep.of (load1_s r1 rfl rfl ?_)
           conv => whnf
           refine neq_err rfl ?_
           conv => whnf
           refine cond_go rfl ?_
           conv => whnf
           refine cond_s (fun w91 => ?_) (fun w91 => ?_)
           ·replace hl0 := ift w91 hl0
            obtain rfl := si hl0
            replace hm := elr hm
            obtain rfl := si hm
            conv => whnf
            refine EndStep.mk _ (((((lk0.trans l28).trans l30).trans l61).trans l65).trans l70) ⟨rfl, rfl⟩ (ConvH.of (.cons r1 (.cons r2 .nil)))
           ·replace hl0 := iff_ w91 hl0
            conv => whnf
            refine int_in (cntz hx0 hk0) ?_
            conv => whnf
            refine fRo r0 fun Kr0_0 lr0_0 fr0_0 => ?_
            refine RoundStep.mk (i0 + 1, x70, x65.line, x65.err, a70_0, c70_0) ⟨rfl, rfl, trivial⟩ (by repeat (first | exact trivial | refine And.intro rfl ?_)) (ConvH.of (.cons r0 (.cons r1 .nil))) ((((((lk0.trans l28).trans l30).trans l61).trans l65).trans l70).trans lr0_0) (ltm hx0) ⟨fr0_0, hl0⟩
          ·replace hl0 := iff_ w61 hl0
           conv => whnf
           refine field_addr rfl ?_
           conv => whnf
           refine RStep.of (load1_s r1 rfl rfl ?_)
           obtain ⟨x70, q70, hl0⟩ := bnd hl0
           conv => whnf
           refine call_fn (ruletype_extended_ok (name := e0.Text) (t := x28.1) q70 (y0_h0.mono ((l28.trans l30).trans l61)) rfl) .nil ?_
           rintro _ K70 _ l70 ⟨a70_0, c70_0, rfl, h70_0, rfl⟩
           conv => whnf
           refine nil_check ?_
           conv => whnf
           refine field_addr rfl ?_
           conv => whnf
           refine RStep.of (load1_s r1 rfl rfl ?_)
           conv => whnf
           refine neq_err rfl ?_
           conv => whnf
           refine cond_go rfl ?_
           conv => whnf
           refine cond_s (fun w91 => ?_) (fun w91 => ?_)
           ·replace hl0 := ift w91 hl0
            obtain rfl := si hl0
            replace hm := elr hm
            obtain rfl := si hm
            conv => whnf
            refine EndStep.mk _ ((((lk0.trans l28).trans l30).trans l61).trans l70) ⟨rfl, rfl⟩ (ConvH.of (.cons r1 (.cons r2 .nil)))
           ·replace hl0 := iff_ w91 hl0
            conv => whnf
            refine int_in (cntz hx0 hk0) ?_
            conv => whnf
            refine fRo r0 fun Kr0_0 lr0_0 fr0_0 => ?_
            refine RoundStep.mk (i0 + 1, x70, x28.2.line, x28.2.err, a70_0, c70_0) ⟨rfl, rfl, trivial⟩ (by repeat (first | exact trivial | refine And.intro rfl ?_)) (ConvH.of (.cons r0 (.cons r1 .nil))) (((((lk0.trans l28).trans l30).trans l61).trans l70).trans lr0_0) (ltm hx0) ⟨fr0_0, hl0⟩
         ·replace hl0 := iff_ w56 hl0
          conv => whnf
          refine eq_int ?_
          conv => whnf
          refine cond_go rfl ?_
          conv => whnf
          refine cond_s (fun w71 => ?_) (fun w71 => ?_)
          ·replace hl0 := ift w71 hl0
           conv => whnf
           refine field_addr rfl ?_
           conv => whnf
           refine RStep.of (load1_s r1 rfl rfl ?_)
           obtain ⟨h75, hl0⟩ := chkb hl0
           have h75_ := (LiC.mono S_ruletree_Node.R_ok (l28.trans l30) h17_0).subC h75
           conv => whnf
           refine RStep.ofN (sl_slN (l := e0.Kids) (lo := (some 1)) (hi := none) (lo' := (1 : Int)) (hi' := (e0.Kids.length : Int)) rfl rfl rfl rfl rfl (LiC.mono S_ruletree_Node.R_ok (l28.trans l30) h17_0).le h75 ?_)
           conv => whnf
           refine RStep.of (len_slice rfl ?_)
           obtain ⟨hk3, hl0⟩ := chkb hl0
           obtain ⟨s3, hl3, hl0⟩ := bnd hl0
           conv => whnf
           refine code_cut (σ := (Int × Err)) [11, 77, 78, 79, 80, 81, 82, 83, 84, 85, 86] (fun t3 => []) (fun t3 => [Cells b0 68 [.int .i64 t3.1, errV 46 t3.2], Cells b7 33 [.int .i64 e0.Kind, str e0.Text, .slice a17_0 e0.Kids.length c17_0, .int .i64 e0.Line], F]) (fun zz K1 => match zz with | t3 => t3 = s3) ?_ ?_
           ·refine block_go rfl ?_
            conv => whnf
            refine loop_rule (σ := Nat × Int × Err) [11, 77, 78, 79, 80, 81, 82, 83, 84, 85, 86] (fun (i3, y3_0, y3_1) => [(77, .int .i64 (i3 : Int))]) (fun (i3, y3_0, y3_1) => [Cells b0 68 [.int .i64 y3_0, errV 46 y3_1], Cells b7 33 [.int .i64 e0.Kind, str e0.Text, .slice a17_0 e0.Kids.length c17_0, .int .i64 e0.Line], F]) (fun zz K1 => match zz with | (i3, y3_0, y3_1) => ruletype_checker_block_L3 (ruletype_checker_block n) y0_0 ((subL e0.Kids (1 : Int) (e0.Kids.length : Int)).drop i3) i3 y3_0 y3_1 = some s3) (fun zz => (subL e0.Kids (1 : Int) (e0.Kids.length : Int)).length - zz.1) (0, x28.2.line, x28.2.err) rfl ⟨rfl, trivial⟩ (ConvH.of (.cons r0 (.cons r0 (.cons r0 .nil)))) hl3 ?_
            clear hl3
            rintro ⟨i3, y3_0, y3_1⟩ Kb3 lk3 hl3 j3
            conv at hl3 => whnf
            conv => whnf
            refine cond_go rfl ?_
            conv => whnf
            refine cond_s (fun w3 => ?_) (fun w3 => ?_)
            ·obtain ⟨e3, hx3, hd3⟩ := ltx w3
             rw [hd3, ruletype_checker_block_L3.eq_2] at hl3
             conv => whnf
             refine block_go rfl ?_
             conv => whnf
             refine RStep.ofN (index_addr rfl rfl (hasR (LiC.mono S_ruletree_Node.R_ok lk3 h75_).rd hx3) (nn _) (lt_ofN hx3) ?_)
             obtain ⟨ss80, cc80, hr80, hc80, hR80⟩ := LiR.get (LiC.mono S_ruletree_Node.R_ok lk3 h75_).rd hx3
             obtain ⟨a80_0, c80_0, rfl, h80_0⟩ := S_ruletree_Node.out hR80
             conv => whnf
             refine RStep.of (load_rd_agg i3 _ hr80 rfl hc80 rfl ?_)
             conv => whnf
             refine alloc_rule rfl ?_
             intro b11
             conv => whnf
             refine store_rule r0 rfl ?_
             conv => whnf
             refine ⟨rfl, rfl, (Nat.le_of_ble_eq_true rfl), ?_⟩
             conv => whnf
             refine RStep.of (loadn_s r0 rfl (Nat.le_of_ble_eq_true rfl) ?_)
             obtain ⟨x83, q83, hl3⟩ := bnd hl3
             conv => whnf
             refine call_fn (ruletype_branch_ok (n' := e3) q83 h80_0) .nil ?_
             rintro _ K83 _ l83 ⟨a83_0, c83_0, rfl, h83_0, rfl⟩
             obtain ⟨x85, q85, hl3⟩ := bnd hl3
             conv => whnf
             refine call_fn (ih (c := (⟨y3_0, y3_1⟩ : S_ruletype_checker)) q85 h83_0 rfl (y0_h0.mono (((l28.trans l30).trans lk3).trans l83)) rfl) (.cons r1 .nil) ?_
             rintro _ K85 _ l85 ⟨rfl, rfl⟩
             conv => whnf
             refine int_in (cntz hx3 hk3) ?_
             conv => whnf
             refine RoundStep.mk (i3 + 1, x85.line, x85.err) ⟨rfl, trivial⟩ (by repeat (first | exact trivial | refine And.intro rfl ?_)) (ConvH.of (.cons r0 (.cons r1 (.cons r1 .nil)))) ((lk3.trans l83).trans l85) (ltm hx3) hl3
            ·rw [lty w3, ruletype_checker_block_L3.eq_1] at hl3
             conv => whnf
             refine cond_T ?_
             conv => whnf
             refine MeetStep.mk ((y3_0, y3_1)) trivial (by repeat (first | exact trivial | refine And.intro rfl ?_)) (ConvH.of (.cons r0 (.cons r0 (.cons r0 .nil)))) lk3 (si hl3)
           ·rintro t3 Kt3 lt3 rfl j3
            conv => whnf
            refine nil_check ?_
            conv => whnf
            refine field_addr rfl ?_
            conv => whnf
            refine RStep.of (load1_s r0 rfl rfl ?_)
            conv => whnf
            refine neq_err rfl ?_
            conv => whnf
            refine cond_go rfl ?_
            conv => whnf
            refine cond_s (fun w91 => ?_) (fun w91 => ?_)
            ·replace hl0 := ift w91 hl0
             obtain rfl := si hl0
             replace hm := elr hm
             obtain rfl := si hm
             conv => whnf
             refine EndStep.mk _ (((lk0.trans l28).trans l30).trans lt3) ⟨rfl, rfl⟩ (ConvH.of (.cons r0 (.cons r1 .nil)))
            ·replace hl0 := iff_ w91 hl0
             conv => whnf
             refine int_in (cntz hx0 hk0) ?_
             conv => whnf
             refine RoundStep.mk (i0 + 1, y0_0, t3.1, t3.2, y0_a0, y0_c0) ⟨rfl, rfl, trivial⟩ (by repeat (first | exact trivial | refine And.intro rfl ?_)) (ConvH.of (.cons r0 (.cons r1 .nil))) (((lk0.trans l28).trans l30).trans lt3) (ltm hx0) ⟨(y0_h0.mono ((l28.trans l30).trans lt3)), hl0⟩
          ·replace hl0 := iff_ w71 hl0
           conv => whnf
           refine nil_check ?_
           conv => whnf
           refine field_addr rfl ?_
           conv => whnf
           refine RStep.of (load1_s r0 rfl rfl ?_)
           conv => whnf
           refine neq_err rfl ?_
           conv => whnf
           refine cond_go rfl ?_
           conv => whnf
           refine cond_s (fun w91 => ?_) (fun w91 => ?_)
           ·replace hl0 := ift w91 hl0
            obtain rfl := si hl0
            replace hm := elr hm
            obtain rfl := si hm
            conv => whnf
            refine EndStep.mk _ ((lk0.trans l28).trans l30) ⟨rfl, rfl⟩ (ConvH.of (.cons r0 (.cons r1 .nil)))
           ·replace hl0 := iff_ w91 hl0
            conv => whnf
            refine int_in (cntz hx0 hk0) ?_
            conv => whnf
            refine RoundStep.mk (i0 + 1, y0_0, x28.2.line, x28.2.err, y0_a0, y0_c0) ⟨rfl, rfl, trivial⟩ (by repeat (first | exact trivial | refine And.intro rfl ?_)) (ConvH.of (.cons r0 (.cons r1 .nil))) ((lk0.trans l28).trans l30) (ltm hx0) ⟨(y0_h0.mono (l28.trans l30)), hl0⟩
      ·conv => whnf
       refine cond_f g40_6 ?_
       conv => whnf
       refine cond_f g40_6 ?_
       conv => whnf
       refine cond_f g40_6 ?_
       conv => whnf
       refine cond_go rfl ?_
       conv => whnf
       refine cond_F ?_
       replace hl0 := iff_ (and_f (and_g g36_6 g40_6)) hl0
       conv => whnf
       refine nil_check ?_
       conv => whnf
       refine field_addr rfl ?_
       conv => whnf
       refine RStep.of (load1_s r0 rfl rfl ?_)
       conv => whnf
       refine neq_err rfl ?_
       conv => whnf
       refine cond_go rfl ?_
       conv => whnf
       refine cond_s (fun w53 => ?_) (fun w53 => ?_)
       ·replace hl0 := ift w53 hl0
        obtain rfl := si hl0
        replace hm := elr hm
        obtain rfl := si hm
        conv => whnf
        refine EndStep.mk _ ((lk0.trans l28).trans l30) ⟨rfl, rfl⟩ (ConvH.of (.cons r0 (.cons r1 .nil)))
       ·replace hl0 := iff_ w53 hl0
        conv => whnf
        refine field_addr rfl ?_
        conv => whnf
        refine RStep.of (load1_s r1 rfl rfl ?_)
        conv => whnf
        refine block_go rfl ?_
        conv => whnf
        refine eq_int ?_
        conv => whnf
        refine cond_go rfl ?_
        conv => whnf
        refine cond_s (fun w56 => ?_) (fun w56 => ?_)
        ·replace hl0 := ift w56 hl0
         conv => whnf
         refine field_addr rfl ?_
         conv => whnf
         refine RStep.of (load1_s r1 rfl rfl ?_)
         obtain ⟨x61, q61, hl0⟩ := bnd hl0
         conv => whnf
         refine call_fn (ruletype_declared_ok (name := e0.Text) q61 (y0_h0.mono (l28.trans l30)) rfl) .nil ?_
         rintro _ K61 _ l61 ⟨rfl, rfl⟩
         conv => whnf
         refine cond_go rfl ?_
         conv => whnf
         refine cond_s (fun w61 => ?_) (fun w61 => ?_)
         ·replace hl0 := ift w61 hl0
          conv => whnf
          refine RStep.of (loadn_s r1 rfl (Nat.le_of_ble_eq_true rfl) ?_)
          conv => whnf
          refine mk_iface rfl ?_
          obtain ⟨x65, q65, hl0⟩ := bnd hl0
          conv => whnf
          refine call_fn (ruletype_checker_fail_ok (c := x28.2) (n' := e0) (err := (some 4)) q65 (LiC.mono S_ruletree_Node.R_ok ((l28.trans l30).trans l61) h17_0)) (.cons r0 .nil) ?_
          rintro _ K65 _ l65 ⟨rfl, rfl⟩
          conv => whnf
          refine field_addr rfl ?_
          conv => whnf
          refine RStep.of (load1_s r1 rfl rfl ?_)
          obtain ⟨x70, q70, hl0⟩ := bnd hl0
          conv => whnf
          refine call_fn (ruletype_extended_ok (name := e0.Text) (t := x28.1) q70 (y0_h0.mono (((l28.trans l30).trans l61).trans l65)) rfl) .nil ?_
          rintro _ K70 _ l70 ⟨a70_0, c70_0, rfl, h70_0, rfl⟩
          conv => whnf
          refine nil_check ?_
          conv => whnf
          refine field_addr rfl ?_
          conv => whnf
          refine RStep.of (load1_s r1 rfl rfl ?_)
          conv => whnf
          refine neq_err rfl ?_
          conv => whnf
          refine cond_go rfl ?_
          conv => whnf
          refine cond_s (fun w91 => ?_) (fun w91 => ?_)
          ·replace hl0 := ift w91 hl0
           obtain rfl := si hl0
           replace hm := elr hm
           obtain rfl := si hm
           conv => whnf
           refine EndStep.mk _ (((((lk0.trans l28).trans l30).trans l61).trans l65).trans l70) ⟨rfl, rfl⟩ (ConvH.of (.cons r1 (.cons r2 .nil)))
          ·replace hl0 := iff_ w91 hl0
           conv => whnf
           refine int_in (cntz hx0 hk0) ?_
           conv => whnf
           refine fRo r0 fun Kr0_0 lr0_0 fr0_0 => ?_
           refine RoundStep.mk (i0 + 1, x70, x65.line, x65.err, a70_0, c70_0) ⟨rfl, rfl, trivial⟩ (by repeat (first | exact trivial | refine And.intro rfl ?_)) (ConvH.of (.cons r0 (.cons r1 .nil))) ((((((lk0.trans l28).trans l30).trans l61).trans l65).trans l70).trans lr0_0) (ltm hx0) ⟨fr0_0, hl0⟩
         ·replace hl0 := iff_ w61 hl0
          conv => whnf
          refine field_addr rfl ?_
          conv => whnf
          refine RStep.of (load1_s r1 rfl rfl ?_)
          obtain ⟨x70, q70, hl0⟩ := bnd hl0
          conv => whnf
          refine call_fn (ruletype_extended_ok (name := e0.Text) (t := x28.1) q70 (y0_h0.mono ((l28.trans l30).trans l61)) rfl) .nil ?_
          rintro _ K70 _ l70 ⟨a70_0, c70_0, rfl, h70_0, rfl⟩
          conv => whnf
          refine nil_check ?_
          conv => whnf
          refine field_addr rfl ?_
          conv => whnf
          refine RStep.of (load1_s r1 rfl rfl ?_)
          conv => whnf
          refine neq_err rfl ?_
          conv => whnf
          refine cond_go rfl ?_
          conv => whnf
          refine cond_s (fun w91 => ?_) (fun w91 => ?_)
          ·replace hl0 := ift w91 hl0
           obtain rfl := si hl0
           replace hm := elr hm
           obtain rfl := si hm
           conv => whnf
           refine EndStep.mk _ ((((lk0.trans l28).trans l30).trans l61).trans l70) ⟨rfl, rfl⟩ (ConvH.of (.cons r1 (.cons r2 .nil)))
          ·replace hl0 := iff_ w91 hl0
           conv => whnf
           refine int_in (cntz hx0 hk0) ?_
           conv => whnf
           refine fRo r0 fun Kr0_0 lr0_0 fr0_0 => ?_
           refine RoundStep.mk (i0 + 1, x70, x28.2.line, x28.2.err, a70_0, c70_0) ⟨rfl, rfl, trivial⟩ (by repeat (first | exact trivial | refine And.intro rfl ?_)) (ConvH.of (.cons r0 (.cons r1 .nil))) (((((lk0.trans l28).trans l30).trans l61).trans l70).trans lr0_0) (ltm hx0) ⟨fr0_0, hl0⟩
        ·replace hl0 := iff_ w56 hl0
         conv => whnf
         refine eq_int ?_
         conv => whnf
         refine cond_go rfl ?_
         conv => whnf
         refine cond_s (fun w71 => ?_) (fun w71 => ?_)
         ·replace hl0 := ift w71 hl0
          conv => whnf
          refine field_addr rfl ?_
          conv => whnf
          refine RStep.of (load1_s r1 rfl rfl ?_)
          obtain ⟨h75, hl0⟩ := chkb hl0
          have h75_ := (LiC.mono S_ruletree_Node.R_ok (l28.trans l30) h17_0).subC h75
          conv => whnf
          refine RStep.ofN (sl_slN (l := e0.Kids) (lo := (some 1)) (hi := none) (lo' := (1 : Int)) (hi' := (e0.Kids.length : Int)) rfl rfl rfl rfl rfl (LiC.mono S_ruletree_Node.R_ok (l28.trans l30) h17_0).le h75 ?_)
          conv => whnf
          refine RStep.of (len_slice rfl ?_)
          obtain ⟨hk3, hl0⟩ := chkb hl0
          obtain ⟨s3, hl3, hl0⟩ := bnd hl0
          conv => whnf
          refine code_cut (σ := (Int × Err)) [11, 77, 78, 79, 80, 81, 82, 83, 84, 85, 86] (fun t3 => []) (fun t3 => [Cells b0 68 [.int .i64 t3.1, errV 46 t3.2], Cells b7 33 [.int .i64 e0.Kind, str e0.Text, .slice a17_0 e0.Kids.length c17_0, .int .i64 e0.Line], F]) (fun zz K1 => match zz with | t3 => t3 = s3) ?_ ?_
          ·refine block_go rfl ?_
           conv => whnf
           refine loop_rule (σ := Nat × Int × Err) [11, 77, 78, 79, 80, 81, 82, 83, 84, 85, 86] (fun (i3, y3_0, y3_1) => [(77, .int .i64 (i3 : Int))]) (fun (i3, y3_0, y3_1) => [Cells b0 68 [.int .i64 y3_0, errV 46 y3_1], Cells b7 33 [.int .i64 e0.Kind, str e0.Text, .slice a17_0 e0.Kids.length c17_0, .int .i64 e0.Line], F]) (fun zz K1 => match zz with | (i3, y3_0, y3_1) => ruletype_checker_block_L3 (ruletype_checker_block n) y0_0 ((subL e0.Kids (1 : Int) (e0.Kids.length : Int)).drop i3) i3 y3_0 y3_1 = some s3) (fun zz => (subL e0.Kids (1 : Int) (e0.Kids.length : Int)).length - zz.1) (0, x28.2.line, x28.2.err) rfl ⟨rfl, trivial⟩ (ConvH.of (.cons r0 (.cons r0 (.cons r0 .nil)))) hl3 ?_
           clear hl3
           rintro ⟨i3, y3_0, y3_1⟩ Kb3 lk3 hl3 j3
           conv at hl3 => whnf
           conv => whnf
           refine cond_go rfl ?_
           conv => whnf
           refine cond_s (fun w3 => ?_) (fun w3 => ?_)
           ·obtain ⟨e3, hx3, hd3⟩ := ltx w3
            rw [hd3, ruletype_checker_block_L3.eq_2] at hl3
            conv => whnf
            refine block_go rfl ?_
            conv => whnf
            refine RStep.ofN (index_addr rfl rfl (hasR (LiC.mono S_ruletree_Node.R_ok lk3 h75_).rd hx3) (nn _) (lt_ofN hx3) ?_)
            obtain ⟨ss80, cc80, hr80, hc80, hR80⟩ := LiR.get (LiC.mono S_ruletree_Node.R_ok lk3 h75_).rd hx3
            obtain ⟨a80_0, c80_0, rfl, h80_0⟩ := S_ruletree_Node.out hR80
            conv => whnf
            refine RStep.of (load_rd_agg i3 _ hr80 rfl hc80 rfl ?_)
            conv => whnf
            refine alloc_rule rfl ?_
            intro b11
            conv => whnf
            refine store_rule r0 rfl ?_
            conv => whnf
            refine ⟨rfl, rfl, (Nat.le_of_ble_eq_true rfl), ?_⟩
            conv => whnf
            refine RStep.of (loadn_s r0 rfl (Nat.le_of_ble_eq_true rfl) ?_)
            obtain ⟨x83, q83, hl3⟩ := bnd hl3
            conv => whnf
            refine call_fn (ruletype_branch_ok (n' := e3) q83 h80_0) .nil ?_
            rintro _ K83 _ l83 ⟨a83_0, c83_0, rfl, h83_0, rfl⟩
            obtain ⟨x85, q85, hl3⟩ := bnd hl3
            conv => whnf
            refine call_fn (ih (c := (⟨y3_0, y3_1⟩ : S_ruletype_checker)) q85 h83_0 rfl (y0_h0.mono (((l28.trans l30).trans lk3).trans l83)) rfl) (.cons r1 .nil) ?_
            rintro _ K85 _ l85 ⟨rfl, rfl⟩
            conv => whnf
            refine int_in (cntz hx3 hk3) ?_
            conv => whnf
            refine RoundStep.mk (i3 + 1, x85.line, x85.err) ⟨rfl, trivial⟩ (by repeat (first | exact trivial | refine And.intro rfl ?_)) (ConvH.of (.cons r0 (.cons r1 (.cons r1 .nil)))) ((lk3.trans l83).trans l85) (ltm hx3) hl3
           ·rw [lty w3, ruletype_checker_block_L3.eq_1] at hl3
            conv => whnf
            refine cond_T ?_
            conv => whnf
            refine MeetStep.mk ((y3_0, y3_1)) trivial (by repeat (first | exact trivial | refine And.intro rfl ?_)) (ConvH.of (.cons r0 (.cons r0 (.cons r0 .nil)))) lk3 (si hl3)
          ·rintro t3 Kt3 lt3 rfl j3
           conv => whnf
           refine nil_check ?_
           conv => whnf
           refine field_addr rfl ?_
           conv => whnf
           refine RStep.of (load1_s r0 rfl rfl ?_)
           conv => whnf
           refine neq_err rfl ?_
           conv => whnf
           refine cond_go rfl ?_
           conv => whnf
           refine cond_s (fun w91 => ?_) (fun w91 => ?_)
           ·replace hl0 := ift w91 hl0
            obtain rfl := si hl0
            replace hm := elr hm
            obtain rfl := si hm
            conv => whnf
            refine EndStep.mk _ (((lk0.trans l28).trans l30).trans lt3) ⟨rfl, rfl⟩ (ConvH.of (.cons r0 (.cons r1 .nil)))
           ·replace hl0 := iff_ w91 hl0
            conv => whnf
            refine int_in (cntz hx0 hk0) ?_
            conv => whnf
            refine RoundStep.mk (i0 + 1, y0_0, t3.1, t3.2, y0_a0, y0_c0) ⟨rfl, rfl, trivial⟩ (by repeat (first | exact trivial | refine And.intro rfl ?_)) (ConvH.of (.cons r0 (.cons r1 .nil))) (((lk0.trans l28).trans l30).trans lt3) (ltm hx0) ⟨(y0_h0.mono ((l28.trans l30).trans lt3)), hl0⟩
         ·replace hl0 := iff_ w71 hl0
          conv => whnf
          refine nil_check ?_
          conv => whnf
          refine field_addr rfl ?_
          conv => whnf
          refine RStep.of (load1_s r0 rfl rfl ?_)
          conv => whnf
          refine neq_err rfl ?_
          conv => whnf
          refine cond_go rfl ?_
          conv => whnf
          refine cond_s (fun w91 => ?_) (fun w91 => ?_)
          ·replace hl0 := ift w91 hl0
           obtain rfl := si hl0
           replace hm := elr hm
           obtain rfl := si hm
           conv => whnf
           refine EndStep.mk _ ((lk0.trans l28).trans l30) ⟨rfl, rfl⟩ (ConvH.of (.cons r0 (.cons r1 .nil)))
          ·replace hl0 := iff_ w91 hl0
           conv => whnf
           refine int_in (cntz hx0 hk0) ?_
           conv => whnf
           refine RoundStep.mk (i0 + 1, y0_0, x28.2.line, x28.2.err, y0_a0, y0_c0) ⟨rfl, rfl, trivial⟩ (by repeat (first | exact trivial | refine And.intro rfl ?_)) (ConvH.of (.cons r0 (.cons r1 .nil))) ((lk0.trans l28).trans l30) (ltm hx0) ⟨(y0_h0.mono (l28.trans l30)), hl0⟩
     ·conv => whnf
      refine cond_f g36_6 ?_
      conv => whnf
      refine cond_f g36_6 ?_
      conv => whnf
      refine cond_F ?_
      conv => whnf
      refine cond_F ?_
      conv => whnf
      refine cond_F ?_
      conv => whnf
      refine cond_F ?_
      conv => whnf
      refine cond_go rfl ?_
      conv => whnf
      refine cond_F ?_
      replace hl0 := iff_ (and_f (and_f g36_6)) hl0
      conv => whnf
      refine nil_check ?_
      conv => whnf
      refine field_addr rfl ?_
      conv => whnf
      refine RStep.of (load1_s r0 rfl rfl ?_)
      conv => whnf
      refine neq_err rfl ?_
      conv => whnf
      refine cond_go rfl ?_
      conv => whnf
      refine cond_s (fun w53 => ?_) (fun w53 => ?_)
      ·replace hl0 := ift w53 hl0
       obtain rfl := si hl0
       replace hm := elr hm
       obtain rfl := si hm
       conv => whnf
       refine EndStep.mk _ ((lk0.trans l28).trans l30) ⟨rfl, rfl⟩ (ConvH.of (.cons r0 (.cons r1 .nil)))
      ·replace hl0 := iff_ w53 hl0
       conv => whnf
       refine field_addr rfl ?_
       conv => whnf
       refine RStep.of (load1_s r1 rfl rfl ?_)
       conv => whnf
       refine block_go rfl ?_
       conv => whnf
       refine eq_int ?_
       conv => whnf
       refine cond_go rfl ?_
       conv => whnf
       refine cond_s (fun w56 => ?_) (fun w56 => ?_)
       ·replace hl0 := ift w56 hl0
        conv => whnf
        refine field_addr rfl ?_
        conv => whnf
        refine RStep.of (load1_s r1 rfl rfl ?_)
        obtain ⟨x61, q61, hl0⟩ := bnd hl0
        conv => whnf
        refine call_fn (ruletype_declared_ok (name := e0.Text) q61 (y0_h0.mono (l28.trans l30)) rfl) .nil ?_
        rintro _ K61 _ l61 ⟨rfl, rfl⟩
        conv => whnf
        refine cond_go rfl ?_
        conv => whnf
        refine cond_s (fun w61 => ?_) (fun w61 => ?_)
        ·replace hl0 := ift w61 hl0
         conv => whnf
         refine RStep.of (loadn_s r1 rfl (Nat.le_of_ble_eq_true rfl) ?_)
         conv => whnf
         refine mk_iface rfl ?_
         obtain ⟨x65, q65, hl0⟩ := bnd hl0
         conv => whnf
         refine call_fn (ruletype_checker_fail_ok (c := x28.2) (n' := e0) (err := (some 4)) q65 (LiC.mono S_ruletree_Node.R_ok ((l28.trans l30).trans l61) h17_0)) (.cons r0 .nil) ?_
         rintro _ K65 _ l65 ⟨rfl, rfl⟩
         conv => whnf
         refine field_addr rfl ?_
         conv => whnf
         refine RStep.of (load1_s r1 rfl rfl ?_)
         obtain ⟨x70, q70, hl0⟩ := bnd hl0
         conv => whnf
         refine call_fn (ruletype_extended_ok (name := e0.Text) (t := x28.1) q70 (y0_h0.mono (((l28.trans l30).trans l61).trans l65)) rfl) .nil ?_
         rintro _ K70 _ l70 ⟨a70_0, c70_0, rfl, h70_0, rfl⟩
         conv => whnf
         refine nil_check ?_
         conv => whnf
         refine field_addr rfl ?_
         conv => whnf
         refine RStep.of (load1_s r1 rfl rfl ?_)
         conv => whnf
         refine neq_err rfl ?_
         conv => whnf
         refine cond_go rfl ?_
         conv => whnf
         refine cond_s (fun w91 => ?_) (fun w91 => ?_)
         ·replace hl0 := ift w91 hl0
          obtain rfl := si hl0
          replace hm := elr hm
          obtain rfl := si hm
          conv => whnf
          refine EndStep.mk _ (((((lk0.trans l28).trans l30).trans l61).trans l65).trans l70) ⟨rfl, rfl⟩ (ConvH.of (.cons r1 (.cons r2 .nil)))
         ·replace hl0 := iff_ w91 hl0
          conv => whnf
          refine int_in (cntz hx0 hk0) ?_
          conv => whnf
          refine fRo r0 fun Kr0_0 lr0_0 fr0_0 => ?_
          refine RoundStep.mk (i0 + 1, x70, x65.line, x65.err, a70_0, c70_0) ⟨rfl, rfl, trivial⟩ (by repeat (first | exact trivial | refine And.intro rfl ?_)) (ConvH.of (.cons r0 (.cons r1 .nil))) ((((((lk0.trans l28).trans l30).trans l61).trans l65).trans l70).trans lr0_0) (ltm hx0) ⟨fr0_0, hl0⟩
        ·replace hl0 := iff_ w61 hl0
         conv => whnf
         refine field_addr rfl ?_
         conv => whnf
         refine RStep.of (load1_s r1 rfl rfl ?_)
         obtain ⟨x70, q70, hl0⟩ := bnd hl0
         conv => whnf
         refine call_fn (ruletype_extended_ok (name := e0.Text) (t := x28.1) q70 (y0_h0.mono ((l28.trans l30).trans l61)) rfl) .nil ?_
         rintro _ K70 _ l70 ⟨a70_0, c70_0, rfl, h70_0, rfl⟩
         conv => whnf
         refine nil_check ?_
         conv => whnf
         refine field_addr rfl ?_
         conv => whnf
         refine RStep.of (load1_s r1 rfl rfl ?_)
         conv => whnf
         refine neq_err rfl ?_
         conv => whnf
         refine cond_go rfl ?_
         conv => whnf
         refine cond_s (fun w91 => ?_) (fun w91 => ?_)
         ·replace hl0 := ift w91 hl0
          obtain rfl := si hl0
          replace hm := elr hm
          obtain rfl := si hm
          conv => whnf
          refine EndStep.mk _ ((((lk0.trans l28).trans l30).trans l61).trans l70) ⟨rfl, rfl⟩ (ConvH.of (.cons r1 (.cons r2 .nil)))
         ·replace hl0 := iff_ w91 hl0
          conv => whnf
          refine int_in (cntz hx0 hk0) ?_
          conv => whnf
          refine fRo r0 fun Kr0_0 lr0_0 fr0_0 => ?_
          refine RoundStep.mk (i0 + 1, x70, x28.2.line, x28.2.err, a70_0, c70_0) ⟨rfl, rfl, trivial⟩ (by repeat (first | exact trivial | refine And.intro rfl ?_)) (ConvH.of (.cons r0 (.cons r1 .nil))) (((((lk0.trans l28).trans l30).trans l61).trans l70).trans lr0_0) (ltm hx0) ⟨fr0_0, hl0⟩
       ·replace hl0 := iff_ w56 hl0
        conv => whnf
        refine eq_int ?_
        conv => whnf
        refine cond_go rfl ?_
        conv => whnf
        refine cond_s (fun w71 => ?_) (fun w71 => ?_)
        ·replace hl0 := ift w71 hl0
         conv => whnf
         refine field_addr rfl ?_
         conv => whnf
         refine RStep.of (load1_s r1 rfl rfl ?_)
         obtain ⟨h75, hl0⟩ := chkb hl0
         have h75_ := (LiC.mono S_ruletree_Node.R_ok (l28.trans l30) h17_0).subC h75
         conv => whnf
         refine RStep.ofN (sl_slN (l := e0.Kids) (lo := (some 1)) (hi := none) (lo' := (1 : Int)) (hi' := (e0.Kids.length : Int)) rfl rfl rfl rfl rfl (LiC.mono S_ruletree_Node.R_ok (l28.trans l30) h17_0).le h75 ?_)
         conv => whnf
         refine RStep.of (len_slice rfl ?_)
         obtain ⟨hk3, hl0⟩ := chkb hl0
         obtain ⟨s3, hl3, hl0⟩ := bnd hl0
         conv => whnf
         refine code_cut (σ := (Int × Err)) [11, 77, 78, 79, 80, 81, 82, 83, 84, 85, 86] (fun t3 => []) (fun t3 => [Cells b0 68 [.int .i64 t3.1, errV 46 t3.2], Cells b7 33 [.int .i64 e0.Kind, str e0.Text, .slice a17_0 e0.Kids.length c17_0, .int .i64 e0.Line], F]) (fun zz K1 => match zz with | t3 => t3 = s3) ?_ ?_
         ·refine block_go rfl ?_
          conv => whnf
          refine loop_rule (σ := Nat × Int × Err) [11, 77, 78, 79, 80, 81, 82, 83, 84, 85, 86] (fun (i3, y3_0, y3_1) => [(77, .int .i64 (i3 : Int))]) (fun (i3, y3_0, y3_1) => [Cells b0 68 [.int .i64 y3_0, errV 46 y3_1], Cells b7 33 [.int .i64 e0.Kind, str e0.Text, .slice a17_0 e0.Kids.length c17_0, .int .i64 e0.Line], F]) (fun zz K1 => match zz with | (i3, y3_0, y3_1) => ruletype_checker_block_L3 (ruletype_checker_block n) y0_0 ((subL e0.Kids (1 : Int) (e0.Kids.length : Int)).drop i3) i3 y3_0 y3_1 = some s3) (fun zz => (subL e0.Kids (1 : Int) (e0.Kids.length : Int)).length - zz.1) (0, x28.2.line, x28.2.err) rfl ⟨rfl, trivial⟩ (ConvH.of (.cons r0 (.cons r0 (.cons r0 .nil)))) hl3 ?_
          clear hl3
          rintro ⟨i3, y3_0, y3_1⟩ Kb3 lk3 hl3 j3
          conv at hl3 => whnf
          conv => whnf
          refine cond_go rfl ?_
          conv => whnf
          refine cond_s (fun w3 => ?_) (fun w3 => ?_)
          ·obtain ⟨e3, hx3, hd3⟩ := ltx w3
           rw [hd3, ruletype_checker_block_L3.eq_2] at hl3
           conv => whnf
           refine block_go rfl ?_
           conv => whnf
           refine RStep.ofN (index_addr rfl rfl (hasR (LiC.mono S_ruletree_Node.R_ok lk3 h75_).rd hx3) (nn _) (lt_ofN hx3) ?_)
           obtain ⟨ss80, cc80, hr80, hc80, hR80⟩ := LiR.get (LiC.mono S_ruletree_Node.R_ok lk3 h75_).rd hx3
           obtain ⟨a80_0, c80_0, rfl, h80_0⟩ := S_ruletree_Node.out hR80
           conv => whnf
           refine RStep.of (load_rd_agg i3 _ hr80 rfl hc80 rfl ?_)
           conv => whnf
           refine alloc_rule rfl ?_
           intro b11
           conv => whnf
           refine store_rule r0 rfl ?_
           conv => whnf
           refine ⟨rfl, rfl, (Nat.le_of_ble_eq_true rfl), ?_⟩
           conv => whnf
           refine RStep.of (loadn_s r0 rfl (Nat.le_of_ble_eq_true rfl) ?_)
           obtain ⟨x83, q83, hl3⟩ := bnd hl3
           conv => whnf
           refine call_fn (ruletype_branch_ok (n' := e3) q83 h80_0) .nil ?_
           rintro _ K83 _ l83 ⟨a83_0, c83_0, rfl, h83_0, rfl⟩
           obtain ⟨x85, q85, hl3⟩ := bnd hl3
           conv => whnf
           refine call_fn (ih (c := (⟨y3_0, y3_1⟩ : S_ruletype_checker)) q85 h83_0 rfl (y0_h0.mono (((l28.trans l30).trans lk3).trans l83)) rfl) (.cons r1 .nil) ?_
           rintro _ K85 _ l85 ⟨rfl, rfl⟩
           conv => whnf
           refine int_in (cntz hx3 hk3) ?_
           conv => whnf
           refine RoundStep.mk (i3 + 1, x85.line, x85.err) ⟨rfl, trivial⟩ (by repeat (first | exact trivial | refine And.intro rfl ?_)) (ConvH.of (.cons r0 (.cons r1 (.cons r1 .nil)))) ((lk3.trans l83).trans l85) (ltm hx3) hl3
          ·rw [lty w3, ruletype_checker_block_L3.eq_1] at hl3
           conv => whnf
           refine cond_T ?_
           conv => whnf
           refine MeetStep.mk ((y3_0, y3_1)) trivial (by repeat (first | exact trivial | refine And.intro rfl ?_)) (ConvH.of (.cons r0 (.cons r0 (.cons r0 .nil)))) lk3 (si hl3)
         ·rintro t3 Kt3 lt3 rfl j3
          conv => whnf
          refine nil_check ?_
          conv => whnf
          refine field_addr rfl ?_
          conv => whnf
          refine RStep.of (load1_s r0 rfl rfl ?_)
          conv => whnf
          refine neq_err rfl ?_
          conv => whnf
          refine cond_go rfl ?_
          conv => whnf
          refine cond_s (fun w91 => ?_) (fun w91 => ?_)
          ·replace hl0 := ift w91 hl0
           obtain rfl := si hl0
           replace hm := elr hm
           obtain rfl := si hm
           conv => whnf
           refine EndStep.mk _ (((lk0.trans l28).trans l30).trans lt3) ⟨rfl, rfl⟩ (ConvH.of (.cons r0 (.cons r1 .nil)))
          ·replace hl0 := iff_ w91 hl0
           conv => whnf
           refine int_in (cntz hx0 hk0) ?_
           conv => whnf
           refine RoundStep.mk (i0 + 1, y0_0, t3.1, t3.2, y0_a0, y0_c0) ⟨rfl, rfl, trivial⟩ (by repeat (first | exact trivial | refine And.intro rfl ?_)) (ConvH.of (.cons r0 (.cons r1 .nil))) (((lk0.trans l28).trans l30).trans lt3) (ltm hx0) ⟨(y0_h0.mono ((l28.trans l30).trans lt3)), hl0⟩
        ·replace hl0 := iff_ w71 hl0
         conv => whnf
         refine nil_check ?_
         conv => whnf
         refine field_addr rfl ?_
         conv => whnf
         refine RStep.of (load1_s r0 rfl rfl ?_)
         conv => whnf
         refine neq_err rfl ?_
         conv => whnf
         refine cond_go rfl ?_
         conv => whnf
         refine cond_s (fun w91 => ?_) (fun w91 => ?_)
         ·replace hl0 := ift w91 hl0
          obtain rfl := si hl0
          replace hm := elr hm
          obtain rfl := si hm
          conv => whnf
          refine EndStep.mk _ ((lk0.trans l28).trans l30) ⟨rfl, rfl⟩ (ConvH.of (.cons r0 (.cons r1 .nil)))
         ·replace hl0 := iff_ w91 hl0
          conv => whnf
          refine int_in (cntz hx0 hk0) ?_
          conv => whnf
          refine RoundStep.mk (i0 + 1, y0_0, x28.2.line, x28.2.err, y0_a0, y0_c0) ⟨rfl, rfl, trivial⟩ (by repeat (first | exact trivial | refine And.intro rfl ?_)) (ConvH.of (.cons r0 (.cons r1 .nil))) ((lk0.trans l28).trans l30) (ltm hx0) ⟨(y0_h0.mono (l28.trans l30)), hl0⟩
   ·rw [lty w0, ruletype_checker_block_L0.eq_1] at hl0
    conv => whnf
    refine cond_T ?_
    conv => whnf
    refine MeetStep.mk ((y0_0, y0_1, y0_2), y0_a0, y0_c0) ⟨rfl, trivial⟩ (by repeat (first | exact trivial | refine And.intro rfl ?_)) (ConvH.of (.cons r0 (.cons r0 .nil))) lk0 ⟨y0_h0, (si hl0).symm⟩
  ·rintro ⟨t0, t0_a0, t0_c0⟩ Kt0 lt0 ⟨t0_h0, rfl⟩ j0
   replace hm := elg hm
   obtain rfl := si hm
   conv => whnf
   refine EndStep.mk _ lt0 ⟨rfl, rfl⟩ (ConvH.of (.cons r0 (.cons r0 .nil)))

noncomputable def ruletype_Check (n : Nat) (program : S_ruletree_Node) : Option (Int × Err) :=
 (ruletree_Valid n program).bind fun x6 =>
 if (!x6) then
 some (0, (some 2))
 else
 (ruletype_checker_block n (⟨0, none⟩ : S_ruletype_checker) program.Kids []).bind fun x14 =>
 some (x14.line, x14.err)
set_option maxHeartbeats 8000000 in
theorem ruletype_Check_ok {n : Nat} {program : S_ruletree_Node} {ap0_0 : Option Addr} {cp0_0 : Nat} {K : Hp} {r : Int × Err}
  (hm : ruletype_Check n program = some r) (hp0_0 : LiC S_ruletree_Node.R K ap0_0 cp0_0 4 program.Kids) (hG0 : GlL eS 1 0 gkw0 K) :
  Fn Tryd.prog 13 [.agg #[.int .i64 program.Kind, str program.Text, .slice ap0_0 program.Kids.length cp0_0, .int .i64 program.Line]] K [] (fun v K' H' => v = .tuple #[.int .i64 r.1, errV 46 r.2] ∧ H' = []) := by
 obtain ⟨ga0, gn0, gc0, gn_, gs0, gd0⟩ := id hG0
 subst gn_
 refine Fn.enter Tryd.func13 Tryd.call13 rfl fun F => ?_
 unfold ruletype_Check at hm
 conv => whnf
 refine box_rule ?_
 intro b1
 conv => whnf
 refine RStep.of (loadn_s r0 rfl (Nat.le_of_ble_eq_true rfl) ?_)
 obtain ⟨x6, q6, hm⟩ := bnd hm
 conv => whnf
 refine call_fn (ruletree_Valid_ok (n' := program) q6 hp0_0 hG0) .nil ?_
 rintro _ K6 _ l6 ⟨rfl, rfl⟩
 conv => whnf
 refine un_not ?_
 conv => whnf
 refine cond_go rfl ?_
 conv => whnf
 refine cond_s (fun w7 => ?_) (fun w7 => ?_)
 ·replace hm := ift (not_t (ni_t w7)) hm
  conv => whnf
  refine mk_iface rfl ?_
  obtain rfl := si hm
  conv => whnf
  refine EndStep.mk _ l6 ⟨rfl, rfl⟩ (ConvH.of (.cons r1 .nil))
 ·replace hm := iff_ (not_f (ni_f w7)) hm
  conv => whnf
  refine build_struct rfl rfl ?_
  conv => whnf
  refine box_rule ?_
  intro b10
  conv => whnf
  refine field_addr rfl ?_
  conv => whnf
  refine RStep.of (load1_s r1 rfl rfl ?_)
  obtain ⟨x14, q14, hm⟩ := bnd hm
  conv => whnf
  refine call_fn (ruletype_checker_block_ok (c := (⟨0, none⟩ : S_ruletype_checker)) q14 (LiC.mono S_ruletree_Node.R_ok l6 hp0_0) rfl RdC.nil rfl) (.cons r0 .nil) ?_
  rintro _ K14 _ l14 ⟨rfl, rfl⟩
  conv => whnf
  refine draw_go ⟨⟨[], false⟩, _, [(_, _)]⟩ (by kernel_rfl) ⟨Hp.Le.refl _, (ConvH.of (.cons r0 .nil))⟩ ?_
  conv => whnf
  refine nil_check ?_
  conv => whnf
  refine field_addr rfl ?_
  conv => whnf
  refine load1_l m0 rfl rfl ?_
  conv => whnf
  refine nil_check ?_
  conv => whnf
  refine field_addr rfl ?_
  conv => whnf
  refine load1_l m0 rfl rfl ?_
  obtain rfl := si hm
  conv => whnf
  refine EndStep.mk _ (l6.trans l14) ⟨rfl, rfl⟩ (ConvH.of (.cons r2 .nil))

noncomputable def base_Num (e : Err) : Option (Int) :=
 if e.isNone then
 some 0
 else
 if (!e.isSome) then
 some (-1)
 else
 some (e.getD 0)
set_option maxHeartbeats 8000000 in
theorem base_Num_ok {e : Err} {K : Hp} {r : Int}
  (hm : base_Num e = some r)  :
  Fn Tryd.prog 16 [errV 46 e] K [] (fun v K' H' => v = .int .i64 r ∧ H' = []) := by
 refine Fn.enter Tryd.func16 Tryd.call16 rfl fun F => ?_
 unfold base_Num at hm
 conv => whnf
 refine eq_err rfl ?_
 conv => whnf
 refine cond_go rfl ?_
 conv => whnf
 refine cond_s (fun w6 => ?_) (fun w6 => ?_)
 ·replace hm := ift w6 hm
  obtain rfl := si hm
  conv => whnf
  refine EndStep.mk _ (Hp.Le.refl _) ⟨rfl, rfl⟩ (ConvH.of (.cons r0 .nil))
 ·replace hm := iff_ w6 hm
  conv => whnf
  refine asrt rfl rfl rfl ?_
  conv => whnf
  refine un_not ?_
  conv => whnf
  refine cond_go rfl ?_
  conv => whnf
  refine cond_s (fun w13 => ?_) (fun w13 => ?_)
  ·replace hm := ift (not_t (ni_t w13)) hm
   obtain rfl := si hm
   conv => whnf
   refine EndStep.mk _ (Hp.Le.refl _) ⟨rfl, rfl⟩ (ConvH.of (.cons r0 .nil))
  ·replace hm := iff_ (not_f (ni_f w13)) hm
   obtain rfl := si hm
   conv => whnf
   refine EndStep.mk _ (Hp.Le.refl _) ⟨rfl, rfl⟩ (ConvH.of (.cons r0 .nil))

noncomputable def base_Is (e : Err) (want : Int) : Option (Bool) :=
 (base_Num e).bind fun x6 =>
 some (decide (x6 = want) && decide (want ≠ 0))
set_option maxHeartbeats 8000000 in
theorem base_Is_ok {e : Err} {want : Int} {K : Hp} {r : Bool}
  (hm : base_Is e want = some r)  :
  Fn Tryd.prog 21 [errV 46 e, .int .i64 want] K [] (fun v K' H' => v = .bool r ∧ H' = []) := by
 refine Fn.enter Tryd.func21 Tryd.call21 rfl fun F => ?_
 unfold base_Is at hm
 obtain ⟨x6, q6, hm⟩ := bnd hm
 conv => whnf
 refine call_fn (base_Num_ok (e := e) q6) .nil ?_
 rintro _ K6 _ l6 ⟨rfl, rfl⟩
 conv => whnf
 refine eq_int ?_
 conv => whnf
 refine cond_s (fun g9_1 => ?_) (fun g9_1 => ?_)
 ·conv => whnf
  refine cond_t g9_1 ?_
  conv => whnf
  refine neq_int ?_
  conv => whnf
  refine cond_t g9_1 ?_
  obtain rfl := si hm
  conv => whnf
  refine EndStep.mk _ l6 ⟨(by rw [← (and_e (b := decide (want ≠ 0)) g9_1)] <;> rfl), rfl⟩ (ConvH.of (.cons r0 .nil))
 ·conv => whnf
  refine cond_f g9_1 ?_
  conv => whnf
  refine cond_f g9_1 ?_
  obtain rfl := si hm
  conv => whnf
  refine EndStep.mk _ l6 ⟨(by rw [← ((and_f g9_1)).symm] <;> rfl), rfl⟩ (ConvH.of (.cons r0 .nil))

noncomputable def law44_awake (n : Nat) : Option (Bool) :=
 (law44_Program ([(⟨9, ([] : Str), [(⟨23, ([112, 97, 116, 104] : Str), [], 3⟩ : S_ref43_Node)], 3⟩ : S_ref43_Node)])).bind fun x8 =>
 (law43_Of n x8).bind fun x11 =>
 (ruletype_Check n x11).bind fun x12 =>
 (if decide (x12.1 = 3) then (base_Is x12.2 9).bind fun x19 =>
 some x19 else some false).bind fun x20 =>
 some x20
set_option maxHeartbeats 8000000 in
theorem law44_awake_ok {n : Nat}  {K : Hp} {r : Bool}
  (hm : law44_awake n = some r) (hG0 : GlL eS 1 0 gkw0 K) :
  Fn Tryd.prog 12 [] K [] (fun v K' H' => v = .bool r ∧ H' = []) := by
 obtain ⟨ga0, gn0, gc0, gn_, gs0, gd0⟩ := id hG0
 subst gn_
 refine Fn.enter Tryd.func12 Tryd.call12 rfl fun F => ?_
 unfold law44_awake at hm
 conv => whnf
 refine build_struct rfl rfl ?_
 conv => whnf
 refine cond_T ?_
 conv => whnf
 refine cond_T ?_
 conv => whnf
 refine cond_T ?_
 conv => whnf
 refine bsOR (len := 1) (l := [(⟨23, ([112, 97, 116, 104] : Str), [], 3⟩ : S_ref43_Node)]) (css := [[.int .i64 23, str ([112, 97, 116, 104] : Str), .slice none 0 0, .int .i64 3]]) (cl := [.int .i64 23, str ([112, 97, 116, 104] : Str), .slice none 0 0, .int .i64 3]) S_ref43_Node.R_ok elT22 rfl rfl (LR.snoc LR.nil (S_ref43_Node.of (x := (⟨23, ([112, 97, 116, 104] : Str), [], 3⟩ : S_ref43_Node)) ⟨none, 0, rfl, LiC.nil⟩)) rfl rfl rfl ?_ fun b5 => ?_
 ·conv => whnf
  refine cond_T ?_
  conv => whnf
  first | done | rfl
 conv => whnf
 refine build_struct rfl rfl ?_
 conv => whnf
 refine cond_T ?_
 conv => whnf
 refine cond_T ?_
 conv => whnf
 refine cond_T ?_
 conv => whnf
 refine fzWR S_ref43_Node.R_ok r0 (show LR S_ref43_Node.R _ [[.int .i64 23, str ([112, 97, 116, 104] : Str), .slice none 0 0, .int .i64 3]] [(⟨23, ([112, 97, 116, 104] : Str), [], 3⟩ : S_ref43_Node)] from (LR.snoc LR.nil (S_ref43_Node.of (x := (⟨23, ([112, 97, 116, 104] : Str), [], 3⟩ : S_ref43_Node)) ⟨none, 0, rfl, LiC.nil⟩))) fun Kf7_0_0 lf7_0_0 ff7_0_0 => ?_
 refine bsOR (len := 1) (l := [(⟨9, ([] : Str), [(⟨23, ([112, 97, 116, 104] : Str), [], 3⟩ : S_ref43_Node)], 3⟩ : S_ref43_Node)]) (css := [[.int .i64 9, str ([] : Str), .slice (some ⟨b5, 0, none⟩) 1 1, .int .i64 3]]) (cl := [.int .i64 9, str ([] : Str), .slice (some ⟨b5, 0, none⟩) 1 1, .int .i64 3]) S_ref43_Node.R_ok elT22 rfl rfl (LR.snoc LR.nil (S_ref43_Node.of (x := (⟨9, ([] : Str), [(⟨23, ([112, 97, 116, 104] : Str), [], 3⟩ : S_ref43_Node)], 3⟩ : S_ref43_Node)) ⟨(some ⟨b5, 0, none⟩), 1, rfl, ff7_0_0⟩)) rfl rfl rfl ?_ fun b7 => ?_
 ·conv => whnf
  refine cond_T ?_
  conv => whnf
  first | done | rfl
 obtain ⟨x8, q8, hm⟩ := bnd hm
 conv => whnf
 refine fzFR Tryd.call18 S_ref43_Node.R_ok r0 (show LR S_ref43_Node.R _ [[.int .i64 9, str ([] : Str), .slice (some ⟨b5, 0, none⟩) 1 1, .int .i64 3]] [(⟨9, ([] : Str), [(⟨23, ([112, 97, 116, 104] : Str), [], 3⟩ : S_ref43_Node)], 3⟩ : S_ref43_Node)] from (LR.snoc LR.nil (S_ref43_Node.of (x := (⟨9, ([] : Str), [(⟨23, ([112, 97, 116, 104] : Str), [], 3⟩ : S_ref43_Node)], 3⟩ : S_ref43_Node)) ⟨(some ⟨b5, 0, none⟩), 1, rfl, ff7_0_0⟩))) fun K8_0 l8_0 f8_0 => ?_
 refine call_fn (law44_Program_ok q8 f8_0 rfl) .nil ?_
 rintro _ K8 _ l8 ⟨a8_0, c8_0, rfl, h8_0, rfl⟩
 conv => whnf
 refine alloc_rule rfl ?_
 intro b1
 conv => whnf
 refine store_rule r0 rfl ?_
 conv => whnf
 refine ⟨rfl, rfl, (Nat.le_of_ble_eq_true rfl), ?_⟩
 conv => whnf
 refine RStep.of (loadn_s r0 rfl (Nat.le_of_ble_eq_true rfl) ?_)
 obtain ⟨x11, q11, hm⟩ := bnd hm
 conv => whnf
 refine call_fn (law43_Of_ok (n' := x8) q11 h8_0) .nil ?_
 rintro _ K11 _ l11 ⟨a11_0, c11_0, s11_0, rfl, h11_0, r11_0, rfl⟩
 obtain ⟨x12, q12, hm⟩ := bnd hm
 conv => whnf
 refine fzFR Tryd.call13 S_ruletree_Node.R_ok r0 r11_0 fun Kf12_0_0 lf12_0_0 ff12_0_0 => ?_
 refine call_fn (ruletype_Check_ok (program := x11) q12 ff12_0_0 (hG0.mono ((((lf7_0_0.trans l8_0).trans l8).trans l11).trans lf12_0_0))) .nil ?_
 rintro _ K12 _ l12 ⟨rfl, rfl⟩
 conv => whnf
 refine eq_int ?_
 obtain ⟨x20, e20, hm⟩ := bnd hm
 conv => whnf
 refine cond_s (fun g17_3 => ?_) (fun g17_3 => ?_)
 ·replace e20 := ift g17_3 e20
  conv => whnf
  refine cond_t g17_3 ?_
  obtain ⟨x19, q19, e20⟩ := bnd e20
  conv => whnf
  refine call_fn (base_Is_ok (e := x12.2) (want := 9) q19) .nil ?_
  rintro _ K19 _ l19 ⟨rfl, rfl⟩
  conv => whnf
  refine cond_t g17_3 ?_
  obtain rfl := si hm
  conv => whnf
  refine EndStep.mk _ ((((((lf7_0_0.trans l8_0).trans l8).trans l11).trans lf12_0_0).trans l12).trans l19) ⟨(by rw [← (si e20)] <;> rfl), rfl⟩ (ConvH.of (.cons r1 .nil))
 ·replace e20 := iff_ g17_3 e20
  conv => whnf
  refine cond_f g17_3 ?_
  conv => whnf
  refine cond_f g17_3 ?_
  obtain rfl := si hm
  conv => whnf
  refine EndStep.mk _ (((((lf7_0_0.trans l8_0).trans l8).trans l11).trans lf12_0_0).trans l12) ⟨(by rw [← ((si e20).symm).symm] <;> rfl), rfl⟩ (ConvH.of (.cons r1 .nil))

noncomputable def law44_let (name : Str) (e : S_ref43_Node) : Option (S_ref43_Node) :=
 some (⟨3, name, [e], 7⟩ : S_ref43_Node)
set_option maxHeartbeats 8000000 in
theorem law44_let_ok {name : Str} {e : S_ref43_Node} {ap1_0 : Option Addr} {cp1_0 : Nat} {K : Hp} {r : S_ref43_Node}
  (hm : law44_let name e = some r) (hp1_0 : LiC S_ref43_Node.R K ap1_0 cp1_0 4 e.Kids) :
  Fn Tryd.prog 22 [str name, .agg #[.int .i64 e.Kind, str e.Text, .slice ap1_0 e.Kids.length cp1_0, .int .i64 e.Line]] K [] (fun v K' H' => ∃ ar_0 : Option Addr, ∃ cr_0 : Nat, ∃ sr_0 : List (List Value), v = .agg #[.int .i64 r.Kind, str r.Text, .slice ar_0 r.Kids.length cr_0, .int .i64 r.Line] ∧ (0 < r.Kids.length → Has ar_0) ∧ LR S_ref43_Node.R K' sr_0 r.Kids ∧ H' = [OwnA ar_0 24 4 cr_0 sr_0]) := by
 refine Fn.enter Tryd.func22 Tryd.call22 rfl fun F => ?_
 unfold law44_let at hm
 conv => whnf
 refine box_rule ?_
 intro b3
 conv => whnf
 refine alloc_rule rfl ?_
 intro b4
 conv => whnf
 refine RStep.of (loadn_s r1 rfl (Nat.le_of_ble_eq_true rfl) ?_)
 conv => whnf
 refine bsOR (len := 1) (l := [e]) (css := [[.int .i64 e.Kind, str e.Text, .slice ap1_0 e.Kids.length cp1_0, .int .i64 e.Line]]) (cl := [.int .i64 e.Kind, str e.Text, .slice ap1_0 e.Kids.length cp1_0, .int .i64 e.Line]) S_ref43_Node.R_ok elT22 rfl rfl (LR.snoc LR.nil (S_ref43_Node.of (x := e) ⟨ap1_0, cp1_0, rfl, hp1_0⟩)) rfl rfl rfl ?_ fun b7 => ?_
 ·conv => whnf
  refine cond_T ?_
  conv => whnf
  first | done | rfl
 conv => whnf
 refine build_struct rfl rfl ?_
 conv => whnf
 refine cond_T ?_
 conv => whnf
 refine cond_T ?_
 conv => whnf
 refine cond_T ?_
 conv => whnf
 refine cond_T ?_
 conv => whnf
 refine store_rule r1 rfl ?_
 conv => whnf
 refine ⟨rfl, rfl, (Nat.le_of_ble_eq_true rfl), ?_⟩
 obtain rfl := si hm
 conv => whnf
 refine RStep.of (loadn_s r0 rfl (Nat.le_of_ble_eq_true rfl) ?_)
 conv => whnf
 refine EndStep.mk _ (Hp.Le.refl _) ⟨(some ⟨b7, 0, none⟩), 1, ([[.int .i64 e.Kind, str e.Text, .slice ap1_0 e.Kids.length cp1_0, .int .i64 e.Line]]), rfl, (fun _ => ⟨_, _, rfl⟩), (show LR S_ref43_Node.R _ [[.int .i64 e.Kind, str e.Text, .slice ap1_0 e.Kids.length cp1_0, .int .i64 e.Line]] [e] from (LR.snoc LR.nil (S_ref43_Node.of (x := e) ⟨ap1_0, cp1_0, rfl, hp1_0⟩))), rfl⟩ (ConvH.of (.cons r1 (.cons r2 .nil)))

noncomputable def law44_use (name : Str) : Option (S_ref43_Node) :=
 some (⟨2, ([] : Str), [(⟨16, ([61, 61] : Str), [(⟨23, name, [], 9⟩ : S_ref43_Node), (⟨23, name, [], 9⟩ : S_ref43_Node)], 9⟩ : S_ref43_Node), (⟨12, ([] : Str), [], 9⟩ : S_ref43_Node)], 9⟩ : S_ref43_Node)
set_option maxHeartbeats 8000000 in
theorem law44_use_ok {name : Str} {K : Hp} {r : S_ref43_Node}
  (hm : law44_use name = some r)  :
  Fn Tryd.prog 23 [str name] K [] (fun v K' H' => ∃ ar_0 : Option Addr, ∃ cr_0 : Nat, ∃ sr_0 : List (List Value), v = .agg #[.int .i64 r.Kind, str r.Text, .slice ar_0 r.Kids.length cr_0, .int .i64 r.Line] ∧ (0 < r.Kids.length → Has ar_0) ∧ LR S_ref43_Node.R K' sr_0 r.Kids ∧ H' = [OwnA ar_0 24 4 cr_0 sr_0]) := by
 refine Fn.enter Tryd.func23 Tryd.call23 rfl fun F => ?_
 unfold law44_use at hm
 conv => whnf
 refine alloc_rule rfl ?_
 intro b2
 conv => whnf
 refine build_struct rfl rfl ?_
 conv => whnf
 refine cond_T ?_
 conv => whnf
 refine cond_T ?_
 conv => whnf
 refine cond_T ?_
 conv => whnf
 refine alloc_rule rfl ?_
 intro b3
 conv => whnf
 refine store_rule r0 rfl ?_
 conv => whnf
 refine ⟨rfl, rfl, (Nat.le_of_ble_eq_true rfl), ?_⟩
 conv => whnf
 refine RStep.of (loadn_s r0 rfl (Nat.le_of_ble_eq_true rfl) ?_)
 conv => whnf
 refine RStep.of (loadn_s r0 rfl (Nat.le_of_ble_eq_true rfl) ?_)
 conv => whnf
 refine bsOR (len := 2) (l := [(⟨23, name, [], 9⟩ : S_ref43_Node), (⟨23, name, [], 9⟩ : S_ref43_Node)]) (css := [[.int .i64 23, str name, .slice none 0 0, .int .i64 9], [.int .i64 23, str name, .slice none 0 0, .int .i64 9]]) (cl := [.int .i64 23, str name, .slice none 0 0, .int .i64 9, .int .i64 23, str name, .slice none 0 0, .int .i64 9]) S_ref43_Node.R_ok elT22 rfl rfl (LR.snoc (LR.snoc LR.nil (S_ref43_Node.of (x := (⟨23, name, [], 9⟩ : S_ref43_Node)) ⟨none, 0, rfl, LiC.nil⟩)) (S_ref43_Node.of (x := (⟨23, name, [], 9⟩ : S_ref43_Node)) ⟨none, 0, rfl, LiC.nil⟩)) rfl rfl rfl ?_ fun b9 => ?_
 ·conv => whnf
  refine cond_T ?_
  conv => whnf
  refine cond_T ?_
  conv => whnf
  first | done | rfl
 conv => whnf
 refine build_struct rfl rfl ?_
 conv => whnf
 refine cond_T ?_
 conv => whnf
 refine cond_T ?_
 conv => whnf
 refine cond_T ?_
 conv => whnf
 refine cond_T ?_
 conv => whnf
 refine alloc_rule rfl ?_
 intro b4
 conv => whnf
 refine store_rule r0 rfl ?_
 conv => whnf
 refine ⟨rfl, rfl, (Nat.le_of_ble_eq_true rfl), ?_⟩
 conv => whnf
 refine RStep.of (loadn_s r0 rfl (Nat.le_of_ble_eq_true rfl) ?_)
 conv => whnf
 refine build_struct rfl rfl ?_
 conv => whnf
 refine cond_T ?_
 conv => whnf
 refine cond_T ?_
 conv => whnf
 refine fzWR S_ref43_Node.R_ok r1 (show LR S_ref43_Node.R _ [[.int .i64 23, str name, .slice none 0 0, .int .i64 9], [.int .i64 23, str name, .slice none 0 0, .int .i64 9]] [(⟨23, name, [], 9⟩ : S_ref43_Node), (⟨23, name, [], 9⟩ : S_ref43_Node)] from (LR.snoc (LR.snoc LR.nil (S_ref43_Node.of (x := (⟨23, name, [], 9⟩ : S_ref43_Node)) ⟨none, 0, rfl, LiC.nil⟩)) (S_ref43_Node.of (x := (⟨23, name, [], 9⟩ : S_ref43_Node)) ⟨none, 0, rfl, LiC.nil⟩))) fun Kf13_0_0 lf13_0_0 ff13_0_0 => ?_
 refine bsOR (len := 2) (l := [(⟨16, ([61, 61] : Str), [(⟨23, name, [], 9⟩ : S_ref43_Node), (⟨23, name, [], 9⟩ : S_ref43_Node)], 9⟩ : S_ref43_Node), (⟨12, ([] : Str), [], 9⟩ : S_ref43_Node)]) (css := [[.int .i64 16, str ([61, 61] : Str), .slice (some ⟨b9, 0, none⟩) 2 2, .int .i64 9], [.int .i64 12, str ([] : Str), .slice none 0 0, .int .i64 9]]) (cl := [.int .i64 16, str ([61, 61] : Str), .slice (some ⟨b9, 0, none⟩) 2 2, .int .i64 9, .int .i64 12, str ([] : Str), .slice none 0 0, .int .i64 9]) S_ref43_Node.R_ok elT22 rfl rfl (LR.snoc (LR.snoc LR.nil (S_ref43_Node.of (x := (⟨16, ([61, 61] : Str), [(⟨23, name, [], 9⟩ : S_ref43_Node), (⟨23, name, [], 9⟩ : S_ref43_Node)], 9⟩ : S_ref43_Node)) ⟨(some ⟨b9, 0, none⟩), 2, rfl, ff13_0_0⟩)) (S_ref43_Node.of (x := (⟨12, ([] : Str), [], 9⟩ : S_ref43_Node)) ⟨none, 0, rfl, LiC.nil⟩)) rfl rfl rfl ?_ fun b13 => ?_
 ·conv => whnf
  refine cond_T ?_
  conv => whnf
  refine cond_T ?_
  conv => whnf
  first | done | rfl
 conv => whnf
 refine build_struct rfl rfl ?_
 conv => whnf
 refine cond_T ?_
 conv => whnf
 refine cond_T ?_
 conv => whnf
 refine cond_T ?_
 conv => whnf
 refine store_rule r3 rfl ?_
 conv => whnf
 refine ⟨rfl, rfl, (Nat.le_of_ble_eq_true rfl), ?_⟩
 obtain rfl := si hm
 conv => whnf
 refine RStep.of (loadn_s r0 rfl (Nat.le_of_ble_eq_true rfl) ?_)
 conv => whnf
 refine EndStep.mk _ lf13_0_0 ⟨(some ⟨b13, 0, none⟩), 2, ([[.int .i64 16, str ([61, 61] : Str), .slice (some ⟨b9, 0, none⟩) 2 2, .int .i64 9], [.int .i64 12, str ([] : Str), .slice none 0 0, .int .i64 9]]), rfl, (fun _ => ⟨_, _, rfl⟩), (show LR S_ref43_Node.R _ [[.int .i64 16, str ([61, 61] : Str), .slice (some ⟨b9, 0, none⟩) 2 2, .int .i64 9], [.int .i64 12, str ([] : Str), .slice none 0 0, .int .i64 9]] [(⟨16, ([61, 61] : Str), [(⟨23, name, [], 9⟩ : S_ref43_Node), (⟨23, name, [], 9⟩ : S_ref43_Node)], 9⟩ : S_ref43_Node), (⟨12, ([] : Str), [], 9⟩ : S_ref43_Node)] from (LR.snoc (LR.snoc LR.nil (S_ref43_Node.of (x := (⟨16, ([61, 61] : Str), [(⟨23, name, [], 9⟩ : S_ref43_Node), (⟨23, name, [], 9⟩ : S_ref43_Node)], 9⟩ : S_ref43_Node)) ⟨(some ⟨b9, 0, none⟩), 2, rfl, ff13_0_0⟩)) (S_ref43_Node.of (x := (⟨12, ([] : Str), [], 9⟩ : S_ref43_Node)) ⟨none, 0, rfl, LiC.nil⟩))), rfl⟩ (ConvH.of (.cons r1 (.cons r3 .nil)))

noncomputable def law44_uses_L0 (rec_ : (S_ref43_Node → Str → Option (Bool))) (name : Str) : List S_ref43_Node → Nat → Option (Fl (Bool) (Unit))
 | [], _ => some (Fl.go ())
 | e0 :: xs0, i0 =>
  (rec_ e0 name).bind fun x20 =>
  if x20 then
  some (Fl.ret true)
  else
  law44_uses_L0 rec_ name xs0 (i0 + 1)
noncomputable def law44_uses : Nat → S_ref43_Node → Str → Option (Bool)
 | 0, _, _ => none
 | n + 1, n', name =>
  if decide (n'.Text = name) then
  some true
  else
  (chk (n'.Kids.length ≤ szMax)).bind fun _ =>
  (law44_uses_L0 (law44_uses n) name n'.Kids 0).bind fun s0 => s0.el some fun t0 =>
  some false
set_option maxHeartbeats 8000000 in
theorem law44_uses_ok : ∀ {n : Nat} {n' : S_ref43_Node} {name : Str} {ap0_0 : Option Addr} {cp0_0 : Nat} {K : Hp} {r : Bool}
  (hm : law44_uses n n' name = some r) (hp0_0 : LiC S_ref43_Node.R K ap0_0 cp0_0 4 n'.Kids),
  Fn Tryd.prog 24 [.agg #[.int .i64 n'.Kind, str n'.Text, .slice ap0_0 n'.Kids.length cp0_0, .int .i64 n'.Line], str name] K [] (fun v K' H' => v = .bool r ∧ H' = []) := by
 intro n
 induction n with
 | zero =>
  intro n' name ap0_0 cp0_0 K r hm hp0_0
  rw [law44_uses.eq_1] at hm; cases hm
 | succ n ih =>
  intro n' name ap0_0 cp0_0 K r hm hp0_0
  refine Fn.enter Tryd.func24 Tryd.call24 rfl fun F => ?_
  rw [law44_uses.eq_2] at hm
  conv => whnf
  refine box_rule ?_
  intro b2
  conv => whnf
  refine field_addr rfl ?_
  conv => whnf
  refine RStep.of (load1_s r0 rfl rfl ?_)
  conv => whnf
  refine eq_str ?_
  conv => whnf
  refine cond_go rfl ?_
  conv => whnf
  refine cond_s (fun w10 => ?_) (fun w10 => ?_)
  ·replace hm := ift w10 hm
   obtain rfl := si hm
   conv => whnf
   refine EndStep.mk _ (Hp.Le.refl _) ⟨rfl, rfl⟩ (ConvH.of (.cons r1 .nil))
  ·replace hm := iff_ w10 hm
   conv => whnf
   refine field_addr rfl ?_
   conv => whnf
   refine RStep.of (load1_s r0 rfl rfl ?_)
   conv => whnf
   refine RStep.of (len_slice rfl ?_)
   obtain ⟨hk0, hm⟩ := chkb hm
   obtain ⟨s0, hl0, hm⟩ := bnd hm
   conv => whnf
   refine code_cut (σ := (Unit)) [4, 6, 14, 15, 16, 17, 18, 19, 20, 21] (fun t0 => []) (fun t0 => [Cells b2 24 [.int .i64 n'.Kind, str n'.Text, .slice ap0_0 n'.Kids.length cp0_0, .int .i64 n'.Line], F]) (fun zz K1 => match zz with | t0 => s0 = Fl.go t0) ?_ ?_
   ·refine block_go rfl ?_
    conv => whnf
    refine loop_rule (σ := Nat) [4, 6, 14, 15, 16, 17, 18, 19, 20, 21] (fun i0 => [(14, .int .i64 (i0 : Int))]) (fun i0 => [Cells b2 24 [.int .i64 n'.Kind, str n'.Text, .slice ap0_0 n'.Kids.length cp0_0, .int .i64 n'.Line], F]) (fun zz K1 => match zz with | i0 => law44_uses_L0 (law44_uses n) name (n'.Kids.drop i0) i0 = some s0) (fun zz => n'.Kids.length - zz) (0) rfl ⟨rfl, trivial⟩ (ConvH.of (.cons r0 (.cons r0 .nil))) hl0 ?_
    clear hl0
    rintro i0 Kb0 lk0 hl0 j0
    conv at hl0 => whnf
    conv => whnf
    refine cond_go rfl ?_
    conv => whnf
    refine cond_s (fun w0 => ?_) (fun w0 => ?_)
    ·obtain ⟨e0, hx0, hd0⟩ := ltx w0
     rw [hd0, law44_uses_L0.eq_2] at hl0
     conv => whnf
     refine block_go rfl ?_
     conv => whnf
     refine RStep.ofN (index_addr rfl rfl (hasR (LiC.mono S_ref43_Node.R_ok lk0 hp0_0).rd hx0) (nn _) (lt_ofN hx0) ?_)
     obtain ⟨ss17, cc17, hr17, hc17, hR17⟩ := LiR.get (LiC.mono S_ref43_Node.R_ok lk0 hp0_0).rd hx0
     obtain ⟨a17_0, c17_0, rfl, h17_0⟩ := S_ref43_Node.out hR17
     conv => whnf
     refine RStep.of (load_rd_agg i0 _ hr17 rfl hc17 rfl ?_)
     conv => whnf
     refine alloc_rule rfl ?_
     intro b6
     conv => whnf
     refine store_rule r0 rfl ?_
     conv => whnf
     refine ⟨rfl, rfl, (Nat.le_of_ble_eq_true rfl), ?_⟩
     conv => whnf
     refine RStep.of (loadn_s r0 rfl (Nat.le_of_ble_eq_true rfl) ?_)
     obtain ⟨x20, q20, hl0⟩ := bnd hl0
     conv => whnf
     refine call_fn (ih (n' := e0) (name := name) q20 h17_0) .nil ?_
     rintro _ K20 _ l20 ⟨rfl, rfl⟩
     conv => whnf
     refine cond_go rfl ?_
     conv => whnf
     refine cond_s (fun w20 => ?_) (fun w20 => ?_)
     ·replace hl0 := ift w20 hl0
      obtain rfl := si hl0
      replace hm := elr hm
      obtain rfl := si hm
      conv => whnf
      refine EndStep.mk _ (lk0.trans l20) ⟨rfl, rfl⟩ (ConvH.of (.cons r2 .nil))
     ·replace hl0 := iff_ w20 hl0
      conv => whnf
      refine int_in (cntz hx0 hk0) ?_
      conv => whnf
      refine RoundStep.mk (i0 + 1) ⟨rfl, trivial⟩ (by repeat (first | exact trivial | refine And.intro rfl ?_)) (ConvH.of (.cons r1 (.cons r1 .nil))) (lk0.trans l20) (ltm hx0) hl0
    ·rw [lty w0, law44_uses_L0.eq_1] at hl0
     conv => whnf
     refine cond_T ?_
     conv => whnf
     refine MeetStep.mk (()) trivial (by repeat (first | exact trivial | refine And.intro rfl ?_)) (ConvH.of (.cons r0 (.cons r0 .nil))) lk0 (si hl0).symm
   ·rintro t0 Kt0 lt0 rfl j0
    replace hm := elg hm
    obtain rfl := si hm
    conv => whnf
    refine EndStep.mk _ lt0 ⟨rfl, rfl⟩ (ConvH.of (.cons r1 .nil))

noncomputable def ref43_Size_L0 (rec_ : (S_ref43_Node → Option (Int))) : List S_ref43_Node → Nat → Int → Option (Int)
 | [], _, y0_0 => some y0_0
 | e0 :: xs0, i0, y0_0 =>
  (rec_ e0).bind fun x17 =>
  (chk (InI (y0_0 + x17))).bind fun _ =>
  ref43_Size_L0 rec_ xs0 (i0 + 1) (y0_0 + x17)
noncomputable def ref43_Size : Nat → S_ref43_Node → Option (Int)
 | 0, _ => none
 | n + 1, n' =>
  (chk (n'.Kids.length ≤ szMax)).bind fun _ =>
  (ref43_Size_L0 (ref43_Size n) n'.Kids 0 1).bind fun t0 =>
  some t0
set_option maxHeartbeats 8000000 in
theorem ref43_Size_ok : ∀ {n : Nat} {n' : S_ref43_Node} {ap0_0 : Option Addr} {cp0_0 : Nat} {K : Hp} {r : Int}
  (hm : ref43_Size n n' = some r) (hp0_0 : LiC S_ref43_Node.R K ap0_0 cp0_0 4 n'.Kids),
  Fn Tryd.prog 25 [.agg #[.int .i64 n'.Kind, str n'.Text, .slice ap0_0 n'.Kids.length cp0_0, .int .i64 n'.Line]] K [] (fun v K' H' => v = .int .i64 r ∧ H' = []) := by
 intro n
 induction n with
 | zero =>
  intro n' ap0_0 cp0_0 K r hm hp0_0
  rw [ref43_Size.eq_1] at hm; cases hm
 | succ n ih =>
  intro n' ap0_0 cp0_0 K r hm hp0_0
  refine Fn.enter Tryd.func25 Tryd.call25 rfl fun F => ?_
  rw [ref43_Size.eq_2] at hm
  conv => whnf
  refine box_rule ?_
  intro b1
  conv => whnf
  refine field_addr rfl ?_
  conv => whnf
  refine RStep.of (load1_s r0 rfl rfl ?_)
  conv => whnf
  refine RStep.of (len_slice rfl ?_)
  obtain ⟨hk0, hm⟩ := chkb hm
  obtain ⟨s0, hl0, hm⟩ := bnd hm
  conv => whnf
  refine code_cut (σ := (Int)) [3, 4, 8, 9, 10, 11, 12, 13, 14, 15, 16, 17, 18, 19] (fun t0 => [(3, .int .i64 t0)]) (fun t0 => [Cells b1 24 [.int .i64 n'.Kind, str n'.Text, .slice ap0_0 n'.Kids.length cp0_0, .int .i64 n'.Line], F]) (fun zz K1 => match zz with | t0 => t0 = s0) ?_ ?_
  ·refine block_go rfl ?_
   conv => whnf
   refine loop_rule (σ := Nat × Int) [3, 4, 8, 9, 10, 11, 12, 13, 14, 15, 16, 17, 18, 19] (fun (i0, y0_0) => [(8, .int .i64 (i0 : Int)), (3, .int .i64 y0_0)]) (fun (i0, y0_0) => [Cells b1 24 [.int .i64 n'.Kind, str n'.Text, .slice ap0_0 n'.Kids.length cp0_0, .int .i64 n'.Line], F]) (fun zz K1 => match zz with | (i0, y0_0) => ref43_Size_L0 (ref43_Size n) (n'.Kids.drop i0) i0 y0_0 = some s0) (fun zz => n'.Kids.length - zz.1) (0, 1) rfl ⟨rfl, rfl, trivial⟩ (ConvH.of (.cons r0 (.cons r0 .nil))) hl0 ?_
   clear hl0
   rintro ⟨i0, y0_0⟩ Kb0 lk0 hl0 j0
   conv at hl0 => whnf
   conv => whnf
   refine cond_go rfl ?_
   conv => whnf
   refine cond_s (fun w0 => ?_) (fun w0 => ?_)
   ·obtain ⟨e0, hx0, hd0⟩ := ltx w0
    rw [hd0, ref43_Size_L0.eq_2] at hl0
    conv => whnf
    refine block_go rfl ?_
    conv => whnf
    refine field_addr rfl ?_
    conv => whnf
    refine RStep.of (load1_s r0 rfl rfl ?_)
    conv => whnf
    refine RStep.ofN (index_addr rfl rfl (hasR (LiC.mono S_ref43_Node.R_ok lk0 hp0_0).rd hx0) (nn _) (lt_ofN hx0) ?_)
    obtain ⟨ss16, cc16, hr16, hc16, hR16⟩ := LiR.get (LiC.mono S_ref43_Node.R_ok lk0 hp0_0).rd hx0
    obtain ⟨a16_0, c16_0, rfl, h16_0⟩ := S_ref43_Node.out hR16
    conv => whnf
    refine RStep.of (load_rd_agg i0 _ hr16 rfl hc16 rfl ?_)
    obtain ⟨x17, q17, hl0⟩ := bnd hl0
    conv => whnf
    refine call_fn (ih (n' := e0) q17 h16_0) .nil ?_
    rintro _ K17 _ l17 ⟨rfl, rfl⟩
    obtain ⟨h18, hl0⟩ := chkb hl0
    conv => whnf
    refine int_in h18 ?_
    conv => whnf
    refine int_in (cntz hx0 hk0) ?_
    conv => whnf
    refine RoundStep.mk (i0 + 1, (y0_0 + x17)) ⟨rfl, rfl, trivial⟩ (by repeat (first | exact trivial | refine And.intro rfl ?_)) (ConvH.of (.cons r0 (.cons r0 .nil))) (lk0.trans l17) (ltm hx0) hl0
   ·rw [lty w0, ref43_Size_L0.eq_1] at hl0
    conv => whnf
    refine cond_T ?_
    conv => whnf
    refine MeetStep.mk (y0_0) ⟨rfl, trivial⟩ (by repeat (first | exact trivial | refine And.intro rfl ?_)) (ConvH.of (.cons r0 (.cons r0 .nil))) lk0 (si hl0)
  ·rintro t0 Kt0 lt0 rfl j0
   obtain rfl := si hm
   conv => whnf
   refine EndStep.mk _ lt0 ⟨rfl, rfl⟩ (ConvH.of (.cons r1 .nil))

noncomputable def ref43_Depth_L0 (rec_ : (S_ref43_Node → Option (Int))) : List S_ref43_Node → Nat → Int → Option (Int)
 | [], _, y0_0 => some y0_0
 | e0 :: xs0, i0, y0_0 =>
  (rec_ e0).bind fun x17 =>
  ref43_Depth_L0 rec_ xs0 (i0 + 1) (max y0_0 x17)
noncomputable def ref43_Depth : Nat → S_ref43_Node → Option (Int)
 | 0, _ => none
 | n + 1, n' =>
  (chk (n'.Kids.length ≤ szMax)).bind fun _ =>
  (ref43_Depth_L0 (ref43_Depth n) n'.Kids 0 0).bind fun t0 =>
  (chk (InI (t0 + 1))).bind fun _ =>
  some (t0 + 1)
set_option maxHeartbeats 8000000 in
theorem ref43_Depth_ok : ∀ {n : Nat} {n' : S_ref43_Node} {ap0_0 : Option Addr} {cp0_0 : Nat} {K : Hp} {r : Int}
  (hm : ref43_Depth n n' = some r) (hp0_0 : LiC S_ref43_Node.R K ap0_0 cp0_0 4 n'.Kids),
  Fn Tryd.prog 26 [.agg #[.int .i64 n'.Kind, str n'.Text, .slice ap0_0 n'.Kids.length cp0_0, .int .i64 n'.Line]] K [] (fun v K' H' => v = .int .i64 r ∧ H' = []) := by
 intro n
 induction n with
 | zero =>
  intro n' ap0_0 cp0_0 K r hm hp0_0
  rw [ref43_Depth.eq_1] at hm; cases hm
 | succ n ih =>
  intro n' ap0_0 cp0_0 K r hm hp0_0
  refine Fn.enter Tryd.func26 Tryd.call26 rfl fun F => ?_
  rw [ref43_Depth.eq_2] at hm
  conv => whnf
  refine box_rule ?_
  intro b1
  conv => whnf
  refine field_addr rfl ?_
  conv => whnf
  refine RStep.of (load1_s r0 rfl rfl ?_)
  conv => whnf
  refine RStep.of (len_slice rfl ?_)
  obtain ⟨hk0, hm⟩ := chkb hm
  obtain ⟨s0, hl0, hm⟩ := bnd hm
  conv => whnf
  refine code_cut (σ := (Int)) [3, 4, 8, 9, 10, 11, 12, 13, 14, 15, 16, 17, 18, 19] (fun t0 => [(3, .int .i64 t0)]) (fun t0 => [Cells b1 24 [.int .i64 n'.Kind, str n'.Text, .slice ap0_0 n'.Kids.length cp0_0, .int .i64 n'.Line], F]) (fun zz K1 => match zz with | t0 => t0 = s0) ?_ ?_
  ·refine block_go rfl ?_
   conv => whnf
   refine loop_rule (σ := Nat × Int) [3, 4, 8, 9, 10, 11, 12, 13, 14, 15, 16, 17, 18, 19] (fun (i0, y0_0) => [(8, .int .i64 (i0 : Int)), (3, .int .i64 y0_0)]) (fun (i0, y0_0) => [Cells b1 24 [.int .i64 n'.Kind, str n'.Text, .slice ap0_0 n'.Kids.length cp0_0, .int .i64 n'.Line], F]) (fun zz K1 => match zz with | (i0, y0_0) => ref43_Depth_L0 (ref43_Depth n) (n'.Kids.drop i0) i0 y0_0 = some s0) (fun zz => n'.Kids.length - zz.1) (0, 0) rfl ⟨rfl, rfl, trivial⟩ (ConvH.of (.cons r0 (.cons r0 .nil))) hl0 ?_
   clear hl0
   rintro ⟨i0, y0_0⟩ Kb0 lk0 hl0 j0
   conv at hl0 => whnf
   conv => whnf
   refine cond_go rfl ?_
   conv => whnf
   refine cond_s (fun w0 => ?_) (fun w0 => ?_)
   ·obtain ⟨e0, hx0, hd0⟩ := ltx w0
    rw [hd0, ref43_Depth_L0.eq_2] at hl0
    conv => whnf
    refine block_go rfl ?_
    conv => whnf
    refine field_addr rfl ?_
    conv => whnf
    refine RStep.of (load1_s r0 rfl rfl ?_)
    conv => whnf
    refine RStep.ofN (index_addr rfl rfl (hasR (LiC.mono S_ref43_Node.R_ok lk0 hp0_0).rd hx0) (nn _) (lt_ofN hx0) ?_)
    obtain ⟨ss16, cc16, hr16, hc16, hR16⟩ := LiR.get (LiC.mono S_ref43_Node.R_ok lk0 hp0_0).rd hx0
    obtain ⟨a16_0, c16_0, rfl, h16_0⟩ := S_ref43_Node.out hR16
    conv => whnf
    refine RStep.of (load_rd_agg i0 _ hr16 rfl hc16 rfl ?_)
    obtain ⟨x17, q17, hl0⟩ := bnd hl0
    conv => whnf
    refine call_fn (ih (n' := e0) q17 h16_0) .nil ?_
    rintro _ K17 _ l17 ⟨rfl, rfl⟩
    conv => whnf
    refine RStep.of (max_int ?_)
    conv => whnf
    refine int_in (cntz hx0 hk0) ?_
    conv => whnf
    refine RoundStep.mk (i0 + 1, (max y0_0 x17)) ⟨rfl, rfl, trivial⟩ (by repeat (first | exact trivial | refine And.intro rfl ?_)) (ConvH.of (.cons r0 (.cons r0 .nil))) (lk0.trans l17) (ltm hx0) hl0
   ·rw [lty w0, ref43_Depth_L0.eq_1] at hl0
    conv => whnf
    refine cond_T ?_
    conv => whnf
    refine MeetStep.mk (y0_0) ⟨rfl, trivial⟩ (by repeat (first | exact trivial | refine And.intro rfl ?_)) (ConvH.of (.cons r0 (.cons r0 .nil))) lk0 (si hl0)
  ·rintro t0 Kt0 lt0 rfl j0
   obtain ⟨h21, hm⟩ := chkb hm
   conv => whnf
   refine int_in h21 ?_
   obtain rfl := si hm
   conv => whnf
   refine EndStep.mk _ lt0 ⟨rfl, rfl⟩ (ConvH.of (.cons r1 .nil))

noncomputable def ref43_compares_L0 (s : Str) : Nat → Nat → Option (Fl (Bool) (Unit))
 | 0, _ => some (Fl.go ())
 | xs0 + 1, i0 =>
  (ix ([([61, 61] : Str), ([33, 61] : Str), ([60] : Str), ([60, 61] : Str), ([115, 116, 97, 114, 116, 115] : Str), ([101, 110, 100, 115] : Str), ([99, 111, 110, 116, 97, 105, 110, 115] : Str)]) (i0 : Int)).bind fun x9 =>
  if decide (s = x9) then
  some (Fl.ret true)
  else
  ref43_compares_L0 s xs0 (i0 + 1)
noncomputable def ref43_compares (s : Str) : Option (Bool) :=
 (chk (InI (7 : Int))).bind fun _ =>
 (ref43_compares_L0 s (7 : Int).toNat 0).bind fun s0 => s0.el some fun t0 =>
 some false
set_option maxHeartbeats 8000000 in
theorem ref43_compares_ok {s : Str} {K : Hp} {r : Bool}
  (hm : ref43_compares s = some r)  :
  Fn Tryd.prog 75 [str s] K [] (fun v K' H' => v = .bool r ∧ H' = []) := by
 refine Fn.enter Tryd.func75 Tryd.call75 rfl fun F => ?_
 unfold ref43_compares at hm
 conv => whnf
 refine bsO (len := 7) (enc := eS) (l := [([61, 61] : Str), ([33, 61] : Str), ([60] : Str), ([60, 61] : Str), ([115, 116, 97, 114, 116, 115] : Str), ([101, 110, 100, 115] : Str), ([99, 111, 110, 116, 97, 105, 110, 115] : Str)]) (cl := [str ([61, 61] : Str), str ([33, 61] : Str), str ([60] : Str), str ([60, 61] : Str), str ([115, 116, 97, 114, 116, 115] : Str), str ([101, 110, 100, 115] : Str), str ([99, 111, 110, 116, 97, 105, 110, 115] : Str)]) elT114 rfl rfl (fun _ _ => rfl) rfl rfl rfl ?_ fun b5 => ?_
 ·conv => whnf
  refine cond_T ?_
  conv => whnf
  refine cond_T ?_
  conv => whnf
  refine cond_T ?_
  conv => whnf
  refine cond_T ?_
  conv => whnf
  refine cond_T ?_
  conv => whnf
  refine cond_T ?_
  conv => whnf
  refine cond_T ?_
  conv => whnf
  first | done | rfl
 conv => whnf
 refine RStep.of (len_slice rfl ?_)
 obtain ⟨hk0, hm⟩ := chkb hm
 obtain ⟨s0, hl0, hm⟩ := bnd hm
 conv => whnf
 refine code_cut (σ := (Unit)) [2, 4, 7, 8, 9, 10, 11, 12, 13, 14] (fun t0 => []) (fun t0 => [OwnL eS (some ⟨b5, 0, none⟩) 9 1 7 ([([61, 61] : Str), ([33, 61] : Str), ([60] : Str), ([60, 61] : Str), ([115, 116, 97, 114, 116, 115] : Str), ([101, 110, 100, 115] : Str), ([99, 111, 110, 116, 97, 105, 110, 115] : Str)]), F]) (fun zz K1 => match zz with | t0 => s0 = Fl.go t0) ?_ ?_
 ·refine block_go rfl ?_
  conv => whnf
  refine loop_rule (σ := Nat) [2, 4, 7, 8, 9, 10, 11, 12, 13, 14] (fun i0 => [(7, .int .i64 (i0 : Int))]) (fun i0 => [OwnL eS (some ⟨b5, 0, none⟩) 9 1 7 ([([61, 61] : Str), ([33, 61] : Str), ([60] : Str), ([60, 61] : Str), ([115, 116, 97, 114, 116, 115] : Str), ([101, 110, 100, 115] : Str), ([99, 111, 110, 116, 97, 105, 110, 115] : Str)]), F]) (fun zz K1 => match zz with | i0 => ref43_compares_L0 s ((7 : Int).toNat - i0) i0 = some s0) (fun zz => (7 : Int).toNat - zz) (0) rfl ⟨rfl, trivial⟩ (ConvH.of (.cons r0 (.cons r0 .nil))) hl0 ?_
  clear hl0
  rintro i0 Kb0 lk0 hl0 j0
  conv at hl0 => whnf
  conv => whnf
  refine cond_go rfl ?_
  conv => whnf
  refine cond_s (fun w0 => ?_) (fun w0 => ?_)
  ·rw [ltn (n := (7 : Int)) w0, ref43_compares_L0.eq_2] at hl0
   conv => whnf
   refine block_go rfl ?_
   obtain ⟨x9, l9, k9, hl0⟩ := ixb hl0
   conv => whnf
   refine RStep.ofN (index_addr rfl rfl (hasO (fun _ => ⟨_, _, rfl⟩) k9) l9 (lt_ofE rfl l9 k9) ?_)
   conv => whnf
   refine RStep.of (ld_own (i := ((i0 : Int)).toNat) (o := 0) r0 rfl k9 rfl rfl ?_)
   conv => whnf
   refine eq_str ?_
   conv => whnf
   refine cond_go rfl ?_
   conv => whnf
   refine cond_s (fun w13 => ?_) (fun w13 => ?_)
   ·replace hl0 := ift w13 hl0
    obtain rfl := si hl0
    replace hm := elr hm
    obtain rfl := si hm
    conv => whnf
    refine EndStep.mk _ lk0 ⟨rfl, rfl⟩ (ConvH.of (.cons r1 .nil))
   ·replace hl0 := iff_ w13 hl0
    conv => whnf
    refine int_in (cntn w0 hk0) ?_
    conv => whnf
    refine RoundStep.mk (i0 + 1) ⟨rfl, trivial⟩ (by repeat (first | exact trivial | refine And.intro rfl ?_)) (ConvH.of (.cons r0 (.cons r0 .nil))) lk0 (ltnm w0) hl0
  ·rw [lto (n := (7 : Int)) w0, ref43_compares_L0.eq_1] at hl0
   conv => whnf
   refine cond_T ?_
   conv => whnf
   refine MeetStep.mk (()) trivial (by repeat (first | exact trivial | refine And.intro rfl ?_)) (ConvH.of (.cons r0 (.cons r0 .nil))) lk0 (si hl0).symm
 ·rintro t0 Kt0 lt0 rfl j0
  replace hm := elg hm
  obtain rfl := si hm
  conv => whnf
  refine EndStep.mk _ lt0 ⟨rfl, rfl⟩ (ConvH.of (.cons r1 .nil))

noncomputable def ref42_letter (c : UInt8) : Option (Bool) :=
 some ((decide ((c.toNat : Int) ≥ 97) && decide ((c.toNat : Int) ≤ 122)) || decide ((c.toNat : Int) = 95))
set_option maxHeartbeats 8000000 in
theorem ref42_letter_ok {c : UInt8} {K : Hp} {r : Bool}
  (hm : ref42_letter c = some r)  :
  Fn Tryd.prog 92 [.int .u8 (c.toNat : Int)] K [] (fun v K' H' => v = .bool r ∧ H' = []) := by
 refine Fn.enter Tryd.func92 Tryd.call92 rfl fun F => ?_
 unfold ref42_letter at hm
 conv => whnf
 refine cond_s (fun g5_1 => ?_) (fun g5_1 => ?_)
 ·conv => whnf
  refine cond_t g5_1 ?_
  conv => whnf
  refine cond_t g5_1 ?_
  conv => whnf
  refine cond_s (fun g9_1 => ?_) (fun g9_1 => ?_)
  ·conv => whnf
   refine cond_t g9_1 ?_
   conv => whnf
   refine cond_t g9_1 ?_
   obtain rfl := si hm
   conv => whnf
   refine EndStep.mk _ (Hp.Le.refl _) ⟨(by rw [← ((or_t (and_t g5_1 g9_1))).symm] <;> rfl), rfl⟩ (ConvH.of (.cons r0 .nil))
  ·conv => whnf
   refine cond_f g9_1 ?_
   conv => whnf
   refine eq_int ?_
   conv => whnf
   refine cond_f g9_1 ?_
   obtain rfl := si hm
   conv => whnf
   refine EndStep.mk _ (Hp.Le.refl _) ⟨(by rw [← (or_e (b := decide ((c.toNat : Int) = 95)) (and_g g5_1 g9_1))] <;> rfl), rfl⟩ (ConvH.of (.cons r0 .nil))
 ·conv => whnf
  refine cond_f g5_1 ?_
  conv => whnf
  refine cond_f g5_1 ?_
  conv => whnf
  refine cond_F ?_
  conv => whnf
  refine cond_F ?_
  conv => whnf
  refine eq_int ?_
  conv => whnf
  refine cond_F ?_
  obtain rfl := si hm
  conv => whnf
  refine EndStep.mk _ (Hp.Le.refl _) ⟨(by rw [← (or_e (b := decide ((c.toNat : Int) = 95)) (and_f g5_1))] <;> rfl), rfl⟩ (ConvH.of (.cons r0 .nil))

noncomputable def ref42_digit (c : UInt8) : Option (Bool) :=
 some (decide ((c.toNat : Int) ≥ 48) && decide ((c.toNat : Int) ≤ 57))
set_option maxHeartbeats 8000000 in
theorem ref42_digit_ok {c : UInt8} {K : Hp} {r : Bool}
  (hm : ref42_digit c = some r)  :
  Fn Tryd.prog 93 [.int .u8 (c.toNat : Int)] K [] (fun v K' H' => v = .bool r ∧ H' = []) := by
 refine Fn.enter Tryd.func93 Tryd.call93 rfl fun F => ?_
 unfold ref42_digit at hm
 conv => whnf
 refine cond_s (fun g5_1 => ?_) (fun g5_1 => ?_)
 ·conv => whnf
  refine cond_t g5_1 ?_
  conv => whnf
  refine cond_t g5_1 ?_
  obtain rfl := si hm
  conv => whnf
  refine EndStep.mk _ (Hp.Le.refl _) ⟨(by rw [← (and_e (b := decide ((c.toNat : Int) ≤ 57)) g5_1)] <;> rfl), rfl⟩ (ConvH.of (.cons r0 .nil))
 ·conv => whnf
  refine cond_f g5_1 ?_
  conv => whnf
  refine cond_f g5_1 ?_
  obtain rfl := si hm
  conv => whnf
  refine EndStep.mk _ (Hp.Le.refl _) ⟨(by rw [← ((and_f g5_1)).symm] <;> rfl), rfl⟩ (ConvH.of (.cons r0 .nil))

noncomputable def ref42_quoted_L0 (s : Str) : Nat → Str → Int → Option (Fl (Int × Str × Int) (Str × Int))
 | 0, _, _ => none
 | xs0 + 1, y0_0, y0_1 =>
  if decide (y0_1 < (s.length : Int)) then
  (ix s y0_1).bind fun x16 =>
  if decide ((x16.toNat : Int) = 34) then
  (chk (InI (y0_1 + 1))).bind fun _ =>
  some (Fl.ret (3, y0_0, (y0_1 + 1)))
  else
  if (decide ((x16.toNat : Int) < 32) || decide ((x16.toNat : Int) > 126)) then
  some (Fl.ret (0, ([] : Str), 0))
  else
  if decide ((x16.toNat : Int) = 92) then
  (chk (InI (y0_1 + 1))).bind fun _ =>
  if decide ((y0_1 + 1) = (s.length : Int)) then
  some (Fl.ret (0, ([] : Str), 0))
  else
  (ix s (y0_1 + 1)).bind fun x42 =>
  (if decide ((x42.toNat : Int) ≠ 92) then (ix s (y0_1 + 1)).bind fun x47 =>
  some (decide ((x47.toNat : Int) ≠ 34)) else some false).bind fun x49 =>
  if x49 then
  some (Fl.ret (0, ([] : Str), 0))
  else
  (chk (InI ((y0_1 + 1) + 1))).bind fun _ =>
  (chk (0 ≤ (y0_1 + 1) ∧ (y0_1 + 1) ≤ ((y0_1 + 1) + 1) ∧ ((y0_1 + 1) + 1) ≤ (s.length : Int))).bind fun _ =>
  (chk (y0_0.length + (subL s (y0_1 + 1) ((y0_1 + 1) + 1)).length ≤ lim)).bind fun _ =>
  (chk (InI ((y0_1 + 1) + 1))).bind fun _ =>
  ref42_quoted_L0 s xs0 (y0_0 ++ (subL s (y0_1 + 1) ((y0_1 + 1) + 1))) ((y0_1 + 1) + 1)
  else
  (chk (InI (y0_1 + 1))).bind fun _ =>
  (chk (0 ≤ y0_1 ∧ y0_1 ≤ (y0_1 + 1) ∧ (y0_1 + 1) ≤ (s.length : Int))).bind fun _ =>
  (chk (y0_0.length + (subL s y0_1 (y0_1 + 1)).length ≤ lim)).bind fun _ =>
  (chk (InI (y0_1 + 1))).bind fun _ =>
  ref42_quoted_L0 s xs0 (y0_0 ++ (subL s y0_1 (y0_1 + 1))) (y0_1 + 1)
  else
  some (Fl.go (y0_0, y0_1))
noncomputable def ref42_quoted (n : Nat) (s : Str) : Option (Int × Str × Int) :=
 (ref42_quoted_L0 s n ([] : Str) 1).bind fun s0 => s0.el some fun t0 =>
 some (0, ([] : Str), 0)
set_option maxHeartbeats 8000000 in
theorem ref42_quoted_ok {n : Nat} {s : Str} {K : Hp} {r : Int × Str × Int}
  (hm : ref42_quoted n s = some r)  :
  Fn Tryd.prog 94 [str s] K [] (fun v K' H' => v = .tuple #[.int .i64 r.1, str r.2.1, .int .i64 r.2.2] ∧ H' = []) := by
 refine Fn.enter Tryd.func94 Tryd.call94 rfl fun F => ?_
 unfold ref42_quoted at hm
 obtain ⟨s0, hl0, hm⟩ := bnd hm
 conv => whnf
 refine code_cut (σ := (Str × Int)) [2, 3, 4, 5, 6, 7, 8, 9, 10, 11, 12, 13, 14, 15, 16, 17, 18, 19, 20, 21, 22, 23, 24, 25, 26, 27, 28, 29, 30, 31, 32, 33, 34, 35, 36, 37, 38, 39, 40, 41, 42, 43, 44, 45, 46, 47, 48, 49, 50, 51, 52, 53, 54, 55, 56, 57] (fun t0 => [(5, str t0.1), (6, .int .i64 t0.2)]) (fun t0 => [F]) (fun zz K1 => match zz with | t0 => s0 = Fl.go t0) ?_ ?_
 ·refine block_go rfl ?_
  conv => whnf
  refine loop_rule (σ := Nat × Str × Int) [2, 3, 4, 5, 6, 7, 8, 9, 10, 11, 12, 13, 14, 15, 16, 17, 18, 19, 20, 21, 22, 23, 24, 25, 26, 27, 28, 29, 30, 31, 32, 33, 34, 35, 36, 37, 38, 39, 40, 41, 42, 43, 44, 45, 46, 47, 48, 49, 50, 51, 52, 53, 54, 55, 56, 57] (fun (i0, y0_0, y0_1) => [(5, str y0_0), (6, .int .i64 y0_1)]) (fun (i0, y0_0, y0_1) => [F]) (fun zz K1 => match zz with | (i0, y0_0, y0_1) => ref42_quoted_L0 s i0 y0_0 y0_1 = some s0) (fun zz => zz.1) (n, ([] : Str), 1) rfl ⟨rfl, rfl, trivial⟩ (ConvH.of (.cons r0 .nil)) hl0 ?_
  clear hl0
  rintro ⟨i0, y0_0, y0_1⟩ Kb0 lk0 hl0 j0
  conv at hl0 => whnf
  cases i0 with
  | zero => rw [ref42_quoted_L0.eq_1] at hl0; cases hl0
  | succ i0 =>
   rw [ref42_quoted_L0.eq_2] at hl0
   conv => whnf
   refine RStep.of (len_str rfl ?_)
   conv => whnf
   refine cond_go rfl ?_
   conv => whnf
   refine cond_s (fun w11 => ?_) (fun w11 => ?_)
   ·replace hl0 := ift w11 hl0
    conv => whnf
    refine block_go rfl ?_
    obtain ⟨x16, l16, k16, hl0⟩ := ixb hl0
    conv => whnf
    refine idx_str rfl l16 k16 ?_
    conv => whnf
    refine block_go rfl ?_
    conv => whnf
    refine eq_int ?_
    conv => whnf
    refine cond_go rfl ?_
    conv => whnf
    refine cond_s (fun w17 => ?_) (fun w17 => ?_)
    ·replace hl0 := ift w17 hl0
     obtain ⟨h22, hl0⟩ := chkb hl0
     conv => whnf
     refine int_in h22 ?_
     obtain rfl := si hl0
     replace hm := elr hm
     obtain rfl := si hm
     conv => whnf
     refine EndStep.mk _ lk0 ⟨rfl, rfl⟩ (ConvH.of (.cons r0 .nil))
    ·replace hl0 := iff_ w17 hl0
     conv => whnf
     refine cond_s (fun g26_8 => ?_) (fun g26_8 => ?_)
     ·conv => whnf
      refine cond_t g26_8 ?_
      conv => whnf
      refine cond_t g26_8 ?_
      conv => whnf
      refine cond_go rfl ?_
      conv => whnf
      refine cond_T ?_
      replace hl0 := ift (or_t g26_8) hl0
      obtain rfl := si hl0
      replace hm := elr hm
      obtain rfl := si hm
      conv => whnf
      refine EndStep.mk _ lk0 ⟨rfl, rfl⟩ (ConvH.of (.cons r0 .nil))
     ·conv => whnf
      refine cond_f g26_8 ?_
      conv => whnf
      refine cond_f g26_8 ?_
      conv => whnf
      refine cond_go rfl ?_
      conv => whnf
      refine cond_s (fun w23 => ?_) (fun w23 => ?_)
      ·replace hl0 := ift (or_u g26_8 w23) hl0
       obtain rfl := si hl0
       replace hm := elr hm
       obtain rfl := si hm
       conv => whnf
       refine EndStep.mk _ lk0 ⟨rfl, rfl⟩ (ConvH.of (.cons r0 .nil))
      ·replace hl0 := iff_ (or_f g26_8 w23) hl0
       conv => whnf
       refine eq_int ?_
       conv => whnf
       refine cond_go rfl ?_
       conv => whnf
       refine cond_s (fun w30 => ?_) (fun w30 => ?_)
       ·replace hl0 := ift w30 hl0
        obtain ⟨h34, hl0⟩ := chkb hl0
        conv => whnf
        refine int_in h34 ?_
        conv => whnf
        refine RStep.of (len_str rfl ?_)
        conv => whnf
        refine eq_int ?_
        conv => whnf
        refine cond_s (fun g39_12 => ?_) (fun g39_12 => ?_)
        ·replace hl0 := ift g39_12 hl0
         conv => whnf
         refine cond_t g39_12 ?_
         conv => whnf
         refine cond_t g39_12 ?_
         conv => whnf
         refine cond_t g39_12 ?_
         conv => whnf
         refine cond_t g39_12 ?_
         conv => whnf
         refine cond_t g39_12 ?_
         conv => whnf
         refine cond_t g39_12 ?_
         conv => whnf
         refine cond_go rfl ?_
         conv => whnf
         refine cond_T ?_
         obtain rfl := si hl0
         replace hm := elr hm
         obtain rfl := si hm
         conv => whnf
         refine EndStep.mk _ lk0 ⟨rfl, rfl⟩ (ConvH.of (.cons r0 .nil))
        ·replace hl0 := iff_ g39_12 hl0
         conv => whnf
         refine cond_f g39_12 ?_
         conv => whnf
         refine cond_f g39_12 ?_
         obtain ⟨x42, l42, k42, hl0⟩ := ixb hl0
         conv => whnf
         refine idx_str rfl l42 k42 ?_
         conv => whnf
         refine cond_f g39_12 ?_
         conv => whnf
         refine neq_int ?_
         conv => whnf
         refine cond_f g39_12 ?_
         obtain ⟨x49, e49, hl0⟩ := bnd hl0
         conv => whnf
         refine cond_s (fun g44_12 => ?_) (fun g44_12 => ?_)
         ·replace e49 := ift g44_12 e49
          conv => whnf
          refine cond_t g44_12 ?_
          conv => whnf
          refine cond_t g44_12 ?_
          obtain ⟨x47, l47, k47, e49⟩ := ixb e49
          conv => whnf
          refine idx_str rfl l47 k47 ?_
          conv => whnf
          refine cond_t g44_12 ?_
          conv => whnf
          refine neq_int ?_
          conv => whnf
          refine cond_f g39_12 ?_
          conv => whnf
          refine cond_t g44_12 ?_
          conv => whnf
          refine cond_f g39_12 ?_
          conv => whnf
          refine cond_go rfl ?_
          conv => whnf
          refine cond_s (fun w50 => ?_) (fun w50 => ?_)
          ·replace hl0 := ift ((si e49).symm.trans w50) hl0
           obtain rfl := si hl0
           replace hm := elr hm
           obtain rfl := si hm
           conv => whnf
           refine EndStep.mk _ lk0 ⟨rfl, rfl⟩ (ConvH.of (.cons r0 .nil))
          ·replace hl0 := iff_ ((si e49).symm.trans w50) hl0
           obtain ⟨h55, hl0⟩ := chkb hl0
           conv => whnf
           refine int_in h55 ?_
           obtain ⟨h56, hl0⟩ := chkb hl0
           conv => whnf
           refine RStep.ofN (sl_str (lo := (some (y0_1 + 1))) (hi := (some ((y0_1 + 1) + 1))) rfl h56 ?_)
           obtain ⟨h57, hl0⟩ := chkb hl0
           conv => whnf
           refine cat_str h57 ?_
           obtain ⟨h13, hl0⟩ := chkb hl0
           conv => whnf
           refine int_in h13 ?_
           conv => whnf
           refine RoundStep.mk (i0, (y0_0 ++ (subL s (y0_1 + 1) ((y0_1 + 1) + 1))), ((y0_1 + 1) + 1)) ⟨rfl, rfl, trivial⟩ (by repeat (first | exact trivial | refine And.intro rfl ?_)) (ConvH.of (.cons r0 .nil)) lk0 (Nat.lt_succ_self _) hl0
         ·replace e49 := iff_ g44_12 e49
          conv => whnf
          refine cond_f g44_12 ?_
          conv => whnf
          refine cond_f g44_12 ?_
          conv => whnf
          refine cond_f g44_12 ?_
          conv => whnf
          refine cond_f g39_12 ?_
          conv => whnf
          refine cond_f g44_12 ?_
          conv => whnf
          refine cond_f g39_12 ?_
          conv => whnf
          refine cond_go rfl ?_
          conv => whnf
          refine cond_F ?_
          replace hl0 := iff_ (si e49).symm hl0
          obtain ⟨h55, hl0⟩ := chkb hl0
          conv => whnf
          refine int_in h55 ?_
          obtain ⟨h56, hl0⟩ := chkb hl0
          conv => whnf
          refine RStep.ofN (sl_str (lo := (some (y0_1 + 1))) (hi := (some ((y0_1 + 1) + 1))) rfl h56 ?_)
          obtain ⟨h57, hl0⟩ := chkb hl0
          conv => whnf
          refine cat_str h57 ?_
          obtain ⟨h13, hl0⟩ := chkb hl0
          conv => whnf
          refine int_in h13 ?_
          conv => whnf
          refine RoundStep.mk (i0, (y0_0 ++ (subL s (y0_1 + 1) ((y0_1 + 1) + 1))), ((y0_1 + 1) + 1)) ⟨rfl, rfl, trivial⟩ (by repeat (first | exact trivial | refine And.intro rfl ?_)) (ConvH.of (.cons r0 .nil)) lk0 (Nat.lt_succ_self _) hl0
       ·replace hl0 := iff_ w30 hl0
        obtain ⟨h55, hl0⟩ := chkb hl0
        conv => whnf
        refine int_in h55 ?_
        obtain ⟨h56, hl0⟩ := chkb hl0
        conv => whnf
        refine RStep.ofN (sl_str (lo := (some y0_1)) (hi := (some (y0_1 + 1))) rfl h56 ?_)
        obtain ⟨h57, hl0⟩ := chkb hl0
        conv => whnf
        refine cat_str h57 ?_
        obtain ⟨h13, hl0⟩ := chkb hl0
        conv => whnf
        refine int_in h13 ?_
        conv => whnf
        refine RoundStep.mk (i0, (y0_0 ++ (subL s y0_1 (y0_1 + 1))), (y0_1 + 1)) ⟨rfl, rfl, trivial⟩ (by repeat (first | exact trivial | refine And.intro rfl ?_)) (ConvH.of (.cons r0 .nil)) lk0 (Nat.lt_succ_self _) hl0
   ·replace hl0 := iff_ w11 hl0
    conv => whnf
    refine cond_T ?_
    conv => whnf
    refine MeetStep.mk ((y0_0, y0_1)) ⟨rfl, rfl, trivial⟩ (by repeat (first | exact trivial | refine And.intro rfl ?_)) (ConvH.of (.cons r0 .nil)) lk0 (si hl0).symm
 ·rintro t0 Kt0 lt0 rfl j0
  replace hm := elg hm
  obtain rfl := si hm
  conv => whnf
  refine EndStep.mk _ lt0 ⟨rfl, rfl⟩ (ConvH.of (.cons r0 .nil))

noncomputable def ref42_take_L1 (s : Str) : Nat → Int → Option (Int)
 | 0, _ => none
 | xs1 + 1, y1_0 =>
  if decide (y1_0 < (s.length : Int)) then
  (ix s y1_0).bind fun x19 =>
  (ref42_letter x19).bind fun x20 =>
  (if x20 then some true else (ix s y1_0).bind fun x24 =>
  (ref42_digit x24).bind fun x25 =>
  some x25).bind fun x26 =>
  if x26 then
  (chk (InI (y1_0 + 1))).bind fun _ =>
  ref42_take_L1 s xs1 (y1_0 + 1)
  else
  some y1_0
  else
  some y1_0
noncomputable def ref42_take_L3 (s : Str) : Nat → Int → Option (Int)
 | 0, _ => none
 | xs3 + 1, y3_0 =>
  (if decide (y3_0 < (s.length : Int)) then (ix s y3_0).bind fun x45 =>
  (ref42_digit x45).bind fun x46 =>
  some x46 else some false).bind fun x47 =>
  if x47 then
  (chk (InI (y3_0 + 1))).bind fun _ =>
  ref42_take_L3 s xs3 (y3_0 + 1)
  else
  some y3_0
noncomputable def ref42_take_L5 (s : Str) : Nat → Nat → Option (Fl (Int × Str × Int) (Unit))
 | 0, _ => some (Fl.go ())
 | xs5 + 1, i5 =>
  (ix ([([61, 61] : Str), ([33, 61] : Str), ([60, 61] : Str), ([60] : Str), ([43] : Str), ([45] : Str), ([42] : Str), ([40] : Str), ([41] : Str), ([123] : Str), ([125] : Str), ([44] : Str), ([59] : Str), ([61] : Str)]) (i5 : Int)).bind fun x75 =>
  (if decide ((s.length : Int) ≥ (x75.length : Int)) then (ix ([([61, 61] : Str), ([33, 61] : Str), ([60, 61] : Str), ([60] : Str), ([43] : Str), ([45] : Str), ([42] : Str), ([40] : Str), ([41] : Str), ([123] : Str), ([125] : Str), ([44] : Str), ([59] : Str), ([61] : Str)]) (i5 : Int)).bind fun x83 =>
  (chk (0 ≤ (0 : Int) ∧ (0 : Int) ≤ (x83.length : Int) ∧ (x83.length : Int) ≤ (s.length : Int))).bind fun _ =>
  (ix ([([61, 61] : Str), ([33, 61] : Str), ([60, 61] : Str), ([60] : Str), ([43] : Str), ([45] : Str), ([42] : Str), ([40] : Str), ([41] : Str), ([123] : Str), ([125] : Str), ([44] : Str), ([59] : Str), ([61] : Str)]) (i5 : Int)).bind fun x89 =>
  some (decide ((subL s (0 : Int) (x83.length : Int)) = x89)) else some false).bind fun x92 =>
  if x92 then
  (ix ([([61, 61] : Str), ([33, 61] : Str), ([60, 61] : Str), ([60] : Str), ([43] : Str), ([45] : Str), ([42] : Str), ([40] : Str), ([41] : Str), ([123] : Str), ([125] : Str), ([44] : Str), ([59] : Str), ([61] : Str)]) (i5 : Int)).bind fun x95 =>
  (ix ([([61, 61] : Str), ([33, 61] : Str), ([60, 61] : Str), ([60] : Str), ([43] : Str), ([45] : Str), ([42] : Str), ([40] : Str), ([41] : Str), ([123] : Str), ([125] : Str), ([44] : Str), ([59] : Str), ([61] : Str)]) (i5 : Int)).bind fun x99 =>
  some (Fl.ret (4, x95, (x99.length : Int)))
  else
  ref42_take_L5 s xs5 (i5 + 1)
noncomputable def ref42_take (n : Nat) (s : Str) : Option (Int × Str × Int) :=
 (ix s 0).bind fun x10 =>
 (ref42_letter x10).bind fun x11 =>
 if x11 then
 (ref42_take_L1 s n 0).bind fun t1 =>
 (chk (0 ≤ (0 : Int) ∧ (0 : Int) ≤ t1 ∧ t1 ≤ (s.length : Int))).bind fun _ =>
 some (1, (subL s (0 : Int) t1), t1)
 else
 (ix s 0).bind fun x36 =>
 (ref42_digit x36).bind fun x37 =>
 if x37 then
 (ref42_take_L3 s n 0).bind fun t3 =>
 if decide (t3 > 9) then
 some (0, ([] : Str), 0)
 else
 (chk (0 ≤ (0 : Int) ∧ (0 : Int) ≤ t3 ∧ t3 ≤ (s.length : Int))).bind fun _ =>
 some (2, (subL s (0 : Int) t3), t3)
 else
 (ix s 0).bind fun x58 =>
 if decide ((x58.toNat : Int) = 34) then
 (ref42_quoted n s).bind fun x61 =>
 some (x61.1, x61.2.1, x61.2.2)
 else
 (chk (InI (14 : Int))).bind fun _ =>
 (ref42_take_L5 s (14 : Int).toNat 0).bind fun s5 => s5.el some fun t5 =>
 some (0, ([] : Str), 0)
set_option maxHeartbeats 8000000 in
theorem ref42_take_ok {n : Nat} {s : Str} {K : Hp} {r : Int × Str × Int}
  (hm : ref42_take n s = some r)  :
  Fn Tryd.prog 90 [str s] K [] (fun v K' H' => v = .tuple #[.int .i64 r.1, str r.2.1, .int .i64 r.2.2] ∧ H' = []) := by
 refine Fn.enter Tryd.func90 Tryd.call90 rfl fun F => ?_
 unfold ref42_take at hm
 conv => whnf
 refine block_go rfl ?_
 obtain ⟨x10, l10, k10, hm⟩ := ixb hm
 conv => whnf
 refine idx_str rfl l10 k10 ?_
 obtain ⟨x11, q11, hm⟩ := bnd hm
 conv => whnf
 refine call_fn (ref42_letter_ok (c := x10) q11) .nil ?_
 rintro _ K11 _ l11 ⟨rfl, rfl⟩
 conv => whnf
 refine cond_go rfl ?_
 conv => whnf
 refine cond_s (fun w8 => ?_) (fun w8 => ?_)
 ·replace hm := ift w8 hm
  obtain ⟨s1, hl1, hm⟩ := bnd hm
  conv => whnf
  refine code_cut (σ := (Int)) [5, 12, 13, 14, 15, 16, 17, 18, 19, 20, 21, 22, 23, 24, 25, 26, 27, 28, 29] (fun t1 => [(5, .int .i64 t1)]) (fun t1 => [F]) (fun zz K1 => match zz with | t1 => t1 = s1) ?_ ?_
  ·refine block_go rfl ?_
   conv => whnf
   refine loop_rule (σ := Nat × Int) [5, 12, 13, 14, 15, 16, 17, 18, 19, 20, 21, 22, 23, 24, 25, 26, 27, 28, 29] (fun (i1, y1_0) => [(5, .int .i64 y1_0)]) (fun (i1, y1_0) => [F]) (fun zz K1 => match zz with | (i1, y1_0) => ref42_take_L1 s i1 y1_0 = some s1) (fun zz => zz.1) (n, 0) rfl ⟨rfl, trivial⟩ (ConvH.of (.cons r0 .nil)) hl1 ?_
   clear hl1
   rintro ⟨i1, y1_0⟩ Kb1 lk1 hl1 j1
   conv at hl1 => whnf
   cases i1 with
   | zero => rw [ref42_take_L1.eq_1] at hl1; cases hl1
   | succ i1 =>
    rw [ref42_take_L1.eq_2] at hl1
    conv => whnf
    refine RStep.of (len_str rfl ?_)
    conv => whnf
    refine cond_s (fun g16_3 => ?_) (fun g16_3 => ?_)
    ·replace hl1 := ift g16_3 hl1
     conv => whnf
     refine cond_t g16_3 ?_
     conv => whnf
     refine cond_t g16_3 ?_
     obtain ⟨x19, l19, k19, hl1⟩ := ixb hl1
     conv => whnf
     refine idx_str rfl l19 k19 ?_
     conv => whnf
     refine cond_t g16_3 ?_
     obtain ⟨x20, q20, hl1⟩ := bnd hl1
     conv => whnf
     refine call_fn (ref42_letter_ok (c := x19) q20) .nil ?_
     rintro _ K20 _ l20 ⟨rfl, rfl⟩
     conv => whnf
     refine cond_t g16_3 ?_
     obtain ⟨x26, e26, hl1⟩ := bnd hl1
     conv => whnf
     refine cond_s (fun g21_3 => ?_) (fun g21_3 => ?_)
     ·replace e26 := ift g21_3 e26
      conv => whnf
      refine cond_t g21_3 ?_
      conv => whnf
      refine cond_t g21_3 ?_
      conv => whnf
      refine cond_t g21_3 ?_
      conv => whnf
      refine cond_t g16_3 ?_
      conv => whnf
      refine cond_t g21_3 ?_
      conv => whnf
      refine cond_t g16_3 ?_
      conv => whnf
      refine cond_go rfl ?_
      conv => whnf
      refine cond_T ?_
      replace hl1 := ift (si e26).symm hl1
      conv => whnf
      refine block_go rfl ?_
      obtain ⟨h29, hl1⟩ := chkb hl1
      conv => whnf
      refine int_in h29 ?_
      conv => whnf
      refine RoundStep.mk (i1, (y1_0 + 1)) ⟨rfl, trivial⟩ (by repeat (first | exact trivial | refine And.intro rfl ?_)) (ConvH.of (.cons r0 .nil)) (lk1.trans l20) (Nat.lt_succ_self _) hl1
     ·replace e26 := iff_ g21_3 e26
      conv => whnf
      refine cond_f g21_3 ?_
      conv => whnf
      refine cond_f g21_3 ?_
      obtain ⟨x24, l24, k24, e26⟩ := ixb e26
      conv => whnf
      refine idx_str rfl l24 k24 ?_
      conv => whnf
      refine cond_f g21_3 ?_
      obtain ⟨x25, q25, e26⟩ := bnd e26
      conv => whnf
      refine call_fn (ref42_digit_ok (c := x24) q25) .nil ?_
      rintro _ K25 _ l25 ⟨rfl, rfl⟩
      conv => whnf
      refine cond_t g16_3 ?_
      conv => whnf
      refine cond_f g21_3 ?_
      conv => whnf
      refine cond_t g16_3 ?_
      conv => whnf
      refine cond_go rfl ?_
      conv => whnf
      refine cond_s (fun w27 => ?_) (fun w27 => ?_)
      ·replace hl1 := ift ((si e26).symm.trans w27) hl1
       conv => whnf
       refine block_go rfl ?_
       obtain ⟨h29, hl1⟩ := chkb hl1
       conv => whnf
       refine int_in h29 ?_
       conv => whnf
       refine RoundStep.mk (i1, (y1_0 + 1)) ⟨rfl, trivial⟩ (by repeat (first | exact trivial | refine And.intro rfl ?_)) (ConvH.of (.cons r0 .nil)) ((lk1.trans l20).trans l25) (Nat.lt_succ_self _) hl1
      ·replace hl1 := iff_ ((si e26).symm.trans w27) hl1
       conv => whnf
       refine cond_T ?_
       conv => whnf
       refine MeetStep.mk (y1_0) ⟨rfl, trivial⟩ (by repeat (first | exact trivial | refine And.intro rfl ?_)) (ConvH.of (.cons r0 .nil)) ((lk1.trans l20).trans l25) (si hl1)
    ·replace hl1 := iff_ g16_3 hl1
     conv => whnf
     refine cond_f g16_3 ?_
     conv => whnf
     refine cond_f g16_3 ?_
     conv => whnf
     refine cond_f g16_3 ?_
     conv => whnf
     refine cond_f g16_3 ?_
     conv => whnf
     refine cond_f g16_3 ?_
     conv => whnf
     refine cond_f g16_3 ?_
     conv => whnf
     refine cond_go rfl ?_
     conv => whnf
     refine cond_F ?_
     conv => whnf
     refine cond_T ?_
     conv => whnf
     refine MeetStep.mk (y1_0) ⟨rfl, trivial⟩ (by repeat (first | exact trivial | refine And.intro rfl ?_)) (ConvH.of (.cons r0 .nil)) lk1 (si hl1)
  ·rintro t1 Kt1 lt1 rfl j1
   conv => whnf
   refine draw_go ⟨⟨[], false⟩, _, []⟩ (by kernel_rfl) ⟨Hp.Le.refl _, (ConvH.of .nil)⟩ ?_
   obtain ⟨h32, hm⟩ := chkb hm
   conv => whnf
   refine sl_str (lo := none) (hi := (some t1)) rfl h32 ?_
   obtain rfl := si hm
   conv => whnf
   refine EndStep.mk _ (l11.trans lt1) ⟨rfl, rfl⟩ (ConvH.of (.cons r0 .nil))
 ·replace hm := iff_ w8 hm
  obtain ⟨x36, l36, k36, hm⟩ := ixb hm
  conv => whnf
  refine idx_str rfl l36 k36 ?_
  obtain ⟨x37, q37, hm⟩ := bnd hm
  conv => whnf
  refine call_fn (ref42_digit_ok (c := x36) q37) .nil ?_
  rintro _ K37 _ l37 ⟨rfl, rfl⟩
  conv => whnf
  refine cond_go rfl ?_
  conv => whnf
  refine cond_s (fun w34 => ?_) (fun w34 => ?_)
  ·replace hm := ift w34 hm
   obtain ⟨s3, hl3, hm⟩ := bnd hm
   conv => whnf
   refine code_cut (σ := (Int)) [5, 38, 39, 40, 41, 42, 43, 44, 45, 46, 47, 48, 49] (fun t3 => [(5, .int .i64 t3)]) (fun t3 => [F]) (fun zz K1 => match zz with | t3 => t3 = s3) ?_ ?_
   ·refine block_go rfl ?_
    conv => whnf
    refine loop_rule (σ := Nat × Int) [5, 38, 39, 40, 41, 42, 43, 44, 45, 46, 47, 48, 49] (fun (i3, y3_0) => [(5, .int .i64 y3_0)]) (fun (i3, y3_0) => [F]) (fun zz K1 => match zz with | (i3, y3_0) => ref42_take_L3 s i3 y3_0 = some s3) (fun zz => zz.1) (n, 0) rfl ⟨rfl, trivial⟩ (ConvH.of (.cons r0 .nil)) hl3 ?_
    clear hl3
    rintro ⟨i3, y3_0⟩ Kb3 lk3 hl3 j3
    conv at hl3 => whnf
    cases i3 with
    | zero => rw [ref42_take_L3.eq_1] at hl3; cases hl3
    | succ i3 =>
     rw [ref42_take_L3.eq_2] at hl3
     conv => whnf
     refine RStep.of (len_str rfl ?_)
     obtain ⟨x47, e47, hl3⟩ := bnd hl3
     conv => whnf
     refine cond_s (fun g42_7 => ?_) (fun g42_7 => ?_)
     ·replace e47 := ift g42_7 e47
      conv => whnf
      refine cond_t g42_7 ?_
      conv => whnf
      refine cond_t g42_7 ?_
      obtain ⟨x45, l45, k45, e47⟩ := ixb e47
      conv => whnf
      refine idx_str rfl l45 k45 ?_
      conv => whnf
      refine cond_t g42_7 ?_
      obtain ⟨x46, q46, e47⟩ := bnd e47
      conv => whnf
      refine call_fn (ref42_digit_ok (c := x45) q46) .nil ?_
      rintro _ K46 _ l46 ⟨rfl, rfl⟩
      conv => whnf
      refine cond_t g42_7 ?_
      conv => whnf
      refine cond_go rfl ?_
      conv => whnf
      refine cond_s (fun w47 => ?_) (fun w47 => ?_)
      ·replace hl3 := ift ((si e47).symm.trans w47) hl3
       conv => whnf
       refine block_go rfl ?_
       obtain ⟨h49, hl3⟩ := chkb hl3
       conv => whnf
       refine int_in h49 ?_
       conv => whnf
       refine RoundStep.mk (i3, (y3_0 + 1)) ⟨rfl, trivial⟩ (by repeat (first | exact trivial | refine And.intro rfl ?_)) (ConvH.of (.cons r0 .nil)) (lk3.trans l46) (Nat.lt_succ_self _) hl3
      ·replace hl3 := iff_ ((si e47).symm.trans w47) hl3
       conv => whnf
       refine cond_T ?_
       conv => whnf
       refine MeetStep.mk (y3_0) ⟨rfl, trivial⟩ (by repeat (first | exact trivial | refine And.intro rfl ?_)) (ConvH.of (.cons r0 .nil)) (lk3.trans l46) (si hl3)
     ·replace e47 := iff_ g42_7 e47
      conv => whnf
      refine cond_f g42_7 ?_
      conv => whnf
      refine cond_f g42_7 ?_
      conv => whnf
      refine cond_f g42_7 ?_
      conv => whnf
      refine cond_f g42_7 ?_
      conv => whnf
      refine cond_go rfl ?_
      conv => whnf
      refine cond_F ?_
      replace hl3 := iff_ (si e47).symm hl3
      conv => whnf
      refine cond_T ?_
      conv => whnf
      refine MeetStep.mk (y3_0) ⟨rfl, trivial⟩ (by repeat (first | exact trivial | refine And.intro rfl ?_)) (ConvH.of (.cons r0 .nil)) lk3 (si hl3)
   ·rintro t3 Kt3 lt3 rfl j3
    conv => whnf
    refine cond_go rfl ?_
    conv => whnf
    refine cond_s (fun w51 => ?_) (fun w51 => ?_)
    ·replace hm := ift w51 hm
     obtain rfl := si hm
     conv => whnf
     refine EndStep.mk _ ((l11.trans l37).trans lt3) ⟨rfl, rfl⟩ (ConvH.of (.cons r0 .nil))
    ·replace hm := iff_ w51 hm
     conv => whnf
     refine draw_go ⟨⟨[], false⟩, _, []⟩ (by kernel_rfl) ⟨Hp.Le.refl _, (ConvH.of .nil)⟩ ?_
     obtain ⟨h54, hm⟩ := chkb hm
     conv => whnf
     refine sl_str (lo := none) (hi := (some t3)) rfl h54 ?_
     obtain rfl := si hm
     conv => whnf
     refine EndStep.mk _ ((l11.trans l37).trans lt3) ⟨rfl, rfl⟩ (ConvH.of (.cons r0 .nil))
  ·replace hm := iff_ w34 hm
   obtain ⟨x58, l58, k58, hm⟩ := ixb hm
   conv => whnf
   refine idx_str rfl l58 k58 ?_
   conv => whnf
   refine eq_int ?_
   conv => whnf
   refine cond_go rfl ?_
   conv => whnf
   refine cond_s (fun w56 => ?_) (fun w56 => ?_)
   ·replace hm := ift w56 hm
    obtain ⟨x61, q61, hm⟩ := bnd hm
    conv => whnf
    refine call_fn (ref42_quoted_ok (s := s) q61) .nil ?_
    rintro _ K61 _ l61 ⟨rfl, rfl⟩
    obtain rfl := si hm
    conv => whnf
    refine EndStep.mk _ ((l11.trans l37).trans l61) ⟨rfl, rfl⟩ (ConvH.of (.cons r0 .nil))
   ·replace hm := iff_ w56 hm
    conv => whnf
    refine bsO (len := 14) (enc := eS) (l := [([61, 61] : Str), ([33, 61] : Str), ([60, 61] : Str), ([60] : Str), ([43] : Str), ([45] : Str), ([42] : Str), ([40] : Str), ([41] : Str), ([123] : Str), ([125] : Str), ([44] : Str), ([59] : Str), ([61] : Str)]) (cl := [str ([61, 61] : Str), str ([33, 61] : Str), str ([60, 61] : Str), str ([60] : Str), str ([43] : Str), str ([45] : Str), str ([42] : Str), str ([40] : Str), str ([41] : Str), str ([123] : Str), str ([125] : Str), str ([44] : Str), str ([59] : Str), str ([61] : Str)]) elT114 rfl rfl (fun _ _ => rfl) rfl rfl rfl ?_ fun b65 => ?_
    ·conv => whnf
     refine cond_T ?_
     conv => whnf
     refine cond_T ?_
     conv => whnf
     refine cond_T ?_
     conv => whnf
     refine cond_T ?_
     conv => whnf
     refine cond_T ?_
     conv => whnf
     refine cond_T ?_
     conv => whnf
     refine cond_T ?_
     conv => whnf
     refine cond_T ?_
     conv => whnf
     refine cond_T ?_
     conv => whnf
     refine cond_T ?_
     conv => whnf
     refine cond_T ?_
     conv => whnf
     refine cond_T ?_
     conv => whnf
     refine cond_T ?_
     conv => whnf
     refine cond_T ?_
     conv => whnf
     first | done | rfl
    conv => whnf
    refine RStep.of (len_slice rfl ?_)
    obtain ⟨hk5, hm⟩ := chkb hm
    obtain ⟨s5, hl5, hm⟩ := bnd hm
    conv => whnf
    refine code_cut (σ := (Unit)) [2, 3, 4, 7, 68, 69, 70, 71, 72, 73, 74, 75, 76, 77, 78, 79, 80, 81, 82, 83, 84, 85, 86, 87, 88, 89, 90, 91, 92, 93, 94, 95, 96, 97, 98, 99, 100, 101, 102] (fun t5 => []) (fun t5 => [OwnL eS (some ⟨b65, 0, none⟩) 9 1 14 ([([61, 61] : Str), ([33, 61] : Str), ([60, 61] : Str), ([60] : Str), ([43] : Str), ([45] : Str), ([42] : Str), ([40] : Str), ([41] : Str), ([123] : Str), ([125] : Str), ([44] : Str), ([59] : Str), ([61] : Str)]), F]) (fun zz K1 => match zz with | t5 => s5 = Fl.go t5) ?_ ?_
    ·refine block_go rfl ?_
     conv => whnf
     refine loop_rule (σ := Nat) [2, 3, 4, 7, 68, 69, 70, 71, 72, 73, 74, 75, 76, 77, 78, 79, 80, 81, 82, 83, 84, 85, 86, 87, 88, 89, 90, 91, 92, 93, 94, 95, 96, 97, 98, 99, 100, 101, 102] (fun i5 => [(68, .int .i64 (i5 : Int))]) (fun i5 => [OwnL eS (some ⟨b65, 0, none⟩) 9 1 14 ([([61, 61] : Str), ([33, 61] : Str), ([60, 61] : Str), ([60] : Str), ([43] : Str), ([45] : Str), ([42] : Str), ([40] : Str), ([41] : Str), ([123] : Str), ([125] : Str), ([44] : Str), ([59] : Str), ([61] : Str)]), F]) (fun zz K1 => match zz with | i5 => ref42_take_L5 s ((14 : Int).toNat - i5) i5 = some s5) (fun zz => (14 : Int).toNat - zz) (0) rfl ⟨rfl, trivial⟩ (ConvH.of (.cons r0 (.cons r0 .nil))) hl5 ?_
     clear hl5
     rintro i5 Kb5 lk5 hl5 j5
     conv at hl5 => whnf
     conv => whnf
     refine cond_go rfl ?_
     conv => whnf
     refine cond_s (fun w5 => ?_) (fun w5 => ?_)
     ·rw [ltn (n := (14 : Int)) w5, ref42_take_L5.eq_2] at hl5
      conv => whnf
      refine block_go rfl ?_
      conv => whnf
      refine DStep.ownLe r0 fun hc7 => ?_
      conv => whnf
      refine draw_go ⟨⟨[], true⟩, _, []⟩ (by kernel_rfl) ⟨Hp.Le.refl _, (ConvH.of .nil)⟩ ?_
      conv => whnf
      refine len_strN rfl ?_
      obtain ⟨x75, l75, k75, hl5⟩ := ixb hl5
      conv => whnf
      refine index_addr rfl rfl (hasO (fun _ => ⟨_, _, rfl⟩) k75) l75 (lt_ofE rfl l75 k75) ?_
      conv => whnf
      refine ld_own (i := ((i5 : Int)).toNat) (o := 0) r0 rfl k75 rfl rfl ?_
      conv => whnf
      refine len_strN rfl ?_
      obtain ⟨x92, e92, hl5⟩ := bnd hl5
      conv => whnf
      refine cond_s (fun g79_18 => ?_) (fun g79_18 => ?_)
      ·replace e92 := ift g79_18 e92
       conv => whnf
       refine cond_t g79_18 ?_
       conv => whnf
       refine cond_t g79_18 ?_
       conv => whnf
       refine cond_t g79_18 ?_
       obtain ⟨x83, l83, k83, e92⟩ := ixb e92
       conv => whnf
       refine index_addr rfl rfl (hasO (fun _ => ⟨_, _, rfl⟩) k83) l83 (lt_ofE rfl l83 k83) ?_
       conv => whnf
       refine cond_t g79_18 ?_
       conv => whnf
       refine ld_own (i := ((i5 : Int)).toNat) (o := 0) r0 rfl k83 rfl rfl ?_
       conv => whnf
       refine cond_t g79_18 ?_
       conv => whnf
       refine len_strN rfl ?_
       conv => whnf
       refine cond_t g79_18 ?_
       obtain ⟨h86, e92⟩ := chkb e92
       conv => whnf
       refine sl_str (lo := none) (hi := (some (x83.length : Int))) rfl h86 ?_
       conv => whnf
       refine cond_t g79_18 ?_
       conv => whnf
       refine cond_t g79_18 ?_
       conv => whnf
       refine cond_t g79_18 ?_
       obtain ⟨x89, l89, k89, e92⟩ := ixb e92
       conv => whnf
       refine index_addr rfl rfl (hasO (fun _ => ⟨_, _, rfl⟩) k89) l89 (lt_ofE rfl l89 k89) ?_
       conv => whnf
       refine cond_t g79_18 ?_
       conv => whnf
       refine ld_own (i := ((i5 : Int)).toNat) (o := 0) r0 rfl k89 rfl rfl ?_
       conv => whnf
       refine cond_t g79_18 ?_
       conv => whnf
       refine eq_str ?_
       conv => whnf
       refine cond_t g79_18 ?_
       conv => whnf
       refine cond_go rfl ?_
       conv => whnf
       refine cond_s (fun w92 => ?_) (fun w92 => ?_)
       ·replace hl5 := ift ((si e92).symm.trans w92) hl5
        conv => whnf
        refine draw_go ⟨⟨[], true⟩, _, []⟩ (by kernel_rfl) ⟨Hp.Le.refl _, (ConvH.of .nil)⟩ ?_
        obtain ⟨x95, l95, k95, hl5⟩ := ixb hl5
        conv => whnf
        refine index_addr rfl rfl (hasO (fun _ => ⟨_, _, rfl⟩) k95) l95 (lt_ofE rfl l95 k95) ?_
        conv => whnf
        refine ld_own (i := ((i5 : Int)).toNat) (o := 0) r0 rfl k95 rfl rfl ?_
        obtain ⟨x99, l99, k99, hl5⟩ := ixb hl5
        conv => whnf
        refine index_addr rfl rfl (hasO (fun _ => ⟨_, _, rfl⟩) k99) l99 (lt_ofE rfl l99 k99) ?_
        conv => whnf
        refine ld_own (i := ((i5 : Int)).toNat) (o := 0) r0 rfl k99 rfl rfl ?_
        conv => whnf
        refine len_strN rfl ?_
        obtain rfl := si hl5
        replace hm := elr hm
        obtain rfl := si hm
        conv => whnf
        refine EndStep.mk _ ((l11.trans l37).trans lk5) ⟨rfl, rfl⟩ (ConvH.of (.cons r1 .nil))
       ·replace hl5 := iff_ ((si e92).symm.trans w92) hl5
        conv => whnf
        refine int_in (cntn w5 hk5) ?_
        conv => whnf
        refine RoundStep.mk (i5 + 1) ⟨rfl, trivial⟩ (by repeat (first | exact trivial | refine And.intro rfl ?_)) (ConvH.of (.cons r0 (.cons r0 .nil))) lk5 (ltnm w5) hl5
      ·replace e92 := iff_ g79_18 e92
       conv => whnf
       refine cond_f g79_18 ?_
       conv => whnf
       refine cond_f g79_18 ?_
       conv => whnf
       refine cond_f g79_18 ?_
       conv => whnf
       refine cond_f g79_18 ?_
       conv => whnf
       refine cond_f g79_18 ?_
       conv => whnf
       refine cond_f g79_18 ?_
       conv => whnf
       refine cond_f g79_18 ?_
       conv => whnf
       refine cond_f g79_18 ?_
       conv => whnf
       refine cond_f g79_18 ?_
       conv => whnf
       refine cond_f g79_18 ?_
       conv => whnf
       refine cond_f g79_18 ?_
       conv => whnf
       refine cond_f g79_18 ?_
       conv => whnf
       refine cond_go rfl ?_
       conv => whnf
       refine cond_F ?_
       replace hl5 := iff_ (si e92).symm hl5
       conv => whnf
       refine int_in (cntn w5 hk5) ?_
       conv => whnf
       refine RoundStep.mk (i5 + 1) ⟨rfl, trivial⟩ (by repeat (first | exact trivial | refine And.intro rfl ?_)) (ConvH.of (.cons r0 (.cons r0 .nil))) lk5 (ltnm w5) hl5
     ·rw [lto (n := (14 : Int)) w5, ref42_take_L5.eq_1] at hl5
      conv => whnf
      refine cond_T ?_
      conv => whnf
      refine MeetStep.mk (()) trivial (by repeat (first | exact trivial | refine And.intro rfl ?_)) (ConvH.of (.cons r0 (.cons r0 .nil))) lk5 (si hl5).symm
    ·rintro t5 Kt5 lt5 rfl j5
     replace hm := elg hm
     obtain rfl := si hm
     conv => whnf
     refine EndStep.mk _ ((l11.trans l37).trans lt5) ⟨rfl, rfl⟩ (ConvH.of (.cons r1 .nil))
