/- Functions of the program: mirrors, and that a call returns what the mirror says. Printed by gen.py. -/
import Derived.Test.YtdnelkmckpapgaaDoorG2
set_option linter.unusedVariables false
set_option linter.unusedSimpArgs false
open Go Go.SL Go.Proofs
set_option maxRecDepth 1000000
noncomputable def ruletype_checker_block_L3 (rec_ : (S_ruletype_checker → (List S_ruletree_Node) → (List S_ruletype_Binding) → Option (S_ruletype_checker))) (y0_0 : (List S_ruletype_Binding)) : List S_ruletree_Node → Nat → Int → Err → Option (Int × Err)
  | [], _, y3_0, y3_1 => some (y3_0, y3_1)
  | e3 :: xs3, i3, y3_0, y3_1 =>
    (ruletype_branch e3).bind fun x83 =>
    (rec_ (⟨y3_0, y3_1⟩ : S_ruletype_checker) x83 y0_0).bind fun x85 =>
    ruletype_checker_block_L3 rec_ y0_0 xs3 (i3 + 1) x85.line x85.err
noncomputable def ruletype_checker_block_L0 (n : Nat) (rec_ : (S_ruletype_checker → (List S_ruletree_Node) → (List S_ruletype_Binding) → Option (S_ruletype_checker))) : List S_ruletree_Node → Nat → (List S_ruletype_Binding) → Int → Err → Option (Fl (S_ruletype_checker) ((List S_ruletype_Binding) × Int × Err))
  | [], _, y0_0, y0_1, y0_2 => some (Fl.go (y0_0, y0_1, y0_2))
  | e0 :: xs0, i0, y0_0, y0_1, y0_2 =>
    if decide ((e0.Kids.length : Int) = 0) then
    ruletype_checker_block_L0 n rec_ xs0 (i0 + 1) y0_0 y0_1 y0_2
    else
    (ix e0.Kids 0).bind fun x25 =>
    (ruletype_checker_expr n (⟨y0_1, y0_2⟩ : S_ruletype_checker) x25 y0_0).bind fun x28 =>
    (ruletype_needs e0).bind fun x30 =>
    if ((x28.2.err.isNone && decide (x30 ≠ 0)) && decide (x28.1 ≠ x30)) then
    (ruletype_checker_fail x28.2 e0 (some 9)).bind fun x48 =>
    if x48.err.isSome then
    some (Fl.ret x48)
    else
    if decide (e0.Kind = 3) then
    (ruletype_declared n e0.Text y0_0).bind fun x61 =>
    if x61 then
    (ruletype_checker_fail x48 e0 (some 4)).bind fun x65 =>
    (ruletype_extended y0_0 e0.Text x28.1).bind fun x70 =>
    if x65.err.isSome then
    some (Fl.ret x65)
    else
    ruletype_checker_block_L0 n rec_ xs0 (i0 + 1) x70 x65.line x65.err
    else
    (ruletype_extended y0_0 e0.Text x28.1).bind fun x70 =>
    if x48.err.isSome then
    some (Fl.ret x48)
    else
    ruletype_checker_block_L0 n rec_ xs0 (i0 + 1) x70 x48.line x48.err
    else
    if decide (e0.Kind = 2) then
    (chk (0 ≤ (1 : Int) ∧ (1 : Int) ≤ (e0.Kids.length : Int) ∧ (e0.Kids.length : Int) ≤ (e0.Kids.length : Int))).bind fun _ =>
    (chk ((subL e0.Kids (1 : Int) (e0.Kids.length : Int)).length ≤ szMax)).bind fun _ =>
    (ruletype_checker_block_L3 rec_ y0_0 (subL e0.Kids (1 : Int) (e0.Kids.length : Int)) 0 x48.line x48.err).bind fun t3 =>
    if t3.2.isSome then
    some (Fl.ret (⟨t3.1, t3.2⟩ : S_ruletype_checker))
    else
    ruletype_checker_block_L0 n rec_ xs0 (i0 + 1) y0_0 t3.1 t3.2
    else
    if x48.err.isSome then
    some (Fl.ret x48)
    else
    ruletype_checker_block_L0 n rec_ xs0 (i0 + 1) y0_0 x48.line x48.err
    else
    if x28.2.err.isSome then
    some (Fl.ret x28.2)
    else
    if decide (e0.Kind = 3) then
    (ruletype_declared n e0.Text y0_0).bind fun x61 =>
    if x61 then
    (ruletype_checker_fail x28.2 e0 (some 4)).bind fun x65 =>
    (ruletype_extended y0_0 e0.Text x28.1).bind fun x70 =>
    if x65.err.isSome then
    some (Fl.ret x65)
    else
    ruletype_checker_block_L0 n rec_ xs0 (i0 + 1) x70 x65.line x65.err
    else
    (ruletype_extended y0_0 e0.Text x28.1).bind fun x70 =>
    if x28.2.err.isSome then
    some (Fl.ret x28.2)
    else
    ruletype_checker_block_L0 n rec_ xs0 (i0 + 1) x70 x28.2.line x28.2.err
    else
    if decide (e0.Kind = 2) then
    (chk (0 ≤ (1 : Int) ∧ (1 : Int) ≤ (e0.Kids.length : Int) ∧ (e0.Kids.length : Int) ≤ (e0.Kids.length : Int))).bind fun _ =>
    (chk ((subL e0.Kids (1 : Int) (e0.Kids.length : Int)).length ≤ szMax)).bind fun _ =>
    (ruletype_checker_block_L3 rec_ y0_0 (subL e0.Kids (1 : Int) (e0.Kids.length : Int)) 0 x28.2.line x28.2.err).bind fun t3 =>
    if t3.2.isSome then
    some (Fl.ret (⟨t3.1, t3.2⟩ : S_ruletype_checker))
    else
    ruletype_checker_block_L0 n rec_ xs0 (i0 + 1) y0_0 t3.1 t3.2
    else
    if x28.2.err.isSome then
    some (Fl.ret x28.2)
    else
    ruletype_checker_block_L0 n rec_ xs0 (i0 + 1) y0_0 x28.2.line x28.2.err
noncomputable def ruletype_checker_block : Nat → S_ruletype_checker → (List S_ruletree_Node) → (List S_ruletype_Binding) → Option (S_ruletype_checker)
  | 0, _, _, _ => none
  | n + 1, c, list, env =>
    (chk (list.length ≤ szMax)).bind fun _ =>
    (ruletype_checker_block_L0 n (ruletype_checker_block n) list 0 env c.line c.err).bind fun s0 => s0.el some fun t0 =>
    some (⟨t0.2.1, t0.2.2⟩ : S_ruletype_checker)
set_option maxHeartbeats 8000000 in
theorem ruletype_checker_block_ok : ∀ {n : Nat} {c : S_ruletype_checker} {list : (List S_ruletree_Node)} {env : (List S_ruletype_Binding)} {b0 : Nat} {ap1_0 : Option Addr} {cp1_0 : Nat} {n1 : Nat} {ap2_0 : Option Addr} {cp2_0 : Nat} {n2 : Nat} {K : Hp} {r : S_ruletype_checker}
    (hm : ruletype_checker_block n c list env = some r) (hp1_0 : LiC S_ruletree_Node.R K ap1_0 cp1_0 4 list) (en1 : n1 = list.length) (hp2_0 : RdC S_ruletype_Binding.enc K ap2_0 cp2_0 2 env) (en2 : n2 = env.length),
    Fn Tryd.prog 33 [.pointer (some ⟨b0, 0, none⟩), .slice ap1_0 n1 cp1_0, .slice ap2_0 n2 cp2_0] K [Cells b0 68 [.int .i64 c.line, errV 46 c.err]] (fun v K' H' => v = .tuple #[] ∧ H' = [Cells b0 68 [.int .i64 r.line, errV 46 r.err]]) := by
  intro n
  induction n with
  | zero =>
    intro c list env b0 ap1_0 cp1_0 n1 ap2_0 cp2_0 n2 K r hm hp1_0 en1 hp2_0 en2
    rw [ruletype_checker_block.eq_1] at hm; cases hm
  | succ n ih =>
    intro c list env b0 ap1_0 cp1_0 n1 ap2_0 cp2_0 n2 K r hm hp1_0 en1 hp2_0 en2
    subst en1
    subst en2
    refine Fn.enter Tryd.func33 Tryd.call33 rfl fun F => ?_
    rw [ruletype_checker_block.eq_2] at hm
    conv => whnf
    refine RStep.of (len_slice rfl ?_)
    obtain ⟨hk0, hm⟩ := chkb hm
    obtain ⟨s0, hl0, hm⟩ := bnd hm
    conv => whnf
    refine code_cut (σ := ((List S_ruletype_Binding) × Int × Err) × Option Addr × Nat) [2, 7, 8, 9, 11, 14, 15, 16, 17, 18, 19, 20, 21, 22, 23, 24, 25, 26, 27, 28, 29, 30, 31, 32, 33, 34, 35, 36, 37, 38, 39, 40, 41, 42, 43, 44, 45, 46, 47, 48, 49, 50, 51, 52, 53, 54, 55, 56, 57, 58, 59, 60, 61, 62, 63, 64, 65, 66, 67, 68, 69, 70, 71, 72, 73, 74, 75, 76, 77, 78, 79, 80, 81, 82, 83, 84, 85, 86, 87, 88, 89, 90, 91, 92] (fun (t0, t0_a0, t0_c0) => [(2, .slice t0_a0 t0.1.length t0_c0)]) (fun (t0, t0_a0, t0_c0) => [Cells b0 68 [.int .i64 t0.2.1, errV 46 t0.2.2], F]) (fun zz K1 => match zz with | (t0, t0_a0, t0_c0) => RdC S_ruletype_Binding.enc K1 t0_a0 t0_c0 2 t0.1 ∧ s0 = Fl.go t0) ?_ ?_
    · refine block_go rfl ?_
      conv => whnf
      refine loop_rule (σ := Nat × (List S_ruletype_Binding) × Int × Err × Option Addr × Nat) [2, 7, 8, 9, 11, 14, 15, 16, 17, 18, 19, 20, 21, 22, 23, 24, 25, 26, 27, 28, 29, 30, 31, 32, 33, 34, 35, 36, 37, 38, 39, 40, 41, 42, 43, 44, 45, 46, 47, 48, 49, 50, 51, 52, 53, 54, 55, 56, 57, 58, 59, 60, 61, 62, 63, 64, 65, 66, 67, 68, 69, 70, 71, 72, 73, 74, 75, 76, 77, 78, 79, 80, 81, 82, 83, 84, 85, 86, 87, 88, 89, 90, 91, 92] (fun (i0, y0_0, y0_1, y0_2, y0_a0, y0_c0) => [(14, .int .i64 (i0 : Int)), (2, .slice y0_a0 y0_0.length y0_c0)]) (fun (i0, y0_0, y0_1, y0_2, y0_a0, y0_c0) => [Cells b0 68 [.int .i64 y0_1, errV 46 y0_2], F]) (fun zz K1 => match zz with | (i0, y0_0, y0_1, y0_2, y0_a0, y0_c0) => RdC S_ruletype_Binding.enc K1 y0_a0 y0_c0 2 y0_0 ∧ ruletype_checker_block_L0 n (ruletype_checker_block n) (list.drop i0) i0 y0_0 y0_1 y0_2 = some s0) (fun zz => list.length - zz.1) (0, env, c.line, c.err, ap2_0, cp2_0) rfl ⟨rfl, rfl, trivial⟩ (ConvH.of (.cons r0 (.cons r0 .nil))) ⟨hp2_0, hl0⟩ ?_
      clear hl0
      rintro ⟨i0, y0_0, y0_1, y0_2, y0_a0, y0_c0⟩ Kb0 lk0 ⟨y0_h0, hl0⟩ j0
      conv => whnf
      refine cond_go rfl ?_
      conv => whnf
      refine cond_s (fun w0 => ?_) (fun w0 => ?_)
      · obtain ⟨e0, hx0, hd0⟩ := ltx w0
        rw [hd0, ruletype_checker_block_L0.eq_2] at hl0
        conv => whnf
        refine block_go rfl ?_
        conv => whnf
        refine RStep.ofN (index_addr rfl rfl (hasR (LiC.mono S_ruletree_Node.R_ok lk0 hp1_0).rd hx0) (nn _) (lt_ofN hx0) ?_)
        obtain ⟨ss17, cc17, hr17, hc17, hR17⟩ := LiR.get (LiC.mono S_ruletree_Node.R_ok lk0 hp1_0).rd hx0
        obtain ⟨a17_0, c17_0, rfl, h17_0⟩ := S_ruletree_Node.out hR17
        conv => whnf
        refine RStep.of (load_rd_agg i0 _ hr17 rfl hc17 rfl ?_)
        conv => whnf
        refine alloc_rule rfl ?_
        intro b7
        conv => whnf
        refine store_rule r0 rfl ?_
        conv => whnf
        refine ⟨rfl, rfl, (Nat.le_of_ble_eq_true rfl), ?_⟩
        conv => whnf
        refine field_addr rfl ?_
        conv => whnf
        refine RStep.of (load1_s r0 rfl rfl ?_)
        conv => whnf
        refine RStep.of (len_slice rfl ?_)
        conv => whnf
        refine eq_int ?_
        conv => whnf
        refine cond_go rfl ?_
        conv => whnf
        refine cond_s (fun w21 => ?_) (fun w21 => ?_)
        · replace hl0 := ift w21 hl0
          conv => whnf
          refine cond_T ?_
          conv => whnf
          refine int_in (cntz hx0 hk0) ?_
          conv => whnf
          refine RoundStep.mk (i0 + 1, y0_0, y0_1, y0_2, y0_a0, y0_c0) ⟨rfl, rfl, trivial⟩ (by repeat (first | exact trivial | refine And.intro rfl ?_)) (ConvH.of (.cons r1 (.cons r1 .nil))) lk0 (ltm hx0) ⟨y0_h0, hl0⟩
        · replace hl0 := iff_ w21 hl0
          conv => whnf
          refine field_addr rfl ?_
          conv => whnf
          refine RStep.of (load1_s r0 rfl rfl ?_)
          obtain ⟨x25, l25, k25, hl0⟩ := ixb hl0
          conv => whnf
          refine RStep.ofN (index_addr rfl rfl (hasR h17_0.rd k25) l25 (lt_ofE rfl l25 k25) ?_)
          obtain ⟨ss26, cc26, hr26, hc26, hR26⟩ := LiR.get h17_0.rd k25
          obtain ⟨a26_0, c26_0, rfl, h26_0⟩ := S_ruletree_Node.out hR26
          conv => whnf
          refine RStep.of (load_rd_agg ((0 : Int).toNat) _ hr26 rfl hc26 rfl ?_)
          obtain ⟨x28, q28, hl0⟩ := bnd hl0
          conv => whnf
          refine call_fn (ruletype_checker_expr_ok (c := (⟨y0_1, y0_2⟩ : S_ruletype_checker)) (n' := x25) q28 h26_0 y0_h0 rfl) (.cons r1 .nil) ?_
          rintro _ K28 _ l28 ⟨rfl, rfl⟩
          conv => whnf
          refine RStep.of (loadn_s r1 rfl (Nat.le_of_ble_eq_true rfl) ?_)
          obtain ⟨x30, q30, hl0⟩ := bnd hl0
          conv => whnf
          refine call_fn (ruletype_needs_ok (n' := e0) q30 (LiC.mono S_ruletree_Node.R_ok l28 h17_0)) .nil ?_
          rintro _ K30 _ l30 ⟨rfl, rfl⟩
          conv => whnf
          refine nil_check ?_
          conv => whnf
          refine field_addr rfl ?_
          conv => whnf
          refine RStep.of (load1_s r0 rfl rfl ?_)
          conv => whnf
          refine eq_err rfl ?_
          conv => whnf
          refine cond_s (fun g36_6 => ?_) (fun g36_6 => ?_)
          · conv => whnf
            refine cond_t g36_6 ?_
            conv => whnf
            refine neq_int ?_
            conv => whnf
            refine cond_t g36_6 ?_
            conv => whnf
            refine cond_s (fun g40_6 => ?_) (fun g40_6 => ?_)
            · conv => whnf
              refine cond_t g40_6 ?_
              conv => whnf
              refine cond_t g40_6 ?_
              conv => whnf
              refine neq_int ?_
              conv => whnf
              refine cond_t g40_6 ?_
              conv => whnf
              refine cond_go rfl ?_
              conv => whnf
              refine cond_s (fun w44 => ?_) (fun w44 => ?_)
              · replace hl0 := ift (and_t (and_t g36_6 g40_6) w44) hl0
                conv => whnf
                refine RStep.of (loadn_s r1 rfl (Nat.le_of_ble_eq_true rfl) ?_)
                conv => whnf
                refine mk_iface rfl ?_
                obtain ⟨x48, q48, hl0⟩ := bnd hl0
                conv => whnf
                refine call_fn (ruletype_checker_fail_ok (c := x28.2) (n' := e0) (err := (some 9)) q48 (LiC.mono S_ruletree_Node.R_ok (l28.trans l30) h17_0)) (.cons r0 .nil) ?_
                rintro _ K48 _ l48 ⟨rfl, rfl⟩
                conv => whnf
                refine nil_check ?_
                conv => whnf
                refine field_addr rfl ?_
                conv => whnf
                refine RStep.of (load1_s r0 rfl rfl ?_)
                conv => whnf
                refine neq_err rfl ?_
                conv => whnf
                refine cond_go rfl ?_
                conv => whnf
                refine cond_s (fun w53 => ?_) (fun w53 => ?_)
                · replace hl0 := ift w53 hl0
                  obtain rfl := si hl0
                  replace hm := elr hm
                  obtain rfl := si hm
                  conv => whnf
                  refine EndStep.mk _ (((lk0.trans l28).trans l30).trans l48) ⟨rfl, rfl⟩ (ConvH.of (.cons r0 (.cons r1 .nil)))
                · replace hl0 := iff_ w53 hl0
                  conv => whnf
                  refine field_addr rfl ?_
                  conv => whnf
                  refine RStep.of (load1_s r1 rfl rfl ?_)
                  conv => whnf
                  refine block_go rfl ?_
                  conv => whnf
                  refine eq_int ?_
                  conv => whnf
                  refine cond_go rfl ?_
                  conv => whnf
                  refine cond_s (fun w56 => ?_) (fun w56 => ?_)
                  · replace hl0 := ift w56 hl0
                    conv => whnf
                    refine field_addr rfl ?_
                    conv => whnf
                    refine RStep.of (load1_s r1 rfl rfl ?_)
                    obtain ⟨x61, q61, hl0⟩ := bnd hl0
                    conv => whnf
                    refine call_fn (ruletype_declared_ok (name := e0.Text) q61 (y0_h0.mono ((l28.trans l30).trans l48)) rfl) .nil ?_
                    rintro _ K61 _ l61 ⟨rfl, rfl⟩
                    conv => whnf
                    refine cond_go rfl ?_
                    conv => whnf
                    refine cond_s (fun w61 => ?_) (fun w61 => ?_)
                    · replace hl0 := ift w61 hl0
                      conv => whnf
                      refine RStep.of (loadn_s r1 rfl (Nat.le_of_ble_eq_true rfl) ?_)
                      conv => whnf
                      refine mk_iface rfl ?_
                      obtain ⟨x65, q65, hl0⟩ := bnd hl0
                      conv => whnf
                      refine call_fn (ruletype_checker_fail_ok (c := x48) (n' := e0) (err := (some 4)) q65 (LiC.mono S_ruletree_Node.R_ok (((l28.trans l30).trans l48).trans l61) h17_0)) (.cons r0 .nil) ?_
                      rintro _ K65 _ l65 ⟨rfl, rfl⟩
                      conv => whnf
                      refine field_addr rfl ?_
                      conv => whnf
                      refine RStep.of (load1_s r1 rfl rfl ?_)
                      obtain ⟨x70, q70, hl0⟩ := bnd hl0
                      conv => whnf
                      refine call_fn (ruletype_extended_ok (name := e0.Text) (t := x28.1) q70 (y0_h0.mono ((((l28.trans l30).trans l48).trans l61).trans l65)) rfl) .nil ?_
                      rintro _ K70 _ l70 ⟨a70_0, c70_0, rfl, h70_0, rfl⟩
                      conv => whnf
                      refine nil_check ?_
                      conv => whnf
                      refine field_addr rfl ?_
                      conv => whnf
                      refine RStep.of (load1_s r1 rfl rfl ?_)
                      conv => whnf
                      refine neq_err rfl ?_
                      conv => whnf
                      refine cond_go rfl ?_
                      conv => whnf
                      refine cond_s (fun w91 => ?_) (fun w91 => ?_)
                      · replace hl0 := ift w91 hl0
                        obtain rfl := si hl0
                        replace hm := elr hm
                        obtain rfl := si hm
                        conv => whnf
                        refine EndStep.mk _ ((((((lk0.trans l28).trans l30).trans l48).trans l61).trans l65).trans l70) ⟨rfl, rfl⟩ (ConvH.of (.cons r1 (.cons r2 .nil)))
                      · replace hl0 := iff_ w91 hl0
                        conv => whnf
                        refine int_in (cntz hx0 hk0) ?_
                        conv => whnf
                        refine fRo r0 fun Kr0_0 lr0_0 fr0_0 => ?_
                        refine RoundStep.mk (i0 + 1, x70, x65.line, x65.err, a70_0, c70_0) ⟨rfl, rfl, trivial⟩ (by repeat (first | exact trivial | refine And.intro rfl ?_)) (ConvH.of (.cons r0 (.cons r1 .nil))) (((((((lk0.trans l28).trans l30).trans l48).trans l61).trans l65).trans l70).trans lr0_0) (ltm hx0) ⟨fr0_0, hl0⟩
                    · replace hl0 := iff_ w61 hl0
                      conv => whnf
                      refine field_addr rfl ?_
                      conv => whnf
                      refine RStep.of (load1_s r1 rfl rfl ?_)
                      obtain ⟨x70, q70, hl0⟩ := bnd hl0
                      conv => whnf
                      refine call_fn (ruletype_extended_ok (name := e0.Text) (t := x28.1) q70 (y0_h0.mono (((l28.trans l30).trans l48).trans l61)) rfl) .nil ?_
                      rintro _ K70 _ l70 ⟨a70_0, c70_0, rfl, h70_0, rfl⟩
                      conv => whnf
                      refine nil_check ?_
                      conv => whnf
                      refine field_addr rfl ?_
                      conv => whnf
                      refine RStep.of (load1_s r1 rfl rfl ?_)
                      conv => whnf
                      refine neq_err rfl ?_
                      conv => whnf
                      refine cond_go rfl ?_
                      conv => whnf
                      refine cond_s (fun w91 => ?_) (fun w91 => ?_)
                      · replace hl0 := ift w91 hl0
                        obtain rfl := si hl0
                        replace hm := elr hm
                        obtain rfl := si hm
                        conv => whnf
                        refine EndStep.mk _ (((((lk0.trans l28).trans l30).trans l48).trans l61).trans l70) ⟨rfl, rfl⟩ (ConvH.of (.cons r1 (.cons r2 .nil)))
                      · replace hl0 := iff_ w91 hl0
                        conv => whnf
                        refine int_in (cntz hx0 hk0) ?_
                        conv => whnf
                        refine fRo r0 fun Kr0_0 lr0_0 fr0_0 => ?_
                        refine RoundStep.mk (i0 + 1, x70, x48.line, x48.err, a70_0, c70_0) ⟨rfl, rfl, trivial⟩ (by repeat (first | exact trivial | refine And.intro rfl ?_)) (ConvH.of (.cons r0 (.cons r1 .nil))) ((((((lk0.trans l28).trans l30).trans l48).trans l61).trans l70).trans lr0_0) (ltm hx0) ⟨fr0_0, hl0⟩
                  · replace hl0 := iff_ w56 hl0
                    conv => whnf
                    refine eq_int ?_
                    conv => whnf
                    refine cond_go rfl ?_
                    conv => whnf
                    refine cond_s (fun w71 => ?_) (fun w71 => ?_)
                    · replace hl0 := ift w71 hl0
                      conv => whnf
                      refine field_addr rfl ?_
                      conv => whnf
                      refine RStep.of (load1_s r1 rfl rfl ?_)
                      obtain ⟨h75, hl0⟩ := chkb hl0
                      have h75_ := (LiC.mono S_ruletree_Node.R_ok ((l28.trans l30).trans l48) h17_0).subC h75
                      conv => whnf
                      refine RStep.ofN (sl_slN (l := e0.Kids) (lo := (some 1)) (hi := none) (lo' := (1 : Int)) (hi' := (e0.Kids.length : Int)) rfl rfl rfl rfl rfl (LiC.mono S_ruletree_Node.R_ok ((l28.trans l30).trans l48) h17_0).le h75 ?_)
                      conv => whnf
                      refine RStep.of (len_slice rfl ?_)
                      obtain ⟨hk3, hl0⟩ := chkb hl0
                      obtain ⟨s3, hl3, hl0⟩ := bnd hl0
                      conv => whnf
                      refine code_cut (σ := (Int × Err)) [11, 77, 78, 79, 80, 81, 82, 83, 84, 85, 86] (fun t3 => []) (fun t3 => [Cells b0 68 [.int .i64 t3.1, errV 46 t3.2], Cells b7 33 [.int .i64 e0.Kind, str e0.Text, .slice a17_0 e0.Kids.length c17_0, .int .i64 e0.Line], F]) (fun zz K1 => match zz with | t3 => t3 = s3) ?_ ?_
                      · refine block_go rfl ?_
                        conv => whnf
                        refine loop_rule (σ := Nat × Int × Err) [11, 77, 78, 79, 80, 81, 82, 83, 84, 85, 86] (fun (i3, y3_0, y3_1) => [(77, .int .i64 (i3 : Int))]) (fun (i3, y3_0, y3_1) => [Cells b0 68 [.int .i64 y3_0, errV 46 y3_1], Cells b7 33 [.int .i64 e0.Kind, str e0.Text, .slice a17_0 e0.Kids.length c17_0, .int .i64 e0.Line], F]) (fun zz K1 => match zz with | (i3, y3_0, y3_1) => ruletype_checker_block_L3 (ruletype_checker_block n) y0_0 ((subL e0.Kids (1 : Int) (e0.Kids.length : Int)).drop i3) i3 y3_0 y3_1 = some s3) (fun zz => (subL e0.Kids (1 : Int) (e0.Kids.length : Int)).length - zz.1) (0, x48.line, x48.err) rfl ⟨rfl, trivial⟩ (ConvH.of (.cons r0 (.cons r0 (.cons r0 .nil)))) hl3 ?_
                        clear hl3
                        rintro ⟨i3, y3_0, y3_1⟩ Kb3 lk3 hl3 j3
                        conv at hl3 => whnf
                        conv => whnf
                        refine cond_go rfl ?_
                        conv => whnf
                        refine cond_s (fun w3 => ?_) (fun w3 => ?_)
                        · obtain ⟨e3, hx3, hd3⟩ := ltx w3
                          rw [hd3, ruletype_checker_block_L3.eq_2] at hl3
                          conv => whnf
                          refine block_go rfl ?_
                          conv => whnf
                          refine RStep.ofN (index_addr rfl rfl (hasR (LiC.mono S_ruletree_Node.R_ok lk3 h75_).rd hx3) (nn _) (lt_ofN hx3) ?_)
                          obtain ⟨ss80, cc80, hr80, hc80, hR80⟩ := LiR.get (LiC.mono S_ruletree_Node.R_ok lk3 h75_).rd hx3
                          obtain ⟨a80_0, c80_0, rfl, h80_0⟩ := S_ruletree_Node.out hR80
                          conv => whnf
                          refine RStep.of (load_rd_agg i3 _ hr80 rfl hc80 rfl ?_)
                          conv => whnf
                          refine alloc_rule rfl ?_
                          intro b11
                          conv => whnf
                          refine store_rule r0 rfl ?_
                          conv => whnf
                          refine ⟨rfl, rfl, (Nat.le_of_ble_eq_true rfl), ?_⟩
                          conv => whnf
                          refine RStep.of (loadn_s r0 rfl (Nat.le_of_ble_eq_true rfl) ?_)
                          obtain ⟨x83, q83, hl3⟩ := bnd hl3
                          conv => whnf
                          refine call_fn (ruletype_branch_ok (n' := e3) q83 h80_0) .nil ?_
                          rintro _ K83 _ l83 ⟨a83_0, c83_0, rfl, h83_0, rfl⟩
                          obtain ⟨x85, q85, hl3⟩ := bnd hl3
                          conv => whnf
                          refine call_fn (ih (c := (⟨y3_0, y3_1⟩ : S_ruletype_checker)) q85 h83_0 rfl (y0_h0.mono ((((l28.trans l30).trans l48).trans lk3).trans l83)) rfl) (.cons r1 .nil) ?_
                          rintro _ K85 _ l85 ⟨rfl, rfl⟩
                          conv => whnf
                          refine int_in (cntz hx3 hk3) ?_
                          conv => whnf
                          refine RoundStep.mk (i3 + 1, x85.line, x85.err) ⟨rfl, trivial⟩ (by repeat (first | exact trivial | refine And.intro rfl ?_)) (ConvH.of (.cons r0 (.cons r1 (.cons r1 .nil)))) ((lk3.trans l83).trans l85) (ltm hx3) hl3
                        · rw [lty w3, ruletype_checker_block_L3.eq_1] at hl3
                          conv => whnf
                          refine cond_T ?_
                          conv => whnf
                          refine MeetStep.mk ((y3_0, y3_1)) trivial (by repeat (first | exact trivial | refine And.intro rfl ?_)) (ConvH.of (.cons r0 (.cons r0 (.cons r0 .nil)))) lk3 (si hl3)
                      · rintro t3 Kt3 lt3 rfl j3
                        conv => whnf
                        refine nil_check ?_
                        conv => whnf
                        refine field_addr rfl ?_
                        conv => whnf
                        refine RStep.of (load1_s r0 rfl rfl ?_)
                        conv => whnf
                        refine neq_err rfl ?_
                        conv => whnf
                        refine cond_go rfl ?_
                        conv => whnf
                        refine cond_s (fun w91 => ?_) (fun w91 => ?_)
                        · replace hl0 := ift w91 hl0
                          obtain rfl := si hl0
                          replace hm := elr hm
                          obtain rfl := si hm
                          conv => whnf
                          refine EndStep.mk _ ((((lk0.trans l28).trans l30).trans l48).trans lt3) ⟨rfl, rfl⟩ (ConvH.of (.cons r0 (.cons r1 .nil)))
                        · replace hl0 := iff_ w91 hl0
                          conv => whnf
                          refine int_in (cntz hx0 hk0) ?_
                          conv => whnf
                          refine RoundStep.mk (i0 + 1, y0_0, t3.1, t3.2, y0_a0, y0_c0) ⟨rfl, rfl, trivial⟩ (by repeat (first | exact trivial | refine And.intro rfl ?_)) (ConvH.of (.cons r0 (.cons r1 .nil))) ((((lk0.trans l28).trans l30).trans l48).trans lt3) (ltm hx0) ⟨(y0_h0.mono (((l28.trans l30).trans l48).trans lt3)), hl0⟩
                    · replace hl0 := iff_ w71 hl0
                      conv => whnf
                      refine nil_check ?_
                      conv => whnf
                      refine field_addr rfl ?_
                      conv => whnf
                      refine RStep.of (load1_s r0 rfl rfl ?_)
                      conv => whnf
                      refine neq_err rfl ?_
                      conv => whnf
                      refine cond_go rfl ?_
                      conv => whnf
                      refine cond_s (fun w91 => ?_) (fun w91 => ?_)
                      · replace hl0 := ift w91 hl0
                        obtain rfl := si hl0
                        replace hm := elr hm
                        obtain rfl := si hm
                        conv => whnf
                        refine EndStep.mk _ (((lk0.trans l28).trans l30).trans l48) ⟨rfl, rfl⟩ (ConvH.of (.cons r0 (.cons r1 .nil)))
                      · replace hl0 := iff_ w91 hl0
                        conv => whnf
                        refine int_in (cntz hx0 hk0) ?_
                        conv => whnf
                        refine RoundStep.mk (i0 + 1, y0_0, x48.line, x48.err, y0_a0, y0_c0) ⟨rfl, rfl, trivial⟩ (by repeat (first | exact trivial | refine And.intro rfl ?_)) (ConvH.of (.cons r0 (.cons r1 .nil))) (((lk0.trans l28).trans l30).trans l48) (ltm hx0) ⟨(y0_h0.mono ((l28.trans l30).trans l48)), hl0⟩
              · replace hl0 := iff_ (and_g (and_t g36_6 g40_6) w44) hl0
                conv => whnf
                refine nil_check ?_
                conv => whnf
                refine field_addr rfl ?_
                conv => whnf
                refine RStep.of (load1_s r0 rfl rfl ?_)
                conv => whnf
                refine neq_err rfl ?_
                conv => whnf
                refine cond_go rfl ?_
                conv => whnf
                refine cond_s (fun w53 => ?_) (fun w53 => ?_)
                · replace hl0 := ift w53 hl0
                  obtain rfl := si hl0
                  replace hm := elr hm
                  obtain rfl := si hm
                  conv => whnf
                  refine EndStep.mk _ ((lk0.trans l28).trans l30) ⟨rfl, rfl⟩ (ConvH.of (.cons r0 (.cons r1 .nil)))
                · replace hl0 := iff_ w53 hl0
                  conv => whnf
                  refine field_addr rfl ?_
                  conv => whnf
                  refine RStep.of (load1_s r1 rfl rfl ?_)
                  conv => whnf
                  refine block_go rfl ?_
                  conv => whnf
                  refine eq_int ?_
                  conv => whnf
                  refine cond_go rfl ?_
                  conv => whnf
                  refine cond_s (fun w56 => ?_) (fun w56 => ?_)
                  · replace hl0 := ift w56 hl0
                    conv => whnf
                    refine field_addr rfl ?_
                    conv => whnf
                    refine RStep.of (load1_s r1 rfl rfl ?_)
                    obtain ⟨x61, q61, hl0⟩ := bnd hl0
                    conv => whnf
                    refine call_fn (ruletype_declared_ok (name := e0.Text) q61 (y0_h0.mono (l28.trans l30)) rfl) .nil ?_
                    rintro _ K61 _ l61 ⟨rfl, rfl⟩
                    conv => whnf
                    refine cond_go rfl ?_
                    conv => whnf
                    refine cond_s (fun w61 => ?_) (fun w61 => ?_)
                    · replace hl0 := ift w61 hl0
                      conv => whnf
                      refine RStep.of (loadn_s r1 rfl (Nat.le_of_ble_eq_true rfl) ?_)
                      conv => whnf
                      refine mk_iface rfl ?_
                      obtain ⟨x65, q65, hl0⟩ := bnd hl0
                      conv => whnf
                      refine call_fn (ruletype_checker_fail_ok (c := x28.2) (n' := e0) (err := (some 4)) q65 (LiC.mono S_ruletree_Node.R_ok ((l28.trans l30).trans l61) h17_0)) (.cons r0 .nil) ?_
                      rintro _ K65 _ l65 ⟨rfl, rfl⟩
                      conv => whnf
                      refine field_addr rfl ?_
                      conv => whnf
                      refine RStep.of (load1_s r1 rfl rfl ?_)
                      obtain ⟨x70, q70, hl0⟩ := bnd hl0
                      conv => whnf
                      refine call_fn (ruletype_extended_ok (name := e0.Text) (t := x28.1) q70 (y0_h0.mono (((l28.trans l30).trans l61).trans l65)) rfl) .nil ?_
                      rintro _ K70 _ l70 ⟨a70_0, c70_0, rfl, h70_0, rfl⟩
                      conv => whnf
                      refine nil_check ?_
                      conv => whnf
                      refine field_addr rfl ?_
                      conv => whnf
                      refine RStep.of (load1_s r1 rfl rfl ?_)
                      conv => whnf
                      refine neq_err rfl ?_
                      conv => whnf
                      refine cond_go rfl ?_
                      conv => whnf
                      refine cond_s (fun w91 => ?_) (fun w91 => ?_)
                      · replace hl0 := ift w91 hl0
                        obtain rfl := si hl0
                        replace hm := elr hm
                        obtain rfl := si hm
                        conv => whnf
                        refine EndStep.mk _ (((((lk0.trans l28).trans l30).trans l61).trans l65).trans l70) ⟨rfl, rfl⟩ (ConvH.of (.cons r1 (.cons r2 .nil)))
                      · replace hl0 := iff_ w91 hl0
                        conv => whnf
                        refine int_in (cntz hx0 hk0) ?_
                        conv => whnf
                        refine fRo r0 fun Kr0_0 lr0_0 fr0_0 => ?_
                        refine RoundStep.mk (i0 + 1, x70, x65.line, x65.err, a70_0, c70_0) ⟨rfl, rfl, trivial⟩ (by repeat (first | exact trivial | refine And.intro rfl ?_)) (ConvH.of (.cons r0 (.cons r1 .nil))) ((((((lk0.trans l28).trans l30).trans l61).trans l65).trans l70).trans lr0_0) (ltm hx0) ⟨fr0_0, hl0⟩
                    · replace hl0 := iff_ w61 hl0
                      conv => whnf
                      refine field_addr rfl ?_
                      conv => whnf
                      refine RStep.of (load1_s r1 rfl rfl ?_)
                      obtain ⟨x70, q70, hl0⟩ := bnd hl0
                      conv => whnf
                      refine call_fn (ruletype_extended_ok (name := e0.Text) (t := x28.1) q70 (y0_h0.mono ((l28.trans l30).trans l61)) rfl) .nil ?_
                      rintro _ K70 _ l70 ⟨a70_0, c70_0, rfl, h70_0, rfl⟩
                      conv => whnf
                      refine nil_check ?_
                      conv => whnf
                      refine field_addr rfl ?_
                      conv => whnf
                      refine RStep.of (load1_s r1 rfl rfl ?_)
                      conv => whnf
                      refine neq_err rfl ?_
                      conv => whnf
                      refine cond_go rfl ?_
                      conv => whnf
                      refine cond_s (fun w91 => ?_) (fun w91 => ?_)
                      · replace hl0 := ift w91 hl0
                        obtain rfl := si hl0
                        replace hm := elr hm
                        obtain rfl := si hm
                        conv => whnf
                        refine EndStep.mk _ ((((lk0.trans l28).trans l30).trans l61).trans l70) ⟨rfl, rfl⟩ (ConvH.of (.cons r1 (.cons r2 .nil)))
                      · replace hl0 := iff_ w91 hl0
                        conv => whnf
                        refine int_in (cntz hx0 hk0) ?_
                        conv => whnf
                        refine fRo r0 fun Kr0_0 lr0_0 fr0_0 => ?_
                        refine RoundStep.mk (i0 + 1, x70, x28.2.line, x28.2.err, a70_0, c70_0) ⟨rfl, rfl, trivial⟩ (by repeat (first | exact trivial | refine And.intro rfl ?_)) (ConvH.of (.cons r0 (.cons r1 .nil))) (((((lk0.trans l28).trans l30).trans l61).trans l70).trans lr0_0) (ltm hx0) ⟨fr0_0, hl0⟩
                  · replace hl0 := iff_ w56 hl0
                    conv => whnf
                    refine eq_int ?_
                    conv => whnf
                    refine cond_go rfl ?_
                    conv => whnf
                    refine cond_s (fun w71 => ?_) (fun w71 => ?_)
                    · replace hl0 := ift w71 hl0
                      conv => whnf
                      refine field_addr rfl ?_
                      conv => whnf
                      refine RStep.of (load1_s r1 rfl rfl ?_)
                      obtain ⟨h75, hl0⟩ := chkb hl0
                      have h75_ := (LiC.mono S_ruletree_Node.R_ok (l28.trans l30) h17_0).subC h75
                      conv => whnf
                      refine RStep.ofN (sl_slN (l := e0.Kids) (lo := (some 1)) (hi := none) (lo' := (1 : Int)) (hi' := (e0.Kids.length : Int)) rfl rfl rfl rfl rfl (LiC.mono S_ruletree_Node.R_ok (l28.trans l30) h17_0).le h75 ?_)
                      conv => whnf
                      refine RStep.of (len_slice rfl ?_)
                      obtain ⟨hk3, hl0⟩ := chkb hl0
                      obtain ⟨s3, hl3, hl0⟩ := bnd hl0
                      conv => whnf
                      refine code_cut (σ := (Int × Err)) [11, 77, 78, 79, 80, 81, 82, 83, 84, 85, 86] (fun t3 => []) (fun t3 => [Cells b0 68 [.int .i64 t3.1, errV 46 t3.2], Cells b7 33 [.int .i64 e0.Kind, str e0.Text, .slice a17_0 e0.Kids.length c17_0, .int .i64 e0.Line], F]) (fun zz K1 => match zz with | t3 => t3 = s3) ?_ ?_
                      · refine block_go rfl ?_
                        conv => whnf
                        refine loop_rule (σ := Nat × Int × Err) [11, 77, 78, 79, 80, 81, 82, 83, 84, 85, 86] (fun (i3, y3_0, y3_1) => [(77, .int .i64 (i3 : Int))]) (fun (i3, y3_0, y3_1) => [Cells b0 68 [.int .i64 y3_0, errV 46 y3_1], Cells b7 33 [.int .i64 e0.Kind, str e0.Text, .slice a17_0 e0.Kids.length c17_0, .int .i64 e0.Line], F]) (fun zz K1 => match zz with | (i3, y3_0, y3_1) => ruletype_checker_block_L3 (ruletype_checker_block n) y0_0 ((subL e0.Kids (1 : Int) (e0.Kids.length : Int)).drop i3) i3 y3_0 y3_1 = some s3) (fun zz => (subL e0.Kids (1 : Int) (e0.Kids.length : Int)).length - zz.1) (0, x28.2.line, x28.2.err) rfl ⟨rfl, trivial⟩ (ConvH.of (.cons r0 (.cons r0 (.cons r0 .nil)))) hl3 ?_
                        clear hl3
                        rintro ⟨i3, y3_0, y3_1⟩ Kb3 lk3 hl3 j3
                        conv at hl3 => whnf
                        conv => whnf
                        refine cond_go rfl ?_
                        conv => whnf
                        refine cond_s (fun w3 => ?_) (fun w3 => ?_)
                        · obtain ⟨e3, hx3, hd3⟩ := ltx w3
                          rw [hd3, ruletype_checker_block_L3.eq_2] at hl3
                          conv => whnf
                          refine block_go rfl ?_
                          conv => whnf
                          refine RStep.ofN (index_addr rfl rfl (hasR (LiC.mono S_ruletree_Node.R_ok lk3 h75_).rd hx3) (nn _) (lt_ofN hx3) ?_)
                          obtain ⟨ss80, cc80, hr80, hc80, hR80⟩ := LiR.get (LiC.mono S_ruletree_Node.R_ok lk3 h75_).rd hx3
                          obtain ⟨a80_0, c80_0, rfl, h80_0⟩ := S_ruletree_Node.out hR80
                          conv => whnf
                          refine RStep.of (load_rd_agg i3 _ hr80 rfl hc80 rfl ?_)
                          conv => whnf
                          refine alloc_rule rfl ?_
                          intro b11
                          conv => whnf
                          refine store_rule r0 rfl ?_
                          conv => whnf
                          refine ⟨rfl, rfl, (Nat.le_of_ble_eq_true rfl), ?_⟩
                          conv => whnf
                          refine RStep.of (loadn_s r0 rfl (Nat.le_of_ble_eq_true rfl) ?_)
                          obtain ⟨x83, q83, hl3⟩ := bnd hl3
                          conv => whnf
                          refine call_fn (ruletype_branch_ok (n' := e3) q83 h80_0) .nil ?_
                          rintro _ K83 _ l83 ⟨a83_0, c83_0, rfl, h83_0, rfl⟩
                          obtain ⟨x85, q85, hl3⟩ := bnd hl3
                          conv => whnf
                          refine call_fn (ih (c := (⟨y3_0, y3_1⟩ : S_ruletype_checker)) q85 h83_0 rfl (y0_h0.mono (((l28.trans l30).trans lk3).trans l83)) rfl) (.cons r1 .nil) ?_
                          rintro _ K85 _ l85 ⟨rfl, rfl⟩
                          conv => whnf
                          refine int_in (cntz hx3 hk3) ?_
                          conv => whnf
                          refine RoundStep.mk (i3 + 1, x85.line, x85.err) ⟨rfl, trivial⟩ (by repeat (first | exact trivial | refine And.intro rfl ?_)) (ConvH.of (.cons r0 (.cons r1 (.cons r1 .nil)))) ((lk3.trans l83).trans l85) (ltm hx3) hl3
                        · rw [lty w3, ruletype_checker_block_L3.eq_1] at hl3
                          conv => whnf
                          refine cond_T ?_
                          conv => whnf
                          refine MeetStep.mk ((y3_0, y3_1)) trivial (by repeat (first | exact trivial | refine And.intro rfl ?_)) (ConvH.of (.cons r0 (.cons r0 (.cons r0 .nil)))) lk3 (si hl3)
                      · rintro t3 Kt3 lt3 rfl j3
                        conv => whnf
                        refine nil_check ?_
                        conv => whnf
                        refine field_addr rfl ?_
                        conv => whnf
                        refine RStep.of (load1_s r0 rfl rfl ?_)
                        conv => whnf
                        refine neq_err rfl ?_
                        conv => whnf
                        refine cond_go rfl ?_
                        conv => whnf
                        refine cond_s (fun w91 => ?_) (fun w91 => ?_)
                        · replace hl0 := ift w91 hl0
                          obtain rfl := si hl0
                          replace hm := elr hm
                          obtain rfl := si hm
                          conv => whnf
                          refine EndStep.mk _ (((lk0.trans l28).trans l30).trans lt3) ⟨rfl, rfl⟩ (ConvH.of (.cons r0 (.cons r1 .nil)))
                        · replace hl0 := iff_ w91 hl0
                          conv => whnf
                          refine int_in (cntz hx0 hk0) ?_
                          conv => whnf
                          refine RoundStep.mk (i0 + 1, y0_0, t3.1, t3.2, y0_a0, y0_c0) ⟨rfl, rfl, trivial⟩ (by repeat (first | exact trivial | refine And.intro rfl ?_)) (ConvH.of (.cons r0 (.cons r1 .nil))) (((lk0.trans l28).trans l30).trans lt3) (ltm hx0) ⟨(y0_h0.mono ((l28.trans l30).trans lt3)), hl0⟩
                    · replace hl0 := iff_ w71 hl0
                      conv => whnf
                      refine nil_check ?_
                      conv => whnf
                      refine field_addr rfl ?_
                      conv => whnf
                      refine RStep.of (load1_s r0 rfl rfl ?_)
                      conv => whnf
                      refine neq_err rfl ?_
                      conv => whnf
                      refine cond_go rfl ?_
                      conv => whnf
                      refine cond_s (fun w91 => ?_) (fun w91 => ?_)
                      · replace hl0 := ift w91 hl0
                        obtain rfl := si hl0
                        replace hm := elr hm
                        obtain rfl := si hm
                        conv => whnf
                        refine EndStep.mk _ ((lk0.trans l28).trans l30) ⟨rfl, rfl⟩ (ConvH.of (.cons r0 (.cons r1 .nil)))
                      · replace hl0 := iff_ w91 hl0
                        conv => whnf
                        refine int_in (cntz hx0 hk0) ?_
                        conv => whnf
                        refine RoundStep.mk (i0 + 1, y0_0, x28.2.line, x28.2.err, y0_a0, y0_c0) ⟨rfl, rfl, trivial⟩ (by repeat (first | exact trivial | refine And.intro rfl ?_)) (ConvH.of (.cons r0 (.cons r1 .nil))) ((lk0.trans l28).trans l30) (ltm hx0) ⟨(y0_h0.mono (l28.trans l30)), hl0⟩
            · conv => whnf
              refine cond_f g40_6 ?_
              conv => whnf
              refine cond_f g40_6 ?_
              conv => whnf
              refine cond_f g40_6 ?_
              conv => whnf
              refine cond_go rfl ?_
              conv => whnf
              refine cond_F ?_
              replace hl0 := iff_ (and_f (and_g g36_6 g40_6)) hl0
              conv => whnf
              refine nil_check ?_
              conv => whnf
              refine field_addr rfl ?_
              conv => whnf
              refine RStep.of (load1_s r0 rfl rfl ?_)
              conv => whnf
              refine neq_err rfl ?_
              conv => whnf
              refine cond_go rfl ?_
              conv => whnf
              refine cond_s (fun w53 => ?_) (fun w53 => ?_)
              · replace hl0 := ift w53 hl0
                obtain rfl := si hl0
                replace hm := elr hm
                obtain rfl := si hm
                conv => whnf
                refine EndStep.mk _ ((lk0.trans l28).trans l30) ⟨rfl, rfl⟩ (ConvH.of (.cons r0 (.cons r1 .nil)))
              · replace hl0 := iff_ w53 hl0
                conv => whnf
                refine field_addr rfl ?_
                conv => whnf
                refine RStep.of (load1_s r1 rfl rfl ?_)
                conv => whnf
                refine block_go rfl ?_
                conv => whnf
                refine eq_int ?_
                conv => whnf
                refine cond_go rfl ?_
                conv => whnf
                refine cond_s (fun w56 => ?_) (fun w56 => ?_)
                · replace hl0 := ift w56 hl0
                  conv => whnf
                  refine field_addr rfl ?_
                  conv => whnf
                  refine RStep.of (load1_s r1 rfl rfl ?_)
                  obtain ⟨x61, q61, hl0⟩ := bnd hl0
                  conv => whnf
                  refine call_fn (ruletype_declared_ok (name := e0.Text) q61 (y0_h0.mono (l28.trans l30)) rfl) .nil ?_
                  rintro _ K61 _ l61 ⟨rfl, rfl⟩
                  conv => whnf
                  refine cond_go rfl ?_
                  conv => whnf
                  refine cond_s (fun w61 => ?_) (fun w61 => ?_)
                  · replace hl0 := ift w61 hl0
                    conv => whnf
                    refine RStep.of (loadn_s r1 rfl (Nat.le_of_ble_eq_true rfl) ?_)
                    conv => whnf
                    refine mk_iface rfl ?_
                    obtain ⟨x65, q65, hl0⟩ := bnd hl0
                    conv => whnf
                    refine call_fn (ruletype_checker_fail_ok (c := x28.2) (n' := e0) (err := (some 4)) q65 (LiC.mono S_ruletree_Node.R_ok ((l28.trans l30).trans l61) h17_0)) (.cons r0 .nil) ?_
                    rintro _ K65 _ l65 ⟨rfl, rfl⟩
                    conv => whnf
                    refine field_addr rfl ?_
                    conv => whnf
                    refine RStep.of (load1_s r1 rfl rfl ?_)
                    obtain ⟨x70, q70, hl0⟩ := bnd hl0
                    conv => whnf
                    refine call_fn (ruletype_extended_ok (name := e0.Text) (t := x28.1) q70 (y0_h0.mono (((l28.trans l30).trans l61).trans l65)) rfl) .nil ?_
                    rintro _ K70 _ l70 ⟨a70_0, c70_0, rfl, h70_0, rfl⟩
                    conv => whnf
                    refine nil_check ?_
                    conv => whnf
                    refine field_addr rfl ?_
                    conv => whnf
                    refine RStep.of (load1_s r1 rfl rfl ?_)
                    conv => whnf
                    refine neq_err rfl ?_
                    conv => whnf
                    refine cond_go rfl ?_
                    conv => whnf
                    refine cond_s (fun w91 => ?_) (fun w91 => ?_)
                    · replace hl0 := ift w91 hl0
                      obtain rfl := si hl0
                      replace hm := elr hm
                      obtain rfl := si hm
                      conv => whnf
                      refine EndStep.mk _ (((((lk0.trans l28).trans l30).trans l61).trans l65).trans l70) ⟨rfl, rfl⟩ (ConvH.of (.cons r1 (.cons r2 .nil)))
                    · replace hl0 := iff_ w91 hl0
                      conv => whnf
                      refine int_in (cntz hx0 hk0) ?_
                      conv => whnf
                      refine fRo r0 fun Kr0_0 lr0_0 fr0_0 => ?_
                      refine RoundStep.mk (i0 + 1, x70, x65.line, x65.err, a70_0, c70_0) ⟨rfl, rfl, trivial⟩ (by repeat (first | exact trivial | refine And.intro rfl ?_)) (ConvH.of (.cons r0 (.cons r1 .nil))) ((((((lk0.trans l28).trans l30).trans l61).trans l65).trans l70).trans lr0_0) (ltm hx0) ⟨fr0_0, hl0⟩
                  · replace hl0 := iff_ w61 hl0
                    conv => whnf
                    refine field_addr rfl ?_
                    conv => whnf
                    refine RStep.of (load1_s r1 rfl rfl ?_)
                    obtain ⟨x70, q70, hl0⟩ := bnd hl0
                    conv => whnf
                    refine call_fn (ruletype_extended_ok (name := e0.Text) (t := x28.1) q70 (y0_h0.mono ((l28.trans l30).trans l61)) rfl) .nil ?_
                    rintro _ K70 _ l70 ⟨a70_0, c70_0, rfl, h70_0, rfl⟩
                    conv => whnf
                    refine nil_check ?_
                    conv => whnf
                    refine field_addr rfl ?_
                    conv => whnf
                    refine RStep.of (load1_s r1 rfl rfl ?_)
                    conv => whnf
                    refine neq_err rfl ?_
                    conv => whnf
                    refine cond_go rfl ?_
                    conv => whnf
                    refine cond_s (fun w91 => ?_) (fun w91 => ?_)
                    · replace hl0 := ift w91 hl0
                      obtain rfl := si hl0
                      replace hm := elr hm
                      obtain rfl := si hm
                      conv => whnf
                      refine EndStep.mk _ ((((lk0.trans l28).trans l30).trans l61).trans l70) ⟨rfl, rfl⟩ (ConvH.of (.cons r1 (.cons r2 .nil)))
                    · replace hl0 := iff_ w91 hl0
                      conv => whnf
                      refine int_in (cntz hx0 hk0) ?_
                      conv => whnf
                      refine fRo r0 fun Kr0_0 lr0_0 fr0_0 => ?_
                      refine RoundStep.mk (i0 + 1, x70, x28.2.line, x28.2.err, a70_0, c70_0) ⟨rfl, rfl, trivial⟩ (by repeat (first | exact trivial | refine And.intro rfl ?_)) (ConvH.of (.cons r0 (.cons r1 .nil))) (((((lk0.trans l28).trans l30).trans l61).trans l70).trans lr0_0) (ltm hx0) ⟨fr0_0, hl0⟩
                · replace hl0 := iff_ w56 hl0
                  conv => whnf
                  refine eq_int ?_
                  conv => whnf
                  refine cond_go rfl ?_
                  conv => whnf
                  refine cond_s (fun w71 => ?_) (fun w71 => ?_)
                  · replace hl0 := ift w71 hl0
                    conv => whnf
                    refine field_addr rfl ?_
                    conv => whnf
                    refine RStep.of (load1_s r1 rfl rfl ?_)
                    obtain ⟨h75, hl0⟩ := chkb hl0
                    have h75_ := (LiC.mono S_ruletree_Node.R_ok (l28.trans l30) h17_0).subC h75
                    conv => whnf
                    refine RStep.ofN (sl_slN (l := e0.Kids) (lo := (some 1)) (hi := none) (lo' := (1 : Int)) (hi' := (e0.Kids.length : Int)) rfl rfl rfl rfl rfl (LiC.mono S_ruletree_Node.R_ok (l28.trans l30) h17_0).le h75 ?_)
                    conv => whnf
                    refine RStep.of (len_slice rfl ?_)
                    obtain ⟨hk3, hl0⟩ := chkb hl0
                    obtain ⟨s3, hl3, hl0⟩ := bnd hl0
                    conv => whnf
                    refine code_cut (σ := (Int × Err)) [11, 77, 78, 79, 80, 81, 82, 83, 84, 85, 86] (fun t3 => []) (fun t3 => [Cells b0 68 [.int .i64 t3.1, errV 46 t3.2], Cells b7 33 [.int .i64 e0.Kind, str e0.Text, .slice a17_0 e0.Kids.length c17_0, .int .i64 e0.Line], F]) (fun zz K1 => match zz with | t3 => t3 = s3) ?_ ?_
                    · refine block_go rfl ?_
                      conv => whnf
                      refine loop_rule (σ := Nat × Int × Err) [11, 77, 78, 79, 80, 81, 82, 83, 84, 85, 86] (fun (i3, y3_0, y3_1) => [(77, .int .i64 (i3 : Int))]) (fun (i3, y3_0, y3_1) => [Cells b0 68 [.int .i64 y3_0, errV 46 y3_1], Cells b7 33 [.int .i64 e0.Kind, str e0.Text, .slice a17_0 e0.Kids.length c17_0, .int .i64 e0.Line], F]) (fun zz K1 => match zz with | (i3, y3_0, y3_1) => ruletype_checker_block_L3 (ruletype_checker_block n) y0_0 ((subL e0.Kids (1 : Int) (e0.Kids.length : Int)).drop i3) i3 y3_0 y3_1 = some s3) (fun zz => (subL e0.Kids (1 : Int) (e0.Kids.length : Int)).length - zz.1) (0, x28.2.line, x28.2.err) rfl ⟨rfl, trivial⟩ (ConvH.of (.cons r0 (.cons r0 (.cons r0 .nil)))) hl3 ?_
                      clear hl3
                      rintro ⟨i3, y3_0, y3_1⟩ Kb3 lk3 hl3 j3
                      conv at hl3 => whnf
                      conv => whnf
                      refine cond_go rfl ?_
                      conv => whnf
                      refine cond_s (fun w3 => ?_) (fun w3 => ?_)
                      · obtain ⟨e3, hx3, hd3⟩ := ltx w3
                        rw [hd3, ruletype_checker_block_L3.eq_2] at hl3
                        conv => whnf
                        refine block_go rfl ?_
                        conv => whnf
                        refine RStep.ofN (index_addr rfl rfl (hasR (LiC.mono S_ruletree_Node.R_ok lk3 h75_).rd hx3) (nn _) (lt_ofN hx3) ?_)
                        obtain ⟨ss80, cc80, hr80, hc80, hR80⟩ := LiR.get (LiC.mono S_ruletree_Node.R_ok lk3 h75_).rd hx3
                        obtain ⟨a80_0, c80_0, rfl, h80_0⟩ := S_ruletree_Node.out hR80
                        conv => whnf
                        refine RStep.of (load_rd_agg i3 _ hr80 rfl hc80 rfl ?_)
                        conv => whnf
                        refine alloc_rule rfl ?_
                        intro b11
                        conv => whnf
                        refine store_rule r0 rfl ?_
                        conv => whnf
                        refine ⟨rfl, rfl, (Nat.le_of_ble_eq_true rfl), ?_⟩
                        conv => whnf
                        refine RStep.of (loadn_s r0 rfl (Nat.le_of_ble_eq_true rfl) ?_)
                        obtain ⟨x83, q83, hl3⟩ := bnd hl3
                        conv => whnf
                        refine call_fn (ruletype_branch_ok (n' := e3) q83 h80_0) .nil ?_
                        rintro _ K83 _ l83 ⟨a83_0, c83_0, rfl, h83_0, rfl⟩
                        obtain ⟨x85, q85, hl3⟩ := bnd hl3
                        conv => whnf
                        refine call_fn (ih (c := (⟨y3_0, y3_1⟩ : S_ruletype_checker)) q85 h83_0 rfl (y0_h0.mono (((l28.trans l30).trans lk3).trans l83)) rfl) (.cons r1 .nil) ?_
                        rintro _ K85 _ l85 ⟨rfl, rfl⟩
                        conv => whnf
                        refine int_in (cntz hx3 hk3) ?_
                        conv => whnf
                        refine RoundStep.mk (i3 + 1, x85.line, x85.err) ⟨rfl, trivial⟩ (by repeat (first | exact trivial | refine And.intro rfl ?_)) (ConvH.of (.cons r0 (.cons r1 (.cons r1 .nil)))) ((lk3.trans l83).trans l85) (ltm hx3) hl3
                      · rw [lty w3, ruletype_checker_block_L3.eq_1] at hl3
                        conv => whnf
                        refine cond_T ?_
                        conv => whnf
                        refine MeetStep.mk ((y3_0, y3_1)) trivial (by repeat (first | exact trivial | refine And.intro rfl ?_)) (ConvH.of (.cons r0 (.cons r0 (.cons r0 .nil)))) lk3 (si hl3)
                    · rintro t3 Kt3 lt3 rfl j3
                      conv => whnf
                      refine nil_check ?_
                      conv => whnf
                      refine field_addr rfl ?_
                      conv => whnf
                      refine RStep.of (load1_s r0 rfl rfl ?_)
                      conv => whnf
                      refine neq_err rfl ?_
                      conv => whnf
                      refine cond_go rfl ?_
                      conv => whnf
                      refine cond_s (fun w91 => ?_) (fun w91 => ?_)
                      · replace hl0 := ift w91 hl0
                        obtain rfl := si hl0
                        replace hm := elr hm
                        obtain rfl := si hm
                        conv => whnf
                        refine EndStep.mk _ (((lk0.trans l28).trans l30).trans lt3) ⟨rfl, rfl⟩ (ConvH.of (.cons r0 (.cons r1 .nil)))
                      · replace hl0 := iff_ w91 hl0
                        conv => whnf
                        refine int_in (cntz hx0 hk0) ?_
                        conv => whnf
                        refine RoundStep.mk (i0 + 1, y0_0, t3.1, t3.2, y0_a0, y0_c0) ⟨rfl, rfl, trivial⟩ (by repeat (first | exact trivial | refine And.intro rfl ?_)) (ConvH.of (.cons r0 (.cons r1 .nil))) (((lk0.trans l28).trans l30).trans lt3) (ltm hx0) ⟨(y0_h0.mono ((l28.trans l30).trans lt3)), hl0⟩
                  · replace hl0 := iff_ w71 hl0
                    conv => whnf
                    refine nil_check ?_
                    conv => whnf
                    refine field_addr rfl ?_
                    conv => whnf
                    refine RStep.of (load1_s r0 rfl rfl ?_)
                    conv => whnf
                    refine neq_err rfl ?_
                    conv => whnf
                    refine cond_go rfl ?_
                    conv => whnf
                    refine cond_s (fun w91 => ?_) (fun w91 => ?_)
                    · replace hl0 := ift w91 hl0
                      obtain rfl := si hl0
                      replace hm := elr hm
                      obtain rfl := si hm
                      conv => whnf
                      refine EndStep.mk _ ((lk0.trans l28).trans l30) ⟨rfl, rfl⟩ (ConvH.of (.cons r0 (.cons r1 .nil)))
                    · replace hl0 := iff_ w91 hl0
                      conv => whnf
                      refine int_in (cntz hx0 hk0) ?_
                      conv => whnf
                      refine RoundStep.mk (i0 + 1, y0_0, x28.2.line, x28.2.err, y0_a0, y0_c0) ⟨rfl, rfl, trivial⟩ (by repeat (first | exact trivial | refine And.intro rfl ?_)) (ConvH.of (.cons r0 (.cons r1 .nil))) ((lk0.trans l28).trans l30) (ltm hx0) ⟨(y0_h0.mono (l28.trans l30)), hl0⟩
          · conv => whnf
            refine cond_f g36_6 ?_
            conv => whnf
            refine cond_f g36_6 ?_
            conv => whnf
            refine cond_F ?_
            conv => whnf
            refine cond_F ?_
            conv => whnf
            refine cond_F ?_
            conv => whnf
            refine cond_F ?_
            conv => whnf
            refine cond_go rfl ?_
            conv => whnf
            refine cond_F ?_
            replace hl0 := iff_ (and_f (and_f g36_6)) hl0
            conv => whnf
            refine nil_check ?_
            conv => whnf
            refine field_addr rfl ?_
            conv => whnf
            refine RStep.of (load1_s r0 rfl rfl ?_)
            conv => whnf
            refine neq_err rfl ?_
            conv => whnf
            refine cond_go rfl ?_
            conv => whnf
            refine cond_s (fun w53 => ?_) (fun w53 => ?_)
            · replace hl0 := ift w53 hl0
              obtain rfl := si hl0
              replace hm := elr hm
              obtain rfl := si hm
              conv => whnf
              refine EndStep.mk _ ((lk0.trans l28).trans l30) ⟨rfl, rfl⟩ (ConvH.of (.cons r0 (.cons r1 .nil)))
            · replace hl0 := iff_ w53 hl0
              conv => whnf
              refine field_addr rfl ?_
              conv => whnf
              refine RStep.of (load1_s r1 rfl rfl ?_)
              conv => whnf
              refine block_go rfl ?_
              conv => whnf
              refine eq_int ?_
              conv => whnf
              refine cond_go rfl ?_
              conv => whnf
              refine cond_s (fun w56 => ?_) (fun w56 => ?_)
              · replace hl0 := ift w56 hl0
                conv => whnf
                refine field_addr rfl ?_
                conv => whnf
                refine RStep.of (load1_s r1 rfl rfl ?_)
                obtain ⟨x61, q61, hl0⟩ := bnd hl0
                conv => whnf
                refine call_fn (ruletype_declared_ok (name := e0.Text) q61 (y0_h0.mono (l28.trans l30)) rfl) .nil ?_
                rintro _ K61 _ l61 ⟨rfl, rfl⟩
                conv => whnf
                refine cond_go rfl ?_
                conv => whnf
                refine cond_s (fun w61 => ?_) (fun w61 => ?_)
                · replace hl0 := ift w61 hl0
                  conv => whnf
                  refine RStep.of (loadn_s r1 rfl (Nat.le_of_ble_eq_true rfl) ?_)
                  conv => whnf
                  refine mk_iface rfl ?_
                  obtain ⟨x65, q65, hl0⟩ := bnd hl0
                  conv => whnf
                  refine call_fn (ruletype_checker_fail_ok (c := x28.2) (n' := e0) (err := (some 4)) q65 (LiC.mono S_ruletree_Node.R_ok ((l28.trans l30).trans l61) h17_0)) (.cons r0 .nil) ?_
                  rintro _ K65 _ l65 ⟨rfl, rfl⟩
                  conv => whnf
                  refine field_addr rfl ?_
                  conv => whnf
                  refine RStep.of (load1_s r1 rfl rfl ?_)
                  obtain ⟨x70, q70, hl0⟩ := bnd hl0
                  conv => whnf
                  refine call_fn (ruletype_extended_ok (name := e0.Text) (t := x28.1) q70 (y0_h0.mono (((l28.trans l30).trans l61).trans l65)) rfl) .nil ?_
                  rintro _ K70 _ l70 ⟨a70_0, c70_0, rfl, h70_0, rfl⟩
                  conv => whnf
                  refine nil_check ?_
                  conv => whnf
                  refine field_addr rfl ?_
                  conv => whnf
                  refine RStep.of (load1_s r1 rfl rfl ?_)
                  conv => whnf
                  refine neq_err rfl ?_
                  conv => whnf
                  refine cond_go rfl ?_
                  conv => whnf
                  refine cond_s (fun w91 => ?_) (fun w91 => ?_)
                  · replace hl0 := ift w91 hl0
                    obtain rfl := si hl0
                    replace hm := elr hm
                    obtain rfl := si hm
                    conv => whnf
                    refine EndStep.mk _ (((((lk0.trans l28).trans l30).trans l61).trans l65).trans l70) ⟨rfl, rfl⟩ (ConvH.of (.cons r1 (.cons r2 .nil)))
                  · replace hl0 := iff_ w91 hl0
                    conv => whnf
                    refine int_in (cntz hx0 hk0) ?_
                    conv => whnf
                    refine fRo r0 fun Kr0_0 lr0_0 fr0_0 => ?_
                    refine RoundStep.mk (i0 + 1, x70, x65.line, x65.err, a70_0, c70_0) ⟨rfl, rfl, trivial⟩ (by repeat (first | exact trivial | refine And.intro rfl ?_)) (ConvH.of (.cons r0 (.cons r1 .nil))) ((((((lk0.trans l28).trans l30).trans l61).trans l65).trans l70).trans lr0_0) (ltm hx0) ⟨fr0_0, hl0⟩
                · replace hl0 := iff_ w61 hl0
                  conv => whnf
                  refine field_addr rfl ?_
                  conv => whnf
                  refine RStep.of (load1_s r1 rfl rfl ?_)
                  obtain ⟨x70, q70, hl0⟩ := bnd hl0
                  conv => whnf
                  refine call_fn (ruletype_extended_ok (name := e0.Text) (t := x28.1) q70 (y0_h0.mono ((l28.trans l30).trans l61)) rfl) .nil ?_
                  rintro _ K70 _ l70 ⟨a70_0, c70_0, rfl, h70_0, rfl⟩
                  conv => whnf
                  refine nil_check ?_
                  conv => whnf
                  refine field_addr rfl ?_
                  conv => whnf
                  refine RStep.of (load1_s r1 rfl rfl ?_)
                  conv => whnf
                  refine neq_err rfl ?_
                  conv => whnf
                  refine cond_go rfl ?_
                  conv => whnf
                  refine cond_s (fun w91 => ?_) (fun w91 => ?_)
                  · replace hl0 := ift w91 hl0
                    obtain rfl := si hl0
                    replace hm := elr hm
                    obtain rfl := si hm
                    conv => whnf
                    refine EndStep.mk _ ((((lk0.trans l28).trans l30).trans l61).trans l70) ⟨rfl, rfl⟩ (ConvH.of (.cons r1 (.cons r2 .nil)))
                  · replace hl0 := iff_ w91 hl0
                    conv => whnf
                    refine int_in (cntz hx0 hk0) ?_
                    conv => whnf
                    refine fRo r0 fun Kr0_0 lr0_0 fr0_0 => ?_
                    refine RoundStep.mk (i0 + 1, x70, x28.2.line, x28.2.err, a70_0, c70_0) ⟨rfl, rfl, trivial⟩ (by repeat (first | exact trivial | refine And.intro rfl ?_)) (ConvH.of (.cons r0 (.cons r1 .nil))) (((((lk0.trans l28).trans l30).trans l61).trans l70).trans lr0_0) (ltm hx0) ⟨fr0_0, hl0⟩
              · replace hl0 := iff_ w56 hl0
                conv => whnf
                refine eq_int ?_
                conv => whnf
                refine cond_go rfl ?_
                conv => whnf
                refine cond_s (fun w71 => ?_) (fun w71 => ?_)
                · replace hl0 := ift w71 hl0
                  conv => whnf
                  refine field_addr rfl ?_
                  conv => whnf
                  refine RStep.of (load1_s r1 rfl rfl ?_)
                  obtain ⟨h75, hl0⟩ := chkb hl0
                  have h75_ := (LiC.mono S_ruletree_Node.R_ok (l28.trans l30) h17_0).subC h75
                  conv => whnf
                  refine RStep.ofN (sl_slN (l := e0.Kids) (lo := (some 1)) (hi := none) (lo' := (1 : Int)) (hi' := (e0.Kids.length : Int)) rfl rfl rfl rfl rfl (LiC.mono S_ruletree_Node.R_ok (l28.trans l30) h17_0).le h75 ?_)
                  conv => whnf
                  refine RStep.of (len_slice rfl ?_)
                  obtain ⟨hk3, hl0⟩ := chkb hl0
                  obtain ⟨s3, hl3, hl0⟩ := bnd hl0
                  conv => whnf
                  refine code_cut (σ := (Int × Err)) [11, 77, 78, 79, 80, 81, 82, 83, 84, 85, 86] (fun t3 => []) (fun t3 => [Cells b0 68 [.int .i64 t3.1, errV 46 t3.2], Cells b7 33 [.int .i64 e0.Kind, str e0.Text, .slice a17_0 e0.Kids.length c17_0, .int .i64 e0.Line], F]) (fun zz K1 => match zz with | t3 => t3 = s3) ?_ ?_
                  · refine block_go rfl ?_
                    conv => whnf
                    refine loop_rule (σ := Nat × Int × Err) [11, 77, 78, 79, 80, 81, 82, 83, 84, 85, 86] (fun (i3, y3_0, y3_1) => [(77, .int .i64 (i3 : Int))]) (fun (i3, y3_0, y3_1) => [Cells b0 68 [.int .i64 y3_0, errV 46 y3_1], Cells b7 33 [.int .i64 e0.Kind, str e0.Text, .slice a17_0 e0.Kids.length c17_0, .int .i64 e0.Line], F]) (fun zz K1 => match zz with | (i3, y3_0, y3_1) => ruletype_checker_block_L3 (ruletype_checker_block n) y0_0 ((subL e0.Kids (1 : Int) (e0.Kids.length : Int)).drop i3) i3 y3_0 y3_1 = some s3) (fun zz => (subL e0.Kids (1 : Int) (e0.Kids.length : Int)).length - zz.1) (0, x28.2.line, x28.2.err) rfl ⟨rfl, trivial⟩ (ConvH.of (.cons r0 (.cons r0 (.cons r0 .nil)))) hl3 ?_
                    clear hl3
                    rintro ⟨i3, y3_0, y3_1⟩ Kb3 lk3 hl3 j3
                    conv at hl3 => whnf
                    conv => whnf
                    refine cond_go rfl ?_
                    conv => whnf
                    refine cond_s (fun w3 => ?_) (fun w3 => ?_)
                    · obtain ⟨e3, hx3, hd3⟩ := ltx w3
                      rw [hd3, ruletype_checker_block_L3.eq_2] at hl3
                      conv => whnf
                      refine block_go rfl ?_
                      conv => whnf
                      refine RStep.ofN (index_addr rfl rfl (hasR (LiC.mono S_ruletree_Node.R_ok lk3 h75_).rd hx3) (nn _) (lt_ofN hx3) ?_)
                      obtain ⟨ss80, cc80, hr80, hc80, hR80⟩ := LiR.get (LiC.mono S_ruletree_Node.R_ok lk3 h75_).rd hx3
                      obtain ⟨a80_0, c80_0, rfl, h80_0⟩ := S_ruletree_Node.out hR80
                      conv => whnf
                      refine RStep.of (load_rd_agg i3 _ hr80 rfl hc80 rfl ?_)
                      conv => whnf
                      refine alloc_rule rfl ?_
                      intro b11
                      conv => whnf
                      refine store_rule r0 rfl ?_
                      conv => whnf
                      refine ⟨rfl, rfl, (Nat.le_of_ble_eq_true rfl), ?_⟩
                      conv => whnf
                      refine RStep.of (loadn_s r0 rfl (Nat.le_of_ble_eq_true rfl) ?_)
                      obtain ⟨x83, q83, hl3⟩ := bnd hl3
                      conv => whnf
                      refine call_fn (ruletype_branch_ok (n' := e3) q83 h80_0) .nil ?_
                      rintro _ K83 _ l83 ⟨a83_0, c83_0, rfl, h83_0, rfl⟩
                      obtain ⟨x85, q85, hl3⟩ := bnd hl3
                      conv => whnf
                      refine call_fn (ih (c := (⟨y3_0, y3_1⟩ : S_ruletype_checker)) q85 h83_0 rfl (y0_h0.mono (((l28.trans l30).trans lk3).trans l83)) rfl) (.cons r1 .nil) ?_
                      rintro _ K85 _ l85 ⟨rfl, rfl⟩
                      conv => whnf
                      refine int_in (cntz hx3 hk3) ?_
                      conv => whnf
                      refine RoundStep.mk (i3 + 1, x85.line, x85.err) ⟨rfl, trivial⟩ (by repeat (first | exact trivial | refine And.intro rfl ?_)) (ConvH.of (.cons r0 (.cons r1 (.cons r1 .nil)))) ((lk3.trans l83).trans l85) (ltm hx3) hl3
                    · rw [lty w3, ruletype_checker_block_L3.eq_1] at hl3
                      conv => whnf
                      refine cond_T ?_
                      conv => whnf
                      refine MeetStep.mk ((y3_0, y3_1)) trivial (by repeat (first | exact trivial | refine And.intro rfl ?_)) (ConvH.of (.cons r0 (.cons r0 (.cons r0 .nil)))) lk3 (si hl3)
                  · rintro t3 Kt3 lt3 rfl j3
                    conv => whnf
                    refine nil_check ?_
                    conv => whnf
                    refine field_addr rfl ?_
                    conv => whnf
                    refine RStep.of (load1_s r0 rfl rfl ?_)
                    conv => whnf
                    refine neq_err rfl ?_
                    conv => whnf
                    refine cond_go rfl ?_
                    conv => whnf
                    refine cond_s (fun w91 => ?_) (fun w91 => ?_)
                    · replace hl0 := ift w91 hl0
                      obtain rfl := si hl0
                      replace hm := elr hm
                      obtain rfl := si hm
                      conv => whnf
                      refine EndStep.mk _ (((lk0.trans l28).trans l30).trans lt3) ⟨rfl, rfl⟩ (ConvH.of (.cons r0 (.cons r1 .nil)))
                    · replace hl0 := iff_ w91 hl0
                      conv => whnf
                      refine int_in (cntz hx0 hk0) ?_
                      conv => whnf
                      refine RoundStep.mk (i0 + 1, y0_0, t3.1, t3.2, y0_a0, y0_c0) ⟨rfl, rfl, trivial⟩ (by repeat (first | exact trivial | refine And.intro rfl ?_)) (ConvH.of (.cons r0 (.cons r1 .nil))) (((lk0.trans l28).trans l30).trans lt3) (ltm hx0) ⟨(y0_h0.mono ((l28.trans l30).trans lt3)), hl0⟩
                · replace hl0 := iff_ w71 hl0
                  conv => whnf
                  refine nil_check ?_
                  conv => whnf
                  refine field_addr rfl ?_
                  conv => whnf
                  refine RStep.of (load1_s r0 rfl rfl ?_)
                  conv => whnf
                  refine neq_err rfl ?_
                  conv => whnf
                  refine cond_go rfl ?_
                  conv => whnf
                  refine cond_s (fun w91 => ?_) (fun w91 => ?_)
                  · replace hl0 := ift w91 hl0
                    obtain rfl := si hl0
                    replace hm := elr hm
                    obtain rfl := si hm
                    conv => whnf
                    refine EndStep.mk _ ((lk0.trans l28).trans l30) ⟨rfl, rfl⟩ (ConvH.of (.cons r0 (.cons r1 .nil)))
                  · replace hl0 := iff_ w91 hl0
                    conv => whnf
                    refine int_in (cntz hx0 hk0) ?_
                    conv => whnf
                    refine RoundStep.mk (i0 + 1, y0_0, x28.2.line, x28.2.err, y0_a0, y0_c0) ⟨rfl, rfl, trivial⟩ (by repeat (first | exact trivial | refine And.intro rfl ?_)) (ConvH.of (.cons r0 (.cons r1 .nil))) ((lk0.trans l28).trans l30) (ltm hx0) ⟨(y0_h0.mono (l28.trans l30)), hl0⟩
      · rw [lty w0, ruletype_checker_block_L0.eq_1] at hl0
        conv => whnf
        refine cond_T ?_
        conv => whnf
        refine MeetStep.mk ((y0_0, y0_1, y0_2), y0_a0, y0_c0) ⟨rfl, trivial⟩ (by repeat (first | exact trivial | refine And.intro rfl ?_)) (ConvH.of (.cons r0 (.cons r0 .nil))) lk0 ⟨y0_h0, (si hl0).symm⟩
    · rintro ⟨t0, t0_a0, t0_c0⟩ Kt0 lt0 ⟨t0_h0, rfl⟩ j0
      replace hm := elg hm
      obtain rfl := si hm
      conv => whnf
      refine EndStep.mk _ lt0 ⟨rfl, rfl⟩ (ConvH.of (.cons r0 (.cons r0 .nil)))

noncomputable def ruletype_Check (n : Nat) (program : S_ruletree_Node) : Option (Int × Err) :=
  (ruletree_Valid n program).bind fun x6 =>
  if (!x6) then
  some (0, (some 2))
  else
  (ruletype_checker_block n (⟨0, none⟩ : S_ruletype_checker) program.Kids []).bind fun x14 =>
  some (x14.line, x14.err)
set_option maxHeartbeats 8000000 in
theorem ruletype_Check_ok {n : Nat} {program : S_ruletree_Node} {ap0_0 : Option Addr} {cp0_0 : Nat} {K : Hp} {r : Int × Err}
    (hm : ruletype_Check n program = some r) (hp0_0 : LiC S_ruletree_Node.R K ap0_0 cp0_0 4 program.Kids) (hG0 : GlL eS 1 0 gkw0 K) :
    Fn Tryd.prog 13 [.agg #[.int .i64 program.Kind, str program.Text, .slice ap0_0 program.Kids.length cp0_0, .int .i64 program.Line]] K [] (fun v K' H' => v = .tuple #[.int .i64 r.1, errV 46 r.2] ∧ H' = []) := by
  obtain ⟨ga0, gn0, gc0, gn_, gs0, gd0⟩ := id hG0
  subst gn_
  refine Fn.enter Tryd.func13 Tryd.call13 rfl fun F => ?_
  unfold ruletype_Check at hm
  conv => whnf
  refine box_rule ?_
  intro b1
  conv => whnf
  refine RStep.of (loadn_s r0 rfl (Nat.le_of_ble_eq_true rfl) ?_)
  obtain ⟨x6, q6, hm⟩ := bnd hm
  conv => whnf
  refine call_fn (ruletree_Valid_ok (n' := program) q6 hp0_0 hG0) .nil ?_
  rintro _ K6 _ l6 ⟨rfl, rfl⟩
  conv => whnf
  refine un_not ?_
  conv => whnf
  refine cond_go rfl ?_
  conv => whnf
  refine cond_s (fun w7 => ?_) (fun w7 => ?_)
  · replace hm := ift (not_t (ni_t w7)) hm
    conv => whnf
    refine mk_iface rfl ?_
    obtain rfl := si hm
    conv => whnf
    refine EndStep.mk _ l6 ⟨rfl, rfl⟩ (ConvH.of (.cons r1 .nil))
  · replace hm := iff_ (not_f (ni_f w7)) hm
    conv => whnf
    refine build_struct rfl rfl ?_
    conv => whnf
    refine box_rule ?_
    intro b10
    conv => whnf
    refine field_addr rfl ?_
    conv => whnf
    refine RStep.of (load1_s r1 rfl rfl ?_)
    obtain ⟨x14, q14, hm⟩ := bnd hm
    conv => whnf
    refine call_fn (ruletype_checker_block_ok (c := (⟨0, none⟩ : S_ruletype_checker)) q14 (LiC.mono S_ruletree_Node.R_ok l6 hp0_0) rfl RdC.nil rfl) (.cons r0 .nil) ?_
    rintro _ K14 _ l14 ⟨rfl, rfl⟩
    conv => whnf
    refine draw_go ⟨⟨[], false⟩, _, [(_, _)]⟩ (by kernel_rfl) ⟨Hp.Le.refl _, (ConvH.of (.cons r0 .nil))⟩ ?_
    conv => whnf
    refine nil_check ?_
    conv => whnf
    refine field_addr rfl ?_
    conv => whnf
    refine load1_l m0 rfl rfl ?_
    conv => whnf
    refine nil_check ?_
    conv => whnf
    refine field_addr rfl ?_
    conv => whnf
    refine load1_l m0 rfl rfl ?_
    obtain rfl := si hm
    conv => whnf
    refine EndStep.mk _ (l6.trans l14) ⟨rfl, rfl⟩ (ConvH.of (.cons r2 .nil))

noncomputable def base_Num (e : Err) : Option (Int) :=
  if e.isNone then
  some 0
  else
  if (!e.isSome) then
  some (-1)
  else
  some (e.getD 0)
set_option maxHeartbeats 8000000 in
theorem base_Num_ok {e : Err} {K : Hp} {r : Int}
    (hm : base_Num e = some r)  :
    Fn Tryd.prog 16 [errV 46 e] K [] (fun v K' H' => v = .int .i64 r ∧ H' = []) := by
  refine Fn.enter Tryd.func16 Tryd.call16 rfl fun F => ?_
  unfold base_Num at hm
  conv => whnf
  refine eq_err rfl ?_
  conv => whnf
  refine cond_go rfl ?_
  conv => whnf
  refine cond_s (fun w6 => ?_) (fun w6 => ?_)
  · replace hm := ift w6 hm
    obtain rfl := si hm
    conv => whnf
    refine EndStep.mk _ (Hp.Le.refl _) ⟨rfl, rfl⟩ (ConvH.of (.cons r0 .nil))
  · replace hm := iff_ w6 hm
    conv => whnf
    refine asrt rfl rfl rfl ?_
    conv => whnf
    refine un_not ?_
    conv => whnf
    refine cond_go rfl ?_
    conv => whnf
    refine cond_s (fun w13 => ?_) (fun w13 => ?_)
    · replace hm := ift (not_t (ni_t w13)) hm
      obtain rfl := si hm
      conv => whnf
      refine EndStep.mk _ (Hp.Le.refl _) ⟨rfl, rfl⟩ (ConvH.of (.cons r0 .nil))
    · replace hm := iff_ (not_f (ni_f w13)) hm
      obtain rfl := si hm
      conv => whnf
      refine EndStep.mk _ (Hp.Le.refl _) ⟨rfl, rfl⟩ (ConvH.of (.cons r0 .nil))

noncomputable def base_Is (e : Err) (want : Int) : Option (Bool) :=
  (base_Num e).bind fun x6 =>
  some (decide (x6 = want) && decide (want ≠ 0))
set_option maxHeartbeats 8000000 in
theorem base_Is_ok {e : Err} {want : Int} {K : Hp} {r : Bool}
    (hm : base_Is e want = some r)  :
    Fn Tryd.prog 21 [errV 46 e, .int .i64 want] K [] (fun v K' H' => v = .bool r ∧ H' = []) := by
  refine Fn.enter Tryd.func21 Tryd.call21 rfl fun F => ?_
  unfold base_Is at hm
  obtain ⟨x6, q6, hm⟩ := bnd hm
  conv => whnf
  refine call_fn (base_Num_ok (e := e) q6) .nil ?_
  rintro _ K6 _ l6 ⟨rfl, rfl⟩
  conv => whnf
  refine eq_int ?_
  conv => whnf
  refine cond_s (fun g9_1 => ?_) (fun g9_1 => ?_)
  · conv => whnf
    refine cond_t g9_1 ?_
    conv => whnf
    refine neq_int ?_
    conv => whnf
    refine cond_t g9_1 ?_
    obtain rfl := si hm
    conv => whnf
    refine EndStep.mk _ l6 ⟨(by rw [← (and_e (b := decide (want ≠ 0)) g9_1)] <;> rfl), rfl⟩ (ConvH.of (.cons r0 .nil))
  · conv => whnf
    refine cond_f g9_1 ?_
    conv => whnf
    refine cond_f g9_1 ?_
    obtain rfl := si hm
    conv => whnf
    refine EndStep.mk _ l6 ⟨(by rw [← ((and_f g9_1)).symm] <;> rfl), rfl⟩ (ConvH.of (.cons r0 .nil))

noncomputable def law44_awake (n : Nat) : Option (Bool) :=
  (law44_Program ([(⟨9, ([] : Str), [(⟨23, ([112, 97, 116, 104] : Str), [], 3⟩ : S_ref43_Node)], 3⟩ : S_ref43_Node)])).bind fun x8 =>
  (law43_Of n x8).bind fun x11 =>
  (ruletype_Check n x11).bind fun x12 =>
  (if decide (x12.1 = 3) then (base_Is x12.2 9).bind fun x19 =>
  some x19 else some false).bind fun x20 =>
  some x20
set_option maxHeartbeats 8000000 in
theorem law44_awake_ok {n : Nat}  {K : Hp} {r : Bool}
    (hm : law44_awake n = some r) (hG0 : GlL eS 1 0 gkw0 K) :
    Fn Tryd.prog 12 [] K [] (fun v K' H' => v = .bool r ∧ H' = []) := by
  obtain ⟨ga0, gn0, gc0, gn_, gs0, gd0⟩ := id hG0
  subst gn_
  refine Fn.enter Tryd.func12 Tryd.call12 rfl fun F => ?_
  unfold law44_awake at hm
  conv => whnf
  refine build_struct rfl rfl ?_
  conv => whnf
  refine cond_T ?_
  conv => whnf
  refine cond_T ?_
  conv => whnf
  refine cond_T ?_
  conv => whnf
  refine bsOR (len := 1) (l := [(⟨23, ([112, 97, 116, 104] : Str), [], 3⟩ : S_ref43_Node)]) (css := [[.int .i64 23, str ([112, 97, 116, 104] : Str), .slice none 0 0, .int .i64 3]]) (cl := [.int .i64 23, str ([112, 97, 116, 104] : Str), .slice none 0 0, .int .i64 3]) S_ref43_Node.R_ok elT22 rfl rfl (LR.snoc LR.nil (S_ref43_Node.of ⟨none, 0, rfl, LiC.nil⟩)) rfl rfl rfl ?_ fun b5 => ?_
  · conv => whnf
    refine cond_T ?_
    conv => whnf
    first | done | rfl
  conv => whnf
  refine build_struct rfl rfl ?_
  conv => whnf
  refine cond_T ?_
  conv => whnf
  refine cond_T ?_
  conv => whnf
  refine cond_T ?_
  conv => whnf
  refine fzWR S_ref43_Node.R_ok r0 (show LR S_ref43_Node.R _ [[.int .i64 23, str ([112, 97, 116, 104] : Str), .slice none 0 0, .int .i64 3]] [(⟨23, ([112, 97, 116, 104] : Str), [], 3⟩ : S_ref43_Node)] from (LR.snoc LR.nil (S_ref43_Node.of ⟨none, 0, rfl, LiC.nil⟩))) fun Kf7_0_0 lf7_0_0 ff7_0_0 => ?_
  refine bsOR (len := 1) (l := [(⟨9, ([] : Str), [(⟨23, ([112, 97, 116, 104] : Str), [], 3⟩ : S_ref43_Node)], 3⟩ : S_ref43_Node)]) (css := [[.int .i64 9, str ([] : Str), .slice (some ⟨b5, 0, none⟩) 1 1, .int .i64 3]]) (cl := [.int .i64 9, str ([] : Str), .slice (some ⟨b5, 0, none⟩) 1 1, .int .i64 3]) S_ref43_Node.R_ok elT22 rfl rfl (LR.snoc LR.nil (S_ref43_Node.of ⟨(some ⟨b5, 0, none⟩), 1, rfl, ff7_0_0⟩)) rfl rfl rfl ?_ fun b7 => ?_
  · conv => whnf
    refine cond_T ?_
    conv => whnf
    first | done | rfl
  obtain ⟨x8, q8, hm⟩ := bnd hm
  conv => whnf
  refine fzFR Tryd.call18 S_ref43_Node.R_ok r0 (show LR S_ref43_Node.R _ [[.int .i64 9, str ([] : Str), .slice (some ⟨b5, 0, none⟩) 1 1, .int .i64 3]] [(⟨9, ([] : Str), [(⟨23, ([112, 97, 116, 104] : Str), [], 3⟩ : S_ref43_Node)], 3⟩ : S_ref43_Node)] from (LR.snoc LR.nil (S_ref43_Node.of ⟨(some ⟨b5, 0, none⟩), 1, rfl, ff7_0_0⟩))) fun K8_0 l8_0 f8_0 => ?_
  refine call_fn (law44_Program_ok q8 f8_0 rfl) .nil ?_
  rintro _ K8 _ l8 ⟨a8_0, c8_0, rfl, h8_0, rfl⟩
  conv => whnf
  refine alloc_rule rfl ?_
  intro b1
  conv => whnf
  refine store_rule r0 rfl ?_
  conv => whnf
  refine ⟨rfl, rfl, (Nat.le_of_ble_eq_true rfl), ?_⟩
  conv => whnf
  refine RStep.of (loadn_s r0 rfl (Nat.le_of_ble_eq_true rfl) ?_)
  obtain ⟨x11, q11, hm⟩ := bnd hm
  conv => whnf
  refine call_fn (law43_Of_ok (n' := x8) q11 h8_0) .nil ?_
  rintro _ K11 _ l11 ⟨a11_0, c11_0, s11_0, rfl, h11_0, r11_0, rfl⟩
  obtain ⟨x12, q12, hm⟩ := bnd hm
  conv => whnf
  refine fzFR Tryd.call13 S_ruletree_Node.R_ok r0 r11_0 fun Kf12_0_0 lf12_0_0 ff12_0_0 => ?_
  refine call_fn (ruletype_Check_ok (program := x11) q12 ff12_0_0 (hG0.mono ((((lf7_0_0.trans l8_0).trans l8).trans l11).trans lf12_0_0))) .nil ?_
  rintro _ K12 _ l12 ⟨rfl, rfl⟩
  conv => whnf
  refine eq_int ?_
  obtain ⟨x20, e20, hm⟩ := bnd hm
  conv => whnf
  refine cond_s (fun g17_3 => ?_) (fun g17_3 => ?_)
  · replace e20 := ift g17_3 e20
    conv => whnf
    refine cond_t g17_3 ?_
    obtain ⟨x19, q19, e20⟩ := bnd e20
    conv => whnf
    refine call_fn (base_Is_ok (e := x12.2) (want := 9) q19) .nil ?_
    rintro _ K19 _ l19 ⟨rfl, rfl⟩
    conv => whnf
    refine cond_t g17_3 ?_
    obtain rfl := si hm
    conv => whnf
    refine EndStep.mk _ ((((((lf7_0_0.trans l8_0).trans l8).trans l11).trans lf12_0_0).trans l12).trans l19) ⟨(by rw [← (si e20)] <;> rfl), rfl⟩ (ConvH.of (.cons r1 .nil))
  · replace e20 := iff_ g17_3 e20
    conv => whnf
    refine cond_f g17_3 ?_
    conv => whnf
    refine cond_f g17_3 ?_
    obtain rfl := si hm
    conv => whnf
    refine EndStep.mk _ (((((lf7_0_0.trans l8_0).trans l8).trans l11).trans lf12_0_0).trans l12) ⟨(by rw [← ((si e20).symm).symm] <;> rfl), rfl⟩ (ConvH.of (.cons r1 .nil))

noncomputable def law44_moved_L0 (rec_ : (S_ref43_Node → Int → Option (S_ref43_Node))) (byZ : Int) : List S_ref43_Node → Nat → (List S_ref43_Node) → Option ((List S_ref43_Node))
  | [], _, y0_0 => some y0_0
  | e0 :: xs0, i0, y0_0 =>
    (rec_ e0 byZ).bind fun x28 =>
    (chk (y0_0.length + [x28].length ≤ lim)).bind fun _ =>
    law44_moved_L0 rec_ byZ xs0 (i0 + 1) (y0_0 ++ [x28])
noncomputable def law44_moved : Nat → S_ref43_Node → Int → Option (S_ref43_Node)
  | 0, _, _ => none
  | n + 1, n', byZ =>
    (chk (n'.Kids.length ≤ szMax)).bind fun _ =>
    (law44_moved_L0 (law44_moved n) byZ n'.Kids 0 []).bind fun t0 =>
    some (⟨n'.Kind, n'.Text, t0, (IntKind.i64.wrap (n'.Line + byZ))⟩ : S_ref43_Node)
set_option maxHeartbeats 8000000 in
theorem law44_moved_ok : ∀ {n : Nat} {n' : S_ref43_Node} {byZ : Int} {ap0_0 : Option Addr} {cp0_0 : Nat} {K : Hp} {r : S_ref43_Node}
    (hm : law44_moved n n' byZ = some r) (hp0_0 : LiC S_ref43_Node.R K ap0_0 cp0_0 4 n'.Kids),
    Fn Tryd.prog 20 [.agg #[.int .i64 n'.Kind, str n'.Text, .slice ap0_0 n'.Kids.length cp0_0, .int .i64 n'.Line], .int .i64 byZ] K [] (fun v K' H' => ∃ ar_0 : Option Addr, ∃ cr_0 : Nat, ∃ sr_0 : List (List Value), v = .agg #[.int .i64 r.Kind, str r.Text, .slice ar_0 r.Kids.length cr_0, .int .i64 r.Line] ∧ (0 < r.Kids.length → Has ar_0) ∧ LR S_ref43_Node.R K' sr_0 r.Kids ∧ H' = [OwnA ar_0 24 4 cr_0 sr_0]) := by
  intro n
  induction n with
  | zero =>
    intro n' byZ ap0_0 cp0_0 K r hm hp0_0
    rw [law44_moved.eq_1] at hm; cases hm
  | succ n ih =>
    intro n' byZ ap0_0 cp0_0 K r hm hp0_0
    refine Fn.enter Tryd.func20 Tryd.call20 rfl fun F => ?_
    rw [law44_moved.eq_2] at hm
    conv => whnf
    refine box_rule ?_
    intro b2
    conv => whnf
    refine alloc_rule rfl ?_
    intro b4
    conv => whnf
    refine field_addr rfl ?_
    conv => whnf
    refine RStep.of (load1_s r1 rfl rfl ?_)
    conv => whnf
    refine field_addr rfl ?_
    conv => whnf
    refine RStep.of (load1_s r1 rfl rfl ?_)
    conv => whnf
    refine field_addr rfl ?_
    conv => whnf
    refine RStep.of (load1_s r1 rfl rfl ?_)
    conv => whnf
    refine int_wrap ?_
    conv => whnf
    refine build_struct rfl rfl ?_
    conv => whnf
    refine cond_T ?_
    conv => whnf
    refine cond_T ?_
    conv => whnf
    refine cond_T ?_
    conv => whnf
    refine alloc_rule rfl ?_
    intro b5
    conv => whnf
    refine store_rule r0 rfl ?_
    conv => whnf
    refine ⟨rfl, rfl, (Nat.le_of_ble_eq_true rfl), ?_⟩
    conv => whnf
    refine field_addr rfl ?_
    conv => whnf
    refine RStep.of (load1_s r2 rfl rfl ?_)
    conv => whnf
    refine RStep.of (len_slice rfl ?_)
    obtain ⟨hk0, hm⟩ := chkb hm
    obtain ⟨s0, hl0, hm⟩ := bnd hm
    conv => whnf
    refine nilC (fun _ : S_ref43_Node => []) 24 4 ?_
    refine code_cut (σ := ((List S_ref43_Node)) × Option Addr × Nat × List (List Value)) [7, 20, 21, 22, 23, 24, 25, 26, 27, 28, 29, 30, 31, 32] (fun (t0, t0_a0, t0_c0, t0_s0) => []) (fun (t0, t0_a0, t0_c0, t0_s0) => [OwnA t0_a0 24 4 t0_c0 t0_s0, Cells b5 24 [.int .i64 n'.Kind, str n'.Text, .slice t0_a0 t0.length t0_c0, .int .i64 (IntKind.i64.wrap (n'.Line + byZ))], Cells b4 24 [.int .i64 0, str ([] : Str), .slice none 0 0, .int .i64 0], Cells b2 24 [.int .i64 n'.Kind, str n'.Text, .slice ap0_0 n'.Kids.length cp0_0, .int .i64 n'.Line], F]) (fun zz K1 => match zz with | (t0, t0_a0, t0_c0, t0_s0) => LR S_ref43_Node.R K1 t0_s0 t0 ∧ (0 < t0.length → Has t0_a0) ∧ t0 = s0) ?_ ?_
    · refine block_go rfl ?_
      conv => whnf
      refine loop_rule (σ := Nat × (List S_ref43_Node) × Option Addr × Nat × List (List Value)) [7, 20, 21, 22, 23, 24, 25, 26, 27, 28, 29, 30, 31, 32] (fun (i0, y0_0, y0_a0, y0_c0, y0_s0) => [(20, .int .i64 (i0 : Int))]) (fun (i0, y0_0, y0_a0, y0_c0, y0_s0) => [OwnA y0_a0 24 4 y0_c0 y0_s0, Cells b5 24 [.int .i64 n'.Kind, str n'.Text, .slice y0_a0 y0_0.length y0_c0, .int .i64 (IntKind.i64.wrap (n'.Line + byZ))], Cells b4 24 [.int .i64 0, str ([] : Str), .slice none 0 0, .int .i64 0], Cells b2 24 [.int .i64 n'.Kind, str n'.Text, .slice ap0_0 n'.Kids.length cp0_0, .int .i64 n'.Line], F]) (fun zz K1 => match zz with | (i0, y0_0, y0_a0, y0_c0, y0_s0) => LR S_ref43_Node.R K1 y0_s0 y0_0 ∧ (0 < y0_0.length → Has y0_a0) ∧ law44_moved_L0 (law44_moved n) byZ (n'.Kids.drop i0) i0 y0_0 = some s0) (fun zz => n'.Kids.length - zz.1) (0, [], none, 0, []) rfl ⟨rfl, trivial⟩ (ConvH.of (.cons r0 (.cons r0 (.cons r0 (.cons r0 (.cons r0 .nil)))))) ⟨LR.nil, (fun h => by simp at h), hl0⟩ ?_
      clear hl0
      rintro ⟨i0, y0_0, y0_a0, y0_c0, y0_s0⟩ Kb0 lk0 ⟨y0_r0, y0_h0, hl0⟩ j0
      conv => whnf
      refine cond_go rfl ?_
      conv => whnf
      refine cond_s (fun w0 => ?_) (fun w0 => ?_)
      · obtain ⟨e0, hx0, hd0⟩ := ltx w0
        rw [hd0, law44_moved_L0.eq_2] at hl0
        conv => whnf
        refine block_go rfl ?_
        conv => whnf
        refine RStep.ofN (index_addr rfl rfl (hasR (LiC.mono S_ref43_Node.R_ok lk0 hp0_0).rd hx0) (nn _) (lt_ofN hx0) ?_)
        obtain ⟨ss23, cc23, hr23, hc23, hR23⟩ := LiR.get (LiC.mono S_ref43_Node.R_ok lk0 hp0_0).rd hx0
        obtain ⟨a23_0, c23_0, rfl, h23_0⟩ := S_ref43_Node.out hR23
        conv => whnf
        refine RStep.of (load_rd_agg i0 _ hr23 rfl hc23 rfl ?_)
        conv => whnf
        refine alloc_rule rfl ?_
        intro b7
        conv => whnf
        refine store_rule r0 rfl ?_
        conv => whnf
        refine ⟨rfl, rfl, (Nat.le_of_ble_eq_true rfl), ?_⟩
        conv => whnf
        refine draw_go_tail ⟨⟨[], false⟩, _, [(_, _), (_, _)]⟩ 6 rfl (by kernel_rfl) ⟨Hp.Le.refl _, (ConvH.of (.cons r2 (.cons r0 .nil)))⟩ ?_
        conv => whnf
        refine field_addr rfl ?_
        conv => whnf
        refine load1_l m0 rfl rfl ?_
        conv => whnf
        refine loadn_l m1 rfl (Nat.le_of_ble_eq_true rfl) ?_
        obtain ⟨x28, q28, hl0⟩ := bnd hl0
        conv => whnf
        refine call_fn (ih (n' := e0) (byZ := byZ) q28 h23_0) .nil ?_
        rintro _ K28 _ l28 ⟨a28_0, c28_0, s28_0, rfl, h28_0, r28_0, rfl⟩
        conv => whnf
        refine ⟨⟨l28, (ConvH.of (.cons r3 (.cons r1 .nil)))⟩, ?_⟩
        conv => whnf
        refine fzWR S_ref43_Node.R_ok r0 r28_0 fun Kf29_0_0 lf29_0_0 ff29_0_0 => ?_
        refine bsOR (len := 1) (l := [x28]) (css := [[.int .i64 x28.Kind, str x28.Text, .slice a28_0 x28.Kids.length c28_0, .int .i64 x28.Line]]) (cl := [.int .i64 x28.Kind, str x28.Text, .slice a28_0 x28.Kids.length c28_0, .int .i64 x28.Line]) S_ref43_Node.R_ok elT22 rfl rfl (LR.snoc LR.nil (S_ref43_Node.of ⟨a28_0, c28_0, rfl, ff29_0_0⟩)) rfl rfl rfl ?_ fun b29 => ?_
        · conv => whnf
          refine cond_T ?_
          conv => whnf
          first | done | rfl
        conv => whnf
        refine ⟨⟨(l28.trans lf29_0_0), (ConvH.of (.cons r3 (.cons r1 .nil)))⟩, ?_⟩
        obtain ⟨h30, hl0⟩ := chkb hl0
        conv => whnf
        refine apRl r2 (LR.mono S_ref43_Node.R_ok (l28.trans lf29_0_0) y0_r0) rfl elT22 (src_ownR rfl r0 rfl S_ref43_Node.R_ok (show LR S_ref43_Node.R _ [[.int .i64 x28.Kind, str x28.Text, .slice a28_0 x28.Kids.length c28_0, .int .i64 x28.Line]] [x28] from (LR.snoc LR.nil (S_ref43_Node.of ⟨a28_0, c28_0, rfl, ff29_0_0⟩)))) (show LR S_ref43_Node.R _ [[.int .i64 x28.Kind, str x28.Text, .slice a28_0 x28.Kids.length c28_0, .int .i64 x28.Line]] [x28] from (LR.snoc LR.nil (S_ref43_Node.of ⟨a28_0, c28_0, rfl, ff29_0_0⟩))) h30 ?_
        intro a30 c30 s30 r_30 o30
        conv => whnf
        refine ⟨⟨Hp.emp_le _, (ConvH.of .nil)⟩, ?_⟩
        conv => whnf
        refine field_addr rfl ?_
        conv => whnf
        refine store_rule r3 rfl ?_
        conv => whnf
        refine ⟨rfl, rfl, (Nat.le_of_ble_eq_true rfl), ?_⟩
        conv => whnf
        refine ⟨⟨Hp.emp_le _, (ConvH.of .nil)⟩, ?_⟩
        conv => whnf
        refine int_in (cntz hx0 hk0) ?_
        conv => whnf
        refine RoundStep.mk (i0 + 1, (y0_0 ++ [x28]), a30, c30, s30) ⟨rfl, trivial⟩ (by repeat (first | exact trivial | refine And.intro rfl ?_)) (ConvH.of (.cons r1 (.cons r0 (.cons r2 (.cons r2 (.cons r2 .nil)))))) ((lk0.trans l28).trans lf29_0_0) (ltm hx0) ⟨r_30, o30, hl0⟩
      · rw [lty w0, law44_moved_L0.eq_1] at hl0
        conv => whnf
        refine cond_T ?_
        conv => whnf
        refine MeetStep.mk (y0_0, y0_a0, y0_c0, y0_s0) trivial (by repeat (first | exact trivial | refine And.intro rfl ?_)) (ConvH.of (.cons r0 (.cons r0 (.cons r0 (.cons r0 (.cons r0 .nil)))))) lk0 ⟨y0_r0, y0_h0, (si hl0)⟩
    · rintro ⟨t0, t0_a0, t0_c0, t0_s0⟩ Kt0 lt0 ⟨t0_r0, t0_h0, rfl⟩ j0
      conv => whnf
      refine RStep.of (loadn_s r1 rfl (Nat.le_of_ble_eq_true rfl) ?_)
      conv => whnf
      refine store_rule r2 rfl ?_
      conv => whnf
      refine ⟨rfl, rfl, (Nat.le_of_ble_eq_true rfl), ?_⟩
      obtain rfl := si hm
      conv => whnf
      refine RStep.of (loadn_s r0 rfl (Nat.le_of_ble_eq_true rfl) ?_)
      conv => whnf
      refine EndStep.mk _ lt0 ⟨t0_a0, t0_c0, t0_s0, rfl, t0_h0, t0_r0, rfl⟩ (ConvH.of (.cons r1 (.cons r3 .nil)))

noncomputable def law44_RuletypeLines (n : Nat) (n' : S_ref43_Node) (byZ : Int) : Option (Bool) :=
  (law44_Large n n').bind fun x10 =>
  (if x10 then some true else (law44_awake n).bind fun x12 =>
  some (!x12)).bind fun x14 =>
  if x14 then
  (law44_Large n n').bind fun x16 =>
  some x16
  else
  (law43_Of n n').bind fun x19 =>
  (ruletype_Check n x19).bind fun x20 =>
  (chk (InI byZ)).bind fun _ =>
  (law44_moved n n' byZ).bind fun x27 =>
  (law43_Of n x27).bind fun x28 =>
  (ruletype_Check n x28).bind fun x29 =>
  (base_Num x20.2).bind fun x33 =>
  (base_Num x29.2).bind fun x35 =>
  if decide (x33 ≠ x35) then
  some false
  else
  (if x20.2.isNone then some true else (base_Is x20.2 2).bind fun x41 =>
  some x41).bind fun x42 =>
  if x42 then
  some (decide (x20.1 = 0) && decide (x29.1 = 0))
  else
  (chk (InI byZ)).bind fun _ =>
  some (decide (x29.1 = (IntKind.i64.wrap (x20.1 + byZ))))
set_option maxHeartbeats 8000000 in
theorem law44_RuletypeLines_ok {n : Nat} {n' : S_ref43_Node} {byZ : Int} {ap0_0 : Option Addr} {cp0_0 : Nat} {K : Hp} {r : Bool}
    (hm : law44_RuletypeLines n n' byZ = some r) (hp0_0 : LiC S_ref43_Node.R K ap0_0 cp0_0 4 n'.Kids) (hG0 : GlL eS 1 0 gkw0 K) :
    Fn Tryd.prog 5 [.agg #[.int .i64 n'.Kind, str n'.Text, .slice ap0_0 n'.Kids.length cp0_0, .int .i64 n'.Line], .int .u16 byZ] K [] (fun v K' H' => v = .bool r ∧ H' = []) := by
  obtain ⟨ga0, gn0, gc0, gn_, gs0, gd0⟩ := id hG0
  subst gn_
  refine Fn.enter Tryd.func5 Tryd.call5 rfl fun F => ?_
  unfold law44_RuletypeLines at hm
  conv => whnf
  refine box_rule ?_
  intro b2
  conv => whnf
  refine RStep.of (loadn_s r0 rfl (Nat.le_of_ble_eq_true rfl) ?_)
  obtain ⟨x10, q10, hm⟩ := bnd hm
  conv => whnf
  refine call_fn (law44_Large_ok (n' := n') q10 hp0_0) .nil ?_
  rintro _ K10 _ l10 ⟨rfl, rfl⟩
  obtain ⟨x14, e14, hm⟩ := bnd hm
  conv => whnf
  refine cond_s (fun g11_1 => ?_) (fun g11_1 => ?_)
  · replace e14 := ift g11_1 e14
    conv => whnf
    refine cond_t g11_1 ?_
    conv => whnf
    refine cond_t g11_1 ?_
    conv => whnf
    refine cond_go rfl ?_
    conv => whnf
    refine cond_T ?_
    replace hm := ift (si e14).symm hm
    conv => whnf
    refine RStep.of (loadn_s r0 rfl (Nat.le_of_ble_eq_true rfl) ?_)
    obtain ⟨x16, q16, hm⟩ := bnd hm
    conv => whnf
    refine call_fn (law44_Large_ok (n' := n') q16 (LiC.mono S_ref43_Node.R_ok l10 hp0_0)) .nil ?_
    rintro _ K16 _ l16 ⟨rfl, rfl⟩
    obtain rfl := si hm
    conv => whnf
    refine EndStep.mk _ (l10.trans l16) ⟨rfl, rfl⟩ (ConvH.of (.cons r1 .nil))
  · replace e14 := iff_ g11_1 e14
    obtain ⟨x12, q12, e14⟩ := bnd e14
    conv => whnf
    refine call_fn (law44_awake_ok q12 (hG0.mono l10)) .nil ?_
    rintro _ K12 _ l12 ⟨rfl, rfl⟩
    conv => whnf
    refine cond_f g11_1 ?_
    conv => whnf
    refine un_not ?_
    conv => whnf
    refine cond_f g11_1 ?_
    conv => whnf
    refine cond_go rfl ?_
    conv => whnf
    refine cond_s (fun w14 => ?_) (fun w14 => ?_)
    · replace hm := ift ((si e14).symm.trans (not_t (ni_t w14))) hm
      conv => whnf
      refine RStep.of (loadn_s r0 rfl (Nat.le_of_ble_eq_true rfl) ?_)
      obtain ⟨x16, q16, hm⟩ := bnd hm
      conv => whnf
      refine call_fn (law44_Large_ok (n' := n') q16 (LiC.mono S_ref43_Node.R_ok (l10.trans l12) hp0_0)) .nil ?_
      rintro _ K16 _ l16 ⟨rfl, rfl⟩
      obtain rfl := si hm
      conv => whnf
      refine EndStep.mk _ ((l10.trans l12).trans l16) ⟨rfl, rfl⟩ (ConvH.of (.cons r1 .nil))
    · replace hm := iff_ ((si e14).symm.trans (not_f (ni_f w14))) hm
      conv => whnf
      refine RStep.of (loadn_s r0 rfl (Nat.le_of_ble_eq_true rfl) ?_)
      obtain ⟨x19, q19, hm⟩ := bnd hm
      conv => whnf
      refine call_fn (law43_Of_ok (n' := n') q19 (LiC.mono S_ref43_Node.R_ok (l10.trans l12) hp0_0)) .nil ?_
      rintro _ K19 _ l19 ⟨a19_0, c19_0, s19_0, rfl, h19_0, r19_0, rfl⟩
      obtain ⟨x20, q20, hm⟩ := bnd hm
      conv => whnf
      refine fzFR Tryd.call13 S_ruletree_Node.R_ok r0 r19_0 fun Kf20_0_0 lf20_0_0 ff20_0_0 => ?_
      refine call_fn (ruletype_Check_ok (program := x19) q20 ff20_0_0 (hG0.mono (((l10.trans l12).trans l19).trans lf20_0_0))) .nil ?_
      rintro _ K20 _ l20 ⟨rfl, rfl⟩
      conv => whnf
      refine RStep.of (loadn_s r0 rfl (Nat.le_of_ble_eq_true rfl) ?_)
      obtain ⟨h26, hm⟩ := chkb hm
      conv => whnf
      refine conv_int rfl rfl h26 ?_
      obtain ⟨x27, q27, hm⟩ := bnd hm
      conv => whnf
      refine call_fn (law44_moved_ok (n' := n') (byZ := byZ) q27 (LiC.mono S_ref43_Node.R_ok ((((l10.trans l12).trans l19).trans lf20_0_0).trans l20) hp0_0)) .nil ?_
      rintro _ K27 _ l27 ⟨a27_0, c27_0, s27_0, rfl, h27_0, r27_0, rfl⟩
      obtain ⟨x28, q28, hm⟩ := bnd hm
      conv => whnf
      refine fzFR Tryd.call14 S_ref43_Node.R_ok r0 r27_0 fun Kf28_0_0 lf28_0_0 ff28_0_0 => ?_
      refine call_fn (law43_Of_ok (n' := x27) q28 ff28_0_0) .nil ?_
      rintro _ K28 _ l28 ⟨a28_0, c28_0, s28_0, rfl, h28_0, r28_0, rfl⟩
      obtain ⟨x29, q29, hm⟩ := bnd hm
      conv => whnf
      refine fzFR Tryd.call13 S_ruletree_Node.R_ok r0 r28_0 fun Kf29_0_0 lf29_0_0 ff29_0_0 => ?_
      refine call_fn (ruletype_Check_ok (program := x28) q29 ff29_0_0 (hG0.mono ((((((((l10.trans l12).trans l19).trans lf20_0_0).trans l20).trans l27).trans lf28_0_0).trans l28).trans lf29_0_0))) .nil ?_
      rintro _ K29 _ l29 ⟨rfl, rfl⟩
      obtain ⟨x33, q33, hm⟩ := bnd hm
      conv => whnf
      refine call_fn (base_Num_ok (e := x20.2) q33) .nil ?_
      rintro _ K33 _ l33 ⟨rfl, rfl⟩
      obtain ⟨x35, q35, hm⟩ := bnd hm
      conv => whnf
      refine call_fn (base_Num_ok (e := x29.2) q35) .nil ?_
      rintro _ K35 _ l35 ⟨rfl, rfl⟩
      conv => whnf
      refine neq_int ?_
      conv => whnf
      refine cond_go rfl ?_
      conv => whnf
      refine cond_s (fun w36 => ?_) (fun w36 => ?_)
      · replace hm := ift w36 hm
        obtain rfl := si hm
        conv => whnf
        refine EndStep.mk _ (((((((((((l10.trans l12).trans l19).trans lf20_0_0).trans l20).trans l27).trans lf28_0_0).trans l28).trans lf29_0_0).trans l29).trans l33).trans l35) ⟨rfl, rfl⟩ (ConvH.of (.cons r1 .nil))
      · replace hm := iff_ w36 hm
        conv => whnf
        refine eq_err rfl ?_
        obtain ⟨x42, e42, hm⟩ := bnd hm
        conv => whnf
        refine cond_s (fun g39_7 => ?_) (fun g39_7 => ?_)
        · replace e42 := ift g39_7 e42
          conv => whnf
          refine cond_t g39_7 ?_
          conv => whnf
          refine cond_t g39_7 ?_
          conv => whnf
          refine cond_go rfl ?_
          conv => whnf
          refine cond_T ?_
          replace hm := ift (si e42).symm hm
          conv => whnf
          refine eq_int ?_
          conv => whnf
          refine cond_s (fun g45_8 => ?_) (fun g45_8 => ?_)
          · conv => whnf
            refine cond_t g45_8 ?_
            conv => whnf
            refine eq_int ?_
            conv => whnf
            refine cond_t g45_8 ?_
            obtain rfl := si hm
            conv => whnf
            refine EndStep.mk _ (((((((((((l10.trans l12).trans l19).trans lf20_0_0).trans l20).trans l27).trans lf28_0_0).trans l28).trans lf29_0_0).trans l29).trans l33).trans l35) ⟨(by rw [← (and_e (b := decide (x29.1 = 0)) g45_8)] <;> rfl), rfl⟩ (ConvH.of (.cons r1 .nil))
          · conv => whnf
            refine cond_f g45_8 ?_
            conv => whnf
            refine cond_f g45_8 ?_
            obtain rfl := si hm
            conv => whnf
            refine EndStep.mk _ (((((((((((l10.trans l12).trans l19).trans lf20_0_0).trans l20).trans l27).trans lf28_0_0).trans l28).trans lf29_0_0).trans l29).trans l33).trans l35) ⟨(by rw [← ((and_f g45_8)).symm] <;> rfl), rfl⟩ (ConvH.of (.cons r1 .nil))
        · replace e42 := iff_ g39_7 e42
          conv => whnf
          refine cond_f g39_7 ?_
          obtain ⟨x41, q41, e42⟩ := bnd e42
          conv => whnf
          refine call_fn (base_Is_ok (e := x20.2) (want := 2) q41) .nil ?_
          rintro _ K41 _ l41 ⟨rfl, rfl⟩
          conv => whnf
          refine cond_f g39_7 ?_
          conv => whnf
          refine cond_go rfl ?_
          conv => whnf
          refine cond_s (fun w42 => ?_) (fun w42 => ?_)
          · replace hm := ift ((si e42).symm.trans w42) hm
            conv => whnf
            refine eq_int ?_
            conv => whnf
            refine cond_s (fun g45_8 => ?_) (fun g45_8 => ?_)
            · conv => whnf
              refine cond_t g45_8 ?_
              conv => whnf
              refine eq_int ?_
              conv => whnf
              refine cond_t g45_8 ?_
              obtain rfl := si hm
              conv => whnf
              refine EndStep.mk _ ((((((((((((l10.trans l12).trans l19).trans lf20_0_0).trans l20).trans l27).trans lf28_0_0).trans l28).trans lf29_0_0).trans l29).trans l33).trans l35).trans l41) ⟨(by rw [← (and_e (b := decide (x29.1 = 0)) g45_8)] <;> rfl), rfl⟩ (ConvH.of (.cons r1 .nil))
            · conv => whnf
              refine cond_f g45_8 ?_
              conv => whnf
              refine cond_f g45_8 ?_
              obtain rfl := si hm
              conv => whnf
              refine EndStep.mk _ ((((((((((((l10.trans l12).trans l19).trans lf20_0_0).trans l20).trans l27).trans lf28_0_0).trans l28).trans lf29_0_0).trans l29).trans l33).trans l35).trans l41) ⟨(by rw [← ((and_f g45_8)).symm] <;> rfl), rfl⟩ (ConvH.of (.cons r1 .nil))
          · replace hm := iff_ ((si e42).symm.trans w42) hm
            obtain ⟨h52, hm⟩ := chkb hm
            conv => whnf
            refine conv_int rfl rfl h52 ?_
            conv => whnf
            refine int_wrap ?_
            conv => whnf
            refine eq_int ?_
            obtain rfl := si hm
            conv => whnf
            refine EndStep.mk _ ((((((((((((l10.trans l12).trans l19).trans lf20_0_0).trans l20).trans l27).trans lf28_0_0).trans l28).trans lf29_0_0).trans l29).trans l33).trans l35).trans l41) ⟨rfl, rfl⟩ (ConvH.of (.cons r1 .nil))
