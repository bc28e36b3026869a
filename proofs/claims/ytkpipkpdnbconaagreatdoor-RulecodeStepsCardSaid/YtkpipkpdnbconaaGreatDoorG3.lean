/- Functions of the program: mirrors, and that a call returns what the mirror says. Printed by gen.py. -/
import Derived.Test.YtkpipkpdnbconaaGreatDoorG2
set_option linter.unusedVariables false
set_option linter.unusedSimpArgs false
open Go Go.SL Go.Proofs
set_option maxRecDepth 1000000
noncomputable def Jn (rec_ : (Ji → (List Ja) → (List Jh) → Option (Ji))) (y0_0 : (List Jh)) : List Ja → Nat → Int → Err → Option (Int × Err)
  | [], _, y3_0, y3_1 => some (y3_0, y3_1)
  | e3 :: xs3, i3, y3_0, y3_1 =>
    (J1 e3).bind fun x83 =>
    (rec_ (⟨y3_0, y3_1⟩ : Ji) x83 y0_0).bind fun x85 =>
    Jn rec_ y0_0 xs3 (i3 + 1) x85.line x85.err
noncomputable def Jm (n : Nat) (rec_ : (Ji → (List Ja) → (List Jh) → Option (Ji))) : List Ja → Nat → (List Jh) → Int → Err → Option (Fl (Ji) ((List Jh) × Int × Err))
  | [], _, y0_0, y0_1, y0_2 => some (Fl.go (y0_0, y0_1, y0_2))
  | e0 :: xs0, i0, y0_0, y0_1, y0_2 =>
    if decide ((e0.Kids.length : Int) = 0) then
    Jm n rec_ xs0 (i0 + 1) y0_0 y0_1 y0_2
    else
    (ix e0.Kids 0).bind fun x25 =>
    (Jy n (⟨y0_1, y0_2⟩ : Ji) x25 y0_0).bind fun x28 =>
    (JaL e0).bind fun x30 =>
    if ((x28.2.err.isNone && decide (x30 ≠ 0)) && decide (x28.1 ≠ x30)) then
    (JA x28.2 e0 (some 9)).bind fun x48 =>
    if x48.err.isSome then
    some (Fl.ret x48)
    else
    if decide (e0.Kind = 3) then
    (Jac n e0.Text y0_0).bind fun x61 =>
    if x61 then
    (JA x48 e0 (some 4)).bind fun x65 =>
    (JX y0_0 e0.Text x28.1).bind fun x70 =>
    if x65.err.isSome then
    some (Fl.ret x65)
    else
    Jm n rec_ xs0 (i0 + 1) x70 x65.line x65.err
    else
    (JX y0_0 e0.Text x28.1).bind fun x70 =>
    if x48.err.isSome then
    some (Fl.ret x48)
    else
    Jm n rec_ xs0 (i0 + 1) x70 x48.line x48.err
    else
    if decide (e0.Kind = 2) then
    (chk (0 ≤ (1 : Int) ∧ (1 : Int) ≤ (e0.Kids.length : Int) ∧ (e0.Kids.length : Int) ≤ (e0.Kids.length : Int))).bind fun _ =>
    (chk ((subL e0.Kids (1 : Int) (e0.Kids.length : Int)).length ≤ szMax)).bind fun _ =>
    (Jn rec_ y0_0 (subL e0.Kids (1 : Int) (e0.Kids.length : Int)) 0 x48.line x48.err).bind fun t3 =>
    if t3.2.isSome then
    some (Fl.ret (⟨t3.1, t3.2⟩ : Ji))
    else
    Jm n rec_ xs0 (i0 + 1) y0_0 t3.1 t3.2
    else
    if x48.err.isSome then
    some (Fl.ret x48)
    else
    Jm n rec_ xs0 (i0 + 1) y0_0 x48.line x48.err
    else
    if x28.2.err.isSome then
    some (Fl.ret x28.2)
    else
    if decide (e0.Kind = 3) then
    (Jac n e0.Text y0_0).bind fun x61 =>
    if x61 then
    (JA x28.2 e0 (some 4)).bind fun x65 =>
    (JX y0_0 e0.Text x28.1).bind fun x70 =>
    if x65.err.isSome then
    some (Fl.ret x65)
    else
    Jm n rec_ xs0 (i0 + 1) x70 x65.line x65.err
    else
    (JX y0_0 e0.Text x28.1).bind fun x70 =>
    if x28.2.err.isSome then
    some (Fl.ret x28.2)
    else
    Jm n rec_ xs0 (i0 + 1) x70 x28.2.line x28.2.err
    else
    if decide (e0.Kind = 2) then
    (chk (0 ≤ (1 : Int) ∧ (1 : Int) ≤ (e0.Kids.length : Int) ∧ (e0.Kids.length : Int) ≤ (e0.Kids.length : Int))).bind fun _ =>
    (chk ((subL e0.Kids (1 : Int) (e0.Kids.length : Int)).length ≤ szMax)).bind fun _ =>
    (Jn rec_ y0_0 (subL e0.Kids (1 : Int) (e0.Kids.length : Int)) 0 x28.2.line x28.2.err).bind fun t3 =>
    if t3.2.isSome then
    some (Fl.ret (⟨t3.1, t3.2⟩ : Ji))
    else
    Jm n rec_ xs0 (i0 + 1) y0_0 t3.1 t3.2
    else
    if x28.2.err.isSome then
    some (Fl.ret x28.2)
    else
    Jm n rec_ xs0 (i0 + 1) y0_0 x28.2.line x28.2.err
noncomputable def Jp : Nat → Ji → (List Ja) → (List Jh) → Option (Ji)
  | 0, _, _, _ => none
  | n + 1, c, list, env =>
    (chk (list.length ≤ szMax)).bind fun _ =>
    (Jm n (Jp n) list 0 env c.line c.err).bind fun s0 => s0.el some fun t0 =>
    some (⟨t0.2.1, t0.2.2⟩ : Ji)
set_option maxHeartbeats 8000000 in
theorem JbL : ∀ {n : Nat} {c : Ji} {list : (List Ja)} {env : (List Jh)} {b0 : Nat} {ap1_0 : Option Addr} {cp1_0 : Nat} {n1 : Nat} {ap2_0 : Option Addr} {cp2_0 : Nat} {n2 : Nat} {K : Hp} {r : Ji}
    (hm : Jp n c list env = some r) (hp1_0 : LiC Ja.R K ap1_0 cp1_0 4 list) (en1 : n1 = list.length) (hp2_0 : RdC Jh.enc K ap2_0 cp2_0 2 env) (en2 : n2 = env.length),
    Fn Tryz.prog 35 [.pointer (some ⟨b0, 0, none⟩), .slice ap1_0 n1 cp1_0, .slice ap2_0 n2 cp2_0] K [Cells b0 78 [.int .i64 c.line, errV 44 c.err]] (fun v K' H' => v = .tuple #[] ∧ H' = [Cells b0 78 [.int .i64 r.line, errV 44 r.err]]) := by
 intro n
 induction n with
 | zero =>
   intro c list env b0 ap1_0 cp1_0 n1 ap2_0 cp2_0 n2 K r hm hp1_0 en1 hp2_0 en2
   rw [Jp.eq_1] at hm; cases hm
 | succ n ih =>
   intro c list env b0 ap1_0 cp1_0 n1 ap2_0 cp2_0 n2 K r hm hp1_0 en1 hp2_0 en2
   subst en1
   subst en2
   refine Fn.enter Tryz.func35 Tryz.call35 rfl fun F => ?_
   rw [Jp.eq_2] at hm
   refine RStep.of (len_slice rfl ?_)
   obtain ⟨hk0, hm⟩ := chkb hm
   obtain ⟨s0, hl0, hm⟩ := bnd hm
   refine code_cut (σ := ((List Jh) × Int × Err) × Option Addr × Nat) [2, 7, 8, 9, 11, 14, 15, 16, 17, 18, 19, 20, 21, 22, 23, 24, 25, 26, 27, 28, 29, 30, 31, 32, 33, 34, 35, 36, 37, 38, 39, 40, 41, 42, 43, 44, 45, 46, 47, 48, 49, 50, 51, 52, 53, 54, 55, 56, 57, 58, 59, 60, 61, 62, 63, 64, 65, 66, 67, 68, 69, 70, 71, 72, 73, 74, 75, 76, 77, 78, 79, 80, 81, 82, 83, 84, 85, 86, 87, 88, 89, 90, 91, 92] (fun (t0, t0_a0, t0_c0) => [(2, .slice t0_a0 t0.1.length t0_c0)]) (fun (t0, t0_a0, t0_c0) => [Cells b0 78 [.int .i64 t0.2.1, errV 44 t0.2.2], F]) (fun zz K1 => match zz with | (t0, t0_a0, t0_c0) => RdC Jh.enc K1 t0_a0 t0_c0 2 t0.1 ∧ s0 = Fl.go t0) ?_ ?_
   refine block_go rfl ?_
   refine loop_rule (σ := Nat × (List Jh) × Int × Err × Option Addr × Nat) [2, 7, 8, 9, 11, 14, 15, 16, 17, 18, 19, 20, 21, 22, 23, 24, 25, 26, 27, 28, 29, 30, 31, 32, 33, 34, 35, 36, 37, 38, 39, 40, 41, 42, 43, 44, 45, 46, 47, 48, 49, 50, 51, 52, 53, 54, 55, 56, 57, 58, 59, 60, 61, 62, 63, 64, 65, 66, 67, 68, 69, 70, 71, 72, 73, 74, 75, 76, 77, 78, 79, 80, 81, 82, 83, 84, 85, 86, 87, 88, 89, 90, 91, 92] (fun (i0, y0_0, y0_1, y0_2, y0_a0, y0_c0) => [(14, .int .i64 (i0 : Int)), (2, .slice y0_a0 y0_0.length y0_c0)]) (fun (i0, y0_0, y0_1, y0_2, y0_a0, y0_c0) => [Cells b0 78 [.int .i64 y0_1, errV 44 y0_2], F]) (fun zz K1 => match zz with | (i0, y0_0, y0_1, y0_2, y0_a0, y0_c0) => RdC Jh.enc K1 y0_a0 y0_c0 2 y0_0 ∧ Jm n (Jp n) (list.drop i0) i0 y0_0 y0_1 y0_2 = some s0) (fun zz => list.length - zz.1) (0, env, c.line, c.err, ap2_0, cp2_0) rfl ⟨rfl, rfl, trivial⟩ (ConvH.of (.cons r0 (.cons r0 .nil))) ⟨hp2_0, hl0⟩ ?_
   clear hl0
   rintro ⟨i0, y0_0, y0_1, y0_2, y0_a0, y0_c0⟩ Kb0 lk0 ⟨y0_h0, hl0⟩ j0
   refine cond_go rfl ?_
   refine cond_s (fun w0 => ?_) (fun w0 => ?_)
   obtain ⟨e0, hx0, hd0⟩ := ltx w0
   rw [hd0, Jm.eq_2] at hl0
   refine block_go rfl ?_
   refine RStep.ofN (index_addr rfl rfl (hasR (LiC.mono Ja.R_ok lk0 hp1_0).rd hx0) (nn _) (lt_ofN hx0) ?_)
   obtain ⟨ss17, cc17, hr17, hc17, hR17⟩ := LiR.get (LiC.mono Ja.R_ok lk0 hp1_0).rd hx0
   obtain ⟨a17_0, c17_0, rfl, h17_0⟩ := Ja.out hR17
   refine RStep.of (load_rd_agg i0 _ hr17 rfl hc17 rfl ?_)
   refine alloc_rule rfl ?_
   intro b7
   refine store_rule r0 rfl ?_
   refine ⟨rfl, rfl, (Nat.le_of_ble_eq_true rfl), ?_⟩
   refine Jb rfl (RStep.of (load1_s r0 rfl rfl (RStep.of (len_slice rfl (eq_int (cond_go rfl ?_))))))
   refine cond_s (fun w21 => ?_) (fun w21 => ?_)
   replace hl0 := ift w21 hl0
   refine cond_T (int_in (cntz hx0 hk0) ?_)
   refine RoundStep.mk (i0 + 1, y0_0, y0_1, y0_2, y0_a0, y0_c0) ⟨rfl, rfl, trivial⟩ (by repeat (first | exact trivial | refine And.intro rfl ?_)) (ConvH.of (.cons r1 (.cons r1 .nil))) lk0 (ltm hx0) ⟨y0_h0, hl0⟩
   replace hl0 := iff_ w21 hl0
   refine Jb rfl (RStep.of (load1_s r0 rfl rfl ?_))
   obtain ⟨x25, l25, k25, hl0⟩ := ixb hl0
   refine RStep.ofN (index_addr rfl rfl (hasR h17_0.rd k25) l25 (lt_ofE rfl l25 k25) ?_)
   obtain ⟨ss26, cc26, hr26, hc26, hR26⟩ := LiR.get h17_0.rd k25
   obtain ⟨a26_0, c26_0, rfl, h26_0⟩ := Ja.out hR26
   refine RStep.of (load_rd_agg ((0 : Int).toNat) _ hr26 rfl hc26 rfl ?_)
   obtain ⟨x28, q28, hl0⟩ := bnd hl0
   refine call_fn (JbR (c := (⟨y0_1, y0_2⟩ : Ji)) (n' := x25) q28 h26_0 y0_h0 rfl) (.cons r1 .nil) ?_
   rintro _ K28 _ l28 ⟨rfl, rfl⟩
   refine RStep.of (loadn_s r1 rfl (Nat.le_of_ble_eq_true rfl) ?_)
   obtain ⟨x30, q30, hl0⟩ := bnd hl0
   refine call_fn (Jch (n' := e0) q30 (LiC.mono Ja.R_ok l28 h17_0)) .nil ?_
   rintro _ K30 _ l30 ⟨rfl, rfl⟩
   refine nil_check (Jb rfl (RStep.of (load1_s r0 rfl rfl (eq_err rfl ?_))))
   refine cond_s (fun g36_6 => ?_) (fun g36_6 => ?_)
   refine cond_t g36_6 (neq_int (cond_t g36_6 ?_))
   refine cond_s (fun g40_6 => ?_) (fun g40_6 => ?_)
   refine cond_t g40_6 (cond_t g40_6 (neq_int (cond_t g40_6 (cond_go rfl ?_))))
   refine cond_s (fun w44 => ?_) (fun w44 => ?_)
   replace hl0 := ift (and_t (and_t g36_6 g40_6) w44) hl0
   refine RStep.of (loadn_s r1 rfl (Nat.le_of_ble_eq_true rfl) ?_)
   refine mk_iface rfl ?_
   obtain ⟨x48, q48, hl0⟩ := bnd hl0
   refine call_fn (JF (c := x28.2) (n' := e0) (err := (some 9)) q48 (LiC.mono Ja.R_ok (l28.trans l30) h17_0)) (.cons r0 .nil) ?_
   rintro _ K48 _ l48 ⟨rfl, rfl⟩
   refine nil_check (Jb rfl (RStep.of (load1_s r0 rfl rfl (neq_err rfl (cond_go rfl ?_)))))
   refine cond_s (fun w53 => ?_) (fun w53 => ?_)
   replace hl0 := ift w53 hl0
   obtain rfl := si hl0
   replace hm := elr hm
   obtain rfl := si hm
   refine EndStep.mk _ (((lk0.trans l28).trans l30).trans l48) ⟨rfl, rfl⟩ (ConvH.of (.cons r0 (.cons r1 .nil)))
   replace hl0 := iff_ w53 hl0
   refine Jb rfl (RStep.of (load1_s r1 rfl rfl ?_))
   refine block_go rfl ?_
   refine eq_int (cond_go rfl ?_)
   refine cond_s (fun w56 => ?_) (fun w56 => ?_)
   replace hl0 := ift w56 hl0
   refine Jb rfl (RStep.of (load1_s r1 rfl rfl ?_))
   obtain ⟨x61, q61, hl0⟩ := bnd hl0
   refine call_fn (JaM (name := e0.Text) q61 (y0_h0.mono ((l28.trans l30).trans l48)) rfl) .nil ?_
   rintro _ K61 _ l61 ⟨rfl, rfl⟩
   refine cond_go rfl ?_
   refine cond_s (fun w61 => ?_) (fun w61 => ?_)
   replace hl0 := ift w61 hl0
   refine RStep.of (loadn_s r1 rfl (Nat.le_of_ble_eq_true rfl) ?_)
   refine mk_iface rfl ?_
   obtain ⟨x65, q65, hl0⟩ := bnd hl0
   refine call_fn (JF (c := x48) (n' := e0) (err := (some 4)) q65 (LiC.mono Ja.R_ok (((l28.trans l30).trans l48).trans l61) h17_0)) (.cons r0 .nil) ?_
   rintro _ K65 _ l65 ⟨rfl, rfl⟩
   refine Jb rfl (RStep.of (load1_s r1 rfl rfl ?_))
   obtain ⟨x70, q70, hl0⟩ := bnd hl0
   refine call_fn (JW (name := e0.Text) (t := x28.1) q70 (y0_h0.mono ((((l28.trans l30).trans l48).trans l61).trans l65)) rfl) .nil ?_
   rintro _ K70 _ l70 ⟨a70_0, c70_0, rfl, h70_0, rfl⟩
   refine nil_check (Jb rfl (RStep.of (load1_s r1 rfl rfl (neq_err rfl (cond_go rfl ?_)))))
   refine cond_s (fun w91 => ?_) (fun w91 => ?_)
   replace hl0 := ift w91 hl0
   obtain rfl := si hl0
   replace hm := elr hm
   obtain rfl := si hm
   refine EndStep.mk _ ((((((lk0.trans l28).trans l30).trans l48).trans l61).trans l65).trans l70) ⟨rfl, rfl⟩ (ConvH.of (.cons r1 (.cons r2 .nil)))
   replace hl0 := iff_ w91 hl0
   refine int_in (cntz hx0 hk0) ?_
   refine fRo r0 fun Kr0_0 lr0_0 fr0_0 => ?_
   refine RoundStep.mk (i0 + 1, x70, x65.line, x65.err, a70_0, c70_0) ⟨rfl, rfl, trivial⟩ (by repeat (first | exact trivial | refine And.intro rfl ?_)) (ConvH.of (.cons r0 (.cons r1 .nil))) (((((((lk0.trans l28).trans l30).trans l48).trans l61).trans l65).trans l70).trans lr0_0) (ltm hx0) ⟨fr0_0, hl0⟩
   replace hl0 := iff_ w61 hl0
   refine Jb rfl (RStep.of (load1_s r1 rfl rfl ?_))
   obtain ⟨x70, q70, hl0⟩ := bnd hl0
   refine call_fn (JW (name := e0.Text) (t := x28.1) q70 (y0_h0.mono (((l28.trans l30).trans l48).trans l61)) rfl) .nil ?_
   rintro _ K70 _ l70 ⟨a70_0, c70_0, rfl, h70_0, rfl⟩
   refine nil_check (Jb rfl (RStep.of (load1_s r1 rfl rfl (neq_err rfl (cond_go rfl ?_)))))
   refine cond_s (fun w91 => ?_) (fun w91 => ?_)
   replace hl0 := ift w91 hl0
   obtain rfl := si hl0
   replace hm := elr hm
   obtain rfl := si hm
   refine EndStep.mk _ (((((lk0.trans l28).trans l30).trans l48).trans l61).trans l70) ⟨rfl, rfl⟩ (ConvH.of (.cons r1 (.cons r2 .nil)))
   replace hl0 := iff_ w91 hl0
   refine int_in (cntz hx0 hk0) ?_
   refine fRo r0 fun Kr0_0 lr0_0 fr0_0 => ?_
   refine RoundStep.mk (i0 + 1, x70, x48.line, x48.err, a70_0, c70_0) ⟨rfl, rfl, trivial⟩ (by repeat (first | exact trivial | refine And.intro rfl ?_)) (ConvH.of (.cons r0 (.cons r1 .nil))) ((((((lk0.trans l28).trans l30).trans l48).trans l61).trans l70).trans lr0_0) (ltm hx0) ⟨fr0_0, hl0⟩
   replace hl0 := iff_ w56 hl0
   refine eq_int (cond_go rfl ?_)
   refine cond_s (fun w71 => ?_) (fun w71 => ?_)
   replace hl0 := ift w71 hl0
   refine Jb rfl (RStep.of (load1_s r1 rfl rfl ?_))
   obtain ⟨h75, hl0⟩ := chkb hl0
   have h75_ := (LiC.mono Ja.R_ok ((l28.trans l30).trans l48) h17_0).subC h75
   refine RStep.ofN (sl_slN (l := e0.Kids) (lo := (some 1)) (hi := none) (lo' := (1 : Int)) (hi' := (e0.Kids.length : Int)) rfl rfl rfl rfl rfl (LiC.mono Ja.R_ok ((l28.trans l30).trans l48) h17_0).le h75 (RStep.of (len_slice rfl ?_)))
   obtain ⟨hk3, hl0⟩ := chkb hl0
   obtain ⟨s3, hl3, hl0⟩ := bnd hl0
   refine code_cut (σ := (Int × Err)) [11, 77, 78, 79, 80, 81, 82, 83, 84, 85, 86] (fun t3 => []) (fun t3 => [Cells b0 78 [.int .i64 t3.1, errV 44 t3.2], Cells b7 34 [.int .i64 e0.Kind, str e0.Text, .slice a17_0 e0.Kids.length c17_0, .int .i64 e0.Line], F]) (fun zz K1 => match zz with | t3 => t3 = s3) ?_ ?_
   refine block_go rfl ?_
   refine loop_rule (σ := Nat × Int × Err) [11, 77, 78, 79, 80, 81, 82, 83, 84, 85, 86] (fun (i3, y3_0, y3_1) => [(77, .int .i64 (i3 : Int))]) (fun (i3, y3_0, y3_1) => [Cells b0 78 [.int .i64 y3_0, errV 44 y3_1], Cells b7 34 [.int .i64 e0.Kind, str e0.Text, .slice a17_0 e0.Kids.length c17_0, .int .i64 e0.Line], F]) (fun zz K1 => match zz with | (i3, y3_0, y3_1) => Jn (Jp n) y0_0 ((subL e0.Kids (1 : Int) (e0.Kids.length : Int)).drop i3) i3 y3_0 y3_1 = some s3) (fun zz => (subL e0.Kids (1 : Int) (e0.Kids.length : Int)).length - zz.1) (0, x48.line, x48.err) rfl ⟨rfl, trivial⟩ (ConvH.of (.cons r0 (.cons r0 (.cons r0 .nil)))) hl3 ?_
   clear hl3
   rintro ⟨i3, y3_0, y3_1⟩ Kb3 lk3 hl3 j3
   conv at hl3 => whnf
   refine cond_go rfl ?_
   refine cond_s (fun w3 => ?_) (fun w3 => ?_)
   obtain ⟨e3, hx3, hd3⟩ := ltx w3
   rw [hd3, Jn.eq_2] at hl3
   refine block_go rfl ?_
   refine RStep.ofN (index_addr rfl rfl (hasR (LiC.mono Ja.R_ok lk3 h75_).rd hx3) (nn _) (lt_ofN hx3) ?_)
   obtain ⟨ss80, cc80, hr80, hc80, hR80⟩ := LiR.get (LiC.mono Ja.R_ok lk3 h75_).rd hx3
   obtain ⟨a80_0, c80_0, rfl, h80_0⟩ := Ja.out hR80
   refine RStep.of (load_rd_agg i3 _ hr80 rfl hc80 rfl ?_)
   refine alloc_rule rfl ?_
   intro b11
   refine store_rule r0 rfl ?_
   refine ⟨rfl, rfl, (Nat.le_of_ble_eq_true rfl), ?_⟩
   refine RStep.of (loadn_s r0 rfl (Nat.le_of_ble_eq_true rfl) ?_)
   obtain ⟨x83, q83, hl3⟩ := bnd hl3
   refine call_fn (Jay (n' := e3) q83 h80_0) .nil ?_
   rintro _ K83 _ l83 ⟨a83_0, c83_0, rfl, h83_0, rfl⟩
   obtain ⟨x85, q85, hl3⟩ := bnd hl3
   refine call_fn (ih (c := (⟨y3_0, y3_1⟩ : Ji)) q85 h83_0 rfl (y0_h0.mono ((((l28.trans l30).trans l48).trans lk3).trans l83)) rfl) (.cons r1 .nil) ?_
   rintro _ K85 _ l85 ⟨rfl, rfl⟩
   refine int_in (cntz hx3 hk3) ?_
   refine RoundStep.mk (i3 + 1, x85.line, x85.err) ⟨rfl, trivial⟩ (by repeat (first | exact trivial | refine And.intro rfl ?_)) (ConvH.of (.cons r0 (.cons r1 (.cons r1 .nil)))) ((lk3.trans l83).trans l85) (ltm hx3) hl3
   rw [lty w3, Jn.eq_1] at hl3
   refine cond_T ?_
   refine MeetStep.mk ((y3_0, y3_1)) trivial (by repeat (first | exact trivial | refine And.intro rfl ?_)) (ConvH.of (.cons r0 (.cons r0 (.cons r0 .nil)))) lk3 (si hl3)
   rintro t3 Kt3 lt3 rfl j3
   refine nil_check (Jb rfl (RStep.of (load1_s r0 rfl rfl (neq_err rfl (cond_go rfl ?_)))))
   refine cond_s (fun w91 => ?_) (fun w91 => ?_)
   replace hl0 := ift w91 hl0
   obtain rfl := si hl0
   replace hm := elr hm
   obtain rfl := si hm
   refine EndStep.mk _ ((((lk0.trans l28).trans l30).trans l48).trans lt3) ⟨rfl, rfl⟩ (ConvH.of (.cons r0 (.cons r1 .nil)))
   replace hl0 := iff_ w91 hl0
   refine int_in (cntz hx0 hk0) ?_
   refine RoundStep.mk (i0 + 1, y0_0, t3.1, t3.2, y0_a0, y0_c0) ⟨rfl, rfl, trivial⟩ (by repeat (first | exact trivial | refine And.intro rfl ?_)) (ConvH.of (.cons r0 (.cons r1 .nil))) ((((lk0.trans l28).trans l30).trans l48).trans lt3) (ltm hx0) ⟨(y0_h0.mono (((l28.trans l30).trans l48).trans lt3)), hl0⟩
   replace hl0 := iff_ w71 hl0
   refine nil_check (Jb rfl (RStep.of (load1_s r0 rfl rfl (neq_err rfl (cond_go rfl ?_)))))
   refine cond_s (fun w91 => ?_) (fun w91 => ?_)
   replace hl0 := ift w91 hl0
   obtain rfl := si hl0
   replace hm := elr hm
   obtain rfl := si hm
   refine EndStep.mk _ (((lk0.trans l28).trans l30).trans l48) ⟨rfl, rfl⟩ (ConvH.of (.cons r0 (.cons r1 .nil)))
   replace hl0 := iff_ w91 hl0
   refine int_in (cntz hx0 hk0) ?_
   refine RoundStep.mk (i0 + 1, y0_0, x48.line, x48.err, y0_a0, y0_c0) ⟨rfl, rfl, trivial⟩ (by repeat (first | exact trivial | refine And.intro rfl ?_)) (ConvH.of (.cons r0 (.cons r1 .nil))) (((lk0.trans l28).trans l30).trans l48) (ltm hx0) ⟨(y0_h0.mono ((l28.trans l30).trans l48)), hl0⟩
   replace hl0 := iff_ (and_g (and_t g36_6 g40_6) w44) hl0
   refine nil_check (Jb rfl (RStep.of (load1_s r0 rfl rfl (neq_err rfl (cond_go rfl ?_)))))
   refine cond_s (fun w53 => ?_) (fun w53 => ?_)
   replace hl0 := ift w53 hl0
   obtain rfl := si hl0
   replace hm := elr hm
   obtain rfl := si hm
   refine EndStep.mk _ ((lk0.trans l28).trans l30) ⟨rfl, rfl⟩ (ConvH.of (.cons r0 (.cons r1 .nil)))
   replace hl0 := iff_ w53 hl0
   refine Jb rfl (RStep.of (load1_s r1 rfl rfl ?_))
   refine block_go rfl ?_
   refine eq_int (cond_go rfl ?_)
   refine cond_s (fun w56 => ?_) (fun w56 => ?_)
   replace hl0 := ift w56 hl0
   refine Jb rfl (RStep.of (load1_s r1 rfl rfl ?_))
   obtain ⟨x61, q61, hl0⟩ := bnd hl0
   refine call_fn (JaM (name := e0.Text) q61 (y0_h0.mono (l28.trans l30)) rfl) .nil ?_
   rintro _ K61 _ l61 ⟨rfl, rfl⟩
   refine cond_go rfl ?_
   refine cond_s (fun w61 => ?_) (fun w61 => ?_)
   replace hl0 := ift w61 hl0
   refine RStep.of (loadn_s r1 rfl (Nat.le_of_ble_eq_true rfl) ?_)
   refine mk_iface rfl ?_
   obtain ⟨x65, q65, hl0⟩ := bnd hl0
   refine call_fn (JF (c := x28.2) (n' := e0) (err := (some 4)) q65 (LiC.mono Ja.R_ok ((l28.trans l30).trans l61) h17_0)) (.cons r0 .nil) ?_
   rintro _ K65 _ l65 ⟨rfl, rfl⟩
   refine Jb rfl (RStep.of (load1_s r1 rfl rfl ?_))
   obtain ⟨x70, q70, hl0⟩ := bnd hl0
   refine call_fn (JW (name := e0.Text) (t := x28.1) q70 (y0_h0.mono (((l28.trans l30).trans l61).trans l65)) rfl) .nil ?_
   rintro _ K70 _ l70 ⟨a70_0, c70_0, rfl, h70_0, rfl⟩
   refine nil_check (Jb rfl (RStep.of (load1_s r1 rfl rfl (neq_err rfl (cond_go rfl ?_)))))
   refine cond_s (fun w91 => ?_) (fun w91 => ?_)
   replace hl0 := ift w91 hl0
   obtain rfl := si hl0
   replace hm := elr hm
   obtain rfl := si hm
   refine EndStep.mk _ (((((lk0.trans l28).trans l30).trans l61).trans l65).trans l70) ⟨rfl, rfl⟩ (ConvH.of (.cons r1 (.cons r2 .nil)))
   replace hl0 := iff_ w91 hl0
   refine int_in (cntz hx0 hk0) ?_
   refine fRo r0 fun Kr0_0 lr0_0 fr0_0 => ?_
   refine RoundStep.mk (i0 + 1, x70, x65.line, x65.err, a70_0, c70_0) ⟨rfl, rfl, trivial⟩ (by repeat (first | exact trivial | refine And.intro rfl ?_)) (ConvH.of (.cons r0 (.cons r1 .nil))) ((((((lk0.trans l28).trans l30).trans l61).trans l65).trans l70).trans lr0_0) (ltm hx0) ⟨fr0_0, hl0⟩
   replace hl0 := iff_ w61 hl0
   refine Jb rfl (RStep.of (load1_s r1 rfl rfl ?_))
   obtain ⟨x70, q70, hl0⟩ := bnd hl0
   refine call_fn (JW (name := e0.Text) (t := x28.1) q70 (y0_h0.mono ((l28.trans l30).trans l61)) rfl) .nil ?_
   rintro _ K70 _ l70 ⟨a70_0, c70_0, rfl, h70_0, rfl⟩
   refine nil_check (Jb rfl (RStep.of (load1_s r1 rfl rfl (neq_err rfl (cond_go rfl ?_)))))
   refine cond_s (fun w91 => ?_) (fun w91 => ?_)
   replace hl0 := ift w91 hl0
   obtain rfl := si hl0
   replace hm := elr hm
   obtain rfl := si hm
   refine EndStep.mk _ ((((lk0.trans l28).trans l30).trans l61).trans l70) ⟨rfl, rfl⟩ (ConvH.of (.cons r1 (.cons r2 .nil)))
   replace hl0 := iff_ w91 hl0
   refine int_in (cntz hx0 hk0) ?_
   refine fRo r0 fun Kr0_0 lr0_0 fr0_0 => ?_
   refine RoundStep.mk (i0 + 1, x70, x28.2.line, x28.2.err, a70_0, c70_0) ⟨rfl, rfl, trivial⟩ (by repeat (first | exact trivial | refine And.intro rfl ?_)) (ConvH.of (.cons r0 (.cons r1 .nil))) (((((lk0.trans l28).trans l30).trans l61).trans l70).trans lr0_0) (ltm hx0) ⟨fr0_0, hl0⟩
   replace hl0 := iff_ w56 hl0
   refine eq_int (cond_go rfl ?_)
   refine cond_s (fun w71 => ?_) (fun w71 => ?_)
   replace hl0 := ift w71 hl0
   refine Jb rfl (RStep.of (load1_s r1 rfl rfl ?_))
   obtain ⟨h75, hl0⟩ := chkb hl0
   have h75_ := (LiC.mono Ja.R_ok (l28.trans l30) h17_0).subC h75
   refine RStep.ofN (sl_slN (l := e0.Kids) (lo := (some 1)) (hi := none) (lo' := (1 : Int)) (hi' := (e0.Kids.length : Int)) rfl rfl rfl rfl rfl (LiC.mono Ja.R_ok (l28.trans l30) h17_0).le h75 (RStep.of (len_slice rfl ?_)))
   obtain ⟨hk3, hl0⟩ := chkb hl0
   obtain ⟨s3, hl3, hl0⟩ := bnd hl0
   refine code_cut (σ := (Int × Err)) [11, 77, 78, 79, 80, 81, 82, 83, 84, 85, 86] (fun t3 => []) (fun t3 => [Cells b0 78 [.int .i64 t3.1, errV 44 t3.2], Cells b7 34 [.int .i64 e0.Kind, str e0.Text, .slice a17_0 e0.Kids.length c17_0, .int .i64 e0.Line], F]) (fun zz K1 => match zz with | t3 => t3 = s3) ?_ ?_
   refine block_go rfl ?_
   refine loop_rule (σ := Nat × Int × Err) [11, 77, 78, 79, 80, 81, 82, 83, 84, 85, 86] (fun (i3, y3_0, y3_1) => [(77, .int .i64 (i3 : Int))]) (fun (i3, y3_0, y3_1) => [Cells b0 78 [.int .i64 y3_0, errV 44 y3_1], Cells b7 34 [.int .i64 e0.Kind, str e0.Text, .slice a17_0 e0.Kids.length c17_0, .int .i64 e0.Line], F]) (fun zz K1 => match zz with | (i3, y3_0, y3_1) => Jn (Jp n) y0_0 ((subL e0.Kids (1 : Int) (e0.Kids.length : Int)).drop i3) i3 y3_0 y3_1 = some s3) (fun zz => (subL e0.Kids (1 : Int) (e0.Kids.length : Int)).length - zz.1) (0, x28.2.line, x28.2.err) rfl ⟨rfl, trivial⟩ (ConvH.of (.cons r0 (.cons r0 (.cons r0 .nil)))) hl3 ?_
   clear hl3
   rintro ⟨i3, y3_0, y3_1⟩ Kb3 lk3 hl3 j3
   conv at hl3 => whnf
   refine cond_go rfl ?_
   refine cond_s (fun w3 => ?_) (fun w3 => ?_)
   obtain ⟨e3, hx3, hd3⟩ := ltx w3
   rw [hd3, Jn.eq_2] at hl3
   refine block_go rfl ?_
   refine RStep.ofN (index_addr rfl rfl (hasR (LiC.mono Ja.R_ok lk3 h75_).rd hx3) (nn _) (lt_ofN hx3) ?_)
   obtain ⟨ss80, cc80, hr80, hc80, hR80⟩ := LiR.get (LiC.mono Ja.R_ok lk3 h75_).rd hx3
   obtain ⟨a80_0, c80_0, rfl, h80_0⟩ := Ja.out hR80
   refine RStep.of (load_rd_agg i3 _ hr80 rfl hc80 rfl ?_)
   refine alloc_rule rfl ?_
   intro b11
   refine store_rule r0 rfl ?_
   refine ⟨rfl, rfl, (Nat.le_of_ble_eq_true rfl), ?_⟩
   refine RStep.of (loadn_s r0 rfl (Nat.le_of_ble_eq_true rfl) ?_)
   obtain ⟨x83, q83, hl3⟩ := bnd hl3
   refine call_fn (Jay (n' := e3) q83 h80_0) .nil ?_
   rintro _ K83 _ l83 ⟨a83_0, c83_0, rfl, h83_0, rfl⟩
   obtain ⟨x85, q85, hl3⟩ := bnd hl3
   refine call_fn (ih (c := (⟨y3_0, y3_1⟩ : Ji)) q85 h83_0 rfl (y0_h0.mono (((l28.trans l30).trans lk3).trans l83)) rfl) (.cons r1 .nil) ?_
   rintro _ K85 _ l85 ⟨rfl, rfl⟩
   refine int_in (cntz hx3 hk3) ?_
   refine RoundStep.mk (i3 + 1, x85.line, x85.err) ⟨rfl, trivial⟩ (by repeat (first | exact trivial | refine And.intro rfl ?_)) (ConvH.of (.cons r0 (.cons r1 (.cons r1 .nil)))) ((lk3.trans l83).trans l85) (ltm hx3) hl3
   rw [lty w3, Jn.eq_1] at hl3
   refine cond_T ?_
   refine MeetStep.mk ((y3_0, y3_1)) trivial (by repeat (first | exact trivial | refine And.intro rfl ?_)) (ConvH.of (.cons r0 (.cons r0 (.cons r0 .nil)))) lk3 (si hl3)
   rintro t3 Kt3 lt3 rfl j3
   refine nil_check (Jb rfl (RStep.of (load1_s r0 rfl rfl (neq_err rfl (cond_go rfl ?_)))))
   refine cond_s (fun w91 => ?_) (fun w91 => ?_)
   replace hl0 := ift w91 hl0
   obtain rfl := si hl0
   replace hm := elr hm
   obtain rfl := si hm
   refine EndStep.mk _ (((lk0.trans l28).trans l30).trans lt3) ⟨rfl, rfl⟩ (ConvH.of (.cons r0 (.cons r1 .nil)))
   replace hl0 := iff_ w91 hl0
   refine int_in (cntz hx0 hk0) ?_
   refine RoundStep.mk (i0 + 1, y0_0, t3.1, t3.2, y0_a0, y0_c0) ⟨rfl, rfl, trivial⟩ (by repeat (first | exact trivial | refine And.intro rfl ?_)) (ConvH.of (.cons r0 (.cons r1 .nil))) (((lk0.trans l28).trans l30).trans lt3) (ltm hx0) ⟨(y0_h0.mono ((l28.trans l30).trans lt3)), hl0⟩
   replace hl0 := iff_ w71 hl0
   refine nil_check (Jb rfl (RStep.of (load1_s r0 rfl rfl (neq_err rfl (cond_go rfl ?_)))))
   refine cond_s (fun w91 => ?_) (fun w91 => ?_)
   replace hl0 := ift w91 hl0
   obtain rfl := si hl0
   replace hm := elr hm
   obtain rfl := si hm
   refine EndStep.mk _ ((lk0.trans l28).trans l30) ⟨rfl, rfl⟩ (ConvH.of (.cons r0 (.cons r1 .nil)))
   replace hl0 := iff_ w91 hl0
   refine int_in (cntz hx0 hk0) ?_
   refine RoundStep.mk (i0 + 1, y0_0, x28.2.line, x28.2.err, y0_a0, y0_c0) ⟨rfl, rfl, trivial⟩ (by repeat (first | exact trivial | refine And.intro rfl ?_)) (ConvH.of (.cons r0 (.cons r1 .nil))) ((lk0.trans l28).trans l30) (ltm hx0) ⟨(y0_h0.mono (l28.trans l30)), hl0⟩
   refine cond_f g40_6 (cond_f g40_6 (cond_f g40_6 (cond_go rfl (cond_F ?_))))
   replace hl0 := iff_ (and_f (and_g g36_6 g40_6)) hl0
   refine nil_check (Jb rfl (RStep.of (load1_s r0 rfl rfl (neq_err rfl (cond_go rfl ?_)))))
   refine cond_s (fun w53 => ?_) (fun w53 => ?_)
   replace hl0 := ift w53 hl0
   obtain rfl := si hl0
   replace hm := elr hm
   obtain rfl := si hm
   refine EndStep.mk _ ((lk0.trans l28).trans l30) ⟨rfl, rfl⟩ (ConvH.of (.cons r0 (.cons r1 .nil)))
   replace hl0 := iff_ w53 hl0
   refine Jb rfl (RStep.of (load1_s r1 rfl rfl ?_))
   refine block_go rfl ?_
   refine eq_int (cond_go rfl ?_)
   refine cond_s (fun w56 => ?_) (fun w56 => ?_)
   replace hl0 := ift w56 hl0
   refine Jb rfl (RStep.of (load1_s r1 rfl rfl ?_))
   obtain ⟨x61, q61, hl0⟩ := bnd hl0
   refine call_fn (JaM (name := e0.Text) q61 (y0_h0.mono (l28.trans l30)) rfl) .nil ?_
   rintro _ K61 _ l61 ⟨rfl, rfl⟩
   refine cond_go rfl ?_
   refine cond_s (fun w61 => ?_) (fun w61 => ?_)
   replace hl0 := ift w61 hl0
   refine RStep.of (loadn_s r1 rfl (Nat.le_of_ble_eq_true rfl) ?_)
   refine mk_iface rfl ?_
   obtain ⟨x65, q65, hl0⟩ := bnd hl0
   refine call_fn (JF (c := x28.2) (n' := e0) (err := (some 4)) q65 (LiC.mono Ja.R_ok ((l28.trans l30).trans l61) h17_0)) (.cons r0 .nil) ?_
   rintro _ K65 _ l65 ⟨rfl, rfl⟩
   refine Jb rfl (RStep.of (load1_s r1 rfl rfl ?_))
   obtain ⟨x70, q70, hl0⟩ := bnd hl0
   refine call_fn (JW (name := e0.Text) (t := x28.1) q70 (y0_h0.mono (((l28.trans l30).trans l61).trans l65)) rfl) .nil ?_
   rintro _ K70 _ l70 ⟨a70_0, c70_0, rfl, h70_0, rfl⟩
   refine nil_check (Jb rfl (RStep.of (load1_s r1 rfl rfl (neq_err rfl (cond_go rfl ?_)))))
   refine cond_s (fun w91 => ?_) (fun w91 => ?_)
   replace hl0 := ift w91 hl0
   obtain rfl := si hl0
   replace hm := elr hm
   obtain rfl := si hm
   refine EndStep.mk _ (((((lk0.trans l28).trans l30).trans l61).trans l65).trans l70) ⟨rfl, rfl⟩ (ConvH.of (.cons r1 (.cons r2 .nil)))
   replace hl0 := iff_ w91 hl0
   refine int_in (cntz hx0 hk0) ?_
   refine fRo r0 fun Kr0_0 lr0_0 fr0_0 => ?_
   refine RoundStep.mk (i0 + 1, x70, x65.line, x65.err, a70_0, c70_0) ⟨rfl, rfl, trivial⟩ (by repeat (first | exact trivial | refine And.intro rfl ?_)) (ConvH.of (.cons r0 (.cons r1 .nil))) ((((((lk0.trans l28).trans l30).trans l61).trans l65).trans l70).trans lr0_0) (ltm hx0) ⟨fr0_0, hl0⟩
   replace hl0 := iff_ w61 hl0
   refine Jb rfl (RStep.of (load1_s r1 rfl rfl ?_))
   obtain ⟨x70, q70, hl0⟩ := bnd hl0
   refine call_fn (JW (name := e0.Text) (t := x28.1) q70 (y0_h0.mono ((l28.trans l30).trans l61)) rfl) .nil ?_
   rintro _ K70 _ l70 ⟨a70_0, c70_0, rfl, h70_0, rfl⟩
   refine nil_check (Jb rfl (RStep.of (load1_s r1 rfl rfl (neq_err rfl (cond_go rfl ?_)))))
   refine cond_s (fun w91 => ?_) (fun w91 => ?_)
   replace hl0 := ift w91 hl0
   obtain rfl := si hl0
   replace hm := elr hm
   obtain rfl := si hm
   refine EndStep.mk _ ((((lk0.trans l28).trans l30).trans l61).trans l70) ⟨rfl, rfl⟩ (ConvH.of (.cons r1 (.cons r2 .nil)))
   replace hl0 := iff_ w91 hl0
   refine int_in (cntz hx0 hk0) ?_
   refine fRo r0 fun Kr0_0 lr0_0 fr0_0 => ?_
   refine RoundStep.mk (i0 + 1, x70, x28.2.line, x28.2.err, a70_0, c70_0) ⟨rfl, rfl, trivial⟩ (by repeat (first | exact trivial | refine And.intro rfl ?_)) (ConvH.of (.cons r0 (.cons r1 .nil))) (((((lk0.trans l28).trans l30).trans l61).trans l70).trans lr0_0) (ltm hx0) ⟨fr0_0, hl0⟩
   replace hl0 := iff_ w56 hl0
   refine eq_int (cond_go rfl ?_)
   refine cond_s (fun w71 => ?_) (fun w71 => ?_)
   replace hl0 := ift w71 hl0
   refine Jb rfl (RStep.of (load1_s r1 rfl rfl ?_))
   obtain ⟨h75, hl0⟩ := chkb hl0
   have h75_ := (LiC.mono Ja.R_ok (l28.trans l30) h17_0).subC h75
   refine RStep.ofN (sl_slN (l := e0.Kids) (lo := (some 1)) (hi := none) (lo' := (1 : Int)) (hi' := (e0.Kids.length : Int)) rfl rfl rfl rfl rfl (LiC.mono Ja.R_ok (l28.trans l30) h17_0).le h75 (RStep.of (len_slice rfl ?_)))
   obtain ⟨hk3, hl0⟩ := chkb hl0
   obtain ⟨s3, hl3, hl0⟩ := bnd hl0
   refine code_cut (σ := (Int × Err)) [11, 77, 78, 79, 80, 81, 82, 83, 84, 85, 86] (fun t3 => []) (fun t3 => [Cells b0 78 [.int .i64 t3.1, errV 44 t3.2], Cells b7 34 [.int .i64 e0.Kind, str e0.Text, .slice a17_0 e0.Kids.length c17_0, .int .i64 e0.Line], F]) (fun zz K1 => match zz with | t3 => t3 = s3) ?_ ?_
   refine block_go rfl ?_
   refine loop_rule (σ := Nat × Int × Err) [11, 77, 78, 79, 80, 81, 82, 83, 84, 85, 86] (fun (i3, y3_0, y3_1) => [(77, .int .i64 (i3 : Int))]) (fun (i3, y3_0, y3_1) => [Cells b0 78 [.int .i64 y3_0, errV 44 y3_1], Cells b7 34 [.int .i64 e0.Kind, str e0.Text, .slice a17_0 e0.Kids.length c17_0, .int .i64 e0.Line], F]) (fun zz K1 => match zz with | (i3, y3_0, y3_1) => Jn (Jp n) y0_0 ((subL e0.Kids (1 : Int) (e0.Kids.length : Int)).drop i3) i3 y3_0 y3_1 = some s3) (fun zz => (subL e0.Kids (1 : Int) (e0.Kids.length : Int)).length - zz.1) (0, x28.2.line, x28.2.err) rfl ⟨rfl, trivial⟩ (ConvH.of (.cons r0 (.cons r0 (.cons r0 .nil)))) hl3 ?_
   clear hl3
   rintro ⟨i3, y3_0, y3_1⟩ Kb3 lk3 hl3 j3
   conv at hl3 => whnf
   refine cond_go rfl ?_
   refine cond_s (fun w3 => ?_) (fun w3 => ?_)
   obtain ⟨e3, hx3, hd3⟩ := ltx w3
   rw [hd3, Jn.eq_2] at hl3
   refine block_go rfl ?_
   refine RStep.ofN (index_addr rfl rfl (hasR (LiC.mono Ja.R_ok lk3 h75_).rd hx3) (nn _) (lt_ofN hx3) ?_)
   obtain ⟨ss80, cc80, hr80, hc80, hR80⟩ := LiR.get (LiC.mono Ja.R_ok lk3 h75_).rd hx3
   obtain ⟨a80_0, c80_0, rfl, h80_0⟩ := Ja.out hR80
   refine RStep.of (load_rd_agg i3 _ hr80 rfl hc80 rfl ?_)
   refine alloc_rule rfl ?_
   intro b11
   refine store_rule r0 rfl ?_
   refine ⟨rfl, rfl, (Nat.le_of_ble_eq_true rfl), ?_⟩
   refine RStep.of (loadn_s r0 rfl (Nat.le_of_ble_eq_true rfl) ?_)
   obtain ⟨x83, q83, hl3⟩ := bnd hl3
   refine call_fn (Jay (n' := e3) q83 h80_0) .nil ?_
   rintro _ K83 _ l83 ⟨a83_0, c83_0, rfl, h83_0, rfl⟩
   obtain ⟨x85, q85, hl3⟩ := bnd hl3
   refine call_fn (ih (c := (⟨y3_0, y3_1⟩ : Ji)) q85 h83_0 rfl (y0_h0.mono (((l28.trans l30).trans lk3).trans l83)) rfl) (.cons r1 .nil) ?_
   rintro _ K85 _ l85 ⟨rfl, rfl⟩
   refine int_in (cntz hx3 hk3) ?_
   refine RoundStep.mk (i3 + 1, x85.line, x85.err) ⟨rfl, trivial⟩ (by repeat (first | exact trivial | refine And.intro rfl ?_)) (ConvH.of (.cons r0 (.cons r1 (.cons r1 .nil)))) ((lk3.trans l83).trans l85) (ltm hx3) hl3
   rw [lty w3, Jn.eq_1] at hl3
   refine cond_T ?_
   refine MeetStep.mk ((y3_0, y3_1)) trivial (by repeat (first | exact trivial | refine And.intro rfl ?_)) (ConvH.of (.cons r0 (.cons r0 (.cons r0 .nil)))) lk3 (si hl3)
   rintro t3 Kt3 lt3 rfl j3
   refine nil_check (Jb rfl (RStep.of (load1_s r0 rfl rfl (neq_err rfl (cond_go rfl ?_)))))
   refine cond_s (fun w91 => ?_) (fun w91 => ?_)
   replace hl0 := ift w91 hl0
   obtain rfl := si hl0
   replace hm := elr hm
   obtain rfl := si hm
   refine EndStep.mk _ (((lk0.trans l28).trans l30).trans lt3) ⟨rfl, rfl⟩ (ConvH.of (.cons r0 (.cons r1 .nil)))
   replace hl0 := iff_ w91 hl0
   refine int_in (cntz hx0 hk0) ?_
   refine RoundStep.mk (i0 + 1, y0_0, t3.1, t3.2, y0_a0, y0_c0) ⟨rfl, rfl, trivial⟩ (by repeat (first | exact trivial | refine And.intro rfl ?_)) (ConvH.of (.cons r0 (.cons r1 .nil))) (((lk0.trans l28).trans l30).trans lt3) (ltm hx0) ⟨(y0_h0.mono ((l28.trans l30).trans lt3)), hl0⟩
   replace hl0 := iff_ w71 hl0
   refine nil_check (Jb rfl (RStep.of (load1_s r0 rfl rfl (neq_err rfl (cond_go rfl ?_)))))
   refine cond_s (fun w91 => ?_) (fun w91 => ?_)
   replace hl0 := ift w91 hl0
   obtain rfl := si hl0
   replace hm := elr hm
   obtain rfl := si hm
   refine EndStep.mk _ ((lk0.trans l28).trans l30) ⟨rfl, rfl⟩ (ConvH.of (.cons r0 (.cons r1 .nil)))
   replace hl0 := iff_ w91 hl0
   refine int_in (cntz hx0 hk0) ?_
   refine RoundStep.mk (i0 + 1, y0_0, x28.2.line, x28.2.err, y0_a0, y0_c0) ⟨rfl, rfl, trivial⟩ (by repeat (first | exact trivial | refine And.intro rfl ?_)) (ConvH.of (.cons r0 (.cons r1 .nil))) ((lk0.trans l28).trans l30) (ltm hx0) ⟨(y0_h0.mono (l28.trans l30)), hl0⟩
   refine cond_f g36_6 (cond_f g36_6 (cond_F (cond_F (cond_F (cond_F ?_)))))
   refine cond_go rfl (cond_F ?_)
   replace hl0 := iff_ (and_f (and_f g36_6)) hl0
   refine nil_check (Jb rfl (RStep.of (load1_s r0 rfl rfl (neq_err rfl (cond_go rfl ?_)))))
   refine cond_s (fun w53 => ?_) (fun w53 => ?_)
   replace hl0 := ift w53 hl0
   obtain rfl := si hl0
   replace hm := elr hm
   obtain rfl := si hm
   refine EndStep.mk _ ((lk0.trans l28).trans l30) ⟨rfl, rfl⟩ (ConvH.of (.cons r0 (.cons r1 .nil)))
   replace hl0 := iff_ w53 hl0
   refine Jb rfl (RStep.of (load1_s r1 rfl rfl ?_))
   refine block_go rfl ?_
   refine eq_int (cond_go rfl ?_)
   refine cond_s (fun w56 => ?_) (fun w56 => ?_)
   replace hl0 := ift w56 hl0
   refine Jb rfl (RStep.of (load1_s r1 rfl rfl ?_))
   obtain ⟨x61, q61, hl0⟩ := bnd hl0
   refine call_fn (JaM (name := e0.Text) q61 (y0_h0.mono (l28.trans l30)) rfl) .nil ?_
   rintro _ K61 _ l61 ⟨rfl, rfl⟩
   refine cond_go rfl ?_
   refine cond_s (fun w61 => ?_) (fun w61 => ?_)
   replace hl0 := ift w61 hl0
   refine RStep.of (loadn_s r1 rfl (Nat.le_of_ble_eq_true rfl) ?_)
   refine mk_iface rfl ?_
   obtain ⟨x65, q65, hl0⟩ := bnd hl0
   refine call_fn (JF (c := x28.2) (n' := e0) (err := (some 4)) q65 (LiC.mono Ja.R_ok ((l28.trans l30).trans l61) h17_0)) (.cons r0 .nil) ?_
   rintro _ K65 _ l65 ⟨rfl, rfl⟩
   refine Jb rfl (RStep.of (load1_s r1 rfl rfl ?_))
   obtain ⟨x70, q70, hl0⟩ := bnd hl0
   refine call_fn (JW (name := e0.Text) (t := x28.1) q70 (y0_h0.mono (((l28.trans l30).trans l61).trans l65)) rfl) .nil ?_
   rintro _ K70 _ l70 ⟨a70_0, c70_0, rfl, h70_0, rfl⟩
   refine nil_check (Jb rfl (RStep.of (load1_s r1 rfl rfl (neq_err rfl (cond_go rfl ?_)))))
   refine cond_s (fun w91 => ?_) (fun w91 => ?_)
   replace hl0 := ift w91 hl0
   obtain rfl := si hl0
   replace hm := elr hm
   obtain rfl := si hm
   refine EndStep.mk _ (((((lk0.trans l28).trans l30).trans l61).trans l65).trans l70) ⟨rfl, rfl⟩ (ConvH.of (.cons r1 (.cons r2 .nil)))
   replace hl0 := iff_ w91 hl0
   refine int_in (cntz hx0 hk0) ?_
   refine fRo r0 fun Kr0_0 lr0_0 fr0_0 => ?_
   refine RoundStep.mk (i0 + 1, x70, x65.line, x65.err, a70_0, c70_0) ⟨rfl, rfl, trivial⟩ (by repeat (first | exact trivial | refine And.intro rfl ?_)) (ConvH.of (.cons r0 (.cons r1 .nil))) ((((((lk0.trans l28).trans l30).trans l61).trans l65).trans l70).trans lr0_0) (ltm hx0) ⟨fr0_0, hl0⟩
   replace hl0 := iff_ w61 hl0
   refine Jb rfl (RStep.of (load1_s r1 rfl rfl ?_))
   obtain ⟨x70, q70, hl0⟩ := bnd hl0
   refine call_fn (JW (name := e0.Text) (t := x28.1) q70 (y0_h0.mono ((l28.trans l30).trans l61)) rfl) .nil ?_
   rintro _ K70 _ l70 ⟨a70_0, c70_0, rfl, h70_0, rfl⟩
   refine nil_check (Jb rfl (RStep.of (load1_s r1 rfl rfl (neq_err rfl (cond_go rfl ?_)))))
   refine cond_s (fun w91 => ?_) (fun w91 => ?_)
   replace hl0 := ift w91 hl0
   obtain rfl := si hl0
   replace hm := elr hm
   obtain rfl := si hm
   refine EndStep.mk _ ((((lk0.trans l28).trans l30).trans l61).trans l70) ⟨rfl, rfl⟩ (ConvH.of (.cons r1 (.cons r2 .nil)))
   replace hl0 := iff_ w91 hl0
   refine int_in (cntz hx0 hk0) ?_
   refine fRo r0 fun Kr0_0 lr0_0 fr0_0 => ?_
   refine RoundStep.mk (i0 + 1, x70, x28.2.line, x28.2.err, a70_0, c70_0) ⟨rfl, rfl, trivial⟩ (by repeat (first | exact trivial | refine And.intro rfl ?_)) (ConvH.of (.cons r0 (.cons r1 .nil))) (((((lk0.trans l28).trans l30).trans l61).trans l70).trans lr0_0) (ltm hx0) ⟨fr0_0, hl0⟩
   replace hl0 := iff_ w56 hl0
   refine eq_int (cond_go rfl ?_)
   refine cond_s (fun w71 => ?_) (fun w71 => ?_)
   replace hl0 := ift w71 hl0
   refine Jb rfl (RStep.of (load1_s r1 rfl rfl ?_))
   obtain ⟨h75, hl0⟩ := chkb hl0
   have h75_ := (LiC.mono Ja.R_ok (l28.trans l30) h17_0).subC h75
   refine RStep.ofN (sl_slN (l := e0.Kids) (lo := (some 1)) (hi := none) (lo' := (1 : Int)) (hi' := (e0.Kids.length : Int)) rfl rfl rfl rfl rfl (LiC.mono Ja.R_ok (l28.trans l30) h17_0).le h75 (RStep.of (len_slice rfl ?_)))
   obtain ⟨hk3, hl0⟩ := chkb hl0
   obtain ⟨s3, hl3, hl0⟩ := bnd hl0
   refine code_cut (σ := (Int × Err)) [11, 77, 78, 79, 80, 81, 82, 83, 84, 85, 86] (fun t3 => []) (fun t3 => [Cells b0 78 [.int .i64 t3.1, errV 44 t3.2], Cells b7 34 [.int .i64 e0.Kind, str e0.Text, .slice a17_0 e0.Kids.length c17_0, .int .i64 e0.Line], F]) (fun zz K1 => match zz with | t3 => t3 = s3) ?_ ?_
   refine block_go rfl ?_
   refine loop_rule (σ := Nat × Int × Err) [11, 77, 78, 79, 80, 81, 82, 83, 84, 85, 86] (fun (i3, y3_0, y3_1) => [(77, .int .i64 (i3 : Int))]) (fun (i3, y3_0, y3_1) => [Cells b0 78 [.int .i64 y3_0, errV 44 y3_1], Cells b7 34 [.int .i64 e0.Kind, str e0.Text, .slice a17_0 e0.Kids.length c17_0, .int .i64 e0.Line], F]) (fun zz K1 => match zz with | (i3, y3_0, y3_1) => Jn (Jp n) y0_0 ((subL e0.Kids (1 : Int) (e0.Kids.length : Int)).drop i3) i3 y3_0 y3_1 = some s3) (fun zz => (subL e0.Kids (1 : Int) (e0.Kids.length : Int)).length - zz.1) (0, x28.2.line, x28.2.err) rfl ⟨rfl, trivial⟩ (ConvH.of (.cons r0 (.cons r0 (.cons r0 .nil)))) hl3 ?_
   clear hl3
   rintro ⟨i3, y3_0, y3_1⟩ Kb3 lk3 hl3 j3
   conv at hl3 => whnf
   refine cond_go rfl ?_
   refine cond_s (fun w3 => ?_) (fun w3 => ?_)
   obtain ⟨e3, hx3, hd3⟩ := ltx w3
   rw [hd3, Jn.eq_2] at hl3
   refine block_go rfl ?_
   refine RStep.ofN (index_addr rfl rfl (hasR (LiC.mono Ja.R_ok lk3 h75_).rd hx3) (nn _) (lt_ofN hx3) ?_)
   obtain ⟨ss80, cc80, hr80, hc80, hR80⟩ := LiR.get (LiC.mono Ja.R_ok lk3 h75_).rd hx3
   obtain ⟨a80_0, c80_0, rfl, h80_0⟩ := Ja.out hR80
   refine RStep.of (load_rd_agg i3 _ hr80 rfl hc80 rfl ?_)
   refine alloc_rule rfl ?_
   intro b11
   refine store_rule r0 rfl ?_
   refine ⟨rfl, rfl, (Nat.le_of_ble_eq_true rfl), ?_⟩
   refine RStep.of (loadn_s r0 rfl (Nat.le_of_ble_eq_true rfl) ?_)
   obtain ⟨x83, q83, hl3⟩ := bnd hl3
   refine call_fn (Jay (n' := e3) q83 h80_0) .nil ?_
   rintro _ K83 _ l83 ⟨a83_0, c83_0, rfl, h83_0, rfl⟩
   obtain ⟨x85, q85, hl3⟩ := bnd hl3
   refine call_fn (ih (c := (⟨y3_0, y3_1⟩ : Ji)) q85 h83_0 rfl (y0_h0.mono (((l28.trans l30).trans lk3).trans l83)) rfl) (.cons r1 .nil) ?_
   rintro _ K85 _ l85 ⟨rfl, rfl⟩
   refine int_in (cntz hx3 hk3) ?_
   refine RoundStep.mk (i3 + 1, x85.line, x85.err) ⟨rfl, trivial⟩ (by repeat (first | exact trivial | refine And.intro rfl ?_)) (ConvH.of (.cons r0 (.cons r1 (.cons r1 .nil)))) ((lk3.trans l83).trans l85) (ltm hx3) hl3
   rw [lty w3, Jn.eq_1] at hl3
   refine cond_T ?_
   refine MeetStep.mk ((y3_0, y3_1)) trivial (by repeat (first | exact trivial | refine And.intro rfl ?_)) (ConvH.of (.cons r0 (.cons r0 (.cons r0 .nil)))) lk3 (si hl3)
   rintro t3 Kt3 lt3 rfl j3
   refine nil_check (Jb rfl (RStep.of (load1_s r0 rfl rfl (neq_err rfl (cond_go rfl ?_)))))
   refine cond_s (fun w91 => ?_) (fun w91 => ?_)
   replace hl0 := ift w91 hl0
   obtain rfl := si hl0
   replace hm := elr hm
   obtain rfl := si hm
   refine EndStep.mk _ (((lk0.trans l28).trans l30).trans lt3) ⟨rfl, rfl⟩ (ConvH.of (.cons r0 (.cons r1 .nil)))
   replace hl0 := iff_ w91 hl0
   refine int_in (cntz hx0 hk0) ?_
   refine RoundStep.mk (i0 + 1, y0_0, t3.1, t3.2, y0_a0, y0_c0) ⟨rfl, rfl, trivial⟩ (by repeat (first | exact trivial | refine And.intro rfl ?_)) (ConvH.of (.cons r0 (.cons r1 .nil))) (((lk0.trans l28).trans l30).trans lt3) (ltm hx0) ⟨(y0_h0.mono ((l28.trans l30).trans lt3)), hl0⟩
   replace hl0 := iff_ w71 hl0
   refine nil_check (Jb rfl (RStep.of (load1_s r0 rfl rfl (neq_err rfl (cond_go rfl ?_)))))
   refine cond_s (fun w91 => ?_) (fun w91 => ?_)
   replace hl0 := ift w91 hl0
   obtain rfl := si hl0
   replace hm := elr hm
   obtain rfl := si hm
   refine EndStep.mk _ ((lk0.trans l28).trans l30) ⟨rfl, rfl⟩ (ConvH.of (.cons r0 (.cons r1 .nil)))
   replace hl0 := iff_ w91 hl0
   refine int_in (cntz hx0 hk0) ?_
   refine RoundStep.mk (i0 + 1, y0_0, x28.2.line, x28.2.err, y0_a0, y0_c0) ⟨rfl, rfl, trivial⟩ (by repeat (first | exact trivial | refine And.intro rfl ?_)) (ConvH.of (.cons r0 (.cons r1 .nil))) ((lk0.trans l28).trans l30) (ltm hx0) ⟨(y0_h0.mono (l28.trans l30)), hl0⟩
   rw [lty w0, Jm.eq_1] at hl0
   refine cond_T ?_
   refine MeetStep.mk ((y0_0, y0_1, y0_2), y0_a0, y0_c0) ⟨rfl, trivial⟩ (by repeat (first | exact trivial | refine And.intro rfl ?_)) (ConvH.of (.cons r0 (.cons r0 .nil))) lk0 ⟨y0_h0, (si hl0).symm⟩
   rintro ⟨t0, t0_a0, t0_c0⟩ Kt0 lt0 ⟨t0_h0, rfl⟩ j0
   replace hm := elg hm
   obtain rfl := si hm
   refine EndStep.mk _ lt0 ⟨rfl, rfl⟩ (ConvH.of (.cons r0 (.cons r0 .nil)))

noncomputable def JaY (n : Nat) (program : Ja) : Option (Int × Err) :=
  (Jar n program).bind fun x6 =>
  if (!x6) then
  some (0, (some 2))
  else
  (Jp n (⟨0, none⟩ : Ji) program.Kids []).bind fun x14 =>
  some (x14.line, x14.err)
set_option maxHeartbeats 8000000 in
theorem JbS {n : Nat} {program : Ja} {ap0_0 : Option Addr} {cp0_0 : Nat} {K : Hp} {r : Int × Err}
    (hm : JaY n program = some r) (hp0_0 : LiC Ja.R K ap0_0 cp0_0 4 program.Kids) (hG1 : GlL eS 1 1 Js K) (hG2 : GlL eS 1 2 Jx K) (hG3 : GlL eS 1 3 JD K) (hG4 : GlL eS 1 4 gkw0 K) :
    Fn Tryz.prog 15 [.agg #[.int .i64 program.Kind, str program.Text, .slice ap0_0 program.Kids.length cp0_0, .int .i64 program.Line]] K [] (fun v K' H' => v = .tuple #[.int .i64 r.1, errV 44 r.2] ∧ H' = []) := by
 obtain ⟨ga1, gn1, gc1, gn_, gs1, gd1⟩ := id hG1
 subst gn_
 obtain ⟨ga2, gn2, gc2, gn_, gs2, gd2⟩ := id hG2
 subst gn_
 obtain ⟨ga3, gn3, gc3, gn_, gs3, gd3⟩ := id hG3
 subst gn_
 obtain ⟨ga4, gn4, gc4, gn_, gs4, gd4⟩ := id hG4
 subst gn_
 refine Fn.enter Tryz.func15 Tryz.call15 rfl fun F => ?_
 unfold JaY at hm
 refine box_rule ?_
 intro b1
 refine RStep.of (loadn_s r0 rfl (Nat.le_of_ble_eq_true rfl) ?_)
 obtain ⟨x6, q6, hm⟩ := bnd hm
 refine call_fn (Jcg (n' := program) q6 hp0_0 hG1 hG2 hG3 hG4) .nil ?_
 rintro _ K6 _ l6 ⟨rfl, rfl⟩
 refine un_not (cond_go rfl ?_)
 refine cond_s (fun w7 => ?_) (fun w7 => ?_)
 replace hm := ift (not_t (ni_t w7)) hm
 refine mk_iface rfl ?_
 obtain rfl := si hm
 refine EndStep.mk _ l6 ⟨rfl, rfl⟩ (ConvH.of (.cons r1 .nil))
 replace hm := iff_ (not_f (ni_f w7)) hm
 refine build_struct rfl rfl ?_
 refine box_rule ?_
 intro b10
 refine Jb rfl (RStep.of (load1_s r1 rfl rfl ?_))
 obtain ⟨x14, q14, hm⟩ := bnd hm
 refine call_fn (JbL (c := (⟨0, none⟩ : Ji)) q14 (LiC.mono Ja.R_ok l6 hp0_0) rfl RdC.nil rfl) (.cons r0 .nil) ?_
 rintro _ K14 _ l14 ⟨rfl, rfl⟩
 refine draw_go ⟨⟨[], false⟩, _, [(_, _)]⟩ (by kernel_rfl) ⟨Hp.Le.refl _, (ConvH.of (.cons r0 .nil))⟩ ?_
 refine nil_check (Jb rfl (load1_l m0 rfl rfl (nil_check (Jb rfl (load1_l m0 rfl rfl ?_)))))
 obtain rfl := si hm
 refine EndStep.mk _ (l6.trans l14) ⟨rfl, rfl⟩ (ConvH.of (.cons r2 .nil))

noncomputable def Jd (c : Jc) (op : Int) (n' : Int) (s : Str) : Option (Int × Jc) :=
  (chk (c.code.length + [(⟨op, n', s⟩ : Jj)].length ≤ lim)).bind fun _ =>
  (chk (InI ((((c.code ++ [(⟨op, n', s⟩ : Jj)]).length) : Int) - 1))).bind fun _ =>
  some (((((c.code ++ [(⟨op, n', s⟩ : Jj)]).length) : Int) - 1), (⟨(c.code ++ [(⟨op, n', s⟩ : Jj)]), c.names, c.slots⟩ : Jc))
set_option maxHeartbeats 8000000 in
theorem Jg {c : Jc} {op : Int} {n' : Int} {s : Str} {b0 : Nat} {ap0_0 : Option Addr} {cp0_0 : Nat} {ap0_1 : Option Addr} {cp0_1 : Nat} {K : Hp} {r : Int × Jc}
    (hm : Jd c op n' s = some r) (hp0_0 : (0 < c.code.length → Has ap0_0)) (hp0_1 : (0 < c.names.length → Has ap0_1)) :
    Fn Tryz.prog 31 [.pointer (some ⟨b0, 0, none⟩), .int .i64 op, .int .i64 n', str s] K [Cells b0 64 [.slice ap0_0 c.code.length cp0_0, .slice ap0_1 c.names.length cp0_1, .int .i64 c.slots], OwnL Jj.enc ap0_0 50 3 cp0_0 c.code, OwnL Jf.enc ap0_1 133 2 cp0_1 c.names] (fun v K' H' => ∃ ar_0 : Option Addr, ∃ cr_0 : Nat, ∃ ar_1 : Option Addr, ∃ cr_1 : Nat, v = .int .i64 r.1 ∧ (0 < r.2.code.length → Has ar_0) ∧ (0 < r.2.names.length → Has ar_1) ∧ H' = [Cells b0 64 [.slice ar_0 r.2.code.length cr_0, .slice ar_1 r.2.names.length cr_1, .int .i64 r.2.slots], OwnL Jj.enc ar_0 50 3 cr_0 r.2.code, OwnL Jf.enc ar_1 133 2 cr_1 r.2.names]) := by
 refine Fn.enter Tryz.func31 Tryz.call31 rfl fun F => ?_
 unfold Jd at hm
 refine nil_check (Jb rfl (RStep.of (load1_s r0 rfl rfl (build_struct rfl rfl (cond_T (cond_T ?_))))))
 refine cond_T ?_
 refine bsO (len := 1) (enc := Jj.enc) (l := [(⟨op, n', s⟩ : Jj)]) (cl := [.int .i64 op, .int .i64 n', str s]) elT27 rfl rfl (fun _ _ => rfl) rfl rfl rfl ?_ fun b18 => ?_
 · conv => whnf
   refine cond_T ?_
   first | done | rfl
 obtain ⟨h19, hm⟩ := chkb hm
 refine apE rfl r2 elT27 (src_own' rfl r0 rfl (fun _ => rfl) (fun _ => rfl)) h19 ?_
 intro a19 c19 o19
 refine nil_check (Jb rfl ?_)
 refine store_rule r2 rfl ?_
 refine ⟨rfl, rfl, (Nat.le_of_ble_eq_true rfl), ?_⟩
 refine nil_check (Jb rfl (RStep.of (load1_s r0 rfl rfl (RStep.of (len_slice rfl ?_)))))
 obtain ⟨h27, hm⟩ := chkb hm
 refine int_in h27 ?_
 obtain rfl := si hm
 refine EndStep.mk _ (Hp.Le.refl _) ⟨a19, c19, ap0_1, cp0_1, rfl, o19, hp0_1, rfl⟩ (ConvH.of (.cons r0 (.cons r0 (.cons r1 (.cons r1 .nil)))))

noncomputable def JL (c : Jc) (yes : Bool) : Option (Jc) :=
  if yes then
  (Jd c 1 0 ([] : Str)).bind fun x7 =>
  (Jd x7.2 1 0 ([] : Str)).bind fun x10 =>
  (Jd x10.2 7 0 ([61, 61] : Str)).bind fun x12 =>
  some x12.2
  else
  (Jd c 1 0 ([] : Str)).bind fun x7 =>
  (Jd x7.2 1 1 ([] : Str)).bind fun x10 =>
  (Jd x10.2 7 0 ([61, 61] : Str)).bind fun x12 =>
  some x12.2
set_option maxHeartbeats 8000000 in
theorem JaD {c : Jc} {yes : Bool} {b0 : Nat} {ap0_0 : Option Addr} {cp0_0 : Nat} {ap0_1 : Option Addr} {cp0_1 : Nat} {K : Hp} {r : Jc}
    (hm : JL c yes = some r) (hp0_0 : (0 < c.code.length → Has ap0_0)) (hp0_1 : (0 < c.names.length → Has ap0_1)) :
    Fn Tryz.prog 99 [.pointer (some ⟨b0, 0, none⟩), .bool yes] K [Cells b0 64 [.slice ap0_0 c.code.length cp0_0, .slice ap0_1 c.names.length cp0_1, .int .i64 c.slots], OwnL Jj.enc ap0_0 50 3 cp0_0 c.code, OwnL Jf.enc ap0_1 133 2 cp0_1 c.names] (fun v K' H' => ∃ ar_0 : Option Addr, ∃ cr_0 : Nat, ∃ ar_1 : Option Addr, ∃ cr_1 : Nat, v = .tuple #[] ∧ (0 < r.code.length → Has ar_0) ∧ (0 < r.names.length → Has ar_1) ∧ H' = [Cells b0 64 [.slice ar_0 r.code.length cr_0, .slice ar_1 r.names.length cr_1, .int .i64 r.slots], OwnL Jj.enc ar_0 50 3 cr_0 r.code, OwnL Jf.enc ar_1 133 2 cr_1 r.names]) := by
 refine Fn.enter Tryz.func99 Tryz.call99 rfl fun F => ?_
 unfold JL at hm
 refine cond_go rfl ?_
 refine cond_s (fun w5 => ?_) (fun w5 => ?_)
 replace hm := ift w5 hm
 obtain ⟨x7, q7, hm⟩ := bnd hm
 refine call_fn (Jg (c := c) (op := 1) (n' := 0) (s := ([] : Str)) q7 hp0_0 hp0_1) (.cons r0 (.cons r0 (.cons r0 .nil))) ?_
 rintro _ K7 _ l7 ⟨a7_0, c7_0, a7_1, c7_1, rfl, h7_0, h7_1, rfl⟩
 obtain ⟨x10, q10, hm⟩ := bnd hm
 refine call_fn (Jg (c := x7.2) (op := 1) (n' := 0) (s := ([] : Str)) q10 h7_0 h7_1) (.cons r0 (.cons r0 (.cons r0 .nil))) ?_
 rintro _ K10 _ l10 ⟨a10_0, c10_0, a10_1, c10_1, rfl, h10_0, h10_1, rfl⟩
 obtain ⟨x12, q12, hm⟩ := bnd hm
 refine call_fn (Jg (c := x10.2) (op := 7) (n' := 0) (s := ([61, 61] : Str)) q12 h10_0 h10_1) (.cons r0 (.cons r0 (.cons r0 .nil))) ?_
 rintro _ K12 _ l12 ⟨a12_0, c12_0, a12_1, c12_1, rfl, h12_0, h12_1, rfl⟩
 obtain rfl := si hm
 refine EndStep.mk _ ((l7.trans l10).trans l12) ⟨a12_0, c12_0, a12_1, c12_1, rfl, h12_0, h12_1, rfl⟩ (ConvH.of (.cons r0 (.cons r0 (.cons r0 (.cons r0 .nil)))))
 replace hm := iff_ w5 hm
 obtain ⟨x7, q7, hm⟩ := bnd hm
 refine call_fn (Jg (c := c) (op := 1) (n' := 0) (s := ([] : Str)) q7 hp0_0 hp0_1) (.cons r0 (.cons r0 (.cons r0 .nil))) ?_
 rintro _ K7 _ l7 ⟨a7_0, c7_0, a7_1, c7_1, rfl, h7_0, h7_1, rfl⟩
 obtain ⟨x10, q10, hm⟩ := bnd hm
 refine call_fn (Jg (c := x7.2) (op := 1) (n' := 1) (s := ([] : Str)) q10 h7_0 h7_1) (.cons r0 (.cons r0 (.cons r0 .nil))) ?_
 rintro _ K10 _ l10 ⟨a10_0, c10_0, a10_1, c10_1, rfl, h10_0, h10_1, rfl⟩
 obtain ⟨x12, q12, hm⟩ := bnd hm
 refine call_fn (Jg (c := x10.2) (op := 7) (n' := 0) (s := ([61, 61] : Str)) q12 h10_0 h10_1) (.cons r0 (.cons r0 (.cons r0 .nil))) ?_
 rintro _ K12 _ l12 ⟨a12_0, c12_0, a12_1, c12_1, rfl, h12_0, h12_1, rfl⟩
 obtain rfl := si hm
 refine EndStep.mk _ ((l7.trans l10).trans l12) ⟨a12_0, c12_0, a12_1, c12_1, rfl, h12_0, h12_1, rfl⟩ (ConvH.of (.cons r0 (.cons r0 (.cons r0 (.cons r0 .nil)))))

noncomputable def JN (c : Jc) (s : Str) : Nat → Int → Option (Fl (Jc) (Int))
  | 0, _ => none
  | xs0 + 1, y0_0 =>
    if decide (y0_0 ≥ 0) then
    (ix c.names y0_0).bind fun x20 =>
    if decide (x20.name = s) then
    (ix c.names y0_0).bind fun x31 =>
    (Jd c 3 x31.slot ([] : Str)).bind fun x34 =>
    some (Fl.ret x34.2)
    else
    (chk (InI (y0_0 - 1))).bind fun _ =>
    JN c s xs0 (y0_0 - 1)
    else
    some (Fl.go y0_0)
noncomputable def Jak (n : Nat) (c : Jc) (s : Str) : Option (Jc) :=
  (chk (InI ((c.names.length : Int) - 1))).bind fun _ =>
  (JN c s n ((c.names.length : Int) - 1)).bind fun s0 => s0.el some fun t0 =>
  (Jd c 5 0 s).bind fun x37 =>
  some x37.2
set_option maxHeartbeats 8000000 in
theorem JbM {n : Nat} {c : Jc} {s : Str} {b0 : Nat} {ap0_0 : Option Addr} {cp0_0 : Nat} {ap0_1 : Option Addr} {cp0_1 : Nat} {K : Hp} {r : Jc}
    (hm : Jak n c s = some r) (hp0_0 : (0 < c.code.length → Has ap0_0)) (hp0_1 : (0 < c.names.length → Has ap0_1)) :
    Fn Tryz.prog 100 [.pointer (some ⟨b0, 0, none⟩), str s] K [Cells b0 64 [.slice ap0_0 c.code.length cp0_0, .slice ap0_1 c.names.length cp0_1, .int .i64 c.slots], OwnL Jj.enc ap0_0 50 3 cp0_0 c.code, OwnL Jf.enc ap0_1 133 2 cp0_1 c.names] (fun v K' H' => ∃ ar_0 : Option Addr, ∃ cr_0 : Nat, ∃ ar_1 : Option Addr, ∃ cr_1 : Nat, v = .tuple #[] ∧ (0 < r.code.length → Has ar_0) ∧ (0 < r.names.length → Has ar_1) ∧ H' = [Cells b0 64 [.slice ar_0 r.code.length cr_0, .slice ar_1 r.names.length cr_1, .int .i64 r.slots], OwnL Jj.enc ar_0 50 3 cr_0 r.code, OwnL Jf.enc ar_1 133 2 cr_1 r.names]) := by
 refine Fn.enter Tryz.func100 Tryz.call100 rfl fun F => ?_
 unfold Jak at hm
 refine nil_check (Jb rfl (RStep.of (load1_s r0 rfl rfl (RStep.of (len_slice rfl ?_)))))
 obtain ⟨h10, hm⟩ := chkb hm
 refine int_in h10 ?_
 obtain ⟨s0, hl0, hm⟩ := bnd hm
 refine code_cut (σ := (Int)) [4, 11, 12, 13, 14, 15, 16, 17, 18, 19, 20, 21, 22, 23, 24, 25, 26, 27, 28, 29, 30, 31, 32, 33, 34] (fun t0 => [(4, .int .i64 t0)]) (fun t0 => [Cells b0 64 [.slice ap0_0 c.code.length cp0_0, .slice ap0_1 c.names.length cp0_1, .int .i64 c.slots], OwnL Jj.enc ap0_0 50 3 cp0_0 c.code, OwnL Jf.enc ap0_1 133 2 cp0_1 c.names, F]) (fun zz K1 => match zz with | t0 => s0 = Fl.go t0) ?_ ?_
 refine block_go rfl ?_
 refine loop_rule (σ := Nat × Int) [4, 11, 12, 13, 14, 15, 16, 17, 18, 19, 20, 21, 22, 23, 24, 25, 26, 27, 28, 29, 30, 31, 32, 33, 34] (fun (i0, y0_0) => [(4, .int .i64 y0_0)]) (fun (i0, y0_0) => [Cells b0 64 [.slice ap0_0 c.code.length cp0_0, .slice ap0_1 c.names.length cp0_1, .int .i64 c.slots], OwnL Jj.enc ap0_0 50 3 cp0_0 c.code, OwnL Jf.enc ap0_1 133 2 cp0_1 c.names, F]) (fun zz K1 => match zz with | (i0, y0_0) => JN c s i0 y0_0 = some s0) (fun zz => zz.1) (n, ((c.names.length : Int) - 1)) rfl ⟨rfl, trivial⟩ (ConvH.of (.cons r0 (.cons r0 (.cons r0 (.cons r0 .nil))))) hl0 ?_
 clear hl0
 rintro ⟨i0, y0_0⟩ Kb0 lk0 hl0 j0
 conv at hl0 => whnf
 cases i0 with
 | zero => rw [JN.eq_1] at hl0; cases hl0
 | succ i0 =>
  rw [JN.eq_2] at hl0
  refine cond_go rfl ?_
  refine cond_s (fun w12 => ?_) (fun w12 => ?_)
  replace hl0 := ift w12 hl0
  refine block_go rfl ?_
  refine nil_check (Jb rfl (RStep.of (load1_s r0 rfl rfl ?_)))
  obtain ⟨x20, l20, k20, hl0⟩ := ixb hl0
  refine RStep.ofN (index_addr rfl rfl (hasO hp0_1 k20) l20 (lt_ofE rfl l20 k20) (eptr_field rfl (hasO hp0_1 k20) (RStep.of (ld_own (i := (y0_0).toNat) (o := 0) r2 rfl k20 rfl rfl (eq_str (cond_go rfl ?_))))))
  refine cond_s (fun w24 => ?_) (fun w24 => ?_)
  replace hl0 := ift w24 hl0
  refine nil_check (Jb rfl (RStep.of (load1_s r0 rfl rfl ?_)))
  obtain ⟨x31, l31, k31, hl0⟩ := ixb hl0
  refine RStep.ofN (index_addr rfl rfl (hasO hp0_1 k31) l31 (lt_ofE rfl l31 k31) (eptr_field rfl (hasO hp0_1 k31) (RStep.of (ld_own (i := (y0_0).toNat) (o := 1) r2 rfl k31 rfl rfl ?_))))
  obtain ⟨x34, q34, hl0⟩ := bnd hl0
  refine call_fn (Jg (c := c) (op := 3) (n' := x31.slot) (s := ([] : Str)) q34 hp0_0 hp0_1) (.cons r0 (.cons r0 (.cons r0 .nil))) ?_
  rintro _ K34 _ l34 ⟨a34_0, c34_0, a34_1, c34_1, rfl, h34_0, h34_1, rfl⟩
  obtain rfl := si hl0
  replace hm := elr hm
  obtain rfl := si hm
  refine EndStep.mk _ (lk0.trans l34) ⟨a34_0, c34_0, a34_1, c34_1, rfl, h34_0, h34_1, rfl⟩ (ConvH.of (.cons r0 (.cons r0 (.cons r0 (.cons r0 .nil)))))
  replace hl0 := iff_ w24 hl0
  obtain ⟨h14, hl0⟩ := chkb hl0
  refine int_in h14 ?_
  refine RoundStep.mk (i0, (y0_0 - 1)) ⟨rfl, trivial⟩ (by repeat (first | exact trivial | refine And.intro rfl ?_)) (ConvH.of (.cons r0 (.cons r0 (.cons r0 (.cons r0 .nil))))) lk0 (Nat.lt_succ_self _) hl0
  replace hl0 := iff_ w12 hl0
  refine cond_T ?_
  refine MeetStep.mk (y0_0) ⟨rfl, trivial⟩ (by repeat (first | exact trivial | refine And.intro rfl ?_)) (ConvH.of (.cons r0 (.cons r0 (.cons r0 (.cons r0 .nil))))) lk0 (si hl0).symm
 rintro t0 Kt0 lt0 rfl j0
 replace hm := elg hm
 obtain ⟨x37, q37, hm⟩ := bnd hm
 refine call_fn (Jg (c := c) (op := 5) (n' := 0) (s := s) q37 hp0_0 hp0_1) (.cons r0 (.cons r0 (.cons r0 .nil))) ?_
 rintro _ K37 _ l37 ⟨a37_0, c37_0, a37_1, c37_1, rfl, h37_0, h37_1, rfl⟩
 obtain rfl := si hm
 refine EndStep.mk _ (lt0.trans l37) ⟨a37_0, c37_0, a37_1, c37_1, rfl, h37_0, h37_1, rfl⟩ (ConvH.of (.cons r0 (.cons r0 (.cons r0 (.cons r0 .nil)))))

noncomputable def Jq (c : Jc) (jump : Int) : Option (Jc) :=
  (ix c.code jump).bind fun x14 =>
  some (⟨(c.code.set ((jump).toNat) (⟨x14.Op, (c.code.length : Int), x14.S⟩ : Jj)), c.names, c.slots⟩ : Jc)
set_option maxHeartbeats 8000000 in
theorem JO {c : Jc} {jump : Int} {b0 : Nat} {ap0_0 : Option Addr} {cp0_0 : Nat} {ap0_1 : Option Addr} {cp0_1 : Nat} {K : Hp} {r : Jc}
    (hm : Jq c jump = some r) (hp0_0 : (0 < c.code.length → Has ap0_0)) (hp0_1 : (0 < c.names.length → Has ap0_1)) :
    Fn Tryz.prog 97 [.pointer (some ⟨b0, 0, none⟩), .int .i64 jump] K [Cells b0 64 [.slice ap0_0 c.code.length cp0_0, .slice ap0_1 c.names.length cp0_1, .int .i64 c.slots], OwnL Jj.enc ap0_0 50 3 cp0_0 c.code, OwnL Jf.enc ap0_1 133 2 cp0_1 c.names] (fun v K' H' => ∃ ar_0 : Option Addr, ∃ cr_0 : Nat, ∃ ar_1 : Option Addr, ∃ cr_1 : Nat, v = .tuple #[] ∧ (0 < r.code.length → Has ar_0) ∧ (0 < r.names.length → Has ar_1) ∧ H' = [Cells b0 64 [.slice ar_0 r.code.length cr_0, .slice ar_1 r.names.length cr_1, .int .i64 r.slots], OwnL Jj.enc ar_0 50 3 cr_0 r.code, OwnL Jf.enc ar_1 133 2 cr_1 r.names]) := by
 refine Fn.enter Tryz.func97 Tryz.call97 rfl fun F => ?_
 unfold Jq at hm
 refine draw_go ⟨⟨[], false⟩, _, [(_, _)]⟩ (by kernel_rfl) ⟨Hp.Le.refl _, (ConvH.of (.cons r0 .nil))⟩ ?_
 refine nil_check (Jb rfl (load1_l m0 rfl rfl (nil_check (Jb rfl (load1_l m0 rfl rfl ?_)))))
 refine len_sliceN rfl ?_
 obtain ⟨x14, l14, k14, hm⟩ := ixb hm
 refine index_addr rfl rfl (hasO hp0_0 k14) l14 (lt_ofE rfl l14 k14) (eptr_field rfl (hasO hp0_0 k14) ?_)
 refine st_own (o := 1) (y := (⟨x14.Op, (c.code.length : Int), x14.S⟩ : Jj)) x14 r1 rfl k14 rfl (by (conv => whnf); exact ⟨rfl, rfl, (Nat.le_of_ble_eq_true rfl), rfl, rfl, rfl⟩) ?_
 refine ⟨⟨(Hp.Le.refl _), (ConvH.of (.cons r1 .nil))⟩, ?_⟩
 obtain rfl := si hm
 refine cellsE r1 (congrArg (fun q_ : Nat => ([.slice ap0_0 q_ cp0_0, .slice ap0_1 c.names.length cp0_1, .int .i64 c.slots] : List Value)) (show c.code.length = (c.code.set ((jump).toNat) (⟨x14.Op, (c.code.length : Int), x14.S⟩ : Jj)).length from ((rfl).trans List.length_set.symm))) ?_
 refine EndStep.mk _ (Hp.Le.refl _) ⟨ap0_0, cp0_0, ap0_1, cp0_1, rfl, (by first | simpa using hp0_0 | exact fun _ => ⟨_, _, rfl⟩), hp0_1, rfl⟩ (ConvH.of (.cons r0 (.cons r0 (.cons r0 (.cons r0 .nil)))))

noncomputable def JR (rec1_0 : (Jc → Ja → Option (Jc))) (n : Nat) (c : Jc) (n' : Ja) (operator : Str) : Option (Jc) :=
  (ix n'.Kids 0).bind fun x9 =>
  (rec1_0 c x9).bind fun x11 =>
  (ix n'.Kids 1).bind fun x15 =>
  (rec1_0 x11 x15).bind fun x17 =>
  (Jd x17 7 0 operator).bind fun x20 =>
  some x20.2
set_option maxHeartbeats 8000000 in
theorem Jas {rec1_0 : (Jc → Ja → Option (Jc))} (ihrec1_0 : ∀ {c : Jc} {n' : Ja} {b0 : Nat} {ap0_0 : Option Addr} {cp0_0 : Nat} {ap0_1 : Option Addr} {cp0_1 : Nat} {ap1_0 : Option Addr} {cp1_0 : Nat} {K : Hp} {r : Jc} (hm : rec1_0 c n' = some r) (hp0_0 : (0 < c.code.length → Has ap0_0)) (hp0_1 : (0 < c.names.length → Has ap0_1)) (hp1_0 : LiC Ja.R K ap1_0 cp1_0 4 n'.Kids), Fn Tryz.prog 74 [.pointer (some ⟨b0, 0, none⟩), .agg #[.int .i64 n'.Kind, str n'.Text, .slice ap1_0 n'.Kids.length cp1_0, .int .i64 n'.Line]] K [Cells b0 64 [.slice ap0_0 c.code.length cp0_0, .slice ap0_1 c.names.length cp0_1, .int .i64 c.slots], OwnL Jj.enc ap0_0 50 3 cp0_0 c.code, OwnL Jf.enc ap0_1 133 2 cp0_1 c.names] (fun v K' H' => ∃ ar_0 : Option Addr, ∃ cr_0 : Nat, ∃ ar_1 : Option Addr, ∃ cr_1 : Nat, v = .tuple #[] ∧ (0 < r.code.length → Has ar_0) ∧ (0 < r.names.length → Has ar_1) ∧ H' = [Cells b0 64 [.slice ar_0 r.code.length cr_0, .slice ar_1 r.names.length cr_1, .int .i64 r.slots], OwnL Jj.enc ar_0 50 3 cr_0 r.code, OwnL Jf.enc ar_1 133 2 cr_1 r.names])) {n : Nat} {c : Jc} {n' : Ja} {operator : Str} {b0 : Nat} {ap0_0 : Option Addr} {cp0_0 : Nat} {ap0_1 : Option Addr} {cp0_1 : Nat} {ap1_0 : Option Addr} {cp1_0 : Nat} {K : Hp} {r : Jc}
    (hm : JR rec1_0 n c n' operator = some r) (hp0_0 : (0 < c.code.length → Has ap0_0)) (hp0_1 : (0 < c.names.length → Has ap0_1)) (hp1_0 : LiC Ja.R K ap1_0 cp1_0 4 n'.Kids) :
    Fn Tryz.prog 101 [.pointer (some ⟨b0, 0, none⟩), .agg #[.int .i64 n'.Kind, str n'.Text, .slice ap1_0 n'.Kids.length cp1_0, .int .i64 n'.Line], str operator] K [Cells b0 64 [.slice ap0_0 c.code.length cp0_0, .slice ap0_1 c.names.length cp0_1, .int .i64 c.slots], OwnL Jj.enc ap0_0 50 3 cp0_0 c.code, OwnL Jf.enc ap0_1 133 2 cp0_1 c.names] (fun v K' H' => ∃ ar_0 : Option Addr, ∃ cr_0 : Nat, ∃ ar_1 : Option Addr, ∃ cr_1 : Nat, v = .tuple #[] ∧ (0 < r.code.length → Has ar_0) ∧ (0 < r.names.length → Has ar_1) ∧ H' = [Cells b0 64 [.slice ar_0 r.code.length cr_0, .slice ar_1 r.names.length cr_1, .int .i64 r.slots], OwnL Jj.enc ar_0 50 3 cr_0 r.code, OwnL Jf.enc ar_1 133 2 cr_1 r.names]) := by
 refine Fn.enter Tryz.func101 Tryz.call101 rfl fun F => ?_
 unfold JR at hm
 refine box_rule ?_
 intro b4
 refine Jb rfl (RStep.of (load1_s r0 rfl rfl ?_))
 obtain ⟨x9, l9, k9, hm⟩ := ixb hm
 refine RStep.ofN (index_addr rfl rfl (hasR hp1_0.rd k9) l9 (lt_ofE rfl l9 k9) ?_)
 obtain ⟨ss10, cc10, hr10, hc10, hR10⟩ := LiR.get hp1_0.rd k9
 obtain ⟨a10_0, c10_0, rfl, h10_0⟩ := Ja.out hR10
 refine RStep.of (load_rd_agg ((0 : Int).toNat) _ hr10 rfl hc10 rfl ?_)
 obtain ⟨x11, q11, hm⟩ := bnd hm
 refine call_fn (ihrec1_0 (c := c) (n' := x9) q11 hp0_0 hp0_1 h10_0) (.cons r1 (.cons r1 (.cons r1 .nil))) ?_
 rintro _ K11 _ l11 ⟨a11_0, c11_0, a11_1, c11_1, rfl, h11_0, h11_1, rfl⟩
 refine Jb rfl (RStep.of (load1_s r3 rfl rfl ?_))
 obtain ⟨x15, l15, k15, hm⟩ := ixb hm
 refine RStep.ofN (index_addr rfl rfl (hasR (LiC.mono Ja.R_ok l11 hp1_0).rd k15) l15 (lt_ofE rfl l15 k15) ?_)
 obtain ⟨ss16, cc16, hr16, hc16, hR16⟩ := LiR.get (LiC.mono Ja.R_ok l11 hp1_0).rd k15
 obtain ⟨a16_0, c16_0, rfl, h16_0⟩ := Ja.out hR16
 refine RStep.of (load_rd_agg ((1 : Int).toNat) _ hr16 rfl hc16 rfl ?_)
 obtain ⟨x17, q17, hm⟩ := bnd hm
 refine call_fn (ihrec1_0 (c := x11) (n' := x15) q17 h11_0 h11_1 h16_0) (.cons r0 (.cons r0 (.cons r0 .nil))) ?_
 rintro _ K17 _ l17 ⟨a17_0, c17_0, a17_1, c17_1, rfl, h17_0, h17_1, rfl⟩
 obtain ⟨x20, q20, hm⟩ := bnd hm
 refine call_fn (Jg (c := x17) (op := 7) (n' := 0) (s := operator) q20 h17_0 h17_1) (.cons r0 (.cons r0 (.cons r0 .nil))) ?_
 rintro _ K20 _ l20 ⟨a20_0, c20_0, a20_1, c20_1, rfl, h20_0, h20_1, rfl⟩
 obtain rfl := si hm
 refine EndStep.mk _ ((l11.trans l17).trans l20) ⟨a20_0, c20_0, a20_1, c20_1, rfl, h20_0, h20_1, rfl⟩ (ConvH.of (.cons r0 (.cons r0 (.cons r0 (.cons r1 .nil)))))

noncomputable def Jr : Nat → Jc → Ja → Option (Jc)
  | 0, _, _ => none
  | n + 1, c, n' =>
    if decide (n'.Kind = 20) then
    (atoiM n'.Text).bind fun x17 =>
    if x17.2.isSome then
    (Jd c 1 0 ([] : Str)).bind fun x24 =>
    some x24.2
    else
    (Jd c 1 x17.1 ([] : Str)).bind fun x24 =>
    some x24.2
    else
    if decide (n'.Kind = 21) then
    (Jd c 2 0 n'.Text).bind fun x30 =>
    some x30.2
    else
    if decide (n'.Kind = 22) then
    (JL c (decide (n'.Text = ([116, 114, 117, 101] : Str)))).bind fun x37 =>
    some x37
    else
    if decide (n'.Kind = 23) then
    (Jak n c n'.Text).bind fun x43 =>
    some x43
    else
    if decide (n'.Kind = 24) then
    (ix n'.Kids 0).bind fun x49 =>
    ((Jr n) c x49).bind fun x51 =>
    (Jd x51 6 0 n'.Text).bind fun x55 =>
    some x55.2
    else
    if decide (n'.Kind = 15) then
    (ix n'.Kids 0).bind fun x61 =>
    ((Jr n) c x61).bind fun x63 =>
    (Jd x63 8 0 ([] : Str)).bind fun x65 =>
    some x65.2
    else
    if decide (n'.Kind = 17) then
    (JR (Jr n) n c n' ([43] : Str)).bind fun x70 =>
    some x70
    else
    if decide (n'.Kind = 18) then
    (JR (Jr n) n c n' ([45] : Str)).bind fun x75 =>
    some x75
    else
    if decide (n'.Kind = 19) then
    (JR (Jr n) n c n' ([42] : Str)).bind fun x80 =>
    some x80
    else
    if decide (n'.Kind = 16) then
    (JR (Jr n) n c n' n'.Text).bind fun x87 =>
    some x87
    else
    if decide (n'.Kind = 14) then
    (ix n'.Kids 0).bind fun x93 =>
    ((Jr n) c x93).bind fun x95 =>
    (Jd x95 10 0 ([] : Str)).bind fun x97 =>
    (ix n'.Kids 1).bind fun x101 =>
    ((Jr n) x97.2 x101).bind fun x103 =>
    (Jd x103 9 0 ([] : Str)).bind fun x105 =>
    (Jq x105.2 x97.1).bind fun x108 =>
    (JL x108 false).bind fun x110 =>
    (Jq x110 x105.1).bind fun x113 =>
    some x113
    else
    if decide (n'.Kind = 13) then
    (ix n'.Kids 0).bind fun x119 =>
    ((Jr n) c x119).bind fun x121 =>
    (Jd x121 10 0 ([] : Str)).bind fun x123 =>
    (JL x123.2 true).bind fun x125 =>
    (Jd x125 9 0 ([] : Str)).bind fun x127 =>
    (Jq x127.2 x123.1).bind fun x130 =>
    (ix n'.Kids 1).bind fun x134 =>
    ((Jr n) x130 x134).bind fun x136 =>
    (Jq x136 x127.1).bind fun x139 =>
    some x139
    else
    some c
set_option maxHeartbeats 8000000 in
theorem Ja9 : ∀ {n : Nat} {c : Jc} {n' : Ja} {b0 : Nat} {ap0_0 : Option Addr} {cp0_0 : Nat} {ap0_1 : Option Addr} {cp0_1 : Nat} {ap1_0 : Option Addr} {cp1_0 : Nat} {K : Hp} {r : Jc}
    (hm : Jr n c n' = some r) (hp0_0 : (0 < c.code.length → Has ap0_0)) (hp0_1 : (0 < c.names.length → Has ap0_1)) (hp1_0 : LiC Ja.R K ap1_0 cp1_0 4 n'.Kids),
    Fn Tryz.prog 74 [.pointer (some ⟨b0, 0, none⟩), .agg #[.int .i64 n'.Kind, str n'.Text, .slice ap1_0 n'.Kids.length cp1_0, .int .i64 n'.Line]] K [Cells b0 64 [.slice ap0_0 c.code.length cp0_0, .slice ap0_1 c.names.length cp0_1, .int .i64 c.slots], OwnL Jj.enc ap0_0 50 3 cp0_0 c.code, OwnL Jf.enc ap0_1 133 2 cp0_1 c.names] (fun v K' H' => ∃ ar_0 : Option Addr, ∃ cr_0 : Nat, ∃ ar_1 : Option Addr, ∃ cr_1 : Nat, v = .tuple #[] ∧ (0 < r.code.length → Has ar_0) ∧ (0 < r.names.length → Has ar_1) ∧ H' = [Cells b0 64 [.slice ar_0 r.code.length cr_0, .slice ar_1 r.names.length cr_1, .int .i64 r.slots], OwnL Jj.enc ar_0 50 3 cr_0 r.code, OwnL Jf.enc ar_1 133 2 cr_1 r.names]) := by
 intro n
 induction n with
 | zero =>
   intro c n' b0 ap0_0 cp0_0 ap0_1 cp0_1 ap1_0 cp1_0 K r hm hp0_0 hp0_1 hp1_0
   rw [Jr.eq_1] at hm; cases hm
 | succ n ih =>
   intro c n' b0 ap0_0 cp0_0 ap0_1 cp0_1 ap1_0 cp1_0 K r hm hp0_0 hp0_1 hp1_0
   refine Fn.enter Tryz.func74 Tryz.call74 rfl fun F => ?_
   rw [Jr.eq_2] at hm
   refine box_rule ?_
   intro b3
   refine Jb rfl (RStep.of (load1_s r0 rfl rfl ?_))
   refine block_go rfl ?_
   refine eq_int (cond_go rfl ?_)
   refine cond_s (fun w12 => ?_) (fun w12 => ?_)
   replace hm := ift w12 hm
   refine Jb rfl (RStep.of (load1_s r0 rfl rfl ?_))
   obtain ⟨x17, q17, hm⟩ := bnd hm
   refine call_fn (atoi_ok (E := 44) q17) .nil ?_
   rintro _ K17 _ l17 ⟨rfl, rfl⟩
   refine neq_err rfl (cond_go rfl ?_)
   refine cond_s (fun w21 => ?_) (fun w21 => ?_)
   replace hm := ift w21 hm
   obtain ⟨x24, q24, hm⟩ := bnd hm
   refine call_fn (Jg (c := c) (op := 1) (n' := 0) (s := ([] : Str)) q24 hp0_0 hp0_1) (.cons r1 (.cons r1 (.cons r1 .nil))) ?_
   rintro _ K24 _ l24 ⟨a24_0, c24_0, a24_1, c24_1, rfl, h24_0, h24_1, rfl⟩
   obtain rfl := si hm
   refine EndStep.mk _ (l17.trans l24) ⟨a24_0, c24_0, a24_1, c24_1, rfl, h24_0, h24_1, rfl⟩ (ConvH.of (.cons r0 (.cons r0 (.cons r0 (.cons r1 .nil)))))
   replace hm := iff_ w21 hm
   obtain ⟨x24, q24, hm⟩ := bnd hm
   refine call_fn (Jg (c := c) (op := 1) (n' := x17.1) (s := ([] : Str)) q24 hp0_0 hp0_1) (.cons r1 (.cons r1 (.cons r1 .nil))) ?_
   rintro _ K24 _ l24 ⟨a24_0, c24_0, a24_1, c24_1, rfl, h24_0, h24_1, rfl⟩
   obtain rfl := si hm
   refine EndStep.mk _ (l17.trans l24) ⟨a24_0, c24_0, a24_1, c24_1, rfl, h24_0, h24_1, rfl⟩ (ConvH.of (.cons r0 (.cons r0 (.cons r0 (.cons r1 .nil)))))
   replace hm := iff_ w12 hm
   refine eq_int (cond_go rfl ?_)
   refine cond_s (fun w25 => ?_) (fun w25 => ?_)
   replace hm := ift w25 hm
   refine Jb rfl (RStep.of (load1_s r0 rfl rfl ?_))
   obtain ⟨x30, q30, hm⟩ := bnd hm
   refine call_fn (Jg (c := c) (op := 2) (n' := 0) (s := n'.Text) q30 hp0_0 hp0_1) (.cons r1 (.cons r1 (.cons r1 .nil))) ?_
   rintro _ K30 _ l30 ⟨a30_0, c30_0, a30_1, c30_1, rfl, h30_0, h30_1, rfl⟩
   obtain rfl := si hm
   refine EndStep.mk _ l30 ⟨a30_0, c30_0, a30_1, c30_1, rfl, h30_0, h30_1, rfl⟩ (ConvH.of (.cons r0 (.cons r0 (.cons r0 (.cons r1 .nil)))))
   replace hm := iff_ w25 hm
   refine eq_int (cond_go rfl ?_)
   refine cond_s (fun w31 => ?_) (fun w31 => ?_)
   replace hm := ift w31 hm
   refine Jb rfl (RStep.of (load1_s r0 rfl rfl (eq_str ?_)))
   obtain ⟨x37, q37, hm⟩ := bnd hm
   refine call_fn (JaD (c := c) (yes := (decide (n'.Text = ([116, 114, 117, 101] : Str)))) q37 hp0_0 hp0_1) (.cons r1 (.cons r1 (.cons r1 .nil))) ?_
   rintro _ K37 _ l37 ⟨a37_0, c37_0, a37_1, c37_1, rfl, h37_0, h37_1, rfl⟩
   obtain rfl := si hm
   refine EndStep.mk _ l37 ⟨a37_0, c37_0, a37_1, c37_1, rfl, h37_0, h37_1, rfl⟩ (ConvH.of (.cons r0 (.cons r0 (.cons r0 (.cons r1 .nil)))))
   replace hm := iff_ w31 hm
   refine eq_int (cond_go rfl ?_)
   refine cond_s (fun w38 => ?_) (fun w38 => ?_)
   replace hm := ift w38 hm
   refine Jb rfl (RStep.of (load1_s r0 rfl rfl ?_))
   obtain ⟨x43, q43, hm⟩ := bnd hm
   refine call_fn (JbM (c := c) (s := n'.Text) q43 hp0_0 hp0_1) (.cons r1 (.cons r1 (.cons r1 .nil))) ?_
   rintro _ K43 _ l43 ⟨a43_0, c43_0, a43_1, c43_1, rfl, h43_0, h43_1, rfl⟩
   obtain rfl := si hm
   refine EndStep.mk _ l43 ⟨a43_0, c43_0, a43_1, c43_1, rfl, h43_0, h43_1, rfl⟩ (ConvH.of (.cons r0 (.cons r0 (.cons r0 (.cons r1 .nil)))))
   replace hm := iff_ w38 hm
   refine eq_int (cond_go rfl ?_)
   refine cond_s (fun w44 => ?_) (fun w44 => ?_)
   replace hm := ift w44 hm
   refine Jb rfl (RStep.of (load1_s r0 rfl rfl ?_))
   obtain ⟨x49, l49, k49, hm⟩ := ixb hm
   refine RStep.ofN (index_addr rfl rfl (hasR hp1_0.rd k49) l49 (lt_ofE rfl l49 k49) ?_)
   obtain ⟨ss50, cc50, hr50, hc50, hR50⟩ := LiR.get hp1_0.rd k49
   obtain ⟨a50_0, c50_0, rfl, h50_0⟩ := Ja.out hR50
   refine RStep.of (load_rd_agg ((0 : Int).toNat) _ hr50 rfl hc50 rfl ?_)
   obtain ⟨x51, q51, hm⟩ := bnd hm
   refine call_fn (ih (c := c) (n' := x49) q51 hp0_0 hp0_1 h50_0) (.cons r1 (.cons r1 (.cons r1 .nil))) ?_
   rintro _ K51 _ l51 ⟨a51_0, c51_0, a51_1, c51_1, rfl, h51_0, h51_1, rfl⟩
   refine Jb rfl (RStep.of (load1_s r3 rfl rfl ?_))
   obtain ⟨x55, q55, hm⟩ := bnd hm
   refine call_fn (Jg (c := x51) (op := 6) (n' := 0) (s := n'.Text) q55 h51_0 h51_1) (.cons r0 (.cons r0 (.cons r0 .nil))) ?_
   rintro _ K55 _ l55 ⟨a55_0, c55_0, a55_1, c55_1, rfl, h55_0, h55_1, rfl⟩
   obtain rfl := si hm
   refine EndStep.mk _ (l51.trans l55) ⟨a55_0, c55_0, a55_1, c55_1, rfl, h55_0, h55_1, rfl⟩ (ConvH.of (.cons r0 (.cons r0 (.cons r0 (.cons r1 .nil)))))
   replace hm := iff_ w44 hm
   refine eq_int (cond_go rfl ?_)
   refine cond_s (fun w56 => ?_) (fun w56 => ?_)
   replace hm := ift w56 hm
   refine Jb rfl (RStep.of (load1_s r0 rfl rfl ?_))
   obtain ⟨x61, l61, k61, hm⟩ := ixb hm
   refine RStep.ofN (index_addr rfl rfl (hasR hp1_0.rd k61) l61 (lt_ofE rfl l61 k61) ?_)
   obtain ⟨ss62, cc62, hr62, hc62, hR62⟩ := LiR.get hp1_0.rd k61
   obtain ⟨a62_0, c62_0, rfl, h62_0⟩ := Ja.out hR62
   refine RStep.of (load_rd_agg ((0 : Int).toNat) _ hr62 rfl hc62 rfl ?_)
   obtain ⟨x63, q63, hm⟩ := bnd hm
   refine call_fn (ih (c := c) (n' := x61) q63 hp0_0 hp0_1 h62_0) (.cons r1 (.cons r1 (.cons r1 .nil))) ?_
   rintro _ K63 _ l63 ⟨a63_0, c63_0, a63_1, c63_1, rfl, h63_0, h63_1, rfl⟩
   obtain ⟨x65, q65, hm⟩ := bnd hm
   refine call_fn (Jg (c := x63) (op := 8) (n' := 0) (s := ([] : Str)) q65 h63_0 h63_1) (.cons r0 (.cons r0 (.cons r0 .nil))) ?_
   rintro _ K65 _ l65 ⟨a65_0, c65_0, a65_1, c65_1, rfl, h65_0, h65_1, rfl⟩
   obtain rfl := si hm
   refine EndStep.mk _ (l63.trans l65) ⟨a65_0, c65_0, a65_1, c65_1, rfl, h65_0, h65_1, rfl⟩ (ConvH.of (.cons r0 (.cons r0 (.cons r0 (.cons r1 .nil)))))
   replace hm := iff_ w56 hm
   refine eq_int (cond_go rfl ?_)
   refine cond_s (fun w66 => ?_) (fun w66 => ?_)
   replace hm := ift w66 hm
   refine RStep.of (loadn_s r0 rfl (Nat.le_of_ble_eq_true rfl) ?_)
   obtain ⟨x70, q70, hm⟩ := bnd hm
   refine call_fn (Jas ih (c := c) (n' := n') (operator := ([43] : Str)) q70 hp0_0 hp0_1 hp1_0) (.cons r1 (.cons r1 (.cons r1 .nil))) ?_
   rintro _ K70 _ l70 ⟨a70_0, c70_0, a70_1, c70_1, rfl, h70_0, h70_1, rfl⟩
   obtain rfl := si hm
   refine EndStep.mk _ l70 ⟨a70_0, c70_0, a70_1, c70_1, rfl, h70_0, h70_1, rfl⟩ (ConvH.of (.cons r0 (.cons r0 (.cons r0 (.cons r1 .nil)))))
   replace hm := iff_ w66 hm
   refine eq_int (cond_go rfl ?_)
   refine cond_s (fun w71 => ?_) (fun w71 => ?_)
   replace hm := ift w71 hm
   refine RStep.of (loadn_s r0 rfl (Nat.le_of_ble_eq_true rfl) ?_)
   obtain ⟨x75, q75, hm⟩ := bnd hm
   refine call_fn (Jas ih (c := c) (n' := n') (operator := ([45] : Str)) q75 hp0_0 hp0_1 hp1_0) (.cons r1 (.cons r1 (.cons r1 .nil))) ?_
   rintro _ K75 _ l75 ⟨a75_0, c75_0, a75_1, c75_1, rfl, h75_0, h75_1, rfl⟩
   obtain rfl := si hm
   refine EndStep.mk _ l75 ⟨a75_0, c75_0, a75_1, c75_1, rfl, h75_0, h75_1, rfl⟩ (ConvH.of (.cons r0 (.cons r0 (.cons r0 (.cons r1 .nil)))))
   replace hm := iff_ w71 hm
   refine eq_int (cond_go rfl ?_)
   refine cond_s (fun w76 => ?_) (fun w76 => ?_)
   replace hm := ift w76 hm
   refine RStep.of (loadn_s r0 rfl (Nat.le_of_ble_eq_true rfl) ?_)
   obtain ⟨x80, q80, hm⟩ := bnd hm
   refine call_fn (Jas ih (c := c) (n' := n') (operator := ([42] : Str)) q80 hp0_0 hp0_1 hp1_0) (.cons r1 (.cons r1 (.cons r1 .nil))) ?_
   rintro _ K80 _ l80 ⟨a80_0, c80_0, a80_1, c80_1, rfl, h80_0, h80_1, rfl⟩
   obtain rfl := si hm
   refine EndStep.mk _ l80 ⟨a80_0, c80_0, a80_1, c80_1, rfl, h80_0, h80_1, rfl⟩ (ConvH.of (.cons r0 (.cons r0 (.cons r0 (.cons r1 .nil)))))
   replace hm := iff_ w76 hm
   refine eq_int (cond_go rfl ?_)
   refine cond_s (fun w81 => ?_) (fun w81 => ?_)
   replace hm := ift w81 hm
   refine RStep.of (loadn_s r0 rfl (Nat.le_of_ble_eq_true rfl) (Jb rfl (RStep.of (load1_s r0 rfl rfl ?_))))
   obtain ⟨x87, q87, hm⟩ := bnd hm
   refine call_fn (Jas ih (c := c) (n' := n') (operator := n'.Text) q87 hp0_0 hp0_1 hp1_0) (.cons r1 (.cons r1 (.cons r1 .nil))) ?_
   rintro _ K87 _ l87 ⟨a87_0, c87_0, a87_1, c87_1, rfl, h87_0, h87_1, rfl⟩
   obtain rfl := si hm
   refine EndStep.mk _ l87 ⟨a87_0, c87_0, a87_1, c87_1, rfl, h87_0, h87_1, rfl⟩ (ConvH.of (.cons r0 (.cons r0 (.cons r0 (.cons r1 .nil)))))
   replace hm := iff_ w81 hm
   refine eq_int (cond_go rfl ?_)
   refine cond_s (fun w88 => ?_) (fun w88 => ?_)
   replace hm := ift w88 hm
   refine Jb rfl (RStep.of (load1_s r0 rfl rfl ?_))
   obtain ⟨x93, l93, k93, hm⟩ := ixb hm
   refine RStep.ofN (index_addr rfl rfl (hasR hp1_0.rd k93) l93 (lt_ofE rfl l93 k93) ?_)
   obtain ⟨ss94, cc94, hr94, hc94, hR94⟩ := LiR.get hp1_0.rd k93
   obtain ⟨a94_0, c94_0, rfl, h94_0⟩ := Ja.out hR94
   refine RStep.of (load_rd_agg ((0 : Int).toNat) _ hr94 rfl hc94 rfl ?_)
   obtain ⟨x95, q95, hm⟩ := bnd hm
   refine call_fn (ih (c := c) (n' := x93) q95 hp0_0 hp0_1 h94_0) (.cons r1 (.cons r1 (.cons r1 .nil))) ?_
   rintro _ K95 _ l95 ⟨a95_0, c95_0, a95_1, c95_1, rfl, h95_0, h95_1, rfl⟩
   obtain ⟨x97, q97, hm⟩ := bnd hm
   refine call_fn (Jg (c := x95) (op := 10) (n' := 0) (s := ([] : Str)) q97 h95_0 h95_1) (.cons r0 (.cons r0 (.cons r0 .nil))) ?_
   rintro _ K97 _ l97 ⟨a97_0, c97_0, a97_1, c97_1, rfl, h97_0, h97_1, rfl⟩
   refine Jb rfl (RStep.of (load1_s r3 rfl rfl ?_))
   obtain ⟨x101, l101, k101, hm⟩ := ixb hm
   refine RStep.ofN (index_addr rfl rfl (hasR (LiC.mono Ja.R_ok (l95.trans l97) hp1_0).rd k101) l101 (lt_ofE rfl l101 k101) ?_)
   obtain ⟨ss102, cc102, hr102, hc102, hR102⟩ := LiR.get (LiC.mono Ja.R_ok (l95.trans l97) hp1_0).rd k101
   obtain ⟨a102_0, c102_0, rfl, h102_0⟩ := Ja.out hR102
   refine RStep.of (load_rd_agg ((1 : Int).toNat) _ hr102 rfl hc102 rfl ?_)
   obtain ⟨x103, q103, hm⟩ := bnd hm
   refine call_fn (ih (c := x97.2) (n' := x101) q103 h97_0 h97_1 h102_0) (.cons r0 (.cons r0 (.cons r0 .nil))) ?_
   rintro _ K103 _ l103 ⟨a103_0, c103_0, a103_1, c103_1, rfl, h103_0, h103_1, rfl⟩
   obtain ⟨x105, q105, hm⟩ := bnd hm
   refine call_fn (Jg (c := x103) (op := 9) (n' := 0) (s := ([] : Str)) q105 h103_0 h103_1) (.cons r0 (.cons r0 (.cons r0 .nil))) ?_
   rintro _ K105 _ l105 ⟨a105_0, c105_0, a105_1, c105_1, rfl, h105_0, h105_1, rfl⟩
   obtain ⟨x108, q108, hm⟩ := bnd hm
   refine call_fn (JO (c := x105.2) (jump := x97.1) q108 h105_0 h105_1) (.cons r0 (.cons r0 (.cons r0 .nil))) ?_
   rintro _ K108 _ l108 ⟨a108_0, c108_0, a108_1, c108_1, rfl, h108_0, h108_1, rfl⟩
   obtain ⟨x110, q110, hm⟩ := bnd hm
   refine call_fn (JaD (c := x108) (yes := false) q110 h108_0 h108_1) (.cons r0 (.cons r0 (.cons r0 .nil))) ?_
   rintro _ K110 _ l110 ⟨a110_0, c110_0, a110_1, c110_1, rfl, h110_0, h110_1, rfl⟩
   obtain ⟨x113, q113, hm⟩ := bnd hm
   refine call_fn (JO (c := x110) (jump := x105.1) q113 h110_0 h110_1) (.cons r0 (.cons r0 (.cons r0 .nil))) ?_
   rintro _ K113 _ l113 ⟨a113_0, c113_0, a113_1, c113_1, rfl, h113_0, h113_1, rfl⟩
   obtain rfl := si hm
   refine EndStep.mk _ ((((((l95.trans l97).trans l103).trans l105).trans l108).trans l110).trans l113) ⟨a113_0, c113_0, a113_1, c113_1, rfl, h113_0, h113_1, rfl⟩ (ConvH.of (.cons r0 (.cons r0 (.cons r0 (.cons r1 .nil)))))
   replace hm := iff_ w88 hm
   refine eq_int (cond_go rfl ?_)
   refine cond_s (fun w114 => ?_) (fun w114 => ?_)
   replace hm := ift w114 hm
   refine Jb rfl (RStep.of (load1_s r0 rfl rfl ?_))
   obtain ⟨x119, l119, k119, hm⟩ := ixb hm
   refine RStep.ofN (index_addr rfl rfl (hasR hp1_0.rd k119) l119 (lt_ofE rfl l119 k119) ?_)
   obtain ⟨ss120, cc120, hr120, hc120, hR120⟩ := LiR.get hp1_0.rd k119
   obtain ⟨a120_0, c120_0, rfl, h120_0⟩ := Ja.out hR120
   refine RStep.of (load_rd_agg ((0 : Int).toNat) _ hr120 rfl hc120 rfl ?_)
   obtain ⟨x121, q121, hm⟩ := bnd hm
   refine call_fn (ih (c := c) (n' := x119) q121 hp0_0 hp0_1 h120_0) (.cons r1 (.cons r1 (.cons r1 .nil))) ?_
   rintro _ K121 _ l121 ⟨a121_0, c121_0, a121_1, c121_1, rfl, h121_0, h121_1, rfl⟩
   obtain ⟨x123, q123, hm⟩ := bnd hm
   refine call_fn (Jg (c := x121) (op := 10) (n' := 0) (s := ([] : Str)) q123 h121_0 h121_1) (.cons r0 (.cons r0 (.cons r0 .nil))) ?_
   rintro _ K123 _ l123 ⟨a123_0, c123_0, a123_1, c123_1, rfl, h123_0, h123_1, rfl⟩
   obtain ⟨x125, q125, hm⟩ := bnd hm
   refine call_fn (JaD (c := x123.2) (yes := true) q125 h123_0 h123_1) (.cons r0 (.cons r0 (.cons r0 .nil))) ?_
   rintro _ K125 _ l125 ⟨a125_0, c125_0, a125_1, c125_1, rfl, h125_0, h125_1, rfl⟩
   obtain ⟨x127, q127, hm⟩ := bnd hm
   refine call_fn (Jg (c := x125) (op := 9) (n' := 0) (s := ([] : Str)) q127 h125_0 h125_1) (.cons r0 (.cons r0 (.cons r0 .nil))) ?_
   rintro _ K127 _ l127 ⟨a127_0, c127_0, a127_1, c127_1, rfl, h127_0, h127_1, rfl⟩
   obtain ⟨x130, q130, hm⟩ := bnd hm
   refine call_fn (JO (c := x127.2) (jump := x123.1) q130 h127_0 h127_1) (.cons r0 (.cons r0 (.cons r0 .nil))) ?_
   rintro _ K130 _ l130 ⟨a130_0, c130_0, a130_1, c130_1, rfl, h130_0, h130_1, rfl⟩
   refine Jb rfl (RStep.of (load1_s r3 rfl rfl ?_))
   obtain ⟨x134, l134, k134, hm⟩ := ixb hm
   refine RStep.ofN (index_addr rfl rfl (hasR (LiC.mono Ja.R_ok ((((l121.trans l123).trans l125).trans l127).trans l130) hp1_0).rd k134) l134 (lt_ofE rfl l134 k134) ?_)
   obtain ⟨ss135, cc135, hr135, hc135, hR135⟩ := LiR.get (LiC.mono Ja.R_ok ((((l121.trans l123).trans l125).trans l127).trans l130) hp1_0).rd k134
   obtain ⟨a135_0, c135_0, rfl, h135_0⟩ := Ja.out hR135
   refine RStep.of (load_rd_agg ((1 : Int).toNat) _ hr135 rfl hc135 rfl ?_)
   obtain ⟨x136, q136, hm⟩ := bnd hm
   refine call_fn (ih (c := x130) (n' := x134) q136 h130_0 h130_1 h135_0) (.cons r0 (.cons r0 (.cons r0 .nil))) ?_
   rintro _ K136 _ l136 ⟨a136_0, c136_0, a136_1, c136_1, rfl, h136_0, h136_1, rfl⟩
   obtain ⟨x139, q139, hm⟩ := bnd hm
   refine call_fn (JO (c := x136) (jump := x127.1) q139 h136_0 h136_1) (.cons r0 (.cons r0 (.cons r0 .nil))) ?_
   rintro _ K139 _ l139 ⟨a139_0, c139_0, a139_1, c139_1, rfl, h139_0, h139_1, rfl⟩
   obtain rfl := si hm
   refine EndStep.mk _ ((((((l121.trans l123).trans l125).trans l127).trans l130).trans l136).trans l139) ⟨a139_0, c139_0, a139_1, c139_1, rfl, h139_0, h139_1, rfl⟩ (ConvH.of (.cons r0 (.cons r0 (.cons r0 (.cons r1 .nil)))))
   replace hm := iff_ w114 hm
   obtain rfl := si hm
   refine EndStep.mk _ (Hp.Le.refl _) ⟨ap0_0, cp0_0, ap0_1, cp0_1, rfl, hp0_0, hp0_1, rfl⟩ (ConvH.of (.cons r1 (.cons r1 (.cons r1 (.cons r1 .nil)))))

noncomputable def JS (rec2_0 : (Jc → (List Ja) → Option (Jc))) : Nat → Jc → Ja → Option (Jc)
  | 0, _, _ => none
  | n + 1, c, n' =>
    (ix n'.Kids 0).bind fun x9 =>
    (Jr n c x9).bind fun x11 =>
    (Jd x11 10 0 ([] : Str)).bind fun x13 =>
    (ix n'.Kids 1).bind fun x17 =>
    (rec2_0 x13.2 x17.Kids).bind fun x20 =>
    if decide ((n'.Kids.length : Int) = 2) then
    (Jq x20 x13.1).bind fun x27 =>
    some x27
    else
    (Jd x20 9 0 ([] : Str)).bind fun x29 =>
    (Jq x29.2 x13.1).bind fun x32 =>
    (ix n'.Kids 2).bind fun x35 =>
    if decide (x35.Kind = 2) then
    (ix n'.Kids 2).bind fun x42 =>
    ((JS rec2_0 n) x32 x42).bind fun x44 =>
    (Jq x44 x29.1).bind fun x54 =>
    some x54
    else
    (ix n'.Kids 2).bind fun x48 =>
    (rec2_0 x32 x48.Kids).bind fun x51 =>
    (Jq x51 x29.1).bind fun x54 =>
    some x54
set_option maxHeartbeats 8000000 in
theorem JbC {rec2_0 : (Jc → (List Ja) → Option (Jc))} (ihrec2_0 : ∀ {c : Jc} {list : (List Ja)} {b0 : Nat} {ap0_0 : Option Addr} {cp0_0 : Nat} {ap0_1 : Option Addr} {cp0_1 : Nat} {ap1_0 : Option Addr} {cp1_0 : Nat} {n1 : Nat} {K : Hp} {r : Jc} (hm : rec2_0 c list = some r) (hp0_0 : (0 < c.code.length → Has ap0_0)) (hp0_1 : (0 < c.names.length → Has ap0_1)) (hp1_0 : LiC Ja.R K ap1_0 cp1_0 4 list) (en1 : n1 = list.length), Fn Tryz.prog 30 [.pointer (some ⟨b0, 0, none⟩), .slice ap1_0 n1 cp1_0] K [Cells b0 64 [.slice ap0_0 c.code.length cp0_0, .slice ap0_1 c.names.length cp0_1, .int .i64 c.slots], OwnL Jj.enc ap0_0 50 3 cp0_0 c.code, OwnL Jf.enc ap0_1 133 2 cp0_1 c.names] (fun v K' H' => ∃ ar_0 : Option Addr, ∃ cr_0 : Nat, ∃ ar_1 : Option Addr, ∃ cr_1 : Nat, v = .tuple #[] ∧ (0 < r.code.length → Has ar_0) ∧ (0 < r.names.length → Has ar_1) ∧ H' = [Cells b0 64 [.slice ar_0 r.code.length cr_0, .slice ar_1 r.names.length cr_1, .int .i64 r.slots], OwnL Jj.enc ar_0 50 3 cr_0 r.code, OwnL Jf.enc ar_1 133 2 cr_1 r.names])) : ∀ {n : Nat} {c : Jc} {n' : Ja} {b0 : Nat} {ap0_0 : Option Addr} {cp0_0 : Nat} {ap0_1 : Option Addr} {cp0_1 : Nat} {ap1_0 : Option Addr} {cp1_0 : Nat} {K : Hp} {r : Jc}
    (hm : JS rec2_0 n c n' = some r) (hp0_0 : (0 < c.code.length → Has ap0_0)) (hp0_1 : (0 < c.names.length → Has ap0_1)) (hp1_0 : LiC Ja.R K ap1_0 cp1_0 4 n'.Kids),
    Fn Tryz.prog 73 [.pointer (some ⟨b0, 0, none⟩), .agg #[.int .i64 n'.Kind, str n'.Text, .slice ap1_0 n'.Kids.length cp1_0, .int .i64 n'.Line]] K [Cells b0 64 [.slice ap0_0 c.code.length cp0_0, .slice ap0_1 c.names.length cp0_1, .int .i64 c.slots], OwnL Jj.enc ap0_0 50 3 cp0_0 c.code, OwnL Jf.enc ap0_1 133 2 cp0_1 c.names] (fun v K' H' => ∃ ar_0 : Option Addr, ∃ cr_0 : Nat, ∃ ar_1 : Option Addr, ∃ cr_1 : Nat, v = .tuple #[] ∧ (0 < r.code.length → Has ar_0) ∧ (0 < r.names.length → Has ar_1) ∧ H' = [Cells b0 64 [.slice ar_0 r.code.length cr_0, .slice ar_1 r.names.length cr_1, .int .i64 r.slots], OwnL Jj.enc ar_0 50 3 cr_0 r.code, OwnL Jf.enc ar_1 133 2 cr_1 r.names]) := by
 intro n
 induction n with
 | zero =>
   intro c n' b0 ap0_0 cp0_0 ap0_1 cp0_1 ap1_0 cp1_0 K r hm hp0_0 hp0_1 hp1_0
   rw [JS.eq_1] at hm; cases hm
 | succ n ih =>
   intro c n' b0 ap0_0 cp0_0 ap0_1 cp0_1 ap1_0 cp1_0 K r hm hp0_0 hp0_1 hp1_0
   refine Fn.enter Tryz.func73 Tryz.call73 rfl fun F => ?_
   rw [JS.eq_2] at hm
   refine box_rule ?_
   intro b3
   refine Jb rfl (RStep.of (load1_s r0 rfl rfl ?_))
   obtain ⟨x9, l9, k9, hm⟩ := ixb hm
   refine RStep.ofN (index_addr rfl rfl (hasR hp1_0.rd k9) l9 (lt_ofE rfl l9 k9) ?_)
   obtain ⟨ss10, cc10, hr10, hc10, hR10⟩ := LiR.get hp1_0.rd k9
   obtain ⟨a10_0, c10_0, rfl, h10_0⟩ := Ja.out hR10
   refine RStep.of (load_rd_agg ((0 : Int).toNat) _ hr10 rfl hc10 rfl ?_)
   obtain ⟨x11, q11, hm⟩ := bnd hm
   refine call_fn (Ja9 (c := c) (n' := x9) q11 hp0_0 hp0_1 h10_0) (.cons r1 (.cons r1 (.cons r1 .nil))) ?_
   rintro _ K11 _ l11 ⟨a11_0, c11_0, a11_1, c11_1, rfl, h11_0, h11_1, rfl⟩
   obtain ⟨x13, q13, hm⟩ := bnd hm
   refine call_fn (Jg (c := x11) (op := 10) (n' := 0) (s := ([] : Str)) q13 h11_0 h11_1) (.cons r0 (.cons r0 (.cons r0 .nil))) ?_
   rintro _ K13 _ l13 ⟨a13_0, c13_0, a13_1, c13_1, rfl, h13_0, h13_1, rfl⟩
   refine Jb rfl (RStep.of (load1_s r3 rfl rfl ?_))
   obtain ⟨x17, l17, k17, hm⟩ := ixb hm
   refine RStep.ofN (index_addr rfl rfl (hasR (LiC.mono Ja.R_ok (l11.trans l13) hp1_0).rd k17) l17 (lt_ofE rfl l17 k17) (eptr_field rfl (hasR (LiC.mono Ja.R_ok (l11.trans l13) hp1_0).rd k17) ?_))
   obtain ⟨ss19, cc19, hr19, hc19, hR19⟩ := LiR.get (LiC.mono Ja.R_ok (l11.trans l13) hp1_0).rd k17
   obtain ⟨a19_0, c19_0, rfl, h19_0⟩ := Ja.out hR19
   refine RStep.of (load_rd ((1 : Int).toNat) 2 _ _ hr19 rfl hc19 rfl rfl ?_)
   obtain ⟨x20, q20, hm⟩ := bnd hm
   refine call_fn (ihrec2_0 (c := x13.2) q20 h13_0 h13_1 h19_0 rfl) (.cons r0 (.cons r0 (.cons r0 .nil))) ?_
   rintro _ K20 _ l20 ⟨a20_0, c20_0, a20_1, c20_1, rfl, h20_0, h20_1, rfl⟩
   refine Jb rfl (RStep.of (load1_s r3 rfl rfl (RStep.of (len_slice rfl (eq_int (cond_go rfl ?_))))))
   refine cond_s (fun w24 => ?_) (fun w24 => ?_)
   replace hm := ift w24 hm
   obtain ⟨x27, q27, hm⟩ := bnd hm
   refine call_fn (JO (c := x20) (jump := x13.1) q27 h20_0 h20_1) (.cons r0 (.cons r0 (.cons r0 .nil))) ?_
   rintro _ K27 _ l27 ⟨a27_0, c27_0, a27_1, c27_1, rfl, h27_0, h27_1, rfl⟩
   obtain rfl := si hm
   refine EndStep.mk _ (((l11.trans l13).trans l20).trans l27) ⟨a27_0, c27_0, a27_1, c27_1, rfl, h27_0, h27_1, rfl⟩ (ConvH.of (.cons r0 (.cons r0 (.cons r0 (.cons r1 .nil)))))
   replace hm := iff_ w24 hm
   obtain ⟨x29, q29, hm⟩ := bnd hm
   refine call_fn (Jg (c := x20) (op := 9) (n' := 0) (s := ([] : Str)) q29 h20_0 h20_1) (.cons r0 (.cons r0 (.cons r0 .nil))) ?_
   rintro _ K29 _ l29 ⟨a29_0, c29_0, a29_1, c29_1, rfl, h29_0, h29_1, rfl⟩
   obtain ⟨x32, q32, hm⟩ := bnd hm
   refine call_fn (JO (c := x29.2) (jump := x13.1) q32 h29_0 h29_1) (.cons r0 (.cons r0 (.cons r0 .nil))) ?_
   rintro _ K32 _ l32 ⟨a32_0, c32_0, a32_1, c32_1, rfl, h32_0, h32_1, rfl⟩
   refine Jb rfl (RStep.of (load1_s r3 rfl rfl ?_))
   obtain ⟨x35, l35, k35, hm⟩ := ixb hm
   refine RStep.ofN (index_addr rfl rfl (hasR (LiC.mono Ja.R_ok ((((l11.trans l13).trans l20).trans l29).trans l32) hp1_0).rd k35) l35 (lt_ofE rfl l35 k35) (eptr_field rfl (hasR (LiC.mono Ja.R_ok ((((l11.trans l13).trans l20).trans l29).trans l32) hp1_0).rd k35) ?_))
   obtain ⟨ss37, cc37, hr37, hc37, hR37⟩ := LiR.get (LiC.mono Ja.R_ok ((((l11.trans l13).trans l20).trans l29).trans l32) hp1_0).rd k35
   obtain ⟨a37_0, c37_0, rfl, h37_0⟩ := Ja.out hR37
   refine RStep.of (load_rd ((2 : Int).toNat) 0 _ _ hr37 rfl hc37 rfl rfl (eq_int (cond_go rfl ?_)))
   refine cond_s (fun w38 => ?_) (fun w38 => ?_)
   replace hm := ift w38 hm
   refine Jb rfl (RStep.of (load1_s r3 rfl rfl ?_))
   obtain ⟨x42, l42, k42, hm⟩ := ixb hm
   refine RStep.ofN (index_addr rfl rfl (hasR (LiC.mono Ja.R_ok ((((l11.trans l13).trans l20).trans l29).trans l32) hp1_0).rd k42) l42 (lt_ofE rfl l42 k42) ?_)
   obtain ⟨ss43, cc43, hr43, hc43, hR43⟩ := LiR.get (LiC.mono Ja.R_ok ((((l11.trans l13).trans l20).trans l29).trans l32) hp1_0).rd k42
   obtain ⟨a43_0, c43_0, rfl, h43_0⟩ := Ja.out hR43
   refine RStep.of (load_rd_agg ((2 : Int).toNat) _ hr43 rfl hc43 rfl ?_)
   obtain ⟨x44, q44, hm⟩ := bnd hm
   refine call_fn (ih (c := x32) (n' := x42) q44 h32_0 h32_1 h43_0) (.cons r0 (.cons r0 (.cons r0 .nil))) ?_
   rintro _ K44 _ l44 ⟨a44_0, c44_0, a44_1, c44_1, rfl, h44_0, h44_1, rfl⟩
   obtain ⟨x54, q54, hm⟩ := bnd hm
   refine call_fn (JO (c := x44) (jump := x29.1) q54 h44_0 h44_1) (.cons r0 (.cons r0 (.cons r0 .nil))) ?_
   rintro _ K54 _ l54 ⟨a54_0, c54_0, a54_1, c54_1, rfl, h54_0, h54_1, rfl⟩
   obtain rfl := si hm
   refine EndStep.mk _ ((((((l11.trans l13).trans l20).trans l29).trans l32).trans l44).trans l54) ⟨a54_0, c54_0, a54_1, c54_1, rfl, h54_0, h54_1, rfl⟩ (ConvH.of (.cons r0 (.cons r0 (.cons r0 (.cons r1 .nil)))))
   replace hm := iff_ w38 hm
   refine Jb rfl (RStep.of (load1_s r3 rfl rfl ?_))
   obtain ⟨x48, l48, k48, hm⟩ := ixb hm
   refine RStep.ofN (index_addr rfl rfl (hasR (LiC.mono Ja.R_ok ((((l11.trans l13).trans l20).trans l29).trans l32) hp1_0).rd k48) l48 (lt_ofE rfl l48 k48) (eptr_field rfl (hasR (LiC.mono Ja.R_ok ((((l11.trans l13).trans l20).trans l29).trans l32) hp1_0).rd k48) ?_))
   obtain ⟨ss50, cc50, hr50, hc50, hR50⟩ := LiR.get (LiC.mono Ja.R_ok ((((l11.trans l13).trans l20).trans l29).trans l32) hp1_0).rd k48
   obtain ⟨a50_0, c50_0, rfl, h50_0⟩ := Ja.out hR50
   refine RStep.of (load_rd ((2 : Int).toNat) 2 _ _ hr50 rfl hc50 rfl rfl ?_)
   obtain ⟨x51, q51, hm⟩ := bnd hm
   refine call_fn (ihrec2_0 (c := x32) q51 h32_0 h32_1 h50_0 rfl) (.cons r0 (.cons r0 (.cons r0 .nil))) ?_
   rintro _ K51 _ l51 ⟨a51_0, c51_0, a51_1, c51_1, rfl, h51_0, h51_1, rfl⟩
   obtain ⟨x54, q54, hm⟩ := bnd hm
   refine call_fn (JO (c := x51) (jump := x29.1) q54 h51_0 h51_1) (.cons r0 (.cons r0 (.cons r0 .nil))) ?_
   rintro _ K54 _ l54 ⟨a54_0, c54_0, a54_1, c54_1, rfl, h54_0, h54_1, rfl⟩
   obtain rfl := si hm
   refine EndStep.mk _ ((((((l11.trans l13).trans l20).trans l29).trans l32).trans l51).trans l54) ⟨a54_0, c54_0, a54_1, c54_1, rfl, h54_0, h54_1, rfl⟩ (ConvH.of (.cons r0 (.cons r0 (.cons r0 (.cons r1 .nil)))))

noncomputable def J2 (rec2_0 : (Jc → (List Ja) → Option (Jc))) (n : Nat) (c : Jc) (n' : Ja) : Option (Jc) :=
  if decide (n'.Kind = 2) then
  (JS rec2_0 n c n').bind fun x9 =>
  some x9
  else
  if decide ((n'.Kids.length : Int) > 0) then
  (ix n'.Kids 0).bind fun x17 =>
  (Jr n c x17).bind fun x19 =>
  if decide (n'.Kind = 3) then
  (Jd x19 4 x19.slots ([] : Str)).bind fun x29 =>
  (chk (x29.2.names.length + [(⟨n'.Text, x29.2.slots⟩ : Jf)].length ≤ lim)).bind fun _ =>
  (chk (InI (x29.2.slots + 1))).bind fun _ =>
  some (⟨x29.2.code, (x29.2.names ++ [(⟨n'.Text, x29.2.slots⟩ : Jf)]), (x29.2.slots + 1)⟩ : Jc)
  else
  if decide (n'.Kind = 4) then
  (Jd x19 11 0 n'.Text).bind fun x58 =>
  some x58.2
  else
  if decide (n'.Kind = 5) then
  (chk (([104, 101, 97, 100, 101, 114, 58] : Str).length + n'.Text.length ≤ lim)).bind fun _ =>
  (Jd x19 11 0 (([104, 101, 97, 100, 101, 114, 58] : Str) ++ n'.Text)).bind fun x65 =>
  some x65.2
  else
  if decide (n'.Kind = 6) then
  (chk (([118, 97, 114, 121, 58] : Str).length + n'.Text.length ≤ lim)).bind fun _ =>
  (Jd x19 11 0 (([118, 97, 114, 121, 58] : Str) ++ n'.Text)).bind fun x72 =>
  some x72.2
  else
  if decide (n'.Kind = 7) then
  (Jd x19 11 0 ([116, 97, 103] : Str)).bind fun x76 =>
  some x76.2
  else
  if decide (n'.Kind = 8) then
  (Jd x19 11 0 ([116, 116, 108] : Str)).bind fun x80 =>
  some x80.2
  else
  if decide (n'.Kind = 9) then
  (Jd x19 11 0 ([100, 101, 110, 121] : Str)).bind fun x84 =>
  some x84.2
  else
  if decide (n'.Kind = 10) then
  (Jd x19 11 0 ([112, 97, 115, 115] : Str)).bind fun x88 =>
  some x88.2
  else
  if decide (n'.Kind = 11) then
  (Jd x19 11 0 ([116, 111, 107, 101, 110] : Str)).bind fun x92 =>
  some x92.2
  else
  some x19
  else
  if decide (n'.Kind = 3) then
  (Jd c 4 c.slots ([] : Str)).bind fun x29 =>
  (chk (x29.2.names.length + [(⟨n'.Text, x29.2.slots⟩ : Jf)].length ≤ lim)).bind fun _ =>
  (chk (InI (x29.2.slots + 1))).bind fun _ =>
  some (⟨x29.2.code, (x29.2.names ++ [(⟨n'.Text, x29.2.slots⟩ : Jf)]), (x29.2.slots + 1)⟩ : Jc)
  else
  if decide (n'.Kind = 4) then
  (Jd c 11 0 n'.Text).bind fun x58 =>
  some x58.2
  else
  if decide (n'.Kind = 5) then
  (chk (([104, 101, 97, 100, 101, 114, 58] : Str).length + n'.Text.length ≤ lim)).bind fun _ =>
  (Jd c 11 0 (([104, 101, 97, 100, 101, 114, 58] : Str) ++ n'.Text)).bind fun x65 =>
  some x65.2
  else
  if decide (n'.Kind = 6) then
  (chk (([118, 97, 114, 121, 58] : Str).length + n'.Text.length ≤ lim)).bind fun _ =>
  (Jd c 11 0 (([118, 97, 114, 121, 58] : Str) ++ n'.Text)).bind fun x72 =>
  some x72.2
  else
  if decide (n'.Kind = 7) then
  (Jd c 11 0 ([116, 97, 103] : Str)).bind fun x76 =>
  some x76.2
  else
  if decide (n'.Kind = 8) then
  (Jd c 11 0 ([116, 116, 108] : Str)).bind fun x80 =>
  some x80.2
  else
  if decide (n'.Kind = 9) then
  (Jd c 11 0 ([100, 101, 110, 121] : Str)).bind fun x84 =>
  some x84.2
  else
  if decide (n'.Kind = 10) then
  (Jd c 11 0 ([112, 97, 115, 115] : Str)).bind fun x88 =>
  some x88.2
  else
  if decide (n'.Kind = 11) then
  (Jd c 11 0 ([116, 111, 107, 101, 110] : Str)).bind fun x92 =>
  some x92.2
  else
  some c
set_option maxHeartbeats 8000000 in
theorem Jbs {rec2_0 : (Jc → (List Ja) → Option (Jc))} (ihrec2_0 : ∀ {c : Jc} {list : (List Ja)} {b0 : Nat} {ap0_0 : Option Addr} {cp0_0 : Nat} {ap0_1 : Option Addr} {cp0_1 : Nat} {ap1_0 : Option Addr} {cp1_0 : Nat} {n1 : Nat} {K : Hp} {r : Jc} (hm : rec2_0 c list = some r) (hp0_0 : (0 < c.code.length → Has ap0_0)) (hp0_1 : (0 < c.names.length → Has ap0_1)) (hp1_0 : LiC Ja.R K ap1_0 cp1_0 4 list) (en1 : n1 = list.length), Fn Tryz.prog 30 [.pointer (some ⟨b0, 0, none⟩), .slice ap1_0 n1 cp1_0] K [Cells b0 64 [.slice ap0_0 c.code.length cp0_0, .slice ap0_1 c.names.length cp0_1, .int .i64 c.slots], OwnL Jj.enc ap0_0 50 3 cp0_0 c.code, OwnL Jf.enc ap0_1 133 2 cp0_1 c.names] (fun v K' H' => ∃ ar_0 : Option Addr, ∃ cr_0 : Nat, ∃ ar_1 : Option Addr, ∃ cr_1 : Nat, v = .tuple #[] ∧ (0 < r.code.length → Has ar_0) ∧ (0 < r.names.length → Has ar_1) ∧ H' = [Cells b0 64 [.slice ar_0 r.code.length cr_0, .slice ar_1 r.names.length cr_1, .int .i64 r.slots], OwnL Jj.enc ar_0 50 3 cr_0 r.code, OwnL Jf.enc ar_1 133 2 cr_1 r.names])) {n : Nat} {c : Jc} {n' : Ja} {b0 : Nat} {ap0_0 : Option Addr} {cp0_0 : Nat} {ap0_1 : Option Addr} {cp0_1 : Nat} {ap1_0 : Option Addr} {cp1_0 : Nat} {K : Hp} {r : Jc}
    (hm : J2 rec2_0 n c n' = some r) (hp0_0 : (0 < c.code.length → Has ap0_0)) (hp0_1 : (0 < c.names.length → Has ap0_1)) (hp1_0 : LiC Ja.R K ap1_0 cp1_0 4 n'.Kids) :
    Fn Tryz.prog 49 [.pointer (some ⟨b0, 0, none⟩), .agg #[.int .i64 n'.Kind, str n'.Text, .slice ap1_0 n'.Kids.length cp1_0, .int .i64 n'.Line]] K [Cells b0 64 [.slice ap0_0 c.code.length cp0_0, .slice ap0_1 c.names.length cp0_1, .int .i64 c.slots], OwnL Jj.enc ap0_0 50 3 cp0_0 c.code, OwnL Jf.enc ap0_1 133 2 cp0_1 c.names] (fun v K' H' => ∃ ar_0 : Option Addr, ∃ cr_0 : Nat, ∃ ar_1 : Option Addr, ∃ cr_1 : Nat, v = .tuple #[] ∧ (0 < r.code.length → Has ar_0) ∧ (0 < r.names.length → Has ar_1) ∧ H' = [Cells b0 64 [.slice ar_0 r.code.length cr_0, .slice ar_1 r.names.length cr_1, .int .i64 r.slots], OwnL Jj.enc ar_0 50 3 cr_0 r.code, OwnL Jf.enc ar_1 133 2 cr_1 r.names]) := by
 refine Fn.enter Tryz.func49 Tryz.call49 rfl fun F => ?_
 unfold J2 at hm
 refine box_rule ?_
 intro b3
 refine Jb rfl (RStep.of (load1_s r0 rfl rfl (eq_int (cond_go rfl ?_))))
 refine cond_s (fun w6 => ?_) (fun w6 => ?_)
 replace hm := ift w6 hm
 refine RStep.of (loadn_s r0 rfl (Nat.le_of_ble_eq_true rfl) ?_)
 obtain ⟨x9, q9, hm⟩ := bnd hm
 refine call_fn (JbC ihrec2_0 (c := c) (n' := n') q9 hp0_0 hp0_1 hp1_0) (.cons r1 (.cons r1 (.cons r1 .nil))) ?_
 rintro _ K9 _ l9 ⟨a9_0, c9_0, a9_1, c9_1, rfl, h9_0, h9_1, rfl⟩
 obtain rfl := si hm
 refine EndStep.mk _ l9 ⟨a9_0, c9_0, a9_1, c9_1, rfl, h9_0, h9_1, rfl⟩ (ConvH.of (.cons r0 (.cons r0 (.cons r0 (.cons r1 .nil)))))
 replace hm := iff_ w6 hm
 refine Jb rfl (RStep.of (load1_s r0 rfl rfl (RStep.of (len_slice rfl (cond_go rfl ?_)))))
 refine cond_s (fun w13 => ?_) (fun w13 => ?_)
 replace hm := ift w13 hm
 refine Jb rfl (RStep.of (load1_s r0 rfl rfl ?_))
 obtain ⟨x17, l17, k17, hm⟩ := ixb hm
 refine RStep.ofN (index_addr rfl rfl (hasR hp1_0.rd k17) l17 (lt_ofE rfl l17 k17) ?_)
 obtain ⟨ss18, cc18, hr18, hc18, hR18⟩ := LiR.get hp1_0.rd k17
 obtain ⟨a18_0, c18_0, rfl, h18_0⟩ := Ja.out hR18
 refine RStep.of (load_rd_agg ((0 : Int).toNat) _ hr18 rfl hc18 rfl ?_)
 obtain ⟨x19, q19, hm⟩ := bnd hm
 refine call_fn (Ja9 (c := c) (n' := x17) q19 hp0_0 hp0_1 h18_0) (.cons r1 (.cons r1 (.cons r1 .nil))) ?_
 rintro _ K19 _ l19 ⟨a19_0, c19_0, a19_1, c19_1, rfl, h19_0, h19_1, rfl⟩
 refine Jb rfl (RStep.of (load1_s r3 rfl rfl ?_))
 refine block_go rfl ?_
 refine eq_int (cond_go rfl ?_)
 refine cond_s (fun w22 => ?_) (fun w22 => ?_)
 replace hm := ift w22 hm
 refine nil_check (Jb rfl (RStep.of (load1_s r0 rfl rfl ?_)))
 obtain ⟨x29, q29, hm⟩ := bnd hm
 refine call_fn (Jg (c := x19) (op := 4) (n' := x19.slots) (s := ([] : Str)) q29 h19_0 h19_1) (.cons r0 (.cons r0 (.cons r0 .nil))) ?_
 rintro _ K29 _ l29 ⟨a29_0, c29_0, a29_1, c29_1, rfl, h29_0, h29_1, rfl⟩
 refine draw_go_tail ⟨⟨[], false⟩, _, [(_, _), (_, _)]⟩ 14 rfl (by kernel_rfl) ⟨Hp.Le.refl _, (ConvH.of (.cons r0 (.cons r2 .nil)))⟩ ?_
 refine nil_check (Jb rfl (load1_l m0 rfl rfl (Jb rfl (load1_l m1 rfl rfl (nil_check ?_)))))
 refine Jb rfl (load1_l m0 rfl rfl (build_struct rfl rfl (cond_T (cond_T ?_))))
 refine bsO (len := 1) (enc := Jf.enc) (l := [(⟨n'.Text, x29.2.slots⟩ : Jf)]) (cl := [str n'.Text, .int .i64 x29.2.slots]) elT62 rfl rfl (fun _ _ => rfl) rfl rfl rfl ?_ fun b42 => ?_
 · conv => whnf
   refine cond_T ?_
   first | done | rfl
 refine ⟨⟨(Hp.Le.refl _), (ConvH.of (.cons r1 (.cons r3 .nil)))⟩, ?_⟩
 obtain ⟨h43, hm⟩ := chkb hm
 refine apE rfl r3 elT62 (src_own' rfl r0 rfl (fun _ => rfl) (fun _ => rfl)) h43 ?_
 intro a43 c43 o43
 refine ⟨⟨(Hp.Le.refl _), (ConvH.of (.cons r2 (.cons r3 .nil)))⟩, ?_⟩
 refine nil_check (Jb rfl ?_)
 refine store_rule r2 rfl ?_
 refine ⟨rfl, rfl, (Nat.le_of_ble_eq_true rfl), ?_⟩
 refine ⟨⟨Hp.emp_le _, (ConvH.of .nil)⟩, ?_⟩
 refine nil_check (Jb rfl (RStep.of (load1_s r0 rfl rfl ?_)))
 obtain ⟨h50, hm⟩ := chkb hm
 refine int_in h50 (nil_check (Jb rfl ?_))
 refine store_rule r0 rfl ?_
 refine ⟨rfl, rfl, (Nat.le_of_ble_eq_true rfl), ?_⟩
 obtain rfl := si hm
 refine EndStep.mk _ (l19.trans l29) ⟨a29_0, c29_0, a43, c43, rfl, h29_0, o43, rfl⟩ (ConvH.of (.cons r0 (.cons r2 (.cons r0 (.cons r2 .nil)))))
 replace hm := iff_ w22 hm
 refine eq_int (cond_go rfl ?_)
 refine cond_s (fun w53 => ?_) (fun w53 => ?_)
 replace hm := ift w53 hm
 refine Jb rfl (RStep.of (load1_s r3 rfl rfl ?_))
 obtain ⟨x58, q58, hm⟩ := bnd hm
 refine call_fn (Jg (c := x19) (op := 11) (n' := 0) (s := n'.Text) q58 h19_0 h19_1) (.cons r0 (.cons r0 (.cons r0 .nil))) ?_
 rintro _ K58 _ l58 ⟨a58_0, c58_0, a58_1, c58_1, rfl, h58_0, h58_1, rfl⟩
 obtain rfl := si hm
 refine EndStep.mk _ (l19.trans l58) ⟨a58_0, c58_0, a58_1, c58_1, rfl, h58_0, h58_1, rfl⟩ (ConvH.of (.cons r0 (.cons r0 (.cons r0 (.cons r1 .nil)))))
 replace hm := iff_ w53 hm
 refine eq_int (cond_go rfl ?_)
 refine cond_s (fun w59 => ?_) (fun w59 => ?_)
 replace hm := ift w59 hm
 refine Jb rfl (RStep.of (load1_s r3 rfl rfl ?_))
 obtain ⟨h64, hm⟩ := chkb hm
 refine cat_str h64 ?_
 obtain ⟨x65, q65, hm⟩ := bnd hm
 refine call_fn (Jg (c := x19) (op := 11) (n' := 0) (s := (([104, 101, 97, 100, 101, 114, 58] : Str) ++ n'.Text)) q65 h19_0 h19_1) (.cons r0 (.cons r0 (.cons r0 .nil))) ?_
 rintro _ K65 _ l65 ⟨a65_0, c65_0, a65_1, c65_1, rfl, h65_0, h65_1, rfl⟩
 obtain rfl := si hm
 refine EndStep.mk _ (l19.trans l65) ⟨a65_0, c65_0, a65_1, c65_1, rfl, h65_0, h65_1, rfl⟩ (ConvH.of (.cons r0 (.cons r0 (.cons r0 (.cons r1 .nil)))))
 replace hm := iff_ w59 hm
 refine eq_int (cond_go rfl ?_)
 refine cond_s (fun w66 => ?_) (fun w66 => ?_)
 replace hm := ift w66 hm
 refine Jb rfl (RStep.of (load1_s r3 rfl rfl ?_))
 obtain ⟨h71, hm⟩ := chkb hm
 refine cat_str h71 ?_
 obtain ⟨x72, q72, hm⟩ := bnd hm
 refine call_fn (Jg (c := x19) (op := 11) (n' := 0) (s := (([118, 97, 114, 121, 58] : Str) ++ n'.Text)) q72 h19_0 h19_1) (.cons r0 (.cons r0 (.cons r0 .nil))) ?_
 rintro _ K72 _ l72 ⟨a72_0, c72_0, a72_1, c72_1, rfl, h72_0, h72_1, rfl⟩
 obtain rfl := si hm
 refine EndStep.mk _ (l19.trans l72) ⟨a72_0, c72_0, a72_1, c72_1, rfl, h72_0, h72_1, rfl⟩ (ConvH.of (.cons r0 (.cons r0 (.cons r0 (.cons r1 .nil)))))
 replace hm := iff_ w66 hm
 refine eq_int (cond_go rfl ?_)
 refine cond_s (fun w73 => ?_) (fun w73 => ?_)
 replace hm := ift w73 hm
 obtain ⟨x76, q76, hm⟩ := bnd hm
 refine call_fn (Jg (c := x19) (op := 11) (n' := 0) (s := ([116, 97, 103] : Str)) q76 h19_0 h19_1) (.cons r0 (.cons r0 (.cons r0 .nil))) ?_
 rintro _ K76 _ l76 ⟨a76_0, c76_0, a76_1, c76_1, rfl, h76_0, h76_1, rfl⟩
 obtain rfl := si hm
 refine EndStep.mk _ (l19.trans l76) ⟨a76_0, c76_0, a76_1, c76_1, rfl, h76_0, h76_1, rfl⟩ (ConvH.of (.cons r0 (.cons r0 (.cons r0 (.cons r1 .nil)))))
 replace hm := iff_ w73 hm
 refine eq_int (cond_go rfl ?_)
 refine cond_s (fun w77 => ?_) (fun w77 => ?_)
 replace hm := ift w77 hm
 obtain ⟨x80, q80, hm⟩ := bnd hm
 refine call_fn (Jg (c := x19) (op := 11) (n' := 0) (s := ([116, 116, 108] : Str)) q80 h19_0 h19_1) (.cons r0 (.cons r0 (.cons r0 .nil))) ?_
 rintro _ K80 _ l80 ⟨a80_0, c80_0, a80_1, c80_1, rfl, h80_0, h80_1, rfl⟩
 obtain rfl := si hm
 refine EndStep.mk _ (l19.trans l80) ⟨a80_0, c80_0, a80_1, c80_1, rfl, h80_0, h80_1, rfl⟩ (ConvH.of (.cons r0 (.cons r0 (.cons r0 (.cons r1 .nil)))))
 replace hm := iff_ w77 hm
 refine eq_int (cond_go rfl ?_)
 refine cond_s (fun w81 => ?_) (fun w81 => ?_)
 replace hm := ift w81 hm
 obtain ⟨x84, q84, hm⟩ := bnd hm
 refine call_fn (Jg (c := x19) (op := 11) (n' := 0) (s := ([100, 101, 110, 121] : Str)) q84 h19_0 h19_1) (.cons r0 (.cons r0 (.cons r0 .nil))) ?_
 rintro _ K84 _ l84 ⟨a84_0, c84_0, a84_1, c84_1, rfl, h84_0, h84_1, rfl⟩
 obtain rfl := si hm
 refine EndStep.mk _ (l19.trans l84) ⟨a84_0, c84_0, a84_1, c84_1, rfl, h84_0, h84_1, rfl⟩ (ConvH.of (.cons r0 (.cons r0 (.cons r0 (.cons r1 .nil)))))
 replace hm := iff_ w81 hm
 refine eq_int (cond_go rfl ?_)
 refine cond_s (fun w85 => ?_) (fun w85 => ?_)
 replace hm := ift w85 hm
 obtain ⟨x88, q88, hm⟩ := bnd hm
 refine call_fn (Jg (c := x19) (op := 11) (n' := 0) (s := ([112, 97, 115, 115] : Str)) q88 h19_0 h19_1) (.cons r0 (.cons r0 (.cons r0 .nil))) ?_
 rintro _ K88 _ l88 ⟨a88_0, c88_0, a88_1, c88_1, rfl, h88_0, h88_1, rfl⟩
 obtain rfl := si hm
 refine EndStep.mk _ (l19.trans l88) ⟨a88_0, c88_0, a88_1, c88_1, rfl, h88_0, h88_1, rfl⟩ (ConvH.of (.cons r0 (.cons r0 (.cons r0 (.cons r1 .nil)))))
 replace hm := iff_ w85 hm
 refine eq_int (cond_go rfl ?_)
 refine cond_s (fun w89 => ?_) (fun w89 => ?_)
 replace hm := ift w89 hm
 obtain ⟨x92, q92, hm⟩ := bnd hm
 refine call_fn (Jg (c := x19) (op := 11) (n' := 0) (s := ([116, 111, 107, 101, 110] : Str)) q92 h19_0 h19_1) (.cons r0 (.cons r0 (.cons r0 .nil))) ?_
 rintro _ K92 _ l92 ⟨a92_0, c92_0, a92_1, c92_1, rfl, h92_0, h92_1, rfl⟩
 obtain rfl := si hm
 refine EndStep.mk _ (l19.trans l92) ⟨a92_0, c92_0, a92_1, c92_1, rfl, h92_0, h92_1, rfl⟩ (ConvH.of (.cons r0 (.cons r0 (.cons r0 (.cons r1 .nil)))))
 replace hm := iff_ w89 hm
 obtain rfl := si hm
 refine EndStep.mk _ l19 ⟨a19_0, c19_0, a19_1, c19_1, rfl, h19_0, h19_1, rfl⟩ (ConvH.of (.cons r0 (.cons r0 (.cons r0 (.cons r1 .nil)))))
 replace hm := iff_ w13 hm
 refine Jb rfl (RStep.of (load1_s r0 rfl rfl ?_))
 refine block_go rfl ?_
 refine eq_int (cond_go rfl ?_)
 refine cond_s (fun w22 => ?_) (fun w22 => ?_)
 replace hm := ift w22 hm
 refine nil_check (Jb rfl (RStep.of (load1_s r1 rfl rfl ?_)))
 obtain ⟨x29, q29, hm⟩ := bnd hm
 refine call_fn (Jg (c := c) (op := 4) (n' := c.slots) (s := ([] : Str)) q29 hp0_0 hp0_1) (.cons r1 (.cons r1 (.cons r1 .nil))) ?_
 rintro _ K29 _ l29 ⟨a29_0, c29_0, a29_1, c29_1, rfl, h29_0, h29_1, rfl⟩
 refine draw_go_tail ⟨⟨[], false⟩, _, [(_, _), (_, _)]⟩ 14 rfl (by kernel_rfl) ⟨Hp.Le.refl _, (ConvH.of (.cons r0 (.cons r2 .nil)))⟩ ?_
 refine nil_check (Jb rfl (load1_l m0 rfl rfl (Jb rfl (load1_l m1 rfl rfl (nil_check ?_)))))
 refine Jb rfl (load1_l m0 rfl rfl (build_struct rfl rfl (cond_T (cond_T ?_))))
 refine bsO (len := 1) (enc := Jf.enc) (l := [(⟨n'.Text, x29.2.slots⟩ : Jf)]) (cl := [str n'.Text, .int .i64 x29.2.slots]) elT62 rfl rfl (fun _ _ => rfl) rfl rfl rfl ?_ fun b42 => ?_
 · conv => whnf
   refine cond_T ?_
   first | done | rfl
 refine ⟨⟨(Hp.Le.refl _), (ConvH.of (.cons r1 (.cons r3 .nil)))⟩, ?_⟩
 obtain ⟨h43, hm⟩ := chkb hm
 refine apE rfl r3 elT62 (src_own' rfl r0 rfl (fun _ => rfl) (fun _ => rfl)) h43 ?_
 intro a43 c43 o43
 refine ⟨⟨(Hp.Le.refl _), (ConvH.of (.cons r2 (.cons r3 .nil)))⟩, ?_⟩
 refine nil_check (Jb rfl ?_)
 refine store_rule r2 rfl ?_
 refine ⟨rfl, rfl, (Nat.le_of_ble_eq_true rfl), ?_⟩
 refine ⟨⟨Hp.emp_le _, (ConvH.of .nil)⟩, ?_⟩
 refine nil_check (Jb rfl (RStep.of (load1_s r0 rfl rfl ?_)))
 obtain ⟨h50, hm⟩ := chkb hm
 refine int_in h50 (nil_check (Jb rfl ?_))
 refine store_rule r0 rfl ?_
 refine ⟨rfl, rfl, (Nat.le_of_ble_eq_true rfl), ?_⟩
 obtain rfl := si hm
 refine EndStep.mk _ l29 ⟨a29_0, c29_0, a43, c43, rfl, h29_0, o43, rfl⟩ (ConvH.of (.cons r0 (.cons r2 (.cons r0 (.cons r2 .nil)))))
 replace hm := iff_ w22 hm
 refine eq_int (cond_go rfl ?_)
 refine cond_s (fun w53 => ?_) (fun w53 => ?_)
 replace hm := ift w53 hm
 refine Jb rfl (RStep.of (load1_s r0 rfl rfl ?_))
 obtain ⟨x58, q58, hm⟩ := bnd hm
 refine call_fn (Jg (c := c) (op := 11) (n' := 0) (s := n'.Text) q58 hp0_0 hp0_1) (.cons r1 (.cons r1 (.cons r1 .nil))) ?_
 rintro _ K58 _ l58 ⟨a58_0, c58_0, a58_1, c58_1, rfl, h58_0, h58_1, rfl⟩
 obtain rfl := si hm
 refine EndStep.mk _ l58 ⟨a58_0, c58_0, a58_1, c58_1, rfl, h58_0, h58_1, rfl⟩ (ConvH.of (.cons r0 (.cons r0 (.cons r0 (.cons r1 .nil)))))
 replace hm := iff_ w53 hm
 refine eq_int (cond_go rfl ?_)
 refine cond_s (fun w59 => ?_) (fun w59 => ?_)
 replace hm := ift w59 hm
 refine Jb rfl (RStep.of (load1_s r0 rfl rfl ?_))
 obtain ⟨h64, hm⟩ := chkb hm
 refine cat_str h64 ?_
 obtain ⟨x65, q65, hm⟩ := bnd hm
 refine call_fn (Jg (c := c) (op := 11) (n' := 0) (s := (([104, 101, 97, 100, 101, 114, 58] : Str) ++ n'.Text)) q65 hp0_0 hp0_1) (.cons r1 (.cons r1 (.cons r1 .nil))) ?_
 rintro _ K65 _ l65 ⟨a65_0, c65_0, a65_1, c65_1, rfl, h65_0, h65_1, rfl⟩
 obtain rfl := si hm
 refine EndStep.mk _ l65 ⟨a65_0, c65_0, a65_1, c65_1, rfl, h65_0, h65_1, rfl⟩ (ConvH.of (.cons r0 (.cons r0 (.cons r0 (.cons r1 .nil)))))
 replace hm := iff_ w59 hm
 refine eq_int (cond_go rfl ?_)
 refine cond_s (fun w66 => ?_) (fun w66 => ?_)
 replace hm := ift w66 hm
 refine Jb rfl (RStep.of (load1_s r0 rfl rfl ?_))
 obtain ⟨h71, hm⟩ := chkb hm
 refine cat_str h71 ?_
 obtain ⟨x72, q72, hm⟩ := bnd hm
 refine call_fn (Jg (c := c) (op := 11) (n' := 0) (s := (([118, 97, 114, 121, 58] : Str) ++ n'.Text)) q72 hp0_0 hp0_1) (.cons r1 (.cons r1 (.cons r1 .nil))) ?_
 rintro _ K72 _ l72 ⟨a72_0, c72_0, a72_1, c72_1, rfl, h72_0, h72_1, rfl⟩
 obtain rfl := si hm
 refine EndStep.mk _ l72 ⟨a72_0, c72_0, a72_1, c72_1, rfl, h72_0, h72_1, rfl⟩ (ConvH.of (.cons r0 (.cons r0 (.cons r0 (.cons r1 .nil)))))
 replace hm := iff_ w66 hm
 refine eq_int (cond_go rfl ?_)
 refine cond_s (fun w73 => ?_) (fun w73 => ?_)
 replace hm := ift w73 hm
 obtain ⟨x76, q76, hm⟩ := bnd hm
 refine call_fn (Jg (c := c) (op := 11) (n' := 0) (s := ([116, 97, 103] : Str)) q76 hp0_0 hp0_1) (.cons r1 (.cons r1 (.cons r1 .nil))) ?_
 rintro _ K76 _ l76 ⟨a76_0, c76_0, a76_1, c76_1, rfl, h76_0, h76_1, rfl⟩
 obtain rfl := si hm
 refine EndStep.mk _ l76 ⟨a76_0, c76_0, a76_1, c76_1, rfl, h76_0, h76_1, rfl⟩ (ConvH.of (.cons r0 (.cons r0 (.cons r0 (.cons r1 .nil)))))
 replace hm := iff_ w73 hm
 refine eq_int (cond_go rfl ?_)
 refine cond_s (fun w77 => ?_) (fun w77 => ?_)
 replace hm := ift w77 hm
 obtain ⟨x80, q80, hm⟩ := bnd hm
 refine call_fn (Jg (c := c) (op := 11) (n' := 0) (s := ([116, 116, 108] : Str)) q80 hp0_0 hp0_1) (.cons r1 (.cons r1 (.cons r1 .nil))) ?_
 rintro _ K80 _ l80 ⟨a80_0, c80_0, a80_1, c80_1, rfl, h80_0, h80_1, rfl⟩
 obtain rfl := si hm
 refine EndStep.mk _ l80 ⟨a80_0, c80_0, a80_1, c80_1, rfl, h80_0, h80_1, rfl⟩ (ConvH.of (.cons r0 (.cons r0 (.cons r0 (.cons r1 .nil)))))
 replace hm := iff_ w77 hm
 refine eq_int (cond_go rfl ?_)
 refine cond_s (fun w81 => ?_) (fun w81 => ?_)
 replace hm := ift w81 hm
 obtain ⟨x84, q84, hm⟩ := bnd hm
 refine call_fn (Jg (c := c) (op := 11) (n' := 0) (s := ([100, 101, 110, 121] : Str)) q84 hp0_0 hp0_1) (.cons r1 (.cons r1 (.cons r1 .nil))) ?_
 rintro _ K84 _ l84 ⟨a84_0, c84_0, a84_1, c84_1, rfl, h84_0, h84_1, rfl⟩
 obtain rfl := si hm
 refine EndStep.mk _ l84 ⟨a84_0, c84_0, a84_1, c84_1, rfl, h84_0, h84_1, rfl⟩ (ConvH.of (.cons r0 (.cons r0 (.cons r0 (.cons r1 .nil)))))
 replace hm := iff_ w81 hm
 refine eq_int (cond_go rfl ?_)
 refine cond_s (fun w85 => ?_) (fun w85 => ?_)
 replace hm := ift w85 hm
 obtain ⟨x88, q88, hm⟩ := bnd hm
 refine call_fn (Jg (c := c) (op := 11) (n' := 0) (s := ([112, 97, 115, 115] : Str)) q88 hp0_0 hp0_1) (.cons r1 (.cons r1 (.cons r1 .nil))) ?_
 rintro _ K88 _ l88 ⟨a88_0, c88_0, a88_1, c88_1, rfl, h88_0, h88_1, rfl⟩
 obtain rfl := si hm
 refine EndStep.mk _ l88 ⟨a88_0, c88_0, a88_1, c88_1, rfl, h88_0, h88_1, rfl⟩ (ConvH.of (.cons r0 (.cons r0 (.cons r0 (.cons r1 .nil)))))
 replace hm := iff_ w85 hm
 refine eq_int (cond_go rfl ?_)
 refine cond_s (fun w89 => ?_) (fun w89 => ?_)
 replace hm := ift w89 hm
 obtain ⟨x92, q92, hm⟩ := bnd hm
 refine call_fn (Jg (c := c) (op := 11) (n' := 0) (s := ([116, 111, 107, 101, 110] : Str)) q92 hp0_0 hp0_1) (.cons r1 (.cons r1 (.cons r1 .nil))) ?_
 rintro _ K92 _ l92 ⟨a92_0, c92_0, a92_1, c92_1, rfl, h92_0, h92_1, rfl⟩
 obtain rfl := si hm
 refine EndStep.mk _ l92 ⟨a92_0, c92_0, a92_1, c92_1, rfl, h92_0, h92_1, rfl⟩ (ConvH.of (.cons r0 (.cons r0 (.cons r0 (.cons r1 .nil)))))
 replace hm := iff_ w89 hm
 obtain rfl := si hm
 refine EndStep.mk _ (Hp.Le.refl _) ⟨ap0_0, cp0_0, ap0_1, cp0_1, rfl, hp0_0, hp0_1, rfl⟩ (ConvH.of (.cons r1 (.cons r1 (.cons r1 (.cons r1 .nil)))))

noncomputable def JG (rec_ : (Jc → (List Ja) → Option (Jc))) (n : Nat) : List Ja → Nat → Jc → Option (Jc)
  | [], _, y0_0 => some y0_0
  | e0 :: xs0, i0, y0_0 =>
    (J2 rec_ n y0_0 e0).bind fun x20 =>
    JG rec_ n xs0 (i0 + 1) x20
noncomputable def JI : Nat → Jc → (List Ja) → Option (Jc)
  | 0, _, _ => none
  | n + 1, c, list =>
    (chk (list.length ≤ szMax)).bind fun _ =>
    (JG (JI n) n list 0 c).bind fun t0 =>
    (chk (0 ≤ (0 : Int) ∧ (0 : Int) ≤ (c.names.length : Int) ∧ (c.names.length : Int) ≤ (t0.names.length : Int))).bind fun _ =>
    some (⟨t0.code, (subL t0.names (0 : Int) (c.names.length : Int)), t0.slots⟩ : Jc)
set_option maxHeartbeats 8000000 in
theorem JbI : ∀ {n : Nat} {c : Jc} {list : (List Ja)} {b0 : Nat} {ap0_0 : Option Addr} {cp0_0 : Nat} {ap0_1 : Option Addr} {cp0_1 : Nat} {ap1_0 : Option Addr} {cp1_0 : Nat} {n1 : Nat} {K : Hp} {r : Jc}
    (hm : JI n c list = some r) (hp0_0 : (0 < c.code.length → Has ap0_0)) (hp0_1 : (0 < c.names.length → Has ap0_1)) (hp1_0 : LiC Ja.R K ap1_0 cp1_0 4 list) (en1 : n1 = list.length),
    Fn Tryz.prog 30 [.pointer (some ⟨b0, 0, none⟩), .slice ap1_0 n1 cp1_0] K [Cells b0 64 [.slice ap0_0 c.code.length cp0_0, .slice ap0_1 c.names.length cp0_1, .int .i64 c.slots], OwnL Jj.enc ap0_0 50 3 cp0_0 c.code, OwnL Jf.enc ap0_1 133 2 cp0_1 c.names] (fun v K' H' => ∃ ar_0 : Option Addr, ∃ cr_0 : Nat, ∃ ar_1 : Option Addr, ∃ cr_1 : Nat, v = .tuple #[] ∧ (0 < r.code.length → Has ar_0) ∧ (0 < r.names.length → Has ar_1) ∧ H' = [Cells b0 64 [.slice ar_0 r.code.length cr_0, .slice ar_1 r.names.length cr_1, .int .i64 r.slots], OwnL Jj.enc ar_0 50 3 cr_0 r.code, OwnL Jf.enc ar_1 133 2 cr_1 r.names]) := by
 intro n
 induction n with
 | zero =>
   intro c list b0 ap0_0 cp0_0 ap0_1 cp0_1 ap1_0 cp1_0 n1 K r hm hp0_0 hp0_1 hp1_0 en1
   rw [JI.eq_1] at hm; cases hm
 | succ n ih =>
   intro c list b0 ap0_0 cp0_0 ap0_1 cp0_1 ap1_0 cp1_0 n1 K r hm hp0_0 hp0_1 hp1_0 en1
   subst en1
   refine Fn.enter Tryz.func30 Tryz.call30 rfl fun F => ?_
   rw [JI.eq_2] at hm
   refine nil_check (Jb rfl (RStep.of (load1_s r0 rfl rfl (RStep.of (len_slice rfl (RStep.of (len_slice rfl ?_)))))))
   obtain ⟨hk0, hm⟩ := chkb hm
   obtain ⟨s0, hl0, hm⟩ := bnd hm
   refine code_cut (σ := (Jc) × Option Addr × Nat × Option Addr × Nat) [6, 14, 15, 16, 17, 18, 19, 20, 21] (fun (t0, at0_0_0, ct0_0_0, at0_0_1, ct0_0_1) => []) (fun (t0, at0_0_0, ct0_0_0, at0_0_1, ct0_0_1) => [Cells b0 64 [.slice at0_0_0 t0.code.length ct0_0_0, .slice at0_0_1 t0.names.length ct0_0_1, .int .i64 t0.slots], OwnL Jj.enc at0_0_0 50 3 ct0_0_0 t0.code, OwnL Jf.enc at0_0_1 133 2 ct0_0_1 t0.names, F]) (fun zz K1 => match zz with | (t0, at0_0_0, ct0_0_0, at0_0_1, ct0_0_1) => (0 < t0.code.length → Has at0_0_0) ∧ (0 < t0.names.length → Has at0_0_1) ∧ t0 = s0) ?_ ?_
   refine block_go rfl ?_
   refine loop_rule (σ := Nat × Jc × Option Addr × Nat × Option Addr × Nat) [6, 14, 15, 16, 17, 18, 19, 20, 21] (fun (i0, y0_0, ay0_0_0, cy0_0_0, ay0_0_1, cy0_0_1) => [(14, .int .i64 (i0 : Int))]) (fun (i0, y0_0, ay0_0_0, cy0_0_0, ay0_0_1, cy0_0_1) => [Cells b0 64 [.slice ay0_0_0 y0_0.code.length cy0_0_0, .slice ay0_0_1 y0_0.names.length cy0_0_1, .int .i64 y0_0.slots], OwnL Jj.enc ay0_0_0 50 3 cy0_0_0 y0_0.code, OwnL Jf.enc ay0_0_1 133 2 cy0_0_1 y0_0.names, F]) (fun zz K1 => match zz with | (i0, y0_0, ay0_0_0, cy0_0_0, ay0_0_1, cy0_0_1) => (0 < y0_0.code.length → Has ay0_0_0) ∧ (0 < y0_0.names.length → Has ay0_0_1) ∧ JG (JI n) n (list.drop i0) i0 y0_0 = some s0) (fun zz => list.length - zz.1) (0, c, ap0_0, cp0_0, ap0_1, cp0_1) rfl ⟨rfl, trivial⟩ (ConvH.of (.cons r0 (.cons r0 (.cons r0 (.cons r0 .nil))))) ⟨hp0_0, hp0_1, hl0⟩ ?_
   clear hl0
   rintro ⟨i0, y0_0, ay0_0_0, cy0_0_0, ay0_0_1, cy0_0_1⟩ Kb0 lk0 ⟨hy0_0_0, hy0_0_1, hl0⟩ j0
   refine cond_go rfl ?_
   refine cond_s (fun w0 => ?_) (fun w0 => ?_)
   obtain ⟨e0, hx0, hd0⟩ := ltx w0
   rw [hd0, JG.eq_2] at hl0
   refine block_go rfl ?_
   refine RStep.ofN (index_addr rfl rfl (hasR (LiC.mono Ja.R_ok lk0 hp1_0).rd hx0) (nn _) (lt_ofN hx0) ?_)
   obtain ⟨ss17, cc17, hr17, hc17, hR17⟩ := LiR.get (LiC.mono Ja.R_ok lk0 hp1_0).rd hx0
   obtain ⟨a17_0, c17_0, rfl, h17_0⟩ := Ja.out hR17
   refine RStep.of (load_rd_agg i0 _ hr17 rfl hc17 rfl ?_)
   refine alloc_rule rfl ?_
   intro b6
   refine store_rule r0 rfl ?_
   refine ⟨rfl, rfl, (Nat.le_of_ble_eq_true rfl), ?_⟩
   refine RStep.of (loadn_s r0 rfl (Nat.le_of_ble_eq_true rfl) ?_)
   obtain ⟨x20, q20, hl0⟩ := bnd hl0
   refine call_fn (Jbs ih (c := y0_0) (n' := e0) q20 hy0_0_0 hy0_0_1 h17_0) (.cons r1 (.cons r1 (.cons r1 .nil))) ?_
   rintro _ K20 _ l20 ⟨a20_0, c20_0, a20_1, c20_1, rfl, h20_0, h20_1, rfl⟩
   refine int_in (cntz hx0 hk0) ?_
   refine RoundStep.mk (i0 + 1, x20, a20_0, c20_0, a20_1, c20_1) ⟨rfl, trivial⟩ (by repeat (first | exact trivial | refine And.intro rfl ?_)) (ConvH.of (.cons r0 (.cons r0 (.cons r0 (.cons r1 .nil))))) (lk0.trans l20) (ltm hx0) ⟨h20_0, h20_1, hl0⟩
   rw [lty w0, JG.eq_1] at hl0
   refine cond_T ?_
   refine MeetStep.mk (y0_0, ay0_0_0, cy0_0_0, ay0_0_1, cy0_0_1) trivial (by repeat (first | exact trivial | refine And.intro rfl ?_)) (ConvH.of (.cons r0 (.cons r0 (.cons r0 (.cons r0 .nil))))) lk0 ⟨hy0_0_0, hy0_0_1, (si hl0)⟩
   rintro ⟨t0, at0_0_0, ct0_0_0, at0_0_1, ct0_0_1⟩ Kt0 lt0 ⟨ht0_0_0, ht0_0_1, rfl⟩ j0
   refine nil_check (Jb rfl (RStep.of (load1_s r0 rfl rfl ?_)))
   obtain ⟨h28, hm⟩ := chkb hm
   refine ownSl (l := t0.names) (hi := (some (c.names.length : Int))) rfl r2 (by simp) rfl rfl h28 ?_
   refine nil_check (Jb rfl ?_)
   refine tkW (c.names.length : Int) r2 ?_
   refine store_rule r1 rfl ?_
   refine ⟨rfl, rfl, (Nat.le_of_ble_eq_true rfl), ?_⟩
   obtain rfl := si hm
   refine EndStep.mk _ lt0 ⟨at0_0_0, ct0_0_0, at0_0_1, ct0_0_1, rfl, ht0_0_0, (fun h => ht0_0_1 (pos_sub h28 h)), rfl⟩ (ConvH.of (.cons r0 (.cons r1 (.cons r0 (.cons r0 .nil)))))

noncomputable def JaF (n : Nat) (program : Ja) : Option ((List Jj) × Err) :=
  (JaY n program).bind fun x9 =>
  if x9.2.isSome then
  some ([], x9.2)
  else
  (JI n (⟨[], [], 0⟩ : Jc) program.Kids).bind fun x20 =>
  (Jd x20 12 0 ([] : Str)).bind fun x22 =>
  if decide ((x22.2.code.length : Int) > 2048) then
  some ([], (some 5))
  else
  some (x22.2.code, none)
set_option maxHeartbeats 8000000 in
theorem JbD {n : Nat} {program : Ja} {ap0_0 : Option Addr} {cp0_0 : Nat} {K : Hp} {r : (List Jj) × Err}
    (hm : JaF n program = some r) (hp0_0 : LiC Ja.R K ap0_0 cp0_0 4 program.Kids) (hG1 : GlL eS 1 1 Js K) (hG2 : GlL eS 1 2 Jx K) (hG3 : GlL eS 1 3 JD K) (hG4 : GlL eS 1 4 gkw0 K) :
    Fn Tryz.prog 10 [.agg #[.int .i64 program.Kind, str program.Text, .slice ap0_0 program.Kids.length cp0_0, .int .i64 program.Line]] K [] (fun v K' H' => ∃ ar_0 : Option Addr, ∃ cr_0 : Nat, v = .tuple #[.slice ar_0 r.1.length cr_0, errV 44 r.2] ∧ (0 < r.1.length → Has ar_0) ∧ H' = [OwnL Jj.enc ar_0 50 3 cr_0 r.1]) := by
 obtain ⟨ga1, gn1, gc1, gn_, gs1, gd1⟩ := id hG1
 subst gn_
 obtain ⟨ga2, gn2, gc2, gn_, gs2, gd2⟩ := id hG2
 subst gn_
 obtain ⟨ga3, gn3, gc3, gn_, gs3, gd3⟩ := id hG3
 subst gn_
 obtain ⟨ga4, gn4, gc4, gn_, gs4, gd4⟩ := id hG4
 subst gn_
 refine Fn.enter Tryz.func10 Tryz.call10 rfl fun F => ?_
 unfold JaF at hm
 refine box_rule ?_
 intro b1
 refine RStep.of (loadn_s r0 rfl (Nat.le_of_ble_eq_true rfl) ?_)
 obtain ⟨x9, q9, hm⟩ := bnd hm
 refine call_fn (JbS (program := program) q9 hp0_0 hG1 hG2 hG3 hG4) .nil ?_
 rintro _ K9 _ l9 ⟨rfl, rfl⟩
 refine neq_err rfl (cond_go rfl ?_)
 refine cond_s (fun w13 => ?_) (fun w13 => ?_)
 replace hm := ift w13 hm
 obtain rfl := si hm
 refine nilE Jj.enc 50 3 ?_
 refine EndStep.mk _ l9 ⟨none, 0, rfl, (fun h => by simp at h), rfl⟩ (ConvH.of (.cons r0 (.cons r1 .nil)))
 replace hm := iff_ w13 hm
 refine build_struct rfl rfl ?_
 refine box_rule ?_
 intro b16
 refine Jb rfl (RStep.of (load1_s r1 rfl rfl ?_))
 obtain ⟨x20, q20, hm⟩ := bnd hm
 refine nilF Tryz.call30 Jj.enc 50 3 ?_
 refine nilF Tryz.call30 Jf.enc 133 2 ?_
 refine call_fn (JbI (c := (⟨[], [], 0⟩ : Jc)) q20 (fun h => by simp at h) (fun h => by simp at h) (LiC.mono Ja.R_ok l9 hp0_0) rfl) (.cons r2 (.cons r1 (.cons r0 .nil))) ?_
 rintro _ K20 _ l20 ⟨a20_0, c20_0, a20_1, c20_1, rfl, h20_0, h20_1, rfl⟩
 obtain ⟨x22, q22, hm⟩ := bnd hm
 refine call_fn (Jg (c := x20) (op := 12) (n' := 0) (s := ([] : Str)) q22 h20_0 h20_1) (.cons r0 (.cons r0 (.cons r0 .nil))) ?_
 rintro _ K22 _ l22 ⟨a22_0, c22_0, a22_1, c22_1, rfl, h22_0, h22_1, rfl⟩
 refine nil_check (Jb rfl (RStep.of (load1_s r0 rfl rfl (RStep.of (len_slice rfl (cond_go rfl ?_))))))
 refine cond_s (fun w28 => ?_) (fun w28 => ?_)
 replace hm := ift w28 hm
 refine mk_iface rfl ?_
 obtain rfl := si hm
 refine nilE Jj.enc 50 3 ?_
 refine EndStep.mk _ ((l9.trans l20).trans l22) ⟨none, 0, rfl, (fun h => by simp at h), rfl⟩ (ConvH.of (.cons r0 (.cons r4 .nil)))
 replace hm := iff_ w28 hm
 refine nil_check (Jb rfl (RStep.of (load1_s r0 rfl rfl ?_)))
 obtain rfl := si hm
 refine EndStep.mk _ ((l9.trans l20).trans l22) ⟨a22_0, c22_0, rfl, h22_0, rfl⟩ (ConvH.of (.cons r1 (.cons r3 .nil)))

noncomputable def JaI (s : Str) : Option (Bool) :=
  (Jbh s).bind fun x7 =>
  some x7.2.isNone
set_option maxHeartbeats 8000000 in
theorem Jav {s : Str} {K : Hp} {r : Bool}
    (hm : JaI s = some r)  :
    Fn Tryz.prog 92 [str s] K [] (fun v K' H' => v = .bool r ∧ H' = []) := by
 refine Fn.enter Tryz.func92 Tryz.call92 rfl fun F => ?_
 unfold JaI at hm
 obtain ⟨x7, q7, hm⟩ := bnd hm
 refine call_fn (Jb1 (s := s) q7) .nil ?_
 rintro _ K7 _ l7 ⟨rfl, rfl⟩
 refine eq_err rfl ?_
 obtain rfl := si hm
 refine EndStep.mk _ l7 ⟨rfl, rfl⟩ (ConvH.of (.cons r0 .nil))

noncomputable def Jaw (s : Str) (prefixZ : Str) : Option (Str × Bool) :=
  (J6 s prefixZ).bind fun x8 =>
  if (!x8) then
  some (s, false)
  else
  (chk (0 ≤ (prefixZ.length : Int) ∧ (prefixZ.length : Int) ≤ (s.length : Int) ∧ (s.length : Int) ≤ (s.length : Int))).bind fun _ =>
  some ((subL s (prefixZ.length : Int) (s.length : Int)), true)
set_option maxHeartbeats 8000000 in
theorem Jbk {s : Str} {prefixZ : Str} {K : Hp} {r : Str × Bool}
    (hm : Jaw s prefixZ = some r)  :
    Fn Tryz.prog 126 [str s, str prefixZ] K [] (fun v K' H' => v = .tuple #[str r.1, .bool r.2] ∧ H' = []) := by
 refine Fn.enter Tryz.func126 Tryz.call126 rfl fun F => ?_
 unfold Jaw at hm
 obtain ⟨x8, q8, hm⟩ := bnd hm
 refine call_fn (JaH (s := s) (prefixZ := prefixZ) q8) .nil ?_
 rintro _ K8 _ l8 ⟨rfl, rfl⟩
 refine un_not (cond_go rfl ?_)
 refine cond_s (fun w9 => ?_) (fun w9 => ?_)
 replace hm := ift (not_t (ni_t w9)) hm
 obtain rfl := si hm
 refine EndStep.mk _ l8 ⟨rfl, rfl⟩ (ConvH.of (.cons r0 .nil))
 replace hm := iff_ (not_f (ni_f w9)) hm
 refine RStep.of (len_str rfl ?_)
 obtain ⟨h14, hm⟩ := chkb hm
 refine RStep.ofN (sl_str (lo := (some (prefixZ.length : Int))) (hi := none) rfl h14 ?_)
 obtain rfl := si hm
 refine EndStep.mk _ l8 ⟨rfl, rfl⟩ (ConvH.of (.cons r0 .nil))
