/- Functions of the program: mirrors, and that a call returns what the mirror says. Printed by gen.py. -/
import Derived.Test.YtdnelkmckpapgaaDoorG6
set_option linter.unusedVariables false
set_option linter.unusedSimpArgs false
open Go Go.SL Go.Proofs
set_option maxRecDepth 1000000
noncomputable def ref44_statements_L3 (rec_ : ((List S_ref43_Node) → (List S_ref44_Binding) → Option (S_ref44_Fault))) (y0_0 : (List S_ref44_Binding)) : List S_ref43_Node → Nat → Option (Fl (S_ref44_Fault) (Unit))
 | [], _ => some (Fl.go ())
 | e3 :: xs3, i3 =>
  if decide (e3.Kind = 2) then
  (rec_ [e3] y0_0).bind fun x90 =>
  if decide (x90.Code ≠ 0) then
  some (Fl.ret x90)
  else
  ref44_statements_L3 rec_ y0_0 xs3 (i3 + 1)
  else
  (rec_ e3.Kids y0_0).bind fun x90 =>
  if decide (x90.Code ≠ 0) then
  some (Fl.ret x90)
  else
  ref44_statements_L3 rec_ y0_0 xs3 (i3 + 1)
noncomputable def ref44_statements_L0 (n : Nat) (rec_ : ((List S_ref43_Node) → (List S_ref44_Binding) → Option (S_ref44_Fault))) : List S_ref43_Node → Nat → (List S_ref44_Binding) → Option (Fl (S_ref44_Fault) ((List S_ref44_Binding)))
 | [], _, y0_0 => some (Fl.go y0_0)
 | e0 :: xs0, i0, y0_0 =>
  if decide ((e0.Kids.length : Int) = 0) then
  ref44_statements_L0 n rec_ xs0 (i0 + 1) y0_0
  else
  (ix e0.Kids 0).bind fun x27 =>
  (ref44_expr n x27 y0_0).bind fun x30 =>
  if decide (x30.2.Code ≠ 0) then
  some (Fl.ret x30.2)
  else
  (ref44_needs e0.Kind).bind fun x39 =>
  if (decide (x39 ≠ 0) && decide (x39 ≠ x30.1)) then
  some (Fl.ret (⟨e0.Line, 9⟩ : S_ref44_Fault))
  else
  if decide (e0.Kind = 3) then
  (ref44_lookup n e0.Text y0_0).bind fun x57 =>
  if decide (x57 ≠ 0) then
  some (Fl.ret (⟨e0.Line, 4⟩ : S_ref44_Fault))
  else
  (chk (y0_0.length ≤ lim)).bind fun _ =>
  (chk (y0_0.length + [(⟨e0.Text, x30.1⟩ : S_ref44_Binding)].length ≤ lim)).bind fun _ =>
  ref44_statements_L0 n rec_ xs0 (i0 + 1) (y0_0 ++ [(⟨e0.Text, x30.1⟩ : S_ref44_Binding)])
  else
  if decide (e0.Kind = 2) then
  (chk (0 ≤ (1 : Int) ∧ (1 : Int) ≤ (e0.Kids.length : Int) ∧ (e0.Kids.length : Int) ≤ (e0.Kids.length : Int))).bind fun _ =>
  (chk ((subL e0.Kids (1 : Int) (e0.Kids.length : Int)).length ≤ szMax)).bind fun _ =>
  (ref44_statements_L3 rec_ y0_0 (subL e0.Kids (1 : Int) (e0.Kids.length : Int)) 0).bind fun s3 => s3.el (fun r => some (Fl.ret r)) fun t3 =>
  ref44_statements_L0 n rec_ xs0 (i0 + 1) y0_0
  else
  ref44_statements_L0 n rec_ xs0 (i0 + 1) y0_0
noncomputable def ref44_statements : Nat → (List S_ref43_Node) → (List S_ref44_Binding) → Option (S_ref44_Fault)
 | 0, _, _ => none
 | n + 1, list, env =>
  (chk (list.length ≤ szMax)).bind fun _ =>
  (ref44_statements_L0 n (ref44_statements n) list 0 env).bind fun s0 => s0.el some fun t0 =>
  some (⟨0, 0⟩ : S_ref44_Fault)
set_option maxHeartbeats 8000000 in
theorem ref44_statements_ok : ∀ {n : Nat} {list : (List S_ref43_Node)} {env : (List S_ref44_Binding)} {ap0_0 : Option Addr} {cp0_0 : Nat} {n0 : Nat} {ap1_0 : Option Addr} {cp1_0 : Nat} {n1 : Nat} {K : Hp} {r : S_ref44_Fault}
  (hm : ref44_statements n list env = some r) (hp0_0 : LiC S_ref43_Node.R K ap0_0 cp0_0 4 list) (en0 : n0 = list.length) (hp1_0 : RdC S_ref44_Binding.enc K ap1_0 cp1_0 2 env) (en1 : n1 = env.length),
  Fn Tryd.prog 34 [.slice ap0_0 n0 cp0_0, .slice ap1_0 n1 cp1_0] K [] (fun v K' H' => v = .agg #[.int .i64 r.Line, .int .i64 r.Code] ∧ H' = []) := by
 intro n
 induction n with
 | zero =>
  intro list env ap0_0 cp0_0 n0 ap1_0 cp1_0 n1 K r hm hp0_0 en0 hp1_0 en1
  rw [ref44_statements.eq_1] at hm; cases hm
 | succ n ih =>
  intro list env ap0_0 cp0_0 n0 ap1_0 cp1_0 n1 K r hm hp0_0 en0 hp1_0 en1
  subst en0
  subst en1
  refine Fn.enter Tryd.func34 Tryd.call34 rfl fun F => ?_
  rw [ref44_statements.eq_2] at hm
  conv => whnf
  refine alloc_rule rfl ?_
  intro b4
  conv => whnf
  refine RStep.of (len_slice rfl ?_)
  obtain ⟨hk0, hm⟩ := chkb hm
  obtain ⟨s0, hl0, hm⟩ := bnd hm
  conv => whnf
  refine code_cut (σ := ((List S_ref44_Binding)) × Option Addr × Nat) [1, 6, 7, 8, 9, 11, 12, 13, 16, 17, 18, 19, 20, 21, 22, 23, 24, 25, 26, 27, 28, 29, 30, 31, 32, 33, 34, 35, 36, 37, 38, 39, 40, 41, 42, 43, 44, 45, 46, 47, 48, 49, 50, 51, 52, 53, 54, 55, 56, 57, 58, 59, 60, 61, 62, 63, 64, 65, 66, 67, 68, 69, 70, 71, 72, 73, 74, 75, 76, 77, 78, 79, 80, 81, 82, 83, 84, 85, 86, 87, 88, 89, 90, 91, 92, 93, 94, 95, 96] (fun (t0, t0_a0, t0_c0) => [(1, .slice t0_a0 t0.length t0_c0)]) (fun (t0, t0_a0, t0_c0) => [Cells b4 36 [.int .i64 0, .int .i64 0], F]) (fun zz K1 => match zz with | (t0, t0_a0, t0_c0) => RdC S_ref44_Binding.enc K1 t0_a0 t0_c0 2 t0 ∧ s0 = Fl.go t0) ?_ ?_
  ·refine block_go rfl ?_
   conv => whnf
   refine loop_rule (σ := Nat × (List S_ref44_Binding) × Option Addr × Nat) [1, 6, 7, 8, 9, 11, 12, 13, 16, 17, 18, 19, 20, 21, 22, 23, 24, 25, 26, 27, 28, 29, 30, 31, 32, 33, 34, 35, 36, 37, 38, 39, 40, 41, 42, 43, 44, 45, 46, 47, 48, 49, 50, 51, 52, 53, 54, 55, 56, 57, 58, 59, 60, 61, 62, 63, 64, 65, 66, 67, 68, 69, 70, 71, 72, 73, 74, 75, 76, 77, 78, 79, 80, 81, 82, 83, 84, 85, 86, 87, 88, 89, 90, 91, 92, 93, 94, 95, 96] (fun (i0, y0_0, y0_a0, y0_c0) => [(16, .int .i64 (i0 : Int)), (1, .slice y0_a0 y0_0.length y0_c0)]) (fun (i0, y0_0, y0_a0, y0_c0) => [Cells b4 36 [.int .i64 0, .int .i64 0], F]) (fun zz K1 => match zz with | (i0, y0_0, y0_a0, y0_c0) => RdC S_ref44_Binding.enc K1 y0_a0 y0_c0 2 y0_0 ∧ ref44_statements_L0 n (ref44_statements n) (list.drop i0) i0 y0_0 = some s0) (fun zz => list.length - zz.1) (0, env, ap1_0, cp1_0) rfl ⟨rfl, rfl, trivial⟩ (ConvH.of (.cons r0 (.cons r0 .nil))) ⟨hp1_0, hl0⟩ ?_
   clear hl0
   rintro ⟨i0, y0_0, y0_a0, y0_c0⟩ Kb0 lk0 ⟨y0_h0, hl0⟩ j0
   conv => whnf
   refine cond_go rfl ?_
   conv => whnf
   refine cond_s (fun w0 => ?_) (fun w0 => ?_)
   ·obtain ⟨e0, hx0, hd0⟩ := ltx w0
    rw [hd0, ref44_statements_L0.eq_2] at hl0
    conv => whnf
    refine block_go rfl ?_
    conv => whnf
    refine RStep.ofN (index_addr rfl rfl (hasR (LiC.mono S_ref43_Node.R_ok lk0 hp0_0).rd hx0) (nn _) (lt_ofN hx0) ?_)
    obtain ⟨ss19, cc19, hr19, hc19, hR19⟩ := LiR.get (LiC.mono S_ref43_Node.R_ok lk0 hp0_0).rd hx0
    obtain ⟨a19_0, c19_0, rfl, h19_0⟩ := S_ref43_Node.out hR19
    conv => whnf
    refine RStep.of (load_rd_agg i0 _ hr19 rfl hc19 rfl ?_)
    conv => whnf
    refine alloc_rule rfl ?_
    intro b6
    conv => whnf
    refine store_rule r0 rfl ?_
    conv => whnf
    refine ⟨rfl, rfl, (Nat.le_of_ble_eq_true rfl), ?_⟩
    conv => whnf
    refine field_addr rfl ?_
    conv => whnf
    refine RStep.of (load1_s r0 rfl rfl ?_)
    conv => whnf
    refine RStep.of (len_slice rfl ?_)
    conv => whnf
    refine eq_int ?_
    conv => whnf
    refine cond_go rfl ?_
    conv => whnf
    refine cond_s (fun w23 => ?_) (fun w23 => ?_)
    ·replace hl0 := ift w23 hl0
     conv => whnf
     refine cond_T ?_
     conv => whnf
     refine int_in (cntz hx0 hk0) ?_
     conv => whnf
     refine RoundStep.mk (i0 + 1, y0_0, y0_a0, y0_c0) ⟨rfl, rfl, trivial⟩ (by repeat (first | exact trivial | refine And.intro rfl ?_)) (ConvH.of (.cons r1 (.cons r1 .nil))) lk0 (ltm hx0) ⟨y0_h0, hl0⟩
    ·replace hl0 := iff_ w23 hl0
     conv => whnf
     refine field_addr rfl ?_
     conv => whnf
     refine RStep.of (load1_s r0 rfl rfl ?_)
     obtain ⟨x27, l27, k27, hl0⟩ := ixb hl0
     conv => whnf
     refine RStep.ofN (index_addr rfl rfl (hasR h19_0.rd k27) l27 (lt_ofE rfl l27 k27) ?_)
     obtain ⟨ss28, cc28, hr28, hc28, hR28⟩ := LiR.get h19_0.rd k27
     obtain ⟨a28_0, c28_0, rfl, h28_0⟩ := S_ref43_Node.out hR28
     conv => whnf
     refine RStep.of (load_rd_agg ((0 : Int).toNat) _ hr28 rfl hc28 rfl ?_)
     obtain ⟨x30, q30, hl0⟩ := bnd hl0
     conv => whnf
     refine call_fn (ref44_expr_ok (n' := x27) q30 h28_0 y0_h0 rfl) .nil ?_
     rintro _ K30 _ l30 ⟨rfl, rfl⟩
     conv => whnf
     refine alloc_rule rfl ?_
     intro b8
     conv => whnf
     refine store_rule r0 rfl ?_
     conv => whnf
     refine ⟨rfl, rfl, (Nat.le_of_ble_eq_true rfl), ?_⟩
     conv => whnf
     refine field_addr rfl ?_
     conv => whnf
     refine RStep.of (load1_s r0 rfl rfl ?_)
     conv => whnf
     refine neq_int ?_
     conv => whnf
     refine cond_go rfl ?_
     conv => whnf
     refine cond_s (fun w35 => ?_) (fun w35 => ?_)
     ·replace hl0 := ift w35 hl0
      conv => whnf
      refine RStep.of (loadn_s r0 rfl (Nat.le_of_ble_eq_true rfl) ?_)
      conv => whnf
      refine store_rule r2 rfl ?_
      conv => whnf
      refine ⟨rfl, rfl, (Nat.le_of_ble_eq_true rfl), ?_⟩
      obtain rfl := si hl0
      replace hm := elr hm
      obtain rfl := si hm
      conv => whnf
      refine RStep.of (loadn_s r0 rfl (Nat.le_of_ble_eq_true rfl) ?_)
      conv => whnf
      refine EndStep.mk _ (lk0.trans l30) ⟨rfl, rfl⟩ (ConvH.of (.cons r3 .nil))
     ·replace hl0 := iff_ w35 hl0
      conv => whnf
      refine field_addr rfl ?_
      conv => whnf
      refine RStep.of (load1_s r1 rfl rfl ?_)
      obtain ⟨x39, q39, hl0⟩ := bnd hl0
      conv => whnf
      refine call_fn (ref44_needs_ok (kind := e0.Kind) q39) .nil ?_
      rintro _ K39 _ l39 ⟨rfl, rfl⟩
      conv => whnf
      refine neq_int ?_
      conv => whnf
      refine cond_s (fun g42_9 => ?_) (fun g42_9 => ?_)
      ·conv => whnf
       refine cond_t g42_9 ?_
       conv => whnf
       refine cond_t g42_9 ?_
       conv => whnf
       refine neq_int ?_
       conv => whnf
       refine cond_t g42_9 ?_
       conv => whnf
       refine cond_go rfl ?_
       conv => whnf
       refine cond_s (fun w46 => ?_) (fun w46 => ?_)
       ·replace hl0 := ift (and_t g42_9 w46) hl0
        conv => whnf
        refine field_addr rfl ?_
        conv => whnf
        refine RStep.of (load1_s r1 rfl rfl ?_)
        conv => whnf
        refine build_struct rfl rfl ?_
        conv => whnf
        refine cond_T ?_
        conv => whnf
        refine cond_T ?_
        conv => whnf
        refine store_rule r2 rfl ?_
        conv => whnf
        refine ⟨rfl, rfl, (Nat.le_of_ble_eq_true rfl), ?_⟩
        obtain rfl := si hl0
        replace hm := elr hm
        obtain rfl := si hm
        conv => whnf
        refine RStep.of (loadn_s r0 rfl (Nat.le_of_ble_eq_true rfl) ?_)
        conv => whnf
        refine EndStep.mk _ ((lk0.trans l30).trans l39) ⟨rfl, rfl⟩ (ConvH.of (.cons r3 .nil))
       ·replace hl0 := iff_ (and_g g42_9 w46) hl0
        conv => whnf
        refine field_addr rfl ?_
        conv => whnf
        refine RStep.of (load1_s r1 rfl rfl ?_)
        conv => whnf
        refine block_go rfl ?_
        conv => whnf
        refine eq_int ?_
        conv => whnf
        refine cond_go rfl ?_
        conv => whnf
        refine cond_s (fun w52 => ?_) (fun w52 => ?_)
        ·replace hl0 := ift w52 hl0
         conv => whnf
         refine field_addr rfl ?_
         conv => whnf
         refine RStep.of (load1_s r1 rfl rfl ?_)
         obtain ⟨x57, q57, hl0⟩ := bnd hl0
         conv => whnf
         refine call_fn (ref44_lookup_ok (s := e0.Text) q57 (y0_h0.mono (l30.trans l39)) rfl) .nil ?_
         rintro _ K57 _ l57 ⟨rfl, rfl⟩
         conv => whnf
         refine neq_int ?_
         conv => whnf
         refine cond_go rfl ?_
         conv => whnf
         refine cond_s (fun w58 => ?_) (fun w58 => ?_)
         ·replace hl0 := ift w58 hl0
          conv => whnf
          refine field_addr rfl ?_
          conv => whnf
          refine RStep.of (load1_s r1 rfl rfl ?_)
          conv => whnf
          refine build_struct rfl rfl ?_
          conv => whnf
          refine cond_T ?_
          conv => whnf
          refine cond_T ?_
          conv => whnf
          refine store_rule r2 rfl ?_
          conv => whnf
          refine ⟨rfl, rfl, (Nat.le_of_ble_eq_true rfl), ?_⟩
          obtain rfl := si hl0
          replace hm := elr hm
          obtain rfl := si hm
          conv => whnf
          refine RStep.of (loadn_s r0 rfl (Nat.le_of_ble_eq_true rfl) ?_)
          conv => whnf
          refine EndStep.mk _ (((lk0.trans l30).trans l39).trans l57) ⟨rfl, rfl⟩ (ConvH.of (.cons r3 .nil))
         ·replace hl0 := iff_ w58 hl0
          conv => whnf
          refine draw_go_F ⟨⟨[], false⟩, _, [(_, _)]⟩ 10 rfl (by kernel_rfl) ⟨Hp.Le.refl _, (ConvH.of (.cons r1 .nil))⟩ ?_
          conv => whnf
          refine bsA (cl := []) elT54 rfl rfl ?_ fun b62 => ?_
          ·conv => whnf
           first | done | rfl
          conv => whnf
          intro GG2
          obtain ⟨h64, hl0⟩ := chkb hl0
          conv => whnf
          refine ape (enc := S_ref44_Binding.enc) r0 elT54 (src_k rfl (y0_h0.mono ((l30.trans l39).trans l57)).rd rfl) h64 ?_
          intro a64 c64 o64
          conv => whnf
          refine ⟨⟨(Hp.Le.refl _), (ConvH.of (.cons r2 .nil))⟩, ?_⟩
          refine ⟨_, .cons r5 .nil, ⟨(Hp.Le.refl _), (ConvH.of (.cons r2 .nil))⟩, ?_⟩
          conv => whnf
          refine field_addr rfl ?_
          conv => whnf
          refine load1_l m0 rfl rfl ?_
          conv => whnf
          refine build_struct rfl rfl ?_
          conv => whnf
          refine cond_T ?_
          conv => whnf
          refine cond_T ?_
          conv => whnf
          refine bsA (cl := [str e0.Text, .int .i64 x30.1]) elT54 rfl rfl ?_ fun b69 => ?_
          ·conv => whnf
           refine cond_T ?_
           conv => whnf
           first | done | rfl
          conv => whnf
          intro GG8
          obtain ⟨h70, hl0⟩ := chkb hl0
          conv => whnf
          refine apE rfl r1 elT54 (src_lit rfl r0 rfl rfl (fun _ _ => rfl) rfl) h70 ?_
          intro a70 c70 o70
          conv => whnf
          refine ⟨⟨(Hp.Le.refl _), (ConvH.of (.cons r3 .nil))⟩, ?_⟩
          refine ⟨_, .cons r6 .nil, ⟨(Hp.Le.refl _), (ConvH.of (.cons r3 .nil))⟩, ?_⟩
          conv => whnf
          refine int_in (cntz hx0 hk0) ?_
          conv => whnf
          refine fRo r0 fun Kr0_0 lr0_0 fr0_0 => ?_
          refine RoundStep.mk (i0 + 1, (y0_0 ++ [(⟨e0.Text, x30.1⟩ : S_ref44_Binding)]), a70, c70) ⟨rfl, rfl, trivial⟩ (by repeat (first | exact trivial | refine And.intro rfl ?_)) (ConvH.of (.cons r3 (.cons r3 .nil))) ((((lk0.trans l30).trans l39).trans l57).trans lr0_0) (ltm hx0) ⟨fr0_0, hl0⟩
        ·replace hl0 := iff_ w52 hl0
         conv => whnf
         refine eq_int ?_
         conv => whnf
         refine cond_go rfl ?_
         conv => whnf
         refine cond_s (fun w71 => ?_) (fun w71 => ?_)
         ·replace hl0 := ift w71 hl0
          conv => whnf
          refine field_addr rfl ?_
          conv => whnf
          refine RStep.of (load1_s r1 rfl rfl ?_)
          obtain ⟨h75, hl0⟩ := chkb hl0
          have h75_ := (LiC.mono S_ref43_Node.R_ok (l30.trans l39) h19_0).subC h75
          conv => whnf
          refine RStep.ofN (sl_slN (l := e0.Kids) (lo := (some 1)) (hi := none) (lo' := (1 : Int)) (hi' := (e0.Kids.length : Int)) rfl rfl rfl rfl rfl (LiC.mono S_ref43_Node.R_ok (l30.trans l39) h19_0).le h75 ?_)
          conv => whnf
          refine RStep.of (len_slice rfl ?_)
          obtain ⟨hk3, hl0⟩ := chkb hl0
          obtain ⟨s3, hl3, hl0⟩ := bnd hl0
          conv => whnf
          refine code_cut (σ := (Unit)) [11, 12, 13, 77, 78, 79, 80, 81, 82, 83, 84, 85, 86, 87, 88, 89, 90, 91, 92, 93, 94, 95] (fun t3 => []) (fun t3 => [Cells b8 36 [.int .i64 x30.2.Line, .int .i64 x30.2.Code], Cells b6 24 [.int .i64 e0.Kind, str e0.Text, .slice a19_0 e0.Kids.length c19_0, .int .i64 e0.Line], Cells b4 36 [.int .i64 0, .int .i64 0], F]) (fun zz K1 => match zz with | t3 => s3 = Fl.go t3) ?_ ?_
          ·refine block_go rfl ?_
           conv => whnf
           refine loop_rule (σ := Nat) [11, 12, 13, 77, 78, 79, 80, 81, 82, 83, 84, 85, 86, 87, 88, 89, 90, 91, 92, 93, 94, 95] (fun i3 => [(77, .int .i64 (i3 : Int))]) (fun i3 => [Cells b8 36 [.int .i64 x30.2.Line, .int .i64 x30.2.Code], Cells b6 24 [.int .i64 e0.Kind, str e0.Text, .slice a19_0 e0.Kids.length c19_0, .int .i64 e0.Line], Cells b4 36 [.int .i64 0, .int .i64 0], F]) (fun zz K1 => match zz with | i3 => ref44_statements_L3 (ref44_statements n) y0_0 ((subL e0.Kids (1 : Int) (e0.Kids.length : Int)).drop i3) i3 = some s3) (fun zz => (subL e0.Kids (1 : Int) (e0.Kids.length : Int)).length - zz) (0) rfl ⟨rfl, trivial⟩ (ConvH.of (.cons r0 (.cons r0 (.cons r0 (.cons r0 .nil))))) hl3 ?_
           clear hl3
           rintro i3 Kb3 lk3 hl3 j3
           conv at hl3 => whnf
           conv => whnf
           refine cond_go rfl ?_
           conv => whnf
           refine cond_s (fun w3 => ?_) (fun w3 => ?_)
           ·obtain ⟨e3, hx3, hd3⟩ := ltx w3
            rw [hd3, ref44_statements_L3.eq_2] at hl3
            conv => whnf
            refine block_go rfl ?_
            conv => whnf
            refine RStep.ofN (index_addr rfl rfl (hasR (LiC.mono S_ref43_Node.R_ok lk3 h75_).rd hx3) (nn _) (lt_ofN hx3) ?_)
            obtain ⟨ss80, cc80, hr80, hc80, hR80⟩ := LiR.get (LiC.mono S_ref43_Node.R_ok lk3 h75_).rd hx3
            obtain ⟨a80_0, c80_0, rfl, h80_0⟩ := S_ref43_Node.out hR80
            conv => whnf
            refine RStep.of (load_rd_agg i3 _ hr80 rfl hc80 rfl ?_)
            conv => whnf
            refine alloc_rule rfl ?_
            intro b11
            conv => whnf
            refine store_rule r0 rfl ?_
            conv => whnf
            refine ⟨rfl, rfl, (Nat.le_of_ble_eq_true rfl), ?_⟩
            conv => whnf
            refine field_addr rfl ?_
            conv => whnf
            refine RStep.of (load1_s r0 rfl rfl ?_)
            conv => whnf
            refine field_addr rfl ?_
            conv => whnf
            refine RStep.of (load1_s r0 rfl rfl ?_)
            conv => whnf
            refine eq_int ?_
            conv => whnf
            refine cond_go rfl ?_
            conv => whnf
            refine cond_s (fun w85 => ?_) (fun w85 => ?_)
            ·replace hl3 := ift w85 hl3
             conv => whnf
             refine RStep.of (loadn_s r0 rfl (Nat.le_of_ble_eq_true rfl) ?_)
             conv => whnf
             refine bsOR (len := 1) (l := [e3]) (css := [[.int .i64 e3.Kind, str e3.Text, .slice a80_0 e3.Kids.length c80_0, .int .i64 e3.Line]]) (cl := [.int .i64 e3.Kind, str e3.Text, .slice a80_0 e3.Kids.length c80_0, .int .i64 e3.Line]) S_ref43_Node.R_ok elT22 rfl rfl (LR.snoc LR.nil (S_ref43_Node.of ⟨a80_0, c80_0, rfl, h80_0⟩)) rfl rfl rfl ?_ fun b87 => ?_
             ·conv => whnf
              refine cond_T ?_
              conv => whnf
              first | done | rfl
             obtain ⟨x90, q90, hl3⟩ := bnd hl3
             conv => whnf
             refine call_fn (Fn.lendR S_ref43_Node.R_ok (show LR S_ref43_Node.R _ [[.int .i64 e3.Kind, str e3.Text, .slice a80_0 e3.Kids.length c80_0, .int .i64 e3.Line]] [e3] from (LR.snoc LR.nil (S_ref43_Node.of ⟨a80_0, c80_0, rfl, h80_0⟩))) Tryd.call34 (fun K90_0 l90_0 f90_0 => (ih q90 f90_0 rfl (y0_h0.mono (((l30.trans l39).trans lk3).trans l90_0)) rfl)) (by exact fun _ _ _ _ h => h)) (.cons r0 .nil) ?_
             rintro _ K90 _ l90 ⟨_, rfl, rfl, rfl⟩
             conv => whnf
             refine alloc_rule rfl ?_
             intro b13
             conv => whnf
             refine store_rule r0 rfl ?_
             conv => whnf
             refine ⟨rfl, rfl, (Nat.le_of_ble_eq_true rfl), ?_⟩
             conv => whnf
             refine field_addr rfl ?_
             conv => whnf
             refine RStep.of (load1_s r0 rfl rfl ?_)
             conv => whnf
             refine neq_int ?_
             conv => whnf
             refine cond_go rfl ?_
             conv => whnf
             refine cond_s (fun w93 => ?_) (fun w93 => ?_)
             ·replace hl3 := ift w93 hl3
              conv => whnf
              refine RStep.of (loadn_s r0 rfl (Nat.le_of_ble_eq_true rfl) ?_)
              conv => whnf
              refine store_rule r5 rfl ?_
              conv => whnf
              refine ⟨rfl, rfl, (Nat.le_of_ble_eq_true rfl), ?_⟩
              obtain rfl := si hl3
              replace hl0 := elr hl0
              obtain rfl := si hl0
              replace hm := elr hm
              obtain rfl := si hm
              conv => whnf
              refine RStep.of (loadn_s r0 rfl (Nat.le_of_ble_eq_true rfl) ?_)
              conv => whnf
              refine EndStep.mk _ ((((lk0.trans l30).trans l39).trans lk3).trans l90) ⟨rfl, rfl⟩ (ConvH.of (.cons r6 .nil))
             ·replace hl3 := iff_ w93 hl3
              conv => whnf
              refine int_in (cntz hx3 hk3) ?_
              conv => whnf
              refine RoundStep.mk (i3 + 1) ⟨rfl, trivial⟩ (by repeat (first | exact trivial | refine And.intro rfl ?_)) (ConvH.of (.cons r3 (.cons r3 (.cons r3 (.cons r3 .nil))))) (lk3.trans l90) (ltm hx3) hl3
            ·replace hl3 := iff_ w85 hl3
             obtain ⟨x90, q90, hl3⟩ := bnd hl3
             conv => whnf
             refine call_fn (ih q90 h80_0 rfl (y0_h0.mono ((l30.trans l39).trans lk3)) rfl) .nil ?_
             rintro _ K90 _ l90 ⟨rfl, rfl⟩
             conv => whnf
             refine alloc_rule rfl ?_
             intro b13
             conv => whnf
             refine store_rule r0 rfl ?_
             conv => whnf
             refine ⟨rfl, rfl, (Nat.le_of_ble_eq_true rfl), ?_⟩
             conv => whnf
             refine field_addr rfl ?_
             conv => whnf
             refine RStep.of (load1_s r0 rfl rfl ?_)
             conv => whnf
             refine neq_int ?_
             conv => whnf
             refine cond_go rfl ?_
             conv => whnf
             refine cond_s (fun w93 => ?_) (fun w93 => ?_)
             ·replace hl3 := ift w93 hl3
              conv => whnf
              refine RStep.of (loadn_s r0 rfl (Nat.le_of_ble_eq_true rfl) ?_)
              conv => whnf
              refine store_rule r4 rfl ?_
              conv => whnf
              refine ⟨rfl, rfl, (Nat.le_of_ble_eq_true rfl), ?_⟩
              obtain rfl := si hl3
              replace hl0 := elr hl0
              obtain rfl := si hl0
              replace hm := elr hm
              obtain rfl := si hm
              conv => whnf
              refine RStep.of (loadn_s r0 rfl (Nat.le_of_ble_eq_true rfl) ?_)
              conv => whnf
              refine EndStep.mk _ ((((lk0.trans l30).trans l39).trans lk3).trans l90) ⟨rfl, rfl⟩ (ConvH.of (.cons r5 .nil))
             ·replace hl3 := iff_ w93 hl3
              conv => whnf
              refine int_in (cntz hx3 hk3) ?_
              conv => whnf
              refine RoundStep.mk (i3 + 1) ⟨rfl, trivial⟩ (by repeat (first | exact trivial | refine And.intro rfl ?_)) (ConvH.of (.cons r2 (.cons r2 (.cons r2 (.cons r2 .nil))))) (lk3.trans l90) (ltm hx3) hl3
           ·rw [lty w3, ref44_statements_L3.eq_1] at hl3
            conv => whnf
            refine cond_T ?_
            conv => whnf
            refine MeetStep.mk (()) trivial (by repeat (first | exact trivial | refine And.intro rfl ?_)) (ConvH.of (.cons r0 (.cons r0 (.cons r0 (.cons r0 .nil))))) lk3 (si hl3).symm
          ·rintro t3 Kt3 lt3 rfl j3
           replace hl0 := elg hl0
           conv => whnf
           refine int_in (cntz hx0 hk0) ?_
           conv => whnf
           refine RoundStep.mk (i0 + 1, y0_0, y0_a0, y0_c0) ⟨rfl, rfl, trivial⟩ (by repeat (first | exact trivial | refine And.intro rfl ?_)) (ConvH.of (.cons r2 (.cons r2 .nil))) (((lk0.trans l30).trans l39).trans lt3) (ltm hx0) ⟨(y0_h0.mono ((l30.trans l39).trans lt3)), hl0⟩
         ·replace hl0 := iff_ w71 hl0
          conv => whnf
          refine int_in (cntz hx0 hk0) ?_
          conv => whnf
          refine RoundStep.mk (i0 + 1, y0_0, y0_a0, y0_c0) ⟨rfl, rfl, trivial⟩ (by repeat (first | exact trivial | refine And.intro rfl ?_)) (ConvH.of (.cons r2 (.cons r2 .nil))) ((lk0.trans l30).trans l39) (ltm hx0) ⟨(y0_h0.mono (l30.trans l39)), hl0⟩
      ·conv => whnf
       refine cond_f g42_9 ?_
       conv => whnf
       refine cond_f g42_9 ?_
       conv => whnf
       refine cond_f g42_9 ?_
       conv => whnf
       refine cond_go rfl ?_
       conv => whnf
       refine cond_F ?_
       replace hl0 := iff_ (and_f g42_9) hl0
       conv => whnf
       refine field_addr rfl ?_
       conv => whnf
       refine RStep.of (load1_s r1 rfl rfl ?_)
       conv => whnf
       refine block_go rfl ?_
       conv => whnf
       refine eq_int ?_
       conv => whnf
       refine cond_go rfl ?_
       conv => whnf
       refine cond_s (fun w52 => ?_) (fun w52 => ?_)
       ·replace hl0 := ift w52 hl0
        conv => whnf
        refine field_addr rfl ?_
        conv => whnf
        refine RStep.of (load1_s r1 rfl rfl ?_)
        obtain ⟨x57, q57, hl0⟩ := bnd hl0
        conv => whnf
        refine call_fn (ref44_lookup_ok (s := e0.Text) q57 (y0_h0.mono (l30.trans l39)) rfl) .nil ?_
        rintro _ K57 _ l57 ⟨rfl, rfl⟩
        conv => whnf
        refine neq_int ?_
        conv => whnf
        refine cond_go rfl ?_
        conv => whnf
        refine cond_s (fun w58 => ?_) (fun w58 => ?_)
        ·replace hl0 := ift w58 hl0
         conv => whnf
         refine field_addr rfl ?_
         conv => whnf
         refine RStep.of (load1_s r1 rfl rfl ?_)
         conv => whnf
         refine build_struct rfl rfl ?_
         conv => whnf
         refine cond_T ?_
         conv => whnf
         refine cond_T ?_
         conv => whnf
         refine store_rule r2 rfl ?_
         conv => whnf
         refine ⟨rfl, rfl, (Nat.le_of_ble_eq_true rfl), ?_⟩
         obtain rfl := si hl0
         replace hm := elr hm
         obtain rfl := si hm
         conv => whnf
         refine RStep.of (loadn_s r0 rfl (Nat.le_of_ble_eq_true rfl) ?_)
         conv => whnf
         refine EndStep.mk _ (((lk0.trans l30).trans l39).trans l57) ⟨rfl, rfl⟩ (ConvH.of (.cons r3 .nil))
        ·replace hl0 := iff_ w58 hl0
         conv => whnf
         refine draw_go_F ⟨⟨[], false⟩, _, [(_, _)]⟩ 10 rfl (by kernel_rfl) ⟨Hp.Le.refl _, (ConvH.of (.cons r1 .nil))⟩ ?_
         conv => whnf
         refine bsA (cl := []) elT54 rfl rfl ?_ fun b62 => ?_
         ·conv => whnf
          first | done | rfl
         conv => whnf
         intro GG2
         obtain ⟨h64, hl0⟩ := chkb hl0
         conv => whnf
         refine ape (enc := S_ref44_Binding.enc) r0 elT54 (src_k rfl (y0_h0.mono ((l30.trans l39).trans l57)).rd rfl) h64 ?_
         intro a64 c64 o64
         conv => whnf
         refine ⟨⟨(Hp.Le.refl _), (ConvH.of (.cons r2 .nil))⟩, ?_⟩
         refine ⟨_, .cons r5 .nil, ⟨(Hp.Le.refl _), (ConvH.of (.cons r2 .nil))⟩, ?_⟩
         conv => whnf
         refine field_addr rfl ?_
         conv => whnf
         refine load1_l m0 rfl rfl ?_
         conv => whnf
         refine build_struct rfl rfl ?_
         conv => whnf
         refine cond_T ?_
         conv => whnf
         refine cond_T ?_
         conv => whnf
         refine bsA (cl := [str e0.Text, .int .i64 x30.1]) elT54 rfl rfl ?_ fun b69 => ?_
         ·conv => whnf
          refine cond_T ?_
          conv => whnf
          first | done | rfl
         conv => whnf
         intro GG8
         obtain ⟨h70, hl0⟩ := chkb hl0
         conv => whnf
         refine apE rfl r1 elT54 (src_lit rfl r0 rfl rfl (fun _ _ => rfl) rfl) h70 ?_
         intro a70 c70 o70
         conv => whnf
         refine ⟨⟨(Hp.Le.refl _), (ConvH.of (.cons r3 .nil))⟩, ?_⟩
         refine ⟨_, .cons r6 .nil, ⟨(Hp.Le.refl _), (ConvH.of (.cons r3 .nil))⟩, ?_⟩
         conv => whnf
         refine int_in (cntz hx0 hk0) ?_
         conv => whnf
         refine fRo r0 fun Kr0_0 lr0_0 fr0_0 => ?_
         refine RoundStep.mk (i0 + 1, (y0_0 ++ [(⟨e0.Text, x30.1⟩ : S_ref44_Binding)]), a70, c70) ⟨rfl, rfl, trivial⟩ (by repeat (first | exact trivial | refine And.intro rfl ?_)) (ConvH.of (.cons r3 (.cons r3 .nil))) ((((lk0.trans l30).trans l39).trans l57).trans lr0_0) (ltm hx0) ⟨fr0_0, hl0⟩
       ·replace hl0 := iff_ w52 hl0
        conv => whnf
        refine eq_int ?_
        conv => whnf
        refine cond_go rfl ?_
        conv => whnf
        refine cond_s (fun w71 => ?_) (fun w71 => ?_)
        ·replace hl0 := ift w71 hl0
         conv => whnf
         refine field_addr rfl ?_
         conv => whnf
         refine RStep.of (load1_s r1 rfl rfl ?_)
         obtain ⟨h75, hl0⟩ := chkb hl0
         have h75_ := (LiC.mono S_ref43_Node.R_ok (l30.trans l39) h19_0).subC h75
         conv => whnf
         refine RStep.ofN (sl_slN (l := e0.Kids) (lo := (some 1)) (hi := none) (lo' := (1 : Int)) (hi' := (e0.Kids.length : Int)) rfl rfl rfl rfl rfl (LiC.mono S_ref43_Node.R_ok (l30.trans l39) h19_0).le h75 ?_)
         conv => whnf
         refine RStep.of (len_slice rfl ?_)
         obtain ⟨hk3, hl0⟩ := chkb hl0
         obtain ⟨s3, hl3, hl0⟩ := bnd hl0
         conv => whnf
         refine code_cut (σ := (Unit)) [11, 12, 13, 77, 78, 79, 80, 81, 82, 83, 84, 85, 86, 87, 88, 89, 90, 91, 92, 93, 94, 95] (fun t3 => []) (fun t3 => [Cells b8 36 [.int .i64 x30.2.Line, .int .i64 x30.2.Code], Cells b6 24 [.int .i64 e0.Kind, str e0.Text, .slice a19_0 e0.Kids.length c19_0, .int .i64 e0.Line], Cells b4 36 [.int .i64 0, .int .i64 0], F]) (fun zz K1 => match zz with | t3 => s3 = Fl.go t3) ?_ ?_
         ·refine block_go rfl ?_
          conv => whnf
          refine loop_rule (σ := Nat) [11, 12, 13, 77, 78, 79, 80, 81, 82, 83, 84, 85, 86, 87, 88, 89, 90, 91, 92, 93, 94, 95] (fun i3 => [(77, .int .i64 (i3 : Int))]) (fun i3 => [Cells b8 36 [.int .i64 x30.2.Line, .int .i64 x30.2.Code], Cells b6 24 [.int .i64 e0.Kind, str e0.Text, .slice a19_0 e0.Kids.length c19_0, .int .i64 e0.Line], Cells b4 36 [.int .i64 0, .int .i64 0], F]) (fun zz K1 => match zz with | i3 => ref44_statements_L3 (ref44_statements n) y0_0 ((subL e0.Kids (1 : Int) (e0.Kids.length : Int)).drop i3) i3 = some s3) (fun zz => (subL e0.Kids (1 : Int) (e0.Kids.length : Int)).length - zz) (0) rfl ⟨rfl, trivial⟩ (ConvH.of (.cons r0 (.cons r0 (.cons r0 (.cons r0 .nil))))) hl3 ?_
          clear hl3
          rintro i3 Kb3 lk3 hl3 j3
          conv at hl3 => whnf
          conv => whnf
          refine cond_go rfl ?_
          conv => whnf
          refine cond_s (fun w3 => ?_) (fun w3 => ?_)
          ·obtain ⟨e3, hx3, hd3⟩ := ltx w3
           rw [hd3, ref44_statements_L3.eq_2] at hl3
           conv => whnf
           refine block_go rfl ?_
           conv => whnf
           refine RStep.ofN (index_addr rfl rfl (hasR (LiC.mono S_ref43_Node.R_ok lk3 h75_).rd hx3) (nn _) (lt_ofN hx3) ?_)
           obtain ⟨ss80, cc80, hr80, hc80, hR80⟩ := LiR.get (LiC.mono S_ref43_Node.R_ok lk3 h75_).rd hx3
           obtain ⟨a80_0, c80_0, rfl, h80_0⟩ := S_ref43_Node.out hR80
           conv => whnf
           refine RStep.of (load_rd_agg i3 _ hr80 rfl hc80 rfl ?_)
           conv => whnf
           refine alloc_rule rfl ?_
           intro b11
           conv => whnf
           refine store_rule r0 rfl ?_
           conv => whnf
           refine ⟨rfl, rfl, (Nat.le_of_ble_eq_true rfl), ?_⟩
           conv => whnf
           refine field_addr rfl ?_
           conv => whnf
           refine RStep.of (load1_s r0 rfl rfl ?_)
           conv => whnf
           refine field_addr rfl ?_
           conv => whnf
           refine RStep.of (load1_s r0 rfl rfl ?_)
           conv => whnf
           refine eq_int ?_
           conv => whnf
           refine cond_go rfl ?_
           conv => whnf
           refine cond_s (fun w85 => ?_) (fun w85 => ?_)
           ·replace hl3 := ift w85 hl3
            conv => whnf
            refine RStep.of (loadn_s r0 rfl (Nat.le_of_ble_eq_true rfl) ?_)
            conv => whnf
            refine bsOR (len := 1) (l := [e3]) (css := [[.int .i64 e3.Kind, str e3.Text, .slice a80_0 e3.Kids.length c80_0, .int .i64 e3.Line]]) (cl := [.int .i64 e3.Kind, str e3.Text, .slice a80_0 e3.Kids.length c80_0, .int .i64 e3.Line]) S_ref43_Node.R_ok elT22 rfl rfl (LR.snoc LR.nil (S_ref43_Node.of ⟨a80_0, c80_0, rfl, h80_0⟩)) rfl rfl rfl ?_ fun b87 => ?_
            ·conv => whnf
             refine cond_T ?_
             conv => whnf
             first | done | rfl
            obtain ⟨x90, q90, hl3⟩ := bnd hl3
            conv => whnf
            refine call_fn (Fn.lendR S_ref43_Node.R_ok (show LR S_ref43_Node.R _ [[.int .i64 e3.Kind, str e3.Text, .slice a80_0 e3.Kids.length c80_0, .int .i64 e3.Line]] [e3] from (LR.snoc LR.nil (S_ref43_Node.of ⟨a80_0, c80_0, rfl, h80_0⟩))) Tryd.call34 (fun K90_0 l90_0 f90_0 => (ih q90 f90_0 rfl (y0_h0.mono (((l30.trans l39).trans lk3).trans l90_0)) rfl)) (by exact fun _ _ _ _ h => h)) (.cons r0 .nil) ?_
            rintro _ K90 _ l90 ⟨_, rfl, rfl, rfl⟩
            conv => whnf
            refine alloc_rule rfl ?_
            intro b13
            conv => whnf
            refine store_rule r0 rfl ?_
            conv => whnf
            refine ⟨rfl, rfl, (Nat.le_of_ble_eq_true rfl), ?_⟩
            conv => whnf
            refine field_addr rfl ?_
            conv => whnf
            refine RStep.of (load1_s r0 rfl rfl ?_)
            conv => whnf
            refine neq_int ?_
            conv => whnf
            refine cond_go rfl ?_
            conv => whnf
            refine cond_s (fun w93 => ?_) (fun w93 => ?_)
            ·replace hl3 := ift w93 hl3
             conv => whnf
             refine RStep.of (loadn_s r0 rfl (Nat.le_of_ble_eq_true rfl) ?_)
             conv => whnf
             refine store_rule r5 rfl ?_
             conv => whnf
             refine ⟨rfl, rfl, (Nat.le_of_ble_eq_true rfl), ?_⟩
             obtain rfl := si hl3
             replace hl0 := elr hl0
             obtain rfl := si hl0
             replace hm := elr hm
             obtain rfl := si hm
             conv => whnf
             refine RStep.of (loadn_s r0 rfl (Nat.le_of_ble_eq_true rfl) ?_)
             conv => whnf
             refine EndStep.mk _ ((((lk0.trans l30).trans l39).trans lk3).trans l90) ⟨rfl, rfl⟩ (ConvH.of (.cons r6 .nil))
            ·replace hl3 := iff_ w93 hl3
             conv => whnf
             refine int_in (cntz hx3 hk3) ?_
             conv => whnf
             refine RoundStep.mk (i3 + 1) ⟨rfl, trivial⟩ (by repeat (first | exact trivial | refine And.intro rfl ?_)) (ConvH.of (.cons r3 (.cons r3 (.cons r3 (.cons r3 .nil))))) (lk3.trans l90) (ltm hx3) hl3
           ·replace hl3 := iff_ w85 hl3
            obtain ⟨x90, q90, hl3⟩ := bnd hl3
            conv => whnf
            refine call_fn (ih q90 h80_0 rfl (y0_h0.mono ((l30.trans l39).trans lk3)) rfl) .nil ?_
            rintro _ K90 _ l90 ⟨rfl, rfl⟩
            conv => whnf
            refine alloc_rule rfl ?_
            intro b13
            conv => whnf
            refine store_rule r0 rfl ?_
            conv => whnf
            refine ⟨rfl, rfl, (Nat.le_of_ble_eq_true rfl), ?_⟩
            conv => whnf
            refine field_addr rfl ?_
            conv => whnf
            refine RStep.of (load1_s r0 rfl rfl ?_)
            conv => whnf
            refine neq_int ?_
            conv => whnf
            refine cond_go rfl ?_
            conv => whnf
            refine cond_s (fun w93 => ?_) (fun w93 => ?_)
            ·replace hl3 := ift w93 hl3
             conv => whnf
             refine RStep.of (loadn_s r0 rfl (Nat.le_of_ble_eq_true rfl) ?_)
             conv => whnf
             refine store_rule r4 rfl ?_
             conv => whnf
             refine ⟨rfl, rfl, (Nat.le_of_ble_eq_true rfl), ?_⟩
             obtain rfl := si hl3
             replace hl0 := elr hl0
             obtain rfl := si hl0
             replace hm := elr hm
             obtain rfl := si hm
             conv => whnf
             refine RStep.of (loadn_s r0 rfl (Nat.le_of_ble_eq_true rfl) ?_)
             conv => whnf
             refine EndStep.mk _ ((((lk0.trans l30).trans l39).trans lk3).trans l90) ⟨rfl, rfl⟩ (ConvH.of (.cons r5 .nil))
            ·replace hl3 := iff_ w93 hl3
             conv => whnf
             refine int_in (cntz hx3 hk3) ?_
             conv => whnf
             refine RoundStep.mk (i3 + 1) ⟨rfl, trivial⟩ (by repeat (first | exact trivial | refine And.intro rfl ?_)) (ConvH.of (.cons r2 (.cons r2 (.cons r2 (.cons r2 .nil))))) (lk3.trans l90) (ltm hx3) hl3
          ·rw [lty w3, ref44_statements_L3.eq_1] at hl3
           conv => whnf
           refine cond_T ?_
           conv => whnf
           refine MeetStep.mk (()) trivial (by repeat (first | exact trivial | refine And.intro rfl ?_)) (ConvH.of (.cons r0 (.cons r0 (.cons r0 (.cons r0 .nil))))) lk3 (si hl3).symm
         ·rintro t3 Kt3 lt3 rfl j3
          replace hl0 := elg hl0
          conv => whnf
          refine int_in (cntz hx0 hk0) ?_
          conv => whnf
          refine RoundStep.mk (i0 + 1, y0_0, y0_a0, y0_c0) ⟨rfl, rfl, trivial⟩ (by repeat (first | exact trivial | refine And.intro rfl ?_)) (ConvH.of (.cons r2 (.cons r2 .nil))) (((lk0.trans l30).trans l39).trans lt3) (ltm hx0) ⟨(y0_h0.mono ((l30.trans l39).trans lt3)), hl0⟩
        ·replace hl0 := iff_ w71 hl0
         conv => whnf
         refine int_in (cntz hx0 hk0) ?_
         conv => whnf
         refine RoundStep.mk (i0 + 1, y0_0, y0_a0, y0_c0) ⟨rfl, rfl, trivial⟩ (by repeat (first | exact trivial | refine And.intro rfl ?_)) (ConvH.of (.cons r2 (.cons r2 .nil))) ((lk0.trans l30).trans l39) (ltm hx0) ⟨(y0_h0.mono (l30.trans l39)), hl0⟩
   ·rw [lty w0, ref44_statements_L0.eq_1] at hl0
    conv => whnf
    refine cond_T ?_
    conv => whnf
    refine MeetStep.mk (y0_0, y0_a0, y0_c0) ⟨rfl, trivial⟩ (by repeat (first | exact trivial | refine And.intro rfl ?_)) (ConvH.of (.cons r0 (.cons r0 .nil))) lk0 ⟨y0_h0, (si hl0).symm⟩
  ·rintro ⟨t0, t0_a0, t0_c0⟩ Kt0 lt0 ⟨t0_h0, rfl⟩ j0
   replace hm := elg hm
   conv => whnf
   refine build_struct rfl rfl ?_
   conv => whnf
   refine store_rule r0 rfl ?_
   conv => whnf
   refine ⟨rfl, rfl, (Nat.le_of_ble_eq_true rfl), ?_⟩
   obtain rfl := si hm
   conv => whnf
   refine RStep.of (loadn_s r0 rfl (Nat.le_of_ble_eq_true rfl) ?_)
   conv => whnf
   refine EndStep.mk _ lt0 ⟨rfl, rfl⟩ (ConvH.of (.cons r1 .nil))

noncomputable def ref44_Check (n : Nat) (program : S_ref43_Node) : Option (S_ref44_Fault) :=
 (ref43_Valid n program).bind fun x4 =>
 if (!x4) then
 some (⟨0, 2⟩ : S_ref44_Fault)
 else
 (ref44_statements n program.Kids []).bind fun x9 =>
 some x9
set_option maxHeartbeats 8000000 in
theorem ref44_Check_ok {n : Nat} {program : S_ref43_Node} {ap0_0 : Option Addr} {cp0_0 : Nat} {K : Hp} {r : S_ref44_Fault}
  (hm : ref44_Check n program = some r) (hp0_0 : LiC S_ref43_Node.R K ap0_0 cp0_0 4 program.Kids) :
  Fn Tryd.prog 15 [.agg #[.int .i64 program.Kind, str program.Text, .slice ap0_0 program.Kids.length cp0_0, .int .i64 program.Line]] K [] (fun v K' H' => v = .agg #[.int .i64 r.Line, .int .i64 r.Code] ∧ H' = []) := by
 refine Fn.enter Tryd.func15 Tryd.call15 rfl fun F => ?_
 unfold ref44_Check at hm
 conv => whnf
 refine box_rule ?_
 intro b1
 conv => whnf
 refine alloc_rule rfl ?_
 intro b2
 conv => whnf
 refine RStep.of (loadn_s r1 rfl (Nat.le_of_ble_eq_true rfl) ?_)
 obtain ⟨x4, q4, hm⟩ := bnd hm
 conv => whnf
 refine call_fn (ref43_Valid_ok (n' := program) q4 hp0_0) .nil ?_
 rintro _ K4 _ l4 ⟨rfl, rfl⟩
 conv => whnf
 refine un_not ?_
 conv => whnf
 refine cond_go rfl ?_
 conv => whnf
 refine cond_s (fun w5 => ?_) (fun w5 => ?_)
 ·replace hm := ift (not_t (ni_t w5)) hm
  conv => whnf
  refine build_struct rfl rfl ?_
  conv => whnf
  refine cond_T ?_
  conv => whnf
  refine cond_T ?_
  conv => whnf
  refine store_rule r0 rfl ?_
  conv => whnf
  refine ⟨rfl, rfl, (Nat.le_of_ble_eq_true rfl), ?_⟩
  obtain rfl := si hm
  conv => whnf
  refine RStep.of (loadn_s r0 rfl (Nat.le_of_ble_eq_true rfl) ?_)
  conv => whnf
  refine EndStep.mk _ l4 ⟨rfl, rfl⟩ (ConvH.of (.cons r2 .nil))
 ·replace hm := iff_ (not_f (ni_f w5)) hm
  conv => whnf
  refine field_addr rfl ?_
  conv => whnf
  refine RStep.of (load1_s r1 rfl rfl ?_)
  obtain ⟨x9, q9, hm⟩ := bnd hm
  conv => whnf
  refine call_fn (ref44_statements_ok q9 (LiC.mono S_ref43_Node.R_ok l4 hp0_0) rfl RdC.nil rfl) .nil ?_
  rintro _ K9 _ l9 ⟨rfl, rfl⟩
  conv => whnf
  refine store_rule r0 rfl ?_
  conv => whnf
  refine ⟨rfl, rfl, (Nat.le_of_ble_eq_true rfl), ?_⟩
  obtain rfl := si hm
  conv => whnf
  refine RStep.of (loadn_s r0 rfl (Nat.le_of_ble_eq_true rfl) ?_)
  conv => whnf
  refine EndStep.mk _ (l4.trans l9) ⟨rfl, rfl⟩ (ConvH.of (.cons r2 .nil))

noncomputable def ref44_texts (n : Nat) (n' : S_ref43_Node) (env : (List S_ref44_Binding)) : Option (Bool) :=
 (ref44_expr n n' env).bind fun x10 =>
 some (decide (x10.1 = 1))
set_option maxHeartbeats 8000000 in
theorem ref44_texts_ok {n : Nat} {n' : S_ref43_Node} {env : (List S_ref44_Binding)} {ap0_0 : Option Addr} {cp0_0 : Nat} {ap1_0 : Option Addr} {cp1_0 : Nat} {n1 : Nat} {K : Hp} {r : Bool}
  (hm : ref44_texts n n' env = some r) (hp0_0 : LiC S_ref43_Node.R K ap0_0 cp0_0 4 n'.Kids) (hp1_0 : RdC S_ref44_Binding.enc K ap1_0 cp1_0 2 env) (en1 : n1 = env.length) :
  Fn Tryd.prog 70 [.agg #[.int .i64 n'.Kind, str n'.Text, .slice ap0_0 n'.Kids.length cp0_0, .int .i64 n'.Line], .slice ap1_0 n1 cp1_0] K [] (fun v K' H' => v = .bool r ∧ H' = []) := by
 subst en1
 refine Fn.enter Tryd.func70 Tryd.call70 rfl fun F => ?_
 unfold ref44_texts at hm
 conv => whnf
 refine box_rule ?_
 intro b2
 conv => whnf
 refine RStep.of (loadn_s r0 rfl (Nat.le_of_ble_eq_true rfl) ?_)
 obtain ⟨x10, q10, hm⟩ := bnd hm
 conv => whnf
 refine call_fn (ref44_expr_ok (n' := n') q10 hp0_0 hp1_0 rfl) .nil ?_
 rintro _ K10 _ l10 ⟨rfl, rfl⟩
 conv => whnf
 refine alloc_rule rfl ?_
 intro b6
 conv => whnf
 refine store_rule r0 rfl ?_
 conv => whnf
 refine ⟨rfl, rfl, (Nat.le_of_ble_eq_true rfl), ?_⟩
 conv => whnf
 refine eq_int ?_
 obtain rfl := si hm
 conv => whnf
 refine EndStep.mk _ l10 ⟨rfl, rfl⟩ (ConvH.of (.cons r2 .nil))

noncomputable def ref44_steps_L0 (rec_ : (S_ref43_Node → (List S_ref44_Binding) → Option (Int))) (env : (List S_ref44_Binding)) : List S_ref43_Node → Nat → (List Int) → Int → Option ((List Int) × Int)
 | [], _, y0_0, y0_1 => some (y0_0, y0_1)
 | e0 :: xs0, i0, y0_0, y0_1 =>
  (rec_ e0 env).bind fun x20 =>
  (chk (y0_0.length + [x20].length ≤ lim)).bind fun _ =>
  (chk (InI ((((y0_0 ++ [x20]).length) : Int) - 1))).bind fun _ =>
  (ix (y0_0 ++ [x20]) ((((y0_0 ++ [x20]).length) : Int) - 1)).bind fun x28 =>
  (chk (InI (y0_1 + x28))).bind fun _ =>
  ref44_steps_L0 rec_ env xs0 (i0 + 1) (y0_0 ++ [x20]) (y0_1 + x28)
noncomputable def ref44_steps : Nat → S_ref43_Node → (List S_ref44_Binding) → Option (Int)
 | 0, _, _ => none
 | n + 1, n', env =>
  (chk (n'.Kids.length ≤ szMax)).bind fun _ =>
  (ref44_steps_L0 (ref44_steps n) env n'.Kids 0 [] 0).bind fun t0 =>
  (ref44_texts n n' env).bind fun x34 =>
  if x34 then
  if decide (n'.Kind = 22) then
  some 3
  else
  if decide (n'.Kind = 24) then
  (chk (InI (t0.2 + 1))).bind fun _ =>
  (chk (InI ((t0.2 + 1) + 32))).bind fun _ =>
  some ((t0.2 + 1) + 32)
  else
  if decide (n'.Kind = 17) then
  (chk (InI (t0.2 + 1))).bind fun _ =>
  (chk (InI ((t0.2 + 1) + 32))).bind fun _ =>
  some ((t0.2 + 1) + 32)
  else
  if decide (n'.Kind = 14) then
  (ix t0.1 0).bind fun x49 =>
  (chk (InI (x49 + 1))).bind fun _ =>
  (ix t0.1 1).bind fun x53 =>
  (chk (InI (x53 + 1))).bind fun _ =>
  (chk (InI ((x49 + 1) + (max 3 (x53 + 1))))).bind fun _ =>
  some ((x49 + 1) + (max 3 (x53 + 1)))
  else
  if decide (n'.Kind = 13) then
  (ix t0.1 0).bind fun x61 =>
  (chk (InI (x61 + 1))).bind fun _ =>
  (ix t0.1 1).bind fun x65 =>
  (chk (InI ((x61 + 1) + (max 4 x65)))).bind fun _ =>
  some ((x61 + 1) + (max 4 x65))
  else
  (chk (InI (t0.2 + 1))).bind fun _ =>
  some (t0.2 + 1)
  else
  if decide (n'.Kind = 22) then
  some 3
  else
  if decide (n'.Kind = 24) then
  (chk (InI (t0.2 + 1))).bind fun _ =>
  (chk (InI ((t0.2 + 1) + 0))).bind fun _ =>
  some ((t0.2 + 1) + 0)
  else
  if decide (n'.Kind = 17) then
  (chk (InI (t0.2 + 1))).bind fun _ =>
  (chk (InI ((t0.2 + 1) + 0))).bind fun _ =>
  some ((t0.2 + 1) + 0)
  else
  if decide (n'.Kind = 14) then
  (ix t0.1 0).bind fun x49 =>
  (chk (InI (x49 + 1))).bind fun _ =>
  (ix t0.1 1).bind fun x53 =>
  (chk (InI (x53 + 1))).bind fun _ =>
  (chk (InI ((x49 + 1) + (max 3 (x53 + 1))))).bind fun _ =>
  some ((x49 + 1) + (max 3 (x53 + 1)))
  else
  if decide (n'.Kind = 13) then
  (ix t0.1 0).bind fun x61 =>
  (chk (InI (x61 + 1))).bind fun _ =>
  (ix t0.1 1).bind fun x65 =>
  (chk (InI ((x61 + 1) + (max 4 x65)))).bind fun _ =>
  some ((x61 + 1) + (max 4 x65))
  else
  (chk (InI (t0.2 + 1))).bind fun _ =>
  some (t0.2 + 1)
set_option maxHeartbeats 8000000 in
theorem ref44_steps_ok : ∀ {n : Nat} {n' : S_ref43_Node} {env : (List S_ref44_Binding)} {ap0_0 : Option Addr} {cp0_0 : Nat} {ap1_0 : Option Addr} {cp1_0 : Nat} {n1 : Nat} {K : Hp} {r : Int}
  (hm : ref44_steps n n' env = some r) (hp0_0 : LiC S_ref43_Node.R K ap0_0 cp0_0 4 n'.Kids) (hp1_0 : RdC S_ref44_Binding.enc K ap1_0 cp1_0 2 env) (en1 : n1 = env.length),
  Fn Tryd.prog 56 [.agg #[.int .i64 n'.Kind, str n'.Text, .slice ap0_0 n'.Kids.length cp0_0, .int .i64 n'.Line], .slice ap1_0 n1 cp1_0] K [] (fun v K' H' => v = .int .i64 r ∧ H' = []) := by
 intro n
 induction n with
 | zero =>
  intro n' env ap0_0 cp0_0 ap1_0 cp1_0 n1 K r hm hp0_0 hp1_0 en1
  rw [ref44_steps.eq_1] at hm; cases hm
 | succ n ih =>
  intro n' env ap0_0 cp0_0 ap1_0 cp1_0 n1 K r hm hp0_0 hp1_0 en1
  subst en1
  refine Fn.enter Tryd.func56 Tryd.call56 rfl fun F => ?_
  rw [ref44_steps.eq_2] at hm
  conv => whnf
  refine box_rule ?_
  intro b2
  conv => whnf
  refine field_addr rfl ?_
  conv => whnf
  refine RStep.of (load1_s r0 rfl rfl ?_)
  conv => whnf
  refine RStep.of (len_slice rfl ?_)
  obtain ⟨hk0, hm⟩ := chkb hm
  obtain ⟨s0, hl0, hm⟩ := bnd hm
  conv => whnf
  refine nilC eN 3 1 ?_
  refine code_cut (σ := ((List Int) × Int) × Option Addr × Nat) [5, 6, 8, 13, 14, 15, 16, 17, 18, 19, 20, 21, 22, 23, 24, 25, 26, 27, 28, 29, 30, 31] (fun (t0, t0_a0, t0_c0) => [(5, .slice t0_a0 t0.1.length t0_c0), (6, .int .i64 t0.2)]) (fun (t0, t0_a0, t0_c0) => [OwnL eN t0_a0 3 1 t0_c0 t0.1, Cells b2 24 [.int .i64 n'.Kind, str n'.Text, .slice ap0_0 n'.Kids.length cp0_0, .int .i64 n'.Line], F]) (fun zz K1 => match zz with | (t0, t0_a0, t0_c0) => (0 < t0.1.length → Has t0_a0) ∧ t0 = s0) ?_ ?_
  ·refine block_go rfl ?_
   conv => whnf
   refine loop_rule (σ := Nat × (List Int) × Int × Option Addr × Nat) [5, 6, 8, 13, 14, 15, 16, 17, 18, 19, 20, 21, 22, 23, 24, 25, 26, 27, 28, 29, 30, 31] (fun (i0, y0_0, y0_1, y0_a0, y0_c0) => [(13, .int .i64 (i0 : Int)), (5, .slice y0_a0 y0_0.length y0_c0), (6, .int .i64 y0_1)]) (fun (i0, y0_0, y0_1, y0_a0, y0_c0) => [OwnL eN y0_a0 3 1 y0_c0 y0_0, Cells b2 24 [.int .i64 n'.Kind, str n'.Text, .slice ap0_0 n'.Kids.length cp0_0, .int .i64 n'.Line], F]) (fun zz K1 => match zz with | (i0, y0_0, y0_1, y0_a0, y0_c0) => (0 < y0_0.length → Has y0_a0) ∧ ref44_steps_L0 (ref44_steps n) env (n'.Kids.drop i0) i0 y0_0 y0_1 = some s0) (fun zz => n'.Kids.length - zz.1) (0, [], 0, none, 0) rfl ⟨rfl, rfl, rfl, trivial⟩ (ConvH.of (.cons r0 (.cons r0 (.cons r0 .nil)))) ⟨(fun h => by simp at h), hl0⟩ ?_
   clear hl0
   rintro ⟨i0, y0_0, y0_1, y0_a0, y0_c0⟩ Kb0 lk0 ⟨y0_h0, hl0⟩ j0
   conv => whnf
   refine cond_go rfl ?_
   conv => whnf
   refine cond_s (fun w0 => ?_) (fun w0 => ?_)
   ·obtain ⟨e0, hx0, hd0⟩ := ltx w0
    rw [hd0, ref44_steps_L0.eq_2] at hl0
    conv => whnf
    refine block_go rfl ?_
    conv => whnf
    refine RStep.ofN (index_addr rfl rfl (hasR (LiC.mono S_ref43_Node.R_ok lk0 hp0_0).rd hx0) (nn _) (lt_ofN hx0) ?_)
    obtain ⟨ss16, cc16, hr16, hc16, hR16⟩ := LiR.get (LiC.mono S_ref43_Node.R_ok lk0 hp0_0).rd hx0
    obtain ⟨a16_0, c16_0, rfl, h16_0⟩ := S_ref43_Node.out hR16
    conv => whnf
    refine RStep.of (load_rd_agg i0 _ hr16 rfl hc16 rfl ?_)
    conv => whnf
    refine alloc_rule rfl ?_
    intro b8
    conv => whnf
    refine store_rule r0 rfl ?_
    conv => whnf
    refine ⟨rfl, rfl, (Nat.le_of_ble_eq_true rfl), ?_⟩
    conv => whnf
    refine RStep.of (loadn_s r0 rfl (Nat.le_of_ble_eq_true rfl) ?_)
    obtain ⟨x20, q20, hl0⟩ := bnd hl0
    conv => whnf
    refine call_fn (ih (n' := e0) q20 h16_0 (hp1_0.mono lk0) rfl) .nil ?_
    rintro _ K20 _ l20 ⟨rfl, rfl⟩
    conv => whnf
    refine bsO (len := 1) (enc := eN) (l := [x20]) (cl := [.int .i64 x20]) elT87 rfl rfl (fun _ _ => rfl) rfl rfl rfl ?_ fun b21 => ?_
    ·conv => whnf
     refine cond_T ?_
     conv => whnf
     first | done | rfl
    obtain ⟨h22, hl0⟩ := chkb hl0
    conv => whnf
    refine apE rfl r2 elT87 (src_own' rfl r0 rfl (fun _ => rfl) (fun _ => rfl)) h22 ?_
    intro a22 c22 o22
    conv => whnf
    refine RStep.of (len_slice rfl ?_)
    obtain ⟨h27, hl0⟩ := chkb hl0
    conv => whnf
    refine int_in h27 ?_
    obtain ⟨x28, l28, k28, hl0⟩ := ixb hl0
    conv => whnf
    refine RStep.ofN (index_addr rfl rfl (hasO o22 k28) l28 (lt_ofE rfl l28 k28) ?_)
    conv => whnf
    refine RStep.of (ld_own (i := (((((y0_0 ++ [x20]).length) : Int) - 1)).toNat) (o := 0) r0 rfl k28 rfl rfl ?_)
    obtain ⟨h30, hl0⟩ := chkb hl0
    conv => whnf
    refine int_in h30 ?_
    conv => whnf
    refine int_in (cntz hx0 hk0) ?_
    conv => whnf
    refine RoundStep.mk (i0 + 1, (y0_0 ++ [x20]), (y0_1 + x28), a22, c22) ⟨rfl, rfl, rfl, trivial⟩ (by repeat (first | exact trivial | refine And.intro rfl ?_)) (ConvH.of (.cons r0 (.cons r2 (.cons r2 .nil)))) (lk0.trans l20) (ltm hx0) ⟨o22, hl0⟩
   ·rw [lty w0, ref44_steps_L0.eq_1] at hl0
    conv => whnf
    refine cond_T ?_
    conv => whnf
    refine MeetStep.mk ((y0_0, y0_1), y0_a0, y0_c0) ⟨rfl, rfl, trivial⟩ (by repeat (first | exact trivial | refine And.intro rfl ?_)) (ConvH.of (.cons r0 (.cons r0 (.cons r0 .nil)))) lk0 ⟨y0_h0, (si hl0)⟩
  ·rintro ⟨t0, t0_a0, t0_c0⟩ Kt0 lt0 ⟨t0_h0, rfl⟩ j0
   conv => whnf
   refine RStep.of (loadn_s r1 rfl (Nat.le_of_ble_eq_true rfl) ?_)
   obtain ⟨x34, q34, hm⟩ := bnd hm
   conv => whnf
   refine call_fn (ref44_texts_ok (n' := n') q34 (LiC.mono S_ref43_Node.R_ok lt0 hp0_0) (hp1_0.mono lt0) rfl) .nil ?_
   rintro _ K34 _ l34 ⟨rfl, rfl⟩
   conv => whnf
   refine cond_go rfl ?_
   conv => whnf
   refine cond_s (fun w34 => ?_) (fun w34 => ?_)
   ·replace hm := ift w34 hm
    conv => whnf
    refine field_addr rfl ?_
    conv => whnf
    refine RStep.of (load1_s r1 rfl rfl ?_)
    conv => whnf
    refine block_go rfl ?_
    conv => whnf
    refine eq_int ?_
    conv => whnf
    refine cond_go rfl ?_
    conv => whnf
    refine cond_s (fun w37 => ?_) (fun w37 => ?_)
    ·replace hm := ift w37 hm
     obtain rfl := si hm
     conv => whnf
     refine EndStep.mk _ (lt0.trans l34) ⟨rfl, rfl⟩ (ConvH.of (.cons r2 .nil))
    ·replace hm := iff_ w37 hm
     conv => whnf
     refine eq_int ?_
     conv => whnf
     refine cond_go rfl ?_
     conv => whnf
     refine cond_s (fun w39 => ?_) (fun w39 => ?_)
     ·replace hm := ift w39 hm
      conv => whnf
      refine cond_go rfl ?_
      conv => whnf
      refine cond_t w39 ?_
      obtain ⟨h43, hm⟩ := chkb hm
      conv => whnf
      refine int_in h43 ?_
      obtain ⟨h45, hm⟩ := chkb hm
      conv => whnf
      refine int_in h45 ?_
      obtain rfl := si hm
      conv => whnf
      refine EndStep.mk _ (lt0.trans l34) ⟨rfl, rfl⟩ (ConvH.of (.cons r2 .nil))
     ·replace hm := iff_ w39 hm
      conv => whnf
      refine eq_int ?_
      conv => whnf
      refine cond_go rfl ?_
      conv => whnf
      refine cond_s (fun w39 => ?_) (fun w39 => ?_)
      ·replace hm := ift w39 hm
       obtain ⟨h43, hm⟩ := chkb hm
       conv => whnf
       refine int_in h43 ?_
       obtain ⟨h45, hm⟩ := chkb hm
       conv => whnf
       refine int_in h45 ?_
       obtain rfl := si hm
       conv => whnf
       refine EndStep.mk _ (lt0.trans l34) ⟨rfl, rfl⟩ (ConvH.of (.cons r2 .nil))
      ·replace hm := iff_ w39 hm
       conv => whnf
       refine eq_int ?_
       conv => whnf
       refine cond_go rfl ?_
       conv => whnf
       refine cond_s (fun w46 => ?_) (fun w46 => ?_)
       ·replace hm := ift w46 hm
        conv => whnf
        refine draw_go ⟨⟨[], true⟩, _, []⟩ (by kernel_rfl) ⟨Hp.Le.refl _, (ConvH.of .nil)⟩ ?_
        obtain ⟨x49, l49, k49, hm⟩ := ixb hm
        conv => whnf
        refine index_addr rfl rfl (hasO t0_h0 k49) l49 (lt_ofE rfl l49 k49) ?_
        conv => whnf
        refine ld_own (i := (0 : Int).toNat) (o := 0) r0 rfl k49 rfl rfl ?_
        obtain ⟨h51, hm⟩ := chkb hm
        conv => whnf
        refine int_in h51 ?_
        obtain ⟨x53, l53, k53, hm⟩ := ixb hm
        conv => whnf
        refine index_addr rfl rfl (hasO t0_h0 k53) l53 (lt_ofE rfl l53 k53) ?_
        conv => whnf
        refine ld_own (i := (1 : Int).toNat) (o := 0) r0 rfl k53 rfl rfl ?_
        obtain ⟨h55, hm⟩ := chkb hm
        conv => whnf
        refine int_in h55 ?_
        conv => whnf
        refine max_intN ?_
        obtain ⟨h57, hm⟩ := chkb hm
        conv => whnf
        refine int_in h57 ?_
        obtain rfl := si hm
        conv => whnf
        refine EndStep.mk _ (lt0.trans l34) ⟨rfl, rfl⟩ (ConvH.of (.cons r2 .nil))
       ·replace hm := iff_ w46 hm
        conv => whnf
        refine eq_int ?_
        conv => whnf
        refine cond_go rfl ?_
        conv => whnf
        refine cond_s (fun w58 => ?_) (fun w58 => ?_)
        ·replace hm := ift w58 hm
         conv => whnf
         refine draw_go ⟨⟨[], true⟩, _, []⟩ (by kernel_rfl) ⟨Hp.Le.refl _, (ConvH.of .nil)⟩ ?_
         obtain ⟨x61, l61, k61, hm⟩ := ixb hm
         conv => whnf
         refine index_addr rfl rfl (hasO t0_h0 k61) l61 (lt_ofE rfl l61 k61) ?_
         conv => whnf
         refine ld_own (i := (0 : Int).toNat) (o := 0) r0 rfl k61 rfl rfl ?_
         obtain ⟨h63, hm⟩ := chkb hm
         conv => whnf
         refine int_in h63 ?_
         obtain ⟨x65, l65, k65, hm⟩ := ixb hm
         conv => whnf
         refine index_addr rfl rfl (hasO t0_h0 k65) l65 (lt_ofE rfl l65 k65) ?_
         conv => whnf
         refine ld_own (i := (1 : Int).toNat) (o := 0) r0 rfl k65 rfl rfl ?_
         conv => whnf
         refine max_intN ?_
         obtain ⟨h68, hm⟩ := chkb hm
         conv => whnf
         refine int_in h68 ?_
         obtain rfl := si hm
         conv => whnf
         refine EndStep.mk _ (lt0.trans l34) ⟨rfl, rfl⟩ (ConvH.of (.cons r2 .nil))
        ·replace hm := iff_ w58 hm
         obtain ⟨h70, hm⟩ := chkb hm
         conv => whnf
         refine int_in h70 ?_
         obtain rfl := si hm
         conv => whnf
         refine EndStep.mk _ (lt0.trans l34) ⟨rfl, rfl⟩ (ConvH.of (.cons r2 .nil))
   ·replace hm := iff_ w34 hm
    conv => whnf
    refine field_addr rfl ?_
    conv => whnf
    refine RStep.of (load1_s r1 rfl rfl ?_)
    conv => whnf
    refine block_go rfl ?_
    conv => whnf
    refine eq_int ?_
    conv => whnf
    refine cond_go rfl ?_
    conv => whnf
    refine cond_s (fun w37 => ?_) (fun w37 => ?_)
    ·replace hm := ift w37 hm
     obtain rfl := si hm
     conv => whnf
     refine EndStep.mk _ (lt0.trans l34) ⟨rfl, rfl⟩ (ConvH.of (.cons r2 .nil))
    ·replace hm := iff_ w37 hm
     conv => whnf
     refine eq_int ?_
     conv => whnf
     refine cond_go rfl ?_
     conv => whnf
     refine cond_s (fun w39 => ?_) (fun w39 => ?_)
     ·replace hm := ift w39 hm
      conv => whnf
      refine cond_go rfl ?_
      conv => whnf
      refine cond_t w39 ?_
      obtain ⟨h43, hm⟩ := chkb hm
      conv => whnf
      refine int_in h43 ?_
      obtain ⟨h45, hm⟩ := chkb hm
      conv => whnf
      refine int_in h45 ?_
      obtain rfl := si hm
      conv => whnf
      refine EndStep.mk _ (lt0.trans l34) ⟨rfl, rfl⟩ (ConvH.of (.cons r2 .nil))
     ·replace hm := iff_ w39 hm
      conv => whnf
      refine eq_int ?_
      conv => whnf
      refine cond_go rfl ?_
      conv => whnf
      refine cond_s (fun w39 => ?_) (fun w39 => ?_)
      ·replace hm := ift w39 hm
       obtain ⟨h43, hm⟩ := chkb hm
       conv => whnf
       refine int_in h43 ?_
       obtain ⟨h45, hm⟩ := chkb hm
       conv => whnf
       refine int_in h45 ?_
       obtain rfl := si hm
       conv => whnf
       refine EndStep.mk _ (lt0.trans l34) ⟨rfl, rfl⟩ (ConvH.of (.cons r2 .nil))
      ·replace hm := iff_ w39 hm
       conv => whnf
       refine eq_int ?_
       conv => whnf
       refine cond_go rfl ?_
       conv => whnf
       refine cond_s (fun w46 => ?_) (fun w46 => ?_)
       ·replace hm := ift w46 hm
        conv => whnf
        refine draw_go ⟨⟨[], true⟩, _, []⟩ (by kernel_rfl) ⟨Hp.Le.refl _, (ConvH.of .nil)⟩ ?_
        obtain ⟨x49, l49, k49, hm⟩ := ixb hm
        conv => whnf
        refine index_addr rfl rfl (hasO t0_h0 k49) l49 (lt_ofE rfl l49 k49) ?_
        conv => whnf
        refine ld_own (i := (0 : Int).toNat) (o := 0) r0 rfl k49 rfl rfl ?_
        obtain ⟨h51, hm⟩ := chkb hm
        conv => whnf
        refine int_in h51 ?_
        obtain ⟨x53, l53, k53, hm⟩ := ixb hm
        conv => whnf
        refine index_addr rfl rfl (hasO t0_h0 k53) l53 (lt_ofE rfl l53 k53) ?_
        conv => whnf
        refine ld_own (i := (1 : Int).toNat) (o := 0) r0 rfl k53 rfl rfl ?_
        obtain ⟨h55, hm⟩ := chkb hm
        conv => whnf
        refine int_in h55 ?_
        conv => whnf
        refine max_intN ?_
        obtain ⟨h57, hm⟩ := chkb hm
        conv => whnf
        refine int_in h57 ?_
        obtain rfl := si hm
        conv => whnf
        refine EndStep.mk _ (lt0.trans l34) ⟨rfl, rfl⟩ (ConvH.of (.cons r2 .nil))
       ·replace hm := iff_ w46 hm
        conv => whnf
        refine eq_int ?_
        conv => whnf
        refine cond_go rfl ?_
        conv => whnf
        refine cond_s (fun w58 => ?_) (fun w58 => ?_)
        ·replace hm := ift w58 hm
         conv => whnf
         refine draw_go ⟨⟨[], true⟩, _, []⟩ (by kernel_rfl) ⟨Hp.Le.refl _, (ConvH.of .nil)⟩ ?_
         obtain ⟨x61, l61, k61, hm⟩ := ixb hm
         conv => whnf
         refine index_addr rfl rfl (hasO t0_h0 k61) l61 (lt_ofE rfl l61 k61) ?_
         conv => whnf
         refine ld_own (i := (0 : Int).toNat) (o := 0) r0 rfl k61 rfl rfl ?_
         obtain ⟨h63, hm⟩ := chkb hm
         conv => whnf
         refine int_in h63 ?_
         obtain ⟨x65, l65, k65, hm⟩ := ixb hm
         conv => whnf
         refine index_addr rfl rfl (hasO t0_h0 k65) l65 (lt_ofE rfl l65 k65) ?_
         conv => whnf
         refine ld_own (i := (1 : Int).toNat) (o := 0) r0 rfl k65 rfl rfl ?_
         conv => whnf
         refine max_intN ?_
         obtain ⟨h68, hm⟩ := chkb hm
         conv => whnf
         refine int_in h68 ?_
         obtain rfl := si hm
         conv => whnf
         refine EndStep.mk _ (lt0.trans l34) ⟨rfl, rfl⟩ (ConvH.of (.cons r2 .nil))
        ·replace hm := iff_ w58 hm
         obtain ⟨h70, hm⟩ := chkb hm
         conv => whnf
         refine int_in h70 ?_
         obtain rfl := si hm
         conv => whnf
         refine EndStep.mk _ (lt0.trans l34) ⟨rfl, rfl⟩ (ConvH.of (.cons r2 .nil))

noncomputable def ref44_block_L0 (n : Nat) (rec_ : ((List S_ref43_Node) → (List S_ref44_Binding) → Option (Int))) : List S_ref43_Node → Nat → (List S_ref44_Binding) → Int → Option ((List S_ref44_Binding) × Int)
 | [], _, y0_0, y0_1 => some (y0_0, y0_1)
 | e0 :: xs0, i0, y0_0, y0_1 =>
  if decide ((e0.Kids.length : Int) = 0) then
  (chk (InI (y0_1 + 1))).bind fun _ =>
  ref44_block_L0 n rec_ xs0 (i0 + 1) y0_0 (y0_1 + 1)
  else
  (ix e0.Kids 0).bind fun x28 =>
  (ref44_steps n x28 y0_0).bind fun x31 =>
  (chk (InI (x31 + 1))).bind fun _ =>
  (chk (InI (y0_1 + (x31 + 1)))).bind fun _ =>
  if decide (e0.Kind = 3) then
  (ix e0.Kids 0).bind fun x41 =>
  (ref44_expr n x41 y0_0).bind fun x44 =>
  (chk (y0_0.length ≤ lim)).bind fun _ =>
  (chk (y0_0.length + [(⟨e0.Text, x44.1⟩ : S_ref44_Binding)].length ≤ lim)).bind fun _ =>
  ref44_block_L0 n rec_ xs0 (i0 + 1) (y0_0 ++ [(⟨e0.Text, x44.1⟩ : S_ref44_Binding)]) (y0_1 + (x31 + 1))
  else
  if decide (e0.Kind = 2) then
  (ix e0.Kids 1).bind fun x60 =>
  (rec_ x60.Kids y0_0).bind fun x64 =>
  if decide ((e0.Kids.length : Int) = 3) then
  (chk (InI (x64 + 1))).bind fun _ =>
  (ix e0.Kids 2).bind fun x73 =>
  (ix e0.Kids 2).bind fun x78 =>
  if decide (x78.Kind = 2) then
  (ix e0.Kids 2).bind fun x84 =>
  (rec_ [x84] y0_0).bind fun x89 =>
  (chk (InI ((y0_1 + (x31 + 1)) + (max (x64 + 1) x89)))).bind fun _ =>
  ref44_block_L0 n rec_ xs0 (i0 + 1) y0_0 ((y0_1 + (x31 + 1)) + (max (x64 + 1) x89))
  else
  (rec_ x73.Kids y0_0).bind fun x89 =>
  (chk (InI ((y0_1 + (x31 + 1)) + (max (x64 + 1) x89)))).bind fun _ =>
  ref44_block_L0 n rec_ xs0 (i0 + 1) y0_0 ((y0_1 + (x31 + 1)) + (max (x64 + 1) x89))
  else
  (chk (InI ((y0_1 + (x31 + 1)) + (max x64 0)))).bind fun _ =>
  ref44_block_L0 n rec_ xs0 (i0 + 1) y0_0 ((y0_1 + (x31 + 1)) + (max x64 0))
  else
  ref44_block_L0 n rec_ xs0 (i0 + 1) y0_0 (y0_1 + (x31 + 1))
noncomputable def ref44_block : Nat → (List S_ref43_Node) → (List S_ref44_Binding) → Option (Int)
 | 0, _, _ => none
 | n + 1, list, env =>
  (chk (list.length ≤ szMax)).bind fun _ =>
  (ref44_block_L0 n (ref44_block n) list 0 env 0).bind fun t0 =>
  some t0.2
set_option maxHeartbeats 8000000 in
theorem ref44_block_ok : ∀ {n : Nat} {list : (List S_ref43_Node)} {env : (List S_ref44_Binding)} {ap0_0 : Option Addr} {cp0_0 : Nat} {n0 : Nat} {ap1_0 : Option Addr} {cp1_0 : Nat} {n1 : Nat} {K : Hp} {r : Int}
  (hm : ref44_block n list env = some r) (hp0_0 : LiC S_ref43_Node.R K ap0_0 cp0_0 4 list) (en0 : n0 = list.length) (hp1_0 : RdC S_ref44_Binding.enc K ap1_0 cp1_0 2 env) (en1 : n1 = env.length),
  Fn Tryd.prog 39 [.slice ap0_0 n0 cp0_0, .slice ap1_0 n1 cp1_0] K [] (fun v K' H' => v = .int .i64 r ∧ H' = []) := by
 intro n
 induction n with
 | zero =>
  intro list env ap0_0 cp0_0 n0 ap1_0 cp1_0 n1 K r hm hp0_0 en0 hp1_0 en1
  rw [ref44_block.eq_1] at hm; cases hm
 | succ n ih =>
  intro list env ap0_0 cp0_0 n0 ap1_0 cp1_0 n1 K r hm hp0_0 en0 hp1_0 en1
  subst en0
  subst en1
  refine Fn.enter Tryd.func39 Tryd.call39 rfl fun F => ?_
  rw [ref44_block.eq_2] at hm
  conv => whnf
  refine RStep.of (len_slice rfl ?_)
  obtain ⟨hk0, hm⟩ := chkb hm
  obtain ⟨s0, hl0, hm⟩ := bnd hm
  conv => whnf
  refine code_cut (σ := ((List S_ref44_Binding) × Int) × Option Addr × Nat) [1, 5, 7, 8, 9, 10, 11, 12, 15, 16, 17, 18, 19, 20, 21, 22, 23, 24, 25, 26, 27, 28, 29, 30, 31, 32, 33, 34, 35, 36, 37, 38, 39, 40, 41, 42, 43, 44, 45, 46, 47, 48, 49, 50, 51, 52, 53, 54, 55, 56, 57, 58, 59, 60, 61, 62, 63, 64, 65, 66, 67, 68, 69, 70, 71, 72, 73, 74, 75, 76, 77, 78, 79, 80, 81, 82, 83, 84, 85, 86, 87, 88, 89, 90, 91, 92, 93, 94, 95] (fun (t0, t0_a0, t0_c0) => [(1, .slice t0_a0 t0.1.length t0_c0), (5, .int .i64 t0.2)]) (fun (t0, t0_a0, t0_c0) => [F]) (fun zz K1 => match zz with | (t0, t0_a0, t0_c0) => RdC S_ref44_Binding.enc K1 t0_a0 t0_c0 2 t0.1 ∧ t0 = s0) ?_ ?_
  ·refine block_go rfl ?_
   conv => whnf
   refine loop_rule (σ := Nat × (List S_ref44_Binding) × Int × Option Addr × Nat) [1, 5, 7, 8, 9, 10, 11, 12, 15, 16, 17, 18, 19, 20, 21, 22, 23, 24, 25, 26, 27, 28, 29, 30, 31, 32, 33, 34, 35, 36, 37, 38, 39, 40, 41, 42, 43, 44, 45, 46, 47, 48, 49, 50, 51, 52, 53, 54, 55, 56, 57, 58, 59, 60, 61, 62, 63, 64, 65, 66, 67, 68, 69, 70, 71, 72, 73, 74, 75, 76, 77, 78, 79, 80, 81, 82, 83, 84, 85, 86, 87, 88, 89, 90, 91, 92, 93, 94, 95] (fun (i0, y0_0, y0_1, y0_a0, y0_c0) => [(15, .int .i64 (i0 : Int)), (1, .slice y0_a0 y0_0.length y0_c0), (5, .int .i64 y0_1)]) (fun (i0, y0_0, y0_1, y0_a0, y0_c0) => [F]) (fun zz K1 => match zz with | (i0, y0_0, y0_1, y0_a0, y0_c0) => RdC S_ref44_Binding.enc K1 y0_a0 y0_c0 2 y0_0 ∧ ref44_block_L0 n (ref44_block n) (list.drop i0) i0 y0_0 y0_1 = some s0) (fun zz => list.length - zz.1) (0, env, 0, ap1_0, cp1_0) rfl ⟨rfl, rfl, rfl, trivial⟩ (ConvH.of (.cons r0 .nil)) ⟨hp1_0, hl0⟩ ?_
   clear hl0
   rintro ⟨i0, y0_0, y0_1, y0_a0, y0_c0⟩ Kb0 lk0 ⟨y0_h0, hl0⟩ j0
   conv => whnf
   refine cond_go rfl ?_
   conv => whnf
   refine cond_s (fun w0 => ?_) (fun w0 => ?_)
   ·obtain ⟨e0, hx0, hd0⟩ := ltx w0
    rw [hd0, ref44_block_L0.eq_2] at hl0
    conv => whnf
    refine block_go rfl ?_
    conv => whnf
    refine RStep.ofN (index_addr rfl rfl (hasR (LiC.mono S_ref43_Node.R_ok lk0 hp0_0).rd hx0) (nn _) (lt_ofN hx0) ?_)
    obtain ⟨ss18, cc18, hr18, hc18, hR18⟩ := LiR.get (LiC.mono S_ref43_Node.R_ok lk0 hp0_0).rd hx0
    obtain ⟨a18_0, c18_0, rfl, h18_0⟩ := S_ref43_Node.out hR18
    conv => whnf
    refine RStep.of (load_rd_agg i0 _ hr18 rfl hc18 rfl ?_)
    conv => whnf
    refine alloc_rule rfl ?_
    intro b7
    conv => whnf
    refine store_rule r0 rfl ?_
    conv => whnf
    refine ⟨rfl, rfl, (Nat.le_of_ble_eq_true rfl), ?_⟩
    conv => whnf
    refine field_addr rfl ?_
    conv => whnf
    refine RStep.of (load1_s r0 rfl rfl ?_)
    conv => whnf
    refine RStep.of (len_slice rfl ?_)
    conv => whnf
    refine eq_int ?_
    conv => whnf
    refine cond_go rfl ?_
    conv => whnf
    refine cond_s (fun w22 => ?_) (fun w22 => ?_)
    ·replace hl0 := ift w22 hl0
     obtain ⟨h24, hl0⟩ := chkb hl0
     conv => whnf
     refine int_in h24 ?_
     conv => whnf
     refine cond_T ?_
     conv => whnf
     refine int_in (cntz hx0 hk0) ?_
     conv => whnf
     refine RoundStep.mk (i0 + 1, y0_0, (y0_1 + 1), y0_a0, y0_c0) ⟨rfl, rfl, rfl, trivial⟩ (by repeat (first | exact trivial | refine And.intro rfl ?_)) (ConvH.of (.cons r1 .nil)) lk0 (ltm hx0) ⟨y0_h0, hl0⟩
    ·replace hl0 := iff_ w22 hl0
     conv => whnf
     refine field_addr rfl ?_
     conv => whnf
     refine RStep.of (load1_s r0 rfl rfl ?_)
     obtain ⟨x28, l28, k28, hl0⟩ := ixb hl0
     conv => whnf
     refine RStep.ofN (index_addr rfl rfl (hasR h18_0.rd k28) l28 (lt_ofE rfl l28 k28) ?_)
     obtain ⟨ss29, cc29, hr29, hc29, hR29⟩ := LiR.get h18_0.rd k28
     obtain ⟨a29_0, c29_0, rfl, h29_0⟩ := S_ref43_Node.out hR29
     conv => whnf
     refine RStep.of (load_rd_agg ((0 : Int).toNat) _ hr29 rfl hc29 rfl ?_)
     obtain ⟨x31, q31, hl0⟩ := bnd hl0
     conv => whnf
     refine call_fn (ref44_steps_ok (n' := x28) q31 h29_0 y0_h0 rfl) .nil ?_
     rintro _ K31 _ l31 ⟨rfl, rfl⟩
     obtain ⟨h32, hl0⟩ := chkb hl0
     conv => whnf
     refine int_in h32 ?_
     obtain ⟨h33, hl0⟩ := chkb hl0
     conv => whnf
     refine int_in h33 ?_
     conv => whnf
     refine field_addr rfl ?_
     conv => whnf
     refine RStep.of (load1_s r0 rfl rfl ?_)
     conv => whnf
     refine block_go rfl ?_
     conv => whnf
     refine eq_int ?_
     conv => whnf
     refine cond_go rfl ?_
     conv => whnf
     refine cond_s (fun w36 => ?_) (fun w36 => ?_)
     ·replace hl0 := ift w36 hl0
      conv => whnf
      refine field_addr rfl ?_
      conv => whnf
      refine RStep.of (load1_s r0 rfl rfl ?_)
      obtain ⟨x41, l41, k41, hl0⟩ := ixb hl0
      conv => whnf
      refine RStep.ofN (index_addr rfl rfl (hasR (LiC.mono S_ref43_Node.R_ok l31 h18_0).rd k41) l41 (lt_ofE rfl l41 k41) ?_)
      obtain ⟨ss42, cc42, hr42, hc42, hR42⟩ := LiR.get (LiC.mono S_ref43_Node.R_ok l31 h18_0).rd k41
      obtain ⟨a42_0, c42_0, rfl, h42_0⟩ := S_ref43_Node.out hR42
      conv => whnf
      refine RStep.of (load_rd_agg ((0 : Int).toNat) _ hr42 rfl hc42 rfl ?_)
      obtain ⟨x44, q44, hl0⟩ := bnd hl0
      conv => whnf
      refine call_fn (ref44_expr_ok (n' := x41) q44 h42_0 (y0_h0.mono l31) rfl) .nil ?_
      rintro _ K44 _ l44 ⟨rfl, rfl⟩
      conv => whnf
      refine alloc_rule rfl ?_
      intro b9
      conv => whnf
      refine store_rule r0 rfl ?_
      conv => whnf
      refine ⟨rfl, rfl, (Nat.le_of_ble_eq_true rfl), ?_⟩
      conv => whnf
      refine draw_go_F ⟨⟨[], false⟩, _, [(_, _)]⟩ 10 rfl (by kernel_rfl) ⟨Hp.Le.refl _, (ConvH.of (.cons r1 .nil))⟩ ?_
      conv => whnf
      refine bsA (cl := []) elT54 rfl rfl ?_ fun b47 => ?_
      ·conv => whnf
       first | done | rfl
      conv => whnf
      intro GG2
      obtain ⟨h49, hl0⟩ := chkb hl0
      conv => whnf
      refine ape (enc := S_ref44_Binding.enc) r0 elT54 (src_k rfl (y0_h0.mono (l31.trans l44)).rd rfl) h49 ?_
      intro a49 c49 o49
      conv => whnf
      refine ⟨⟨(Hp.Le.refl _), (ConvH.of (.cons r2 .nil))⟩, ?_⟩
      refine ⟨_, .cons r4 .nil, ⟨(Hp.Le.refl _), (ConvH.of (.cons r2 .nil))⟩, ?_⟩
      conv => whnf
      refine field_addr rfl ?_
      conv => whnf
      refine load1_l m0 rfl rfl ?_
      conv => whnf
      refine build_struct rfl rfl ?_
      conv => whnf
      refine cond_T ?_
      conv => whnf
      refine cond_T ?_
      conv => whnf
      refine bsA (cl := [str e0.Text, .int .i64 x44.1]) elT54 rfl rfl ?_ fun b54 => ?_
      ·conv => whnf
       refine cond_T ?_
       conv => whnf
       first | done | rfl
      conv => whnf
      intro GG8
      obtain ⟨h55, hl0⟩ := chkb hl0
      conv => whnf
      refine apE rfl r1 elT54 (src_lit rfl r0 rfl rfl (fun _ _ => rfl) rfl) h55 ?_
      intro a55 c55 o55
      conv => whnf
      refine ⟨⟨(Hp.Le.refl _), (ConvH.of (.cons r3 .nil))⟩, ?_⟩
      refine ⟨_, .cons r5 .nil, ⟨(Hp.Le.refl _), (ConvH.of (.cons r3 .nil))⟩, ?_⟩
      conv => whnf
      refine int_in (cntz hx0 hk0) ?_
      conv => whnf
      refine fRo r0 fun Kr0_0 lr0_0 fr0_0 => ?_
      refine RoundStep.mk (i0 + 1, (y0_0 ++ [(⟨e0.Text, x44.1⟩ : S_ref44_Binding)]), (y0_1 + (x31 + 1)), a55, c55) ⟨rfl, rfl, rfl, trivial⟩ (by repeat (first | exact trivial | refine And.intro rfl ?_)) (ConvH.of (.cons r3 .nil)) (((lk0.trans l31).trans l44).trans lr0_0) (ltm hx0) ⟨fr0_0, hl0⟩
     ·replace hl0 := iff_ w36 hl0
      conv => whnf
      refine eq_int ?_
      conv => whnf
      refine cond_go rfl ?_
      conv => whnf
      refine cond_s (fun w56 => ?_) (fun w56 => ?_)
      ·replace hl0 := ift w56 hl0
       conv => whnf
       refine field_addr rfl ?_
       conv => whnf
       refine RStep.of (load1_s r0 rfl rfl ?_)
       obtain ⟨x60, l60, k60, hl0⟩ := ixb hl0
       conv => whnf
       refine RStep.ofN (index_addr rfl rfl (hasR (LiC.mono S_ref43_Node.R_ok l31 h18_0).rd k60) l60 (lt_ofE rfl l60 k60) ?_)
       conv => whnf
       refine eptr_field rfl (hasR (LiC.mono S_ref43_Node.R_ok l31 h18_0).rd k60) ?_
       obtain ⟨ss62, cc62, hr62, hc62, hR62⟩ := LiR.get (LiC.mono S_ref43_Node.R_ok l31 h18_0).rd k60
       obtain ⟨a62_0, c62_0, rfl, h62_0⟩ := S_ref43_Node.out hR62
       conv => whnf
       refine RStep.of (load_rd ((1 : Int).toNat) 2 _ _ hr62 rfl hc62 rfl rfl ?_)
       obtain ⟨x64, q64, hl0⟩ := bnd hl0
       conv => whnf
       refine call_fn (ih q64 h62_0 rfl (y0_h0.mono l31) rfl) .nil ?_
       rintro _ K64 _ l64 ⟨rfl, rfl⟩
       conv => whnf
       refine field_addr rfl ?_
       conv => whnf
       refine RStep.of (load1_s r0 rfl rfl ?_)
       conv => whnf
       refine RStep.of (len_slice rfl ?_)
       conv => whnf
       refine eq_int ?_
       conv => whnf
       refine cond_go rfl ?_
       conv => whnf
       refine cond_s (fun w68 => ?_) (fun w68 => ?_)
       ·replace hl0 := ift w68 hl0
        obtain ⟨h70, hl0⟩ := chkb hl0
        conv => whnf
        refine int_in h70 ?_
        conv => whnf
        refine field_addr rfl ?_
        conv => whnf
        refine RStep.of (load1_s r0 rfl rfl ?_)
        obtain ⟨x73, l73, k73, hl0⟩ := ixb hl0
        conv => whnf
        refine RStep.ofN (index_addr rfl rfl (hasR (LiC.mono S_ref43_Node.R_ok (l31.trans l64) h18_0).rd k73) l73 (lt_ofE rfl l73 k73) ?_)
        conv => whnf
        refine eptr_field rfl (hasR (LiC.mono S_ref43_Node.R_ok (l31.trans l64) h18_0).rd k73) ?_
        obtain ⟨ss75, cc75, hr75, hc75, hR75⟩ := LiR.get (LiC.mono S_ref43_Node.R_ok (l31.trans l64) h18_0).rd k73
        obtain ⟨a75_0, c75_0, rfl, h75_0⟩ := S_ref43_Node.out hR75
        conv => whnf
        refine RStep.of (load_rd ((2 : Int).toNat) 2 _ _ hr75 rfl hc75 rfl rfl ?_)
        conv => whnf
        refine field_addr rfl ?_
        conv => whnf
        refine RStep.of (load1_s r0 rfl rfl ?_)
        obtain ⟨x78, l78, k78, hl0⟩ := ixb hl0
        conv => whnf
        refine RStep.ofN (index_addr rfl rfl (hasR (LiC.mono S_ref43_Node.R_ok (l31.trans l64) h18_0).rd k78) l78 (lt_ofE rfl l78 k78) ?_)
        conv => whnf
        refine eptr_field rfl (hasR (LiC.mono S_ref43_Node.R_ok (l31.trans l64) h18_0).rd k78) ?_
        obtain ⟨ss80, cc80, hr80, hc80, hR80⟩ := LiR.get (LiC.mono S_ref43_Node.R_ok (l31.trans l64) h18_0).rd k78
        obtain ⟨a80_0, c80_0, rfl, h80_0⟩ := S_ref43_Node.out hR80
        conv => whnf
        refine RStep.of (load_rd ((2 : Int).toNat) 0 _ _ hr80 rfl hc80 rfl rfl ?_)
        conv => whnf
        refine eq_int ?_
        conv => whnf
        refine cond_go rfl ?_
        conv => whnf
        refine cond_s (fun w81 => ?_) (fun w81 => ?_)
        ·replace hl0 := ift w81 hl0
         conv => whnf
         refine field_addr rfl ?_
         conv => whnf
         refine RStep.of (load1_s r0 rfl rfl ?_)
         obtain ⟨x84, l84, k84, hl0⟩ := ixb hl0
         conv => whnf
         refine RStep.ofN (index_addr rfl rfl (hasR (LiC.mono S_ref43_Node.R_ok (l31.trans l64) h18_0).rd k84) l84 (lt_ofE rfl l84 k84) ?_)
         obtain ⟨ss85, cc85, hr85, hc85, hR85⟩ := LiR.get (LiC.mono S_ref43_Node.R_ok (l31.trans l64) h18_0).rd k84
         obtain ⟨a85_0, c85_0, rfl, h85_0⟩ := S_ref43_Node.out hR85
         conv => whnf
         refine RStep.of (load_rd_agg ((2 : Int).toNat) _ hr85 rfl hc85 rfl ?_)
         conv => whnf
         refine bsOR (len := 1) (l := [x84]) (css := [[.int .i64 x84.Kind, str x84.Text, .slice a85_0 x84.Kids.length c85_0, .int .i64 x84.Line]]) (cl := [.int .i64 x84.Kind, str x84.Text, .slice a85_0 x84.Kids.length c85_0, .int .i64 x84.Line]) S_ref43_Node.R_ok elT22 rfl rfl (LR.snoc LR.nil (S_ref43_Node.of ⟨a85_0, c85_0, rfl, h85_0⟩)) rfl rfl rfl ?_ fun b86 => ?_
         ·conv => whnf
          refine cond_T ?_
          conv => whnf
          first | done | rfl
         obtain ⟨x89, q89, hl0⟩ := bnd hl0
         conv => whnf
         refine call_fn (Fn.lendR S_ref43_Node.R_ok (show LR S_ref43_Node.R _ [[.int .i64 x84.Kind, str x84.Text, .slice a85_0 x84.Kids.length c85_0, .int .i64 x84.Line]] [x84] from (LR.snoc LR.nil (S_ref43_Node.of ⟨a85_0, c85_0, rfl, h85_0⟩))) Tryd.call39 (fun K89_0 l89_0 f89_0 => (ih q89 f89_0 rfl (y0_h0.mono ((l31.trans l64).trans l89_0)) rfl)) (by exact fun _ _ _ _ h => h)) (.cons r0 .nil) ?_
         rintro _ K89 _ l89 ⟨_, rfl, rfl, rfl⟩
         conv => whnf
         refine RStep.of (max_int ?_)
         obtain ⟨h94, hl0⟩ := chkb hl0
         conv => whnf
         refine int_in h94 ?_
         conv => whnf
         refine int_in (cntz hx0 hk0) ?_
         conv => whnf
         refine RoundStep.mk (i0 + 1, y0_0, ((y0_1 + (x31 + 1)) + (max (x64 + 1) x89)), y0_a0, y0_c0) ⟨rfl, rfl, rfl, trivial⟩ (by repeat (first | exact trivial | refine And.intro rfl ?_)) (ConvH.of (.cons r2 .nil)) (((lk0.trans l31).trans l64).trans l89) (ltm hx0) ⟨(y0_h0.mono ((l31.trans l64).trans l89)), hl0⟩
        ·replace hl0 := iff_ w81 hl0
         obtain ⟨x89, q89, hl0⟩ := bnd hl0
         conv => whnf
         refine call_fn (ih q89 h75_0 rfl (y0_h0.mono (l31.trans l64)) rfl) .nil ?_
         rintro _ K89 _ l89 ⟨rfl, rfl⟩
         conv => whnf
         refine RStep.of (max_int ?_)
         obtain ⟨h94, hl0⟩ := chkb hl0
         conv => whnf
         refine int_in h94 ?_
         conv => whnf
         refine int_in (cntz hx0 hk0) ?_
         conv => whnf
         refine RoundStep.mk (i0 + 1, y0_0, ((y0_1 + (x31 + 1)) + (max (x64 + 1) x89)), y0_a0, y0_c0) ⟨rfl, rfl, rfl, trivial⟩ (by repeat (first | exact trivial | refine And.intro rfl ?_)) (ConvH.of (.cons r1 .nil)) (((lk0.trans l31).trans l64).trans l89) (ltm hx0) ⟨(y0_h0.mono ((l31.trans l64).trans l89)), hl0⟩
       ·replace hl0 := iff_ w68 hl0
        conv => whnf
        refine RStep.of (max_int ?_)
        obtain ⟨h94, hl0⟩ := chkb hl0
        conv => whnf
        refine int_in h94 ?_
        conv => whnf
        refine int_in (cntz hx0 hk0) ?_
        conv => whnf
        refine RoundStep.mk (i0 + 1, y0_0, ((y0_1 + (x31 + 1)) + (max x64 0)), y0_a0, y0_c0) ⟨rfl, rfl, rfl, trivial⟩ (by repeat (first | exact trivial | refine And.intro rfl ?_)) (ConvH.of (.cons r1 .nil)) ((lk0.trans l31).trans l64) (ltm hx0) ⟨(y0_h0.mono (l31.trans l64)), hl0⟩
      ·replace hl0 := iff_ w56 hl0
       conv => whnf
       refine int_in (cntz hx0 hk0) ?_
       conv => whnf
       refine RoundStep.mk (i0 + 1, y0_0, (y0_1 + (x31 + 1)), y0_a0, y0_c0) ⟨rfl, rfl, rfl, trivial⟩ (by repeat (first | exact trivial | refine And.intro rfl ?_)) (ConvH.of (.cons r1 .nil)) (lk0.trans l31) (ltm hx0) ⟨(y0_h0.mono l31), hl0⟩
   ·rw [lty w0, ref44_block_L0.eq_1] at hl0
    conv => whnf
    refine cond_T ?_
    conv => whnf
    refine MeetStep.mk ((y0_0, y0_1), y0_a0, y0_c0) ⟨rfl, rfl, trivial⟩ (by repeat (first | exact trivial | refine And.intro rfl ?_)) (ConvH.of (.cons r0 .nil)) lk0 ⟨y0_h0, (si hl0)⟩
  ·rintro ⟨t0, t0_a0, t0_c0⟩ Kt0 lt0 ⟨t0_h0, rfl⟩ j0
   obtain rfl := si hm
   conv => whnf
   refine EndStep.mk _ lt0 ⟨rfl, rfl⟩ (ConvH.of (.cons r0 .nil))

noncomputable def ref44_Worst (n : Nat) (program : S_ref43_Node) : Option (Int × Int) :=
 (ref44_Check n program).bind fun x6 =>
 if decide (x6.Code ≠ 0) then
 some (0, x6.Code)
 else
 (ref44_block n program.Kids []).bind fun x14 =>
 (chk (InI (x14 + 1))).bind fun _ =>
 some ((x14 + 1), 0)
set_option maxHeartbeats 8000000 in
theorem ref44_Worst_ok {n : Nat} {program : S_ref43_Node} {ap0_0 : Option Addr} {cp0_0 : Nat} {K : Hp} {r : Int × Int}
  (hm : ref44_Worst n program = some r) (hp0_0 : LiC S_ref43_Node.R K ap0_0 cp0_0 4 program.Kids) :
  Fn Tryd.prog 30 [.agg #[.int .i64 program.Kind, str program.Text, .slice ap0_0 program.Kids.length cp0_0, .int .i64 program.Line]] K [] (fun v K' H' => v = .tuple #[.int .i64 r.1, .int .i64 r.2] ∧ H' = []) := by
 refine Fn.enter Tryd.func30 Tryd.call30 rfl fun F => ?_
 unfold ref44_Worst at hm
 conv => whnf
 refine box_rule ?_
 intro b1
 conv => whnf
 refine RStep.of (loadn_s r0 rfl (Nat.le_of_ble_eq_true rfl) ?_)
 obtain ⟨x6, q6, hm⟩ := bnd hm
 conv => whnf
 refine call_fn (ref44_Check_ok (program := program) q6 hp0_0) .nil ?_
 rintro _ K6 _ l6 ⟨rfl, rfl⟩
 conv => whnf
 refine alloc_rule rfl ?_
 intro b4
 conv => whnf
 refine store_rule r0 rfl ?_
 conv => whnf
 refine ⟨rfl, rfl, (Nat.le_of_ble_eq_true rfl), ?_⟩
 conv => whnf
 refine field_addr rfl ?_
 conv => whnf
 refine RStep.of (load1_s r0 rfl rfl ?_)
 conv => whnf
 refine neq_int ?_
 conv => whnf
 refine cond_go rfl ?_
 conv => whnf
 refine cond_s (fun w9 => ?_) (fun w9 => ?_)
 ·replace hm := ift w9 hm
  conv => whnf
  refine draw_go ⟨⟨[], false⟩, _, [(_, _)]⟩ (by kernel_rfl) ⟨Hp.Le.refl _, (ConvH.of (.cons r0 .nil))⟩ ?_
  conv => whnf
  refine field_addr rfl ?_
  conv => whnf
  refine load1_l m0 rfl rfl ?_
  obtain rfl := si hm
  conv => whnf
  refine EndStep.mk _ l6 ⟨rfl, rfl⟩ (ConvH.of (.cons r2 .nil))
 ·replace hm := iff_ w9 hm
  conv => whnf
  refine field_addr rfl ?_
  conv => whnf
  refine RStep.of (load1_s r1 rfl rfl ?_)
  obtain ⟨x14, q14, hm⟩ := bnd hm
  conv => whnf
  refine call_fn (ref44_block_ok q14 (LiC.mono S_ref43_Node.R_ok l6 hp0_0) rfl RdC.nil rfl) .nil ?_
  rintro _ K14 _ l14 ⟨rfl, rfl⟩
  obtain ⟨h15, hm⟩ := chkb hm
  conv => whnf
  refine int_in h15 ?_
  obtain rfl := si hm
  conv => whnf
  refine EndStep.mk _ (l6.trans l14) ⟨rfl, rfl⟩ (ConvH.of (.cons r2 .nil))

noncomputable def law44_RuletypeWorst (n : Nat) (n' : S_ref43_Node) : Option (Bool) :=
 (law44_Large n n').bind fun x8 =>
 (if x8 then some true else (law44_awake n).bind fun x10 =>
 some (!x10)).bind fun x12 =>
 if x12 then
 (law44_Large n n').bind fun x14 =>
 some x14
 else
 (law43_Of n n').bind fun x17 =>
 (ruletype_Worst n x17).bind fun x18 =>
 (ref44_Worst n n').bind fun x23 =>
 (if decide (x18.1 = x23.1) then (base_Num x18.2).bind fun x31 =>
 some (decide (x31 = x23.2)) else some false).bind fun x34 =>
 some x34
set_option maxHeartbeats 8000000 in
theorem law44_RuletypeWorst_ok {n : Nat} {n' : S_ref43_Node} {ap0_0 : Option Addr} {cp0_0 : Nat} {K : Hp} {r : Bool}
  (hm : law44_RuletypeWorst n n' = some r) (hp0_0 : LiC S_ref43_Node.R K ap0_0 cp0_0 4 n'.Kids) (hG0 : GlL eS 1 0 gkw0 K) :
  Fn Tryd.prog 9 [.agg #[.int .i64 n'.Kind, str n'.Text, .slice ap0_0 n'.Kids.length cp0_0, .int .i64 n'.Line]] K [] (fun v K' H' => v = .bool r ∧ H' = []) := by
 obtain ⟨ga0, gn0, gc0, gn_, gs0, gd0⟩ := id hG0
 subst gn_
 refine Fn.enter Tryd.func9 Tryd.call9 rfl fun F => ?_
 unfold law44_RuletypeWorst at hm
 conv => whnf
 refine box_rule ?_
 intro b1
 conv => whnf
 refine RStep.of (loadn_s r0 rfl (Nat.le_of_ble_eq_true rfl) ?_)
 obtain ⟨x8, q8, hm⟩ := bnd hm
 conv => whnf
 refine call_fn (law44_Large_ok (n' := n') q8 hp0_0) .nil ?_
 rintro _ K8 _ l8 ⟨rfl, rfl⟩
 obtain ⟨x12, e12, hm⟩ := bnd hm
 conv => whnf
 refine cond_s (fun g9_1 => ?_) (fun g9_1 => ?_)
 ·replace e12 := ift g9_1 e12
  conv => whnf
  refine cond_t g9_1 ?_
  conv => whnf
  refine cond_t g9_1 ?_
  conv => whnf
  refine cond_go rfl ?_
  conv => whnf
  refine cond_T ?_
  replace hm := ift (si e12).symm hm
  conv => whnf
  refine RStep.of (loadn_s r0 rfl (Nat.le_of_ble_eq_true rfl) ?_)
  obtain ⟨x14, q14, hm⟩ := bnd hm
  conv => whnf
  refine call_fn (law44_Large_ok (n' := n') q14 (LiC.mono S_ref43_Node.R_ok l8 hp0_0)) .nil ?_
  rintro _ K14 _ l14 ⟨rfl, rfl⟩
  obtain rfl := si hm
  conv => whnf
  refine EndStep.mk _ (l8.trans l14) ⟨rfl, rfl⟩ (ConvH.of (.cons r1 .nil))
 ·replace e12 := iff_ g9_1 e12
  obtain ⟨x10, q10, e12⟩ := bnd e12
  conv => whnf
  refine call_fn (law44_awake_ok q10 (hG0.mono l8)) .nil ?_
  rintro _ K10 _ l10 ⟨rfl, rfl⟩
  conv => whnf
  refine cond_f g9_1 ?_
  conv => whnf
  refine un_not ?_
  conv => whnf
  refine cond_f g9_1 ?_
  conv => whnf
  refine cond_go rfl ?_
  conv => whnf
  refine cond_s (fun w12 => ?_) (fun w12 => ?_)
  ·replace hm := ift ((si e12).symm.trans (not_t (ni_t w12))) hm
   conv => whnf
   refine RStep.of (loadn_s r0 rfl (Nat.le_of_ble_eq_true rfl) ?_)
   obtain ⟨x14, q14, hm⟩ := bnd hm
   conv => whnf
   refine call_fn (law44_Large_ok (n' := n') q14 (LiC.mono S_ref43_Node.R_ok (l8.trans l10) hp0_0)) .nil ?_
   rintro _ K14 _ l14 ⟨rfl, rfl⟩
   obtain rfl := si hm
   conv => whnf
   refine EndStep.mk _ ((l8.trans l10).trans l14) ⟨rfl, rfl⟩ (ConvH.of (.cons r1 .nil))
  ·replace hm := iff_ ((si e12).symm.trans (not_f (ni_f w12))) hm
   conv => whnf
   refine RStep.of (loadn_s r0 rfl (Nat.le_of_ble_eq_true rfl) ?_)
   obtain ⟨x17, q17, hm⟩ := bnd hm
   conv => whnf
   refine call_fn (law43_Of_ok (n' := n') q17 (LiC.mono S_ref43_Node.R_ok (l8.trans l10) hp0_0)) .nil ?_
   rintro _ K17 _ l17 ⟨a17_0, c17_0, s17_0, rfl, h17_0, r17_0, rfl⟩
   obtain ⟨x18, q18, hm⟩ := bnd hm
   conv => whnf
   refine fzFR Tryd.call29 S_ruletree_Node.R_ok r0 r17_0 fun Kf18_0_0 lf18_0_0 ff18_0_0 => ?_
   refine call_fn (ruletype_Worst_ok (program := x17) q18 ff18_0_0 (hG0.mono (((l8.trans l10).trans l17).trans lf18_0_0))) .nil ?_
   rintro _ K18 _ l18 ⟨rfl, rfl⟩
   conv => whnf
   refine RStep.of (loadn_s r0 rfl (Nat.le_of_ble_eq_true rfl) ?_)
   obtain ⟨x23, q23, hm⟩ := bnd hm
   conv => whnf
   refine call_fn (ref44_Worst_ok (program := n') q23 (LiC.mono S_ref43_Node.R_ok ((((l8.trans l10).trans l17).trans lf18_0_0).trans l18) hp0_0)) .nil ?_
   rintro _ K23 _ l23 ⟨rfl, rfl⟩
   conv => whnf
   refine eq_int ?_
   obtain ⟨x34, e34, hm⟩ := bnd hm
   conv => whnf
   refine cond_s (fun g29_5 => ?_) (fun g29_5 => ?_)
   ·replace e34 := ift g29_5 e34
    conv => whnf
    refine cond_t g29_5 ?_
    obtain ⟨x31, q31, e34⟩ := bnd e34
    conv => whnf
    refine call_fn (base_Num_ok (e := x18.2) q31) .nil ?_
    rintro _ K31 _ l31 ⟨rfl, rfl⟩
    conv => whnf
    refine cond_t g29_5 ?_
    conv => whnf
    refine cond_t g29_5 ?_
    conv => whnf
    refine eq_int ?_
    conv => whnf
    refine cond_t g29_5 ?_
    obtain rfl := si hm
    conv => whnf
    refine EndStep.mk _ ((((((l8.trans l10).trans l17).trans lf18_0_0).trans l18).trans l23).trans l31) ⟨(by rw [← (si e34)] <;> rfl), rfl⟩ (ConvH.of (.cons r1 .nil))
   ·replace e34 := iff_ g29_5 e34
    conv => whnf
    refine cond_f g29_5 ?_
    conv => whnf
    refine cond_f g29_5 ?_
    conv => whnf
    refine cond_f g29_5 ?_
    conv => whnf
    refine cond_f g29_5 ?_
    obtain rfl := si hm
    conv => whnf
    refine EndStep.mk _ (((((l8.trans l10).trans l17).trans lf18_0_0).trans l18).trans l23) ⟨(by rw [← ((si e34).symm).symm] <;> rfl), rfl⟩ (ConvH.of (.cons r1 .nil))
