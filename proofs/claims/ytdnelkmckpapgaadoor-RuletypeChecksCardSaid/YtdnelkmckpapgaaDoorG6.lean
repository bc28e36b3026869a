/- Functions of the program: mirrors, and that a call returns what the mirror says. Printed by gen.py. -/
import Derived.Test.YtdnelkmckpapgaaDoorG5
set_option linter.unusedVariables false
set_option linter.unusedSimpArgs false
open Go Go.SL Go.Proofs
set_option maxRecDepth 1000000
noncomputable def ref44_statements_L3 (rec_ : ((List S_ref43_Node) → (List S_ref44_Binding) → Option (S_ref44_Fault))) (y0_0 : (List S_ref44_Binding)) : List S_ref43_Node → Nat → Option (Fl (S_ref44_Fault) (Unit))
 | [], _ => some (Fl.go ())
 | e3 :: xs3, i3 =>
  if decide (e3.Kind = 2) then
  (rec_ [e3] y0_0).bind fun x90 =>
  if decide (x90.Code ≠ 0) then
  some (Fl.ret x90)
  else
  ref44_statements_L3 rec_ y0_0 xs3 (i3 + 1)
  else
  (rec_ e3.Kids y0_0).bind fun x90 =>
  if decide (x90.Code ≠ 0) then
  some (Fl.ret x90)
  else
  ref44_statements_L3 rec_ y0_0 xs3 (i3 + 1)
noncomputable def ref44_statements_L0 (n : Nat) (rec_ : ((List S_ref43_Node) → (List S_ref44_Binding) → Option (S_ref44_Fault))) : List S_ref43_Node → Nat → (List S_ref44_Binding) → Option (Fl (S_ref44_Fault) ((List S_ref44_Binding)))
 | [], _, y0_0 => some (Fl.go y0_0)
 | e0 :: xs0, i0, y0_0 =>
  if decide ((e0.Kids.length : Int) = 0) then
  ref44_statements_L0 n rec_ xs0 (i0 + 1) y0_0
  else
  (ix e0.Kids 0).bind fun x27 =>
  (ref44_expr n x27 y0_0).bind fun x30 =>
  if decide (x30.2.Code ≠ 0) then
  some (Fl.ret x30.2)
  else
  (ref44_needs e0.Kind).bind fun x39 =>
  if (decide (x39 ≠ 0) && decide (x39 ≠ x30.1)) then
  some (Fl.ret (⟨e0.Line, 9⟩ : S_ref44_Fault))
  else
  if decide (e0.Kind = 3) then
  (ref44_lookup n e0.Text y0_0).bind fun x57 =>
  if decide (x57 ≠ 0) then
  some (Fl.ret (⟨e0.Line, 4⟩ : S_ref44_Fault))
  else
  (chk (y0_0.length ≤ lim)).bind fun _ =>
  (chk (y0_0.length + [(⟨e0.Text, x30.1⟩ : S_ref44_Binding)].length ≤ lim)).bind fun _ =>
  ref44_statements_L0 n rec_ xs0 (i0 + 1) (y0_0 ++ [(⟨e0.Text, x30.1⟩ : S_ref44_Binding)])
  else
  if decide (e0.Kind = 2) then
  (chk (0 ≤ (1 : Int) ∧ (1 : Int) ≤ (e0.Kids.length : Int) ∧ (e0.Kids.length : Int) ≤ (e0.Kids.length : Int))).bind fun _ =>
  (chk ((subL e0.Kids (1 : Int) (e0.Kids.length : Int)).length ≤ szMax)).bind fun _ =>
  (ref44_statements_L3 rec_ y0_0 (subL e0.Kids (1 : Int) (e0.Kids.length : Int)) 0).bind fun s3 => s3.el (fun r => some (Fl.ret r)) fun t3 =>
  ref44_statements_L0 n rec_ xs0 (i0 + 1) y0_0
  else
  ref44_statements_L0 n rec_ xs0 (i0 + 1) y0_0
noncomputable def ref44_statements : Nat → (List S_ref43_Node) → (List S_ref44_Binding) → Option (S_ref44_Fault)
 | 0, _, _ => none
 | n + 1, list, env =>
  (chk (list.length ≤ szMax)).bind fun _ =>
  (ref44_statements_L0 n (ref44_statements n) list 0 env).bind fun s0 => s0.el some fun t0 =>
  some (⟨0, 0⟩ : S_ref44_Fault)
set_option maxHeartbeats 8000000 in
theorem ref44_statements_ok : ∀ {n : Nat} {list : (List S_ref43_Node)} {env : (List S_ref44_Binding)} {ap0_0 : Option Addr} {cp0_0 : Nat} {n0 : Nat} {ap1_0 : Option Addr} {cp1_0 : Nat} {n1 : Nat} {K : Hp} {r : S_ref44_Fault}
  (hm : ref44_statements n list env = some r) (hp0_0 : LiC S_ref43_Node.R K ap0_0 cp0_0 4 list) (en0 : n0 = list.length) (hp1_0 : RdC S_ref44_Binding.enc K ap1_0 cp1_0 2 env) (en1 : n1 = env.length),
  Fn Tryd.prog 34 [.slice ap0_0 n0 cp0_0, .slice ap1_0 n1 cp1_0] K [] (fun v K' H' => v = .agg #[.int .i64 r.Line, .int .i64 r.Code] ∧ H' = []) := by
 intro n
 induction n with
 | zero =>
  intro list env ap0_0 cp0_0 n0 ap1_0 cp1_0 n1 K r hm hp0_0 en0 hp1_0 en1
  rw [ref44_statements.eq_1] at hm; cases hm
 | succ n ih =>
  intro list env ap0_0 cp0_0 n0 ap1_0 cp1_0 n1 K r hm hp0_0 en0 hp1_0 en1
  subst en0
  subst en1
  refine Fn.enter Tryd.func34 Tryd.call34 rfl fun F => ?_
  rw [ref44_statements.eq_2] at hm
  conv => whnf
  refine alloc_rule rfl ?_
  intro b4
  conv => whnf
  refine RStep.of (len_slice rfl ?_)
  obtain ⟨hk0, hm⟩ := chkb hm
  obtain ⟨s0, hl0, hm⟩ := bnd hm
  conv => whnf
  refine code_cut (σ := ((List S_ref44_Binding)) × Option Addr × Nat) [1, 6, 7, 8, 9, 11, 12, 13, 16, 17, 18, 19, 20, 21, 22, 23, 24, 25, 26, 27, 28, 29, 30, 31, 32, 33, 34, 35, 36, 37, 38, 39, 40, 41, 42, 43, 44, 45, 46, 47, 48, 49, 50, 51, 52, 53, 54, 55, 56, 57, 58, 59, 60, 61, 62, 63, 64, 65, 66, 67, 68, 69, 70, 71, 72, 73, 74, 75, 76, 77, 78, 79, 80, 81, 82, 83, 84, 85, 86, 87, 88, 89, 90, 91, 92, 93, 94, 95, 96] (fun (t0, t0_a0, t0_c0) => [(1, .slice t0_a0 t0.length t0_c0)]) (fun (t0, t0_a0, t0_c0) => [Cells b4 36 [.int .i64 0, .int .i64 0], F]) (fun zz K1 => match zz with | (t0, t0_a0, t0_c0) => RdC S_ref44_Binding.enc K1 t0_a0 t0_c0 2 t0 ∧ s0 = Fl.go t0) ?_ ?_
  ·refine block_go rfl ?_
   conv => whnf
   refine loop_rule (σ := Nat × (List S_ref44_Binding) × Option Addr × Nat) [1, 6, 7, 8, 9, 11, 12, 13, 16, 17, 18, 19, 20, 21, 22, 23, 24, 25, 26, 27, 28, 29, 30, 31, 32, 33, 34, 35, 36, 37, 38, 39, 40, 41, 42, 43, 44, 45, 46, 47, 48, 49, 50, 51, 52, 53, 54, 55, 56, 57, 58, 59, 60, 61, 62, 63, 64, 65, 66, 67, 68, 69, 70, 71, 72, 73, 74, 75, 76, 77, 78, 79, 80, 81, 82, 83, 84, 85, 86, 87, 88, 89, 90, 91, 92, 93, 94, 95, 96] (fun (i0, y0_0, y0_a0, y0_c0) => [(16, .int .i64 (i0 : Int)), (1, .slice y0_a0 y0_0.length y0_c0)]) (fun (i0, y0_0, y0_a0, y0_c0) => [Cells b4 36 [.int .i64 0, .int .i64 0], F]) (fun zz K1 => match zz with | (i0, y0_0, y0_a0, y0_c0) => RdC S_ref44_Binding.enc K1 y0_a0 y0_c0 2 y0_0 ∧ ref44_statements_L0 n (ref44_statements n) (list.drop i0) i0 y0_0 = some s0) (fun zz => list.length - zz.1) (0, env, ap1_0, cp1_0) rfl ⟨rfl, rfl, trivial⟩ (ConvH.of (.cons r0 (.cons r0 .nil))) ⟨hp1_0, hl0⟩ ?_
   clear hl0
   rintro ⟨i0, y0_0, y0_a0, y0_c0⟩ Kb0 lk0 ⟨y0_h0, hl0⟩ j0
   conv => whnf
   refine cond_go rfl ?_
   conv => whnf
   refine cond_s (fun w0 => ?_) (fun w0 => ?_)
   ·obtain ⟨e0, hx0, hd0⟩ := ltx w0
    rw [hd0, ref44_statements_L0.eq_2] at hl0
    conv => whnf
    refine block_go rfl ?_
    conv => whnf
    refine RStep.ofN (index_addr rfl rfl (hasR (LiC.mono S_ref43_Node.R_ok lk0 hp0_0).rd hx0) (nn _) (lt_ofN hx0) ?_)
    obtain ⟨ss19, cc19, hr19, hc19, hR19⟩ := LiR.get (LiC.mono S_ref43_Node.R_ok lk0 hp0_0).rd hx0
    obtain ⟨a19_0, c19_0, rfl, h19_0⟩ := S_ref43_Node.out hR19
    conv => whnf
    refine RStep.of (load_rd_agg i0 _ hr19 rfl hc19 rfl ?_)
    conv => whnf
    refine alloc_rule rfl ?_
    intro b6
    conv => whnf
    refine store_rule r0 rfl ?_
    conv => whnf
    refine ⟨rfl, rfl, (Nat.le_of_ble_eq_true rfl), ?_⟩
    conv => whnf
    refine field_addr rfl ?_
    conv => whnf
    refine RStep.of (load1_s r0 rfl rfl ?_)
    conv => whnf
    refine RStep.of (len_slice rfl ?_)
    conv => whnf
    refine eq_int ?_
    conv => whnf
    refine cond_go rfl ?_
    conv => whnf
    refine cond_s (fun w23 => ?_) (fun w23 => ?_)
    ·replace hl0 := ift w23 hl0
     conv => whnf
     refine cond_T ?_
     conv => whnf
     refine int_in (cntz hx0 hk0) ?_
     conv => whnf
     refine RoundStep.mk (i0 + 1, y0_0, y0_a0, y0_c0) ⟨rfl, rfl, trivial⟩ (by repeat (first | exact trivial | refine And.intro rfl ?_)) (ConvH.of (.cons r1 (.cons r1 .nil))) lk0 (ltm hx0) ⟨y0_h0, hl0⟩
    ·replace hl0 := iff_ w23 hl0
     conv => whnf
     refine field_addr rfl ?_
     conv => whnf
     refine RStep.of (load1_s r0 rfl rfl ?_)
     obtain ⟨x27, l27, k27, hl0⟩ := ixb hl0
     conv => whnf
     refine RStep.ofN (index_addr rfl rfl (hasR h19_0.rd k27) l27 (lt_ofE rfl l27 k27) ?_)
     obtain ⟨ss28, cc28, hr28, hc28, hR28⟩ := LiR.get h19_0.rd k27
     obtain ⟨a28_0, c28_0, rfl, h28_0⟩ := S_ref43_Node.out hR28
     conv => whnf
     refine RStep.of (load_rd_agg ((0 : Int).toNat) _ hr28 rfl hc28 rfl ?_)
     obtain ⟨x30, q30, hl0⟩ := bnd hl0
     conv => whnf
     refine call_fn (ref44_expr_ok (n' := x27) q30 h28_0 y0_h0 rfl) .nil ?_
     rintro _ K30 _ l30 ⟨rfl, rfl⟩
     conv => whnf
     refine alloc_rule rfl ?_
     intro b8
     conv => whnf
     refine store_rule r0 rfl ?_
     conv => whnf
     refine ⟨rfl, rfl, (Nat.le_of_ble_eq_true rfl), ?_⟩
     conv => whnf
     refine field_addr rfl ?_
     conv => whnf
     refine RStep.of (load1_s r0 rfl rfl ?_)
     conv => whnf
     refine neq_int ?_
     conv => whnf
     refine cond_go rfl ?_
     conv => whnf
     refine cond_s (fun w35 => ?_) (fun w35 => ?_)
     ·replace hl0 := ift w35 hl0
      conv => whnf
      refine RStep.of (loadn_s r0 rfl (Nat.le_of_ble_eq_true rfl) ?_)
      conv => whnf
      refine store_rule r2 rfl ?_
      conv => whnf
      refine ⟨rfl, rfl, (Nat.le_of_ble_eq_true rfl), ?_⟩
      obtain rfl := si hl0
      replace hm := elr hm
      obtain rfl := si hm
      conv => whnf
      refine RStep.of (loadn_s r0 rfl (Nat.le_of_ble_eq_true rfl) ?_)
      conv => whnf
      refine EndStep.mk _ (lk0.trans l30) ⟨rfl, rfl⟩ (ConvH.of (.cons r3 .nil))
     ·replace hl0 := iff_ w35 hl0
      conv => whnf
      refine field_addr rfl ?_
      conv => whnf
      refine RStep.of (load1_s r1 rfl rfl ?_)
      obtain ⟨x39, q39, hl0⟩ := bnd hl0
      conv => whnf
      refine call_fn (ref44_needs_ok (kind := e0.Kind) q39) .nil ?_
      rintro _ K39 _ l39 ⟨rfl, rfl⟩
      conv => whnf
      refine neq_int ?_
      conv => whnf
      refine cond_s (fun g42_9 => ?_) (fun g42_9 => ?_)
      ·conv => whnf
       refine cond_t g42_9 ?_
       conv => whnf
       refine cond_t g42_9 ?_
       conv => whnf
       refine neq_int ?_
       conv => whnf
       refine cond_t g42_9 ?_
       conv => whnf
       refine cond_go rfl ?_
       conv => whnf
       refine cond_s (fun w46 => ?_) (fun w46 => ?_)
       ·replace hl0 := ift (and_t g42_9 w46) hl0
        conv => whnf
        refine field_addr rfl ?_
        conv => whnf
        refine RStep.of (load1_s r1 rfl rfl ?_)
        conv => whnf
        refine build_struct rfl rfl ?_
        conv => whnf
        refine cond_T ?_
        conv => whnf
        refine cond_T ?_
        conv => whnf
        refine store_rule r2 rfl ?_
        conv => whnf
        refine ⟨rfl, rfl, (Nat.le_of_ble_eq_true rfl), ?_⟩
        obtain rfl := si hl0
        replace hm := elr hm
        obtain rfl := si hm
        conv => whnf
        refine RStep.of (loadn_s r0 rfl (Nat.le_of_ble_eq_true rfl) ?_)
        conv => whnf
        refine EndStep.mk _ ((lk0.trans l30).trans l39) ⟨rfl, rfl⟩ (ConvH.of (.cons r3 .nil))
       ·replace hl0 := iff_ (and_g g42_9 w46) hl0
        conv => whnf
        refine field_addr rfl ?_
        conv => whnf
        refine RStep.of (load1_s r1 rfl rfl ?_)
        conv => whnf
        refine block_go rfl ?_
        conv => whnf
        refine eq_int ?_
        conv => whnf
        refine cond_go rfl ?_
        conv => whnf
        refine cond_s (fun w52 => ?_) (fun w52 => ?_)
        ·replace hl0 := ift w52 hl0
         conv => whnf
         refine field_addr rfl ?_
         conv => whnf
         refine RStep.of (load1_s r1 rfl rfl ?_)
         obtain ⟨x57, q57, hl0⟩ := bnd hl0
         conv => whnf
         refine call_fn (ref44_lookup_ok (s := e0.Text) q57 (y0_h0.mono (l30.trans l39)) rfl) .nil ?_
         rintro _ K57 _ l57 ⟨rfl, rfl⟩
         conv => whnf
         refine neq_int ?_
         conv => whnf
         refine cond_go rfl ?_
         conv => whnf
         refine cond_s (fun w58 => ?_) (fun w58 => ?_)
         ·replace hl0 := ift w58 hl0
          conv => whnf
          refine field_addr rfl ?_
          conv => whnf
          refine RStep.of (load1_s r1 rfl rfl ?_)
          conv => whnf
          refine build_struct rfl rfl ?_
          conv => whnf
          refine cond_T ?_
          conv => whnf
          refine cond_T ?_
          conv => whnf
          refine store_rule r2 rfl ?_
          conv => whnf
          refine ⟨rfl, rfl, (Nat.le_of_ble_eq_true rfl), ?_⟩
          obtain rfl := si hl0
          replace hm := elr hm
          obtain rfl := si hm
          conv => whnf
          refine RStep.of (loadn_s r0 rfl (Nat.le_of_ble_eq_true rfl) ?_)
          conv => whnf
          refine EndStep.mk _ (((lk0.trans l30).trans l39).trans l57) ⟨rfl, rfl⟩ (ConvH.of (.cons r3 .nil))
         ·replace hl0 := iff_ w58 hl0
          conv => whnf
          refine draw_go_F ⟨⟨[], false⟩, _, [(_, _)]⟩ 10 rfl (by kernel_rfl) ⟨Hp.Le.refl _, (ConvH.of (.cons r1 .nil))⟩ ?_
          conv => whnf
          refine bsA (cl := []) elT54 rfl rfl ?_ fun b62 => ?_
          ·conv => whnf
           first | done | rfl
          conv => whnf
          intro GG2
          obtain ⟨h64, hl0⟩ := chkb hl0
          conv => whnf
          refine ape (enc := S_ref44_Binding.enc) r0 elT54 (src_k rfl (y0_h0.mono ((l30.trans l39).trans l57)).rd rfl) h64 ?_
          intro a64 c64 o64
          conv => whnf
          refine ⟨⟨(Hp.Le.refl _), (ConvH.of (.cons r2 .nil))⟩, ?_⟩
          refine ⟨_, .cons r5 .nil, ⟨(Hp.Le.refl _), (ConvH.of (.cons r2 .nil))⟩, ?_⟩
          conv => whnf
          refine field_addr rfl ?_
          conv => whnf
          refine load1_l m0 rfl rfl ?_
          conv => whnf
          refine build_struct rfl rfl ?_
          conv => whnf
          refine cond_T ?_
          conv => whnf
          refine cond_T ?_
          conv => whnf
          refine bsA (cl := [str e0.Text, .int .i64 x30.1]) elT54 rfl rfl ?_ fun b69 => ?_
          ·conv => whnf
           refine cond_T ?_
           conv => whnf
           first | done | rfl
          conv => whnf
          intro GG8
          obtain ⟨h70, hl0⟩ := chkb hl0
          conv => whnf
          refine apE rfl r1 elT54 (src_lit rfl r0 rfl rfl (fun _ _ => rfl) rfl) h70 ?_
          intro a70 c70 o70
          conv => whnf
          refine ⟨⟨(Hp.Le.refl _), (ConvH.of (.cons r3 .nil))⟩, ?_⟩
          refine ⟨_, .cons r6 .nil, ⟨(Hp.Le.refl _), (ConvH.of (.cons r3 .nil))⟩, ?_⟩
          conv => whnf
          refine int_in (cntz hx0 hk0) ?_
          conv => whnf
          refine fRo r0 fun Kr0_0 lr0_0 fr0_0 => ?_
          refine RoundStep.mk (i0 + 1, (y0_0 ++ [(⟨e0.Text, x30.1⟩ : S_ref44_Binding)]), a70, c70) ⟨rfl, rfl, trivial⟩ (by repeat (first | exact trivial | refine And.intro rfl ?_)) (ConvH.of (.cons r3 (.cons r3 .nil))) ((((lk0.trans l30).trans l39).trans l57).trans lr0_0) (ltm hx0) ⟨fr0_0, hl0⟩
        ·replace hl0 := iff_ w52 hl0
         conv => whnf
         refine eq_int ?_
         conv => whnf
         refine cond_go rfl ?_
         conv => whnf
         refine cond_s (fun w71 => ?_) (fun w71 => ?_)
         ·replace hl0 := ift w71 hl0
          conv => whnf
          refine field_addr rfl ?_
          conv => whnf
          refine RStep.of (load1_s r1 rfl rfl ?_)
          obtain ⟨h75, hl0⟩ := chkb hl0
          have h75_ := (LiC.mono S_ref43_Node.R_ok (l30.trans l39) h19_0).subC h75
          conv => whnf
          refine RStep.ofN (sl_slN (l := e0.Kids) (lo := (some 1)) (hi := none) (lo' := (1 : Int)) (hi' := (e0.Kids.length : Int)) rfl rfl rfl rfl rfl (LiC.mono S_ref43_Node.R_ok (l30.trans l39) h19_0).le h75 ?_)
          conv => whnf
          refine RStep.of (len_slice rfl ?_)
          obtain ⟨hk3, hl0⟩ := chkb hl0
          obtain ⟨s3, hl3, hl0⟩ := bnd hl0
          conv => whnf
          refine code_cut (σ := (Unit)) [11, 12, 13, 77, 78, 79, 80, 81, 82, 83, 84, 85, 86, 87, 88, 89, 90, 91, 92, 93, 94, 95] (fun t3 => []) (fun t3 => [Cells b8 36 [.int .i64 x30.2.Line, .int .i64 x30.2.Code], Cells b6 24 [.int .i64 e0.Kind, str e0.Text, .slice a19_0 e0.Kids.length c19_0, .int .i64 e0.Line], Cells b4 36 [.int .i64 0, .int .i64 0], F]) (fun zz K1 => match zz with | t3 => s3 = Fl.go t3) ?_ ?_
          ·refine block_go rfl ?_
           conv => whnf
           refine loop_rule (σ := Nat) [11, 12, 13, 77, 78, 79, 80, 81, 82, 83, 84, 85, 86, 87, 88, 89, 90, 91, 92, 93, 94, 95] (fun i3 => [(77, .int .i64 (i3 : Int))]) (fun i3 => [Cells b8 36 [.int .i64 x30.2.Line, .int .i64 x30.2.Code], Cells b6 24 [.int .i64 e0.Kind, str e0.Text, .slice a19_0 e0.Kids.length c19_0, .int .i64 e0.Line], Cells b4 36 [.int .i64 0, .int .i64 0], F]) (fun zz K1 => match zz with | i3 => ref44_statements_L3 (ref44_statements n) y0_0 ((subL e0.Kids (1 : Int) (e0.Kids.length : Int)).drop i3) i3 = some s3) (fun zz => (subL e0.Kids (1 : Int) (e0.Kids.length : Int)).length - zz) (0) rfl ⟨rfl, trivial⟩ (ConvH.of (.cons r0 (.cons r0 (.cons r0 (.cons r0 .nil))))) hl3 ?_
           clear hl3
           rintro i3 Kb3 lk3 hl3 j3
           conv at hl3 => whnf
           conv => whnf
           refine cond_go rfl ?_
           conv => whnf
           refine cond_s (fun w3 => ?_) (fun w3 => ?_)
           ·obtain ⟨e3, hx3, hd3⟩ := ltx w3
            rw [hd3, ref44_statements_L3.eq_2] at hl3
            conv => whnf
            refine block_go rfl ?_
            conv => whnf
            refine RStep.ofN (index_addr rfl rfl (hasR (LiC.mono S_ref43_Node.R_ok lk3 h75_).rd hx3) (nn _) (lt_ofN hx3) ?_)
            obtain ⟨ss80, cc80, hr80, hc80, hR80⟩ := LiR.get (LiC.mono S_ref43_Node.R_ok lk3 h75_).rd hx3
            obtain ⟨a80_0, c80_0, rfl, h80_0⟩ := S_ref43_Node.out hR80
            conv => whnf
            refine RStep.of (load_rd_agg i3 _ hr80 rfl hc80 rfl ?_)
            conv => whnf
            refine alloc_rule rfl ?_
            intro b11
            conv => whnf
            refine store_rule r0 rfl ?_
            conv => whnf
            refine ⟨rfl, rfl, (Nat.le_of_ble_eq_true rfl), ?_⟩
            conv => whnf
            refine field_addr rfl ?_
            conv => whnf
            refine RStep.of (load1_s r0 rfl rfl ?_)
            conv => whnf
            refine field_addr rfl ?_
            conv => whnf
            refine RStep.of (load1_s r0 rfl rfl ?_)
            conv => whnf
            refine eq_int ?_
            conv => whnf
            refine cond_go rfl ?_
            conv => whnf
            refine cond_s (fun w85 => ?_) (fun w85 => ?_)
            ·replace hl3 := ift w85 hl3
             conv => whnf
             refine RStep.of (loadn_s r0 rfl (Nat.le_of_ble_eq_true rfl) ?_)
             conv => whnf
             refine bsOR (len := 1) (l := [e3]) (css := [[.int .i64 e3.Kind, str e3.Text, .slice a80_0 e3.Kids.length c80_0, .int .i64 e3.Line]]) (cl := [.int .i64 e3.Kind, str e3.Text, .slice a80_0 e3.Kids.length c80_0, .int .i64 e3.Line]) S_ref43_Node.R_ok elT22 rfl rfl (LR.snoc LR.nil (S_ref43_Node.of ⟨a80_0, c80_0, rfl, h80_0⟩)) rfl rfl rfl ?_ fun b87 => ?_
             ·conv => whnf
              refine cond_T ?_
              conv => whnf
              first | done | rfl
             obtain ⟨x90, q90, hl3⟩ := bnd hl3
             conv => whnf
             refine call_fn (Fn.lendR S_ref43_Node.R_ok (show LR S_ref43_Node.R _ [[.int .i64 e3.Kind, str e3.Text, .slice a80_0 e3.Kids.length c80_0, .int .i64 e3.Line]] [e3] from (LR.snoc LR.nil (S_ref43_Node.of ⟨a80_0, c80_0, rfl, h80_0⟩))) Tryd.call34 (fun K90_0 l90_0 f90_0 => (ih q90 f90_0 rfl (y0_h0.mono (((l30.trans l39).trans lk3).trans l90_0)) rfl)) (by exact fun _ _ _ _ h => h)) (.cons r0 .nil) ?_
             rintro _ K90 _ l90 ⟨_, rfl, rfl, rfl⟩
             conv => whnf
             refine alloc_rule rfl ?_
             intro b13
             conv => whnf
             refine store_rule r0 rfl ?_
             conv => whnf
             refine ⟨rfl, rfl, (Nat.le_of_ble_eq_true rfl), ?_⟩
             conv => whnf
             refine field_addr rfl ?_
             conv => whnf
             refine RStep.of (load1_s r0 rfl rfl ?_)
             conv => whnf
             refine neq_int ?_
             conv => whnf
             refine cond_go rfl ?_
             conv => whnf
             refine cond_s (fun w93 => ?_) (fun w93 => ?_)
             ·replace hl3 := ift w93 hl3
              conv => whnf
              refine RStep.of (loadn_s r0 rfl (Nat.le_of_ble_eq_true rfl) ?_)
              conv => whnf
              refine store_rule r5 rfl ?_
              conv => whnf
              refine ⟨rfl, rfl, (Nat.le_of_ble_eq_true rfl), ?_⟩
              obtain rfl := si hl3
              replace hl0 := elr hl0
              obtain rfl := si hl0
              replace hm := elr hm
              obtain rfl := si hm
              conv => whnf
              refine RStep.of (loadn_s r0 rfl (Nat.le_of_ble_eq_true rfl) ?_)
              conv => whnf
              refine EndStep.mk _ ((((lk0.trans l30).trans l39).trans lk3).trans l90) ⟨rfl, rfl⟩ (ConvH.of (.cons r6 .nil))
             ·replace hl3 := iff_ w93 hl3
              conv => whnf
              refine int_in (cntz hx3 hk3) ?_
              conv => whnf
              refine RoundStep.mk (i3 + 1) ⟨rfl, trivial⟩ (by repeat (first | exact trivial | refine And.intro rfl ?_)) (ConvH.of (.cons r3 (.cons r3 (.cons r3 (.cons r3 .nil))))) (lk3.trans l90) (ltm hx3) hl3
            ·replace hl3 := iff_ w85 hl3
             obtain ⟨x90, q90, hl3⟩ := bnd hl3
             conv => whnf
             refine call_fn (ih q90 h80_0 rfl (y0_h0.mono ((l30.trans l39).trans lk3)) rfl) .nil ?_
             rintro _ K90 _ l90 ⟨rfl, rfl⟩
             conv => whnf
             refine alloc_rule rfl ?_
             intro b13
             conv => whnf
             refine store_rule r0 rfl ?_
             conv => whnf
             refine ⟨rfl, rfl, (Nat.le_of_ble_eq_true rfl), ?_⟩
             conv => whnf
             refine field_addr rfl ?_
             conv => whnf
             refine RStep.of (load1_s r0 rfl rfl ?_)
             conv => whnf
             refine neq_int ?_
             conv => whnf
             refine cond_go rfl ?_
             conv => whnf
             refine cond_s (fun w93 => ?_) (fun w93 => ?_)
             ·replace hl3 := ift w93 hl3
              conv => whnf
              refine RStep.of (loadn_s r0 rfl (Nat.le_of_ble_eq_true rfl) ?_)
              conv => whnf
              refine store_rule r4 rfl ?_
              conv => whnf
              refine ⟨rfl, rfl, (Nat.le_of_ble_eq_true rfl), ?_⟩
              obtain rfl := si hl3
              replace hl0 := elr hl0
              obtain rfl := si hl0
              replace hm := elr hm
              obtain rfl := si hm
              conv => whnf
              refine RStep.of (loadn_s r0 rfl (Nat.le_of_ble_eq_true rfl) ?_)
              conv => whnf
              refine EndStep.mk _ ((((lk0.trans l30).trans l39).trans lk3).trans l90) ⟨rfl, rfl⟩ (ConvH.of (.cons r5 .nil))
             ·replace hl3 := iff_ w93 hl3
              conv => whnf
              refine int_in (cntz hx3 hk3) ?_
              conv => whnf
              refine RoundStep.mk (i3 + 1) ⟨rfl, trivial⟩ (by repeat (first | exact trivial | refine And.intro rfl ?_)) (ConvH.of (.cons r2 (.cons r2 (.cons r2 (.cons r2 .nil))))) (lk3.trans l90) (ltm hx3) hl3
           ·rw [lty w3, ref44_statements_L3.eq_1] at hl3
            conv => whnf
            refine cond_T ?_
            conv => whnf
            refine MeetStep.mk (()) trivial (by repeat (first | exact trivial | refine And.intro rfl ?_)) (ConvH.of (.cons r0 (.cons r0 (.cons r0 (.cons r0 .nil))))) lk3 (si hl3).symm
          ·rintro t3 Kt3 lt3 rfl j3
           replace hl0 := elg hl0
           conv => whnf
           refine int_in (cntz hx0 hk0) ?_
           conv => whnf
           refine RoundStep.mk (i0 + 1, y0_0, y0_a0, y0_c0) ⟨rfl, rfl, trivial⟩ (by repeat (first | exact trivial | refine And.intro rfl ?_)) (ConvH.of (.cons r2 (.cons r2 .nil))) (((lk0.trans l30).trans l39).trans lt3) (ltm hx0) ⟨(y0_h0.mono ((l30.trans l39).trans lt3)), hl0⟩
         ·replace hl0 := iff_ w71 hl0
          conv => whnf
          refine int_in (cntz hx0 hk0) ?_
          conv => whnf
          refine RoundStep.mk (i0 + 1, y0_0, y0_a0, y0_c0) ⟨rfl, rfl, trivial⟩ (by repeat (first | exact trivial | refine And.intro rfl ?_)) (ConvH.of (.cons r2 (.cons r2 .nil))) ((lk0.trans l30).trans l39) (ltm hx0) ⟨(y0_h0.mono (l30.trans l39)), hl0⟩
      ·conv => whnf
       refine cond_f g42_9 ?_
       conv => whnf
       refine cond_f g42_9 ?_
       conv => whnf
       refine cond_f g42_9 ?_
       conv => whnf
       refine cond_go rfl ?_
       conv => whnf
       refine cond_F ?_
       replace hl0 := iff_ (and_f g42_9) hl0
       conv => whnf
       refine field_addr rfl ?_
       conv => whnf
       refine RStep.of (load1_s r1 rfl rfl ?_)
       conv => whnf
       refine block_go rfl ?_
       conv => whnf
       refine eq_int ?_
       conv => whnf
       refine cond_go rfl ?_
       conv => whnf
       refine cond_s (fun w52 => ?_) (fun w52 => ?_)
       ·replace hl0 := ift w52 hl0
        conv => whnf
        refine field_addr rfl ?_
        conv => whnf
        refine RStep.of (load1_s r1 rfl rfl ?_)
        obtain ⟨x57, q57, hl0⟩ := bnd hl0
        conv => whnf
        refine call_fn (ref44_lookup_ok (s := e0.Text) q57 (y0_h0.mono (l30.trans l39)) rfl) .nil ?_
        rintro _ K57 _ l57 ⟨rfl, rfl⟩
        conv => whnf
        refine neq_int ?_
        conv => whnf
        refine cond_go rfl ?_
        conv => whnf
        refine cond_s (fun w58 => ?_) (fun w58 => ?_)
        ·replace hl0 := ift w58 hl0
         conv => whnf
         refine field_addr rfl ?_
         conv => whnf
         refine RStep.of (load1_s r1 rfl rfl ?_)
         conv => whnf
         refine build_struct rfl rfl ?_
         conv => whnf
         refine cond_T ?_
         conv => whnf
         refine cond_T ?_
         conv => whnf
         refine store_rule r2 rfl ?_
         conv => whnf
         refine ⟨rfl, rfl, (Nat.le_of_ble_eq_true rfl), ?_⟩
         obtain rfl := si hl0
         replace hm := elr hm
         obtain rfl := si hm
         conv => whnf
         refine RStep.of (loadn_s r0 rfl (Nat.le_of_ble_eq_true rfl) ?_)
         conv => whnf
         refine EndStep.mk _ (((lk0.trans l30).trans l39).trans l57) ⟨rfl, rfl⟩ (ConvH.of (.cons r3 .nil))
        ·replace hl0 := iff_ w58 hl0
         conv => whnf
         refine draw_go_F ⟨⟨[], false⟩, _, [(_, _)]⟩ 10 rfl (by kernel_rfl) ⟨Hp.Le.refl _, (ConvH.of (.cons r1 .nil))⟩ ?_
         conv => whnf
         refine bsA (cl := []) elT54 rfl rfl ?_ fun b62 => ?_
         ·conv => whnf
          first | done | rfl
         conv => whnf
         intro GG2
         obtain ⟨h64, hl0⟩ := chkb hl0
         conv => whnf
         refine ape (enc := S_ref44_Binding.enc) r0 elT54 (src_k rfl (y0_h0.mono ((l30.trans l39).trans l57)).rd rfl) h64 ?_
         intro a64 c64 o64
         conv => whnf
         refine ⟨⟨(Hp.Le.refl _), (ConvH.of (.cons r2 .nil))⟩, ?_⟩
         refine ⟨_, .cons r5 .nil, ⟨(Hp.Le.refl _), (ConvH.of (.cons r2 .nil))⟩, ?_⟩
         conv => whnf
         refine field_addr rfl ?_
         conv => whnf
         refine load1_l m0 rfl rfl ?_
         conv => whnf
         refine build_struct rfl rfl ?_
         conv => whnf
         refine cond_T ?_
         conv => whnf
         refine cond_T ?_
         conv => whnf
         refine bsA (cl := [str e0.Text, .int .i64 x30.1]) elT54 rfl rfl ?_ fun b69 => ?_
         ·conv => whnf
          refine cond_T ?_
          conv => whnf
          first | done | rfl
         conv => whnf
         intro GG8
         obtain ⟨h70, hl0⟩ := chkb hl0
         conv => whnf
         refine apE rfl r1 elT54 (src_lit rfl r0 rfl rfl (fun _ _ => rfl) rfl) h70 ?_
         intro a70 c70 o70
         conv => whnf
         refine ⟨⟨(Hp.Le.refl _), (ConvH.of (.cons r3 .nil))⟩, ?_⟩
         refine ⟨_, .cons r6 .nil, ⟨(Hp.Le.refl _), (ConvH.of (.cons r3 .nil))⟩, ?_⟩
         conv => whnf
         refine int_in (cntz hx0 hk0) ?_
         conv => whnf
         refine fRo r0 fun Kr0_0 lr0_0 fr0_0 => ?_
         refine RoundStep.mk (i0 + 1, (y0_0 ++ [(⟨e0.Text, x30.1⟩ : S_ref44_Binding)]), a70, c70) ⟨rfl, rfl, trivial⟩ (by repeat (first | exact trivial | refine And.intro rfl ?_)) (ConvH.of (.cons r3 (.cons r3 .nil))) ((((lk0.trans l30).trans l39).trans l57).trans lr0_0) (ltm hx0) ⟨fr0_0, hl0⟩
       ·replace hl0 := iff_ w52 hl0
        conv => whnf
        refine eq_int ?_
        conv => whnf
        refine cond_go rfl ?_
        conv => whnf
        refine cond_s (fun w71 => ?_) (fun w71 => ?_)
        ·replace hl0 := ift w71 hl0
         conv => whnf
         refine field_addr rfl ?_
         conv => whnf
         refine RStep.of (load1_s r1 rfl rfl ?_)
         obtain ⟨h75, hl0⟩ := chkb hl0
         have h75_ := (LiC.mono S_ref43_Node.R_ok (l30.trans l39) h19_0).subC h75
         conv => whnf
         refine RStep.ofN (sl_slN (l := e0.Kids) (lo := (some 1)) (hi := none) (lo' := (1 : Int)) (hi' := (e0.Kids.length : Int)) rfl rfl rfl rfl rfl (LiC.mono S_ref43_Node.R_ok (l30.trans l39) h19_0).le h75 ?_)
         conv => whnf
         refine RStep.of (len_slice rfl ?_)
         obtain ⟨hk3, hl0⟩ := chkb hl0
         obtain ⟨s3, hl3, hl0⟩ := bnd hl0
         conv => whnf
         refine code_cut (σ := (Unit)) [11, 12, 13, 77, 78, 79, 80, 81, 82, 83, 84, 85, 86, 87, 88, 89, 90, 91, 92, 93, 94, 95] (fun t3 => []) (fun t3 => [Cells b8 36 [.int .i64 x30.2.Line, .int .i64 x30.2.Code], Cells b6 24 [.int .i64 e0.Kind, str e0.Text, .slice a19_0 e0.Kids.length c19_0, .int .i64 e0.Line], Cells b4 36 [.int .i64 0, .int .i64 0], F]) (fun zz K1 => match zz with | t3 => s3 = Fl.go t3) ?_ ?_
         ·refine block_go rfl ?_
          conv => whnf
          refine loop_rule (σ := Nat) [11, 12, 13, 77, 78, 79, 80, 81, 82, 83, 84, 85, 86, 87, 88, 89, 90, 91, 92, 93, 94, 95] (fun i3 => [(77, .int .i64 (i3 : Int))]) (fun i3 => [Cells b8 36 [.int .i64 x30.2.Line, .int .i64 x30.2.Code], Cells b6 24 [.int .i64 e0.Kind, str e0.Text, .slice a19_0 e0.Kids.length c19_0, .int .i64 e0.Line], Cells b4 36 [.int .i64 0, .int .i64 0], F]) (fun zz K1 => match zz with | i3 => ref44_statements_L3 (ref44_statements n) y0_0 ((subL e0.Kids (1 : Int) (e0.Kids.length : Int)).drop i3) i3 = some s3) (fun zz => (subL e0.Kids (1 : Int) (e0.Kids.length : Int)).length - zz) (0) rfl ⟨rfl, trivial⟩ (ConvH.of (.cons r0 (.cons r0 (.cons r0 (.cons r0 .nil))))) hl3 ?_
          clear hl3
          rintro i3 Kb3 lk3 hl3 j3
          conv at hl3 => whnf
          conv => whnf
          refine cond_go rfl ?_
          conv => whnf
          refine cond_s (fun w3 => ?_) (fun w3 => ?_)
          ·obtain ⟨e3, hx3, hd3⟩ := ltx w3
           rw [hd3, ref44_statements_L3.eq_2] at hl3
           conv => whnf
           refine block_go rfl ?_
           conv => whnf
           refine RStep.ofN (index_addr rfl rfl (hasR (LiC.mono S_ref43_Node.R_ok lk3 h75_).rd hx3) (nn _) (lt_ofN hx3) ?_)
           obtain ⟨ss80, cc80, hr80, hc80, hR80⟩ := LiR.get (LiC.mono S_ref43_Node.R_ok lk3 h75_).rd hx3
           obtain ⟨a80_0, c80_0, rfl, h80_0⟩ := S_ref43_Node.out hR80
           conv => whnf
           refine RStep.of (load_rd_agg i3 _ hr80 rfl hc80 rfl ?_)
           conv => whnf
           refine alloc_rule rfl ?_
           intro b11
           conv => whnf
           refine store_rule r0 rfl ?_
           conv => whnf
           refine ⟨rfl, rfl, (Nat.le_of_ble_eq_true rfl), ?_⟩
           conv => whnf
           refine field_addr rfl ?_
           conv => whnf
           refine RStep.of (load1_s r0 rfl rfl ?_)
           conv => whnf
           refine field_addr rfl ?_
           conv => whnf
           refine RStep.of (load1_s r0 rfl rfl ?_)
           conv => whnf
           refine eq_int ?_
           conv => whnf
           refine cond_go rfl ?_
           conv => whnf
           refine cond_s (fun w85 => ?_) (fun w85 => ?_)
           ·replace hl3 := ift w85 hl3
            conv => whnf
            refine RStep.of (loadn_s r0 rfl (Nat.le_of_ble_eq_true rfl) ?_)
            conv => whnf
            refine bsOR (len := 1) (l := [e3]) (css := [[.int .i64 e3.Kind, str e3.Text, .slice a80_0 e3.Kids.length c80_0, .int .i64 e3.Line]]) (cl := [.int .i64 e3.Kind, str e3.Text, .slice a80_0 e3.Kids.length c80_0, .int .i64 e3.Line]) S_ref43_Node.R_ok elT22 rfl rfl (LR.snoc LR.nil (S_ref43_Node.of ⟨a80_0, c80_0, rfl, h80_0⟩)) rfl rfl rfl ?_ fun b87 => ?_
            ·conv => whnf
             refine cond_T ?_
             conv => whnf
             first | done | rfl
            obtain ⟨x90, q90, hl3⟩ := bnd hl3
            conv => whnf
            refine call_fn (Fn.lendR S_ref43_Node.R_ok (show LR S_ref43_Node.R _ [[.int .i64 e3.Kind, str e3.Text, .slice a80_0 e3.Kids.length c80_0, .int .i64 e3.Line]] [e3] from (LR.snoc LR.nil (S_ref43_Node.of ⟨a80_0, c80_0, rfl, h80_0⟩))) Tryd.call34 (fun K90_0 l90_0 f90_0 => (ih q90 f90_0 rfl (y0_h0.mono (((l30.trans l39).trans lk3).trans l90_0)) rfl)) (by exact fun _ _ _ _ h => h)) (.cons r0 .nil) ?_
            rintro _ K90 _ l90 ⟨_, rfl, rfl, rfl⟩
            conv => whnf
            refine alloc_rule rfl ?_
            intro b13
            conv => whnf
            refine store_rule r0 rfl ?_
            conv => whnf
            refine ⟨rfl, rfl, (Nat.le_of_ble_eq_true rfl), ?_⟩
            conv => whnf
            refine field_addr rfl ?_
            conv => whnf
            refine RStep.of (load1_s r0 rfl rfl ?_)
            conv => whnf
            refine neq_int ?_
            conv => whnf
            refine cond_go rfl ?_
            conv => whnf
            refine cond_s (fun w93 => ?_) (fun w93 => ?_)
            ·replace hl3 := ift w93 hl3
             conv => whnf
             refine RStep.of (loadn_s r0 rfl (Nat.le_of_ble_eq_true rfl) ?_)
             conv => whnf
             refine store_rule r5 rfl ?_
             conv => whnf
             refine ⟨rfl, rfl, (Nat.le_of_ble_eq_true rfl), ?_⟩
             obtain rfl := si hl3
             replace hl0 := elr hl0
             obtain rfl := si hl0
             replace hm := elr hm
             obtain rfl := si hm
             conv => whnf
             refine RStep.of (loadn_s r0 rfl (Nat.le_of_ble_eq_true rfl) ?_)
             conv => whnf
             refine EndStep.mk _ ((((lk0.trans l30).trans l39).trans lk3).trans l90) ⟨rfl, rfl⟩ (ConvH.of (.cons r6 .nil))
            ·replace hl3 := iff_ w93 hl3
             conv => whnf
             refine int_in (cntz hx3 hk3) ?_
             conv => whnf
             refine RoundStep.mk (i3 + 1) ⟨rfl, trivial⟩ (by repeat (first | exact trivial | refine And.intro rfl ?_)) (ConvH.of (.cons r3 (.cons r3 (.cons r3 (.cons r3 .nil))))) (lk3.trans l90) (ltm hx3) hl3
           ·replace hl3 := iff_ w85 hl3
            obtain ⟨x90, q90, hl3⟩ := bnd hl3
            conv => whnf
            refine call_fn (ih q90 h80_0 rfl (y0_h0.mono ((l30.trans l39).trans lk3)) rfl) .nil ?_
            rintro _ K90 _ l90 ⟨rfl, rfl⟩
            conv => whnf
            refine alloc_rule rfl ?_
            intro b13
            conv => whnf
            refine store_rule r0 rfl ?_
            conv => whnf
            refine ⟨rfl, rfl, (Nat.le_of_ble_eq_true rfl), ?_⟩
            conv => whnf
            refine field_addr rfl ?_
            conv => whnf
            refine RStep.of (load1_s r0 rfl rfl ?_)
            conv => whnf
            refine neq_int ?_
            conv => whnf
            refine cond_go rfl ?_
            conv => whnf
            refine cond_s (fun w93 => ?_) (fun w93 => ?_)
            ·replace hl3 := ift w93 hl3
             conv => whnf
             refine RStep.of (loadn_s r0 rfl (Nat.le_of_ble_eq_true rfl) ?_)
             conv => whnf
             refine store_rule r4 rfl ?_
             conv => whnf
             refine ⟨rfl, rfl, (Nat.le_of_ble_eq_true rfl), ?_⟩
             obtain rfl := si hl3
             replace hl0 := elr hl0
             obtain rfl := si hl0
             replace hm := elr hm
             obtain rfl := si hm
             conv => whnf
             refine RStep.of (loadn_s r0 rfl (Nat.le_of_ble_eq_true rfl) ?_)
             conv => whnf
             refine EndStep.mk _ ((((lk0.trans l30).trans l39).trans lk3).trans l90) ⟨rfl, rfl⟩ (ConvH.of (.cons r5 .nil))
            ·replace hl3 := iff_ w93 hl3
             conv => whnf
             refine int_in (cntz hx3 hk3) ?_
             conv => whnf
             refine RoundStep.mk (i3 + 1) ⟨rfl, trivial⟩ (by repeat (first | exact trivial | refine And.intro rfl ?_)) (ConvH.of (.cons r2 (.cons r2 (.cons r2 (.cons r2 .nil))))) (lk3.trans l90) (ltm hx3) hl3
          ·rw [lty w3, ref44_statements_L3.eq_1] at hl3
           conv => whnf
           refine cond_T ?_
           conv => whnf
           refine MeetStep.mk (()) trivial (by repeat (first | exact trivial | refine And.intro rfl ?_)) (ConvH.of (.cons r0 (.cons r0 (.cons r0 (.cons r0 .nil))))) lk3 (si hl3).symm
         ·rintro t3 Kt3 lt3 rfl j3
          replace hl0 := elg hl0
          conv => whnf
          refine int_in (cntz hx0 hk0) ?_
          conv => whnf
          refine RoundStep.mk (i0 + 1, y0_0, y0_a0, y0_c0) ⟨rfl, rfl, trivial⟩ (by repeat (first | exact trivial | refine And.intro rfl ?_)) (ConvH.of (.cons r2 (.cons r2 .nil))) (((lk0.trans l30).trans l39).trans lt3) (ltm hx0) ⟨(y0_h0.mono ((l30.trans l39).trans lt3)), hl0⟩
        ·replace hl0 := iff_ w71 hl0
         conv => whnf
         refine int_in (cntz hx0 hk0) ?_
         conv => whnf
         refine RoundStep.mk (i0 + 1, y0_0, y0_a0, y0_c0) ⟨rfl, rfl, trivial⟩ (by repeat (first | exact trivial | refine And.intro rfl ?_)) (ConvH.of (.cons r2 (.cons r2 .nil))) ((lk0.trans l30).trans l39) (ltm hx0) ⟨(y0_h0.mono (l30.trans l39)), hl0⟩
   ·rw [lty w0, ref44_statements_L0.eq_1] at hl0
    conv => whnf
    refine cond_T ?_
    conv => whnf
    refine MeetStep.mk (y0_0, y0_a0, y0_c0) ⟨rfl, trivial⟩ (by repeat (first | exact trivial | refine And.intro rfl ?_)) (ConvH.of (.cons r0 (.cons r0 .nil))) lk0 ⟨y0_h0, (si hl0).symm⟩
  ·rintro ⟨t0, t0_a0, t0_c0⟩ Kt0 lt0 ⟨t0_h0, rfl⟩ j0
   replace hm := elg hm
   conv => whnf
   refine build_struct rfl rfl ?_
   conv => whnf
   refine store_rule r0 rfl ?_
   conv => whnf
   refine ⟨rfl, rfl, (Nat.le_of_ble_eq_true rfl), ?_⟩
   obtain rfl := si hm
   conv => whnf
   refine RStep.of (loadn_s r0 rfl (Nat.le_of_ble_eq_true rfl) ?_)
   conv => whnf
   refine EndStep.mk _ lt0 ⟨rfl, rfl⟩ (ConvH.of (.cons r1 .nil))

noncomputable def ref44_Check (n : Nat) (program : S_ref43_Node) : Option (S_ref44_Fault) :=
 (ref43_Valid n program).bind fun x4 =>
 if (!x4) then
 some (⟨0, 2⟩ : S_ref44_Fault)
 else
 (ref44_statements n program.Kids []).bind fun x9 =>
 some x9
set_option maxHeartbeats 8000000 in
theorem ref44_Check_ok {n : Nat} {program : S_ref43_Node} {ap0_0 : Option Addr} {cp0_0 : Nat} {K : Hp} {r : S_ref44_Fault}
  (hm : ref44_Check n program = some r) (hp0_0 : LiC S_ref43_Node.R K ap0_0 cp0_0 4 program.Kids) :
  Fn Tryd.prog 15 [.agg #[.int .i64 program.Kind, str program.Text, .slice ap0_0 program.Kids.length cp0_0, .int .i64 program.Line]] K [] (fun v K' H' => v = .agg #[.int .i64 r.Line, .int .i64 r.Code] ∧ H' = []) := by
 refine Fn.enter Tryd.func15 Tryd.call15 rfl fun F => ?_
 unfold ref44_Check at hm
 conv => whnf
 refine box_rule ?_
 intro b1
 conv => whnf
 refine alloc_rule rfl ?_
 intro b2
 conv => whnf
 refine RStep.of (loadn_s r1 rfl (Nat.le_of_ble_eq_true rfl) ?_)
 obtain ⟨x4, q4, hm⟩ := bnd hm
 conv => whnf
 refine call_fn (ref43_Valid_ok (n' := program) q4 hp0_0) .nil ?_
 rintro _ K4 _ l4 ⟨rfl, rfl⟩
 conv => whnf
 refine un_not ?_
 conv => whnf
 refine cond_go rfl ?_
 conv => whnf
 refine cond_s (fun w5 => ?_) (fun w5 => ?_)
 ·replace hm := ift (not_t (ni_t w5)) hm
  conv => whnf
  refine build_struct rfl rfl ?_
  conv => whnf
  refine cond_T ?_
  conv => whnf
  refine cond_T ?_
  conv => whnf
  refine store_rule r0 rfl ?_
  conv => whnf
  refine ⟨rfl, rfl, (Nat.le_of_ble_eq_true rfl), ?_⟩
  obtain rfl := si hm
  conv => whnf
  refine RStep.of (loadn_s r0 rfl (Nat.le_of_ble_eq_true rfl) ?_)
  conv => whnf
  refine EndStep.mk _ l4 ⟨rfl, rfl⟩ (ConvH.of (.cons r2 .nil))
 ·replace hm := iff_ (not_f (ni_f w5)) hm
  conv => whnf
  refine field_addr rfl ?_
  conv => whnf
  refine RStep.of (load1_s r1 rfl rfl ?_)
  obtain ⟨x9, q9, hm⟩ := bnd hm
  conv => whnf
  refine call_fn (ref44_statements_ok q9 (LiC.mono S_ref43_Node.R_ok l4 hp0_0) rfl RdC.nil rfl) .nil ?_
  rintro _ K9 _ l9 ⟨rfl, rfl⟩
  conv => whnf
  refine store_rule r0 rfl ?_
  conv => whnf
  refine ⟨rfl, rfl, (Nat.le_of_ble_eq_true rfl), ?_⟩
  obtain rfl := si hm
  conv => whnf
  refine RStep.of (loadn_s r0 rfl (Nat.le_of_ble_eq_true rfl) ?_)
  conv => whnf
  refine EndStep.mk _ (l4.trans l9) ⟨rfl, rfl⟩ (ConvH.of (.cons r2 .nil))

noncomputable def law44_RuletypeChecks (n : Nat) (n' : S_ref43_Node) : Option (Bool) :=
 (law44_Large n n').bind fun x7 =>
 (if x7 then some true else (law44_awake n).bind fun x9 =>
 some (!x9)).bind fun x11 =>
 if x11 then
 (law44_Large n n').bind fun x13 =>
 some x13
 else
 (law43_Of n n').bind fun x16 =>
 (ruletype_Check n x16).bind fun x17 =>
 (ref44_Check n n').bind fun x21 =>
 (if decide (x17.1 = x21.Line) then (base_Num x17.2).bind fun x28 =>
 some (decide (x28 = x21.Code)) else some false).bind fun x32 =>
 some x32
set_option maxHeartbeats 8000000 in
theorem law44_RuletypeChecks_ok {n : Nat} {n' : S_ref43_Node} {ap0_0 : Option Addr} {cp0_0 : Nat} {K : Hp} {r : Bool}
  (hm : law44_RuletypeChecks n n' = some r) (hp0_0 : LiC S_ref43_Node.R K ap0_0 cp0_0 4 n'.Kids) (hG0 : GlL eS 1 0 gkw0 K) :
  Fn Tryd.prog 3 [.agg #[.int .i64 n'.Kind, str n'.Text, .slice ap0_0 n'.Kids.length cp0_0, .int .i64 n'.Line]] K [] (fun v K' H' => v = .bool r ∧ H' = []) := by
 obtain ⟨ga0, gn0, gc0, gn_, gs0, gd0⟩ := id hG0
 subst gn_
 refine Fn.enter Tryd.func3 Tryd.call3 rfl fun F => ?_
 unfold law44_RuletypeChecks at hm
 conv => whnf
 refine box_rule ?_
 intro b1
 conv => whnf
 refine RStep.of (loadn_s r0 rfl (Nat.le_of_ble_eq_true rfl) ?_)
 obtain ⟨x7, q7, hm⟩ := bnd hm
 conv => whnf
 refine call_fn (law44_Large_ok (n' := n') q7 hp0_0) .nil ?_
 rintro _ K7 _ l7 ⟨rfl, rfl⟩
 obtain ⟨x11, e11, hm⟩ := bnd hm
 conv => whnf
 refine cond_s (fun g8_1 => ?_) (fun g8_1 => ?_)
 ·replace e11 := ift g8_1 e11
  conv => whnf
  refine cond_t g8_1 ?_
  conv => whnf
  refine cond_t g8_1 ?_
  conv => whnf
  refine cond_go rfl ?_
  conv => whnf
  refine cond_T ?_
  replace hm := ift (si e11).symm hm
  conv => whnf
  refine RStep.of (loadn_s r0 rfl (Nat.le_of_ble_eq_true rfl) ?_)
  obtain ⟨x13, q13, hm⟩ := bnd hm
  conv => whnf
  refine call_fn (law44_Large_ok (n' := n') q13 (LiC.mono S_ref43_Node.R_ok l7 hp0_0)) .nil ?_
  rintro _ K13 _ l13 ⟨rfl, rfl⟩
  obtain rfl := si hm
  conv => whnf
  refine EndStep.mk _ (l7.trans l13) ⟨rfl, rfl⟩ (ConvH.of (.cons r1 .nil))
 ·replace e11 := iff_ g8_1 e11
  obtain ⟨x9, q9, e11⟩ := bnd e11
  conv => whnf
  refine call_fn (law44_awake_ok q9 (hG0.mono l7)) .nil ?_
  rintro _ K9 _ l9 ⟨rfl, rfl⟩
  conv => whnf
  refine cond_f g8_1 ?_
  conv => whnf
  refine un_not ?_
  conv => whnf
  refine cond_f g8_1 ?_
  conv => whnf
  refine cond_go rfl ?_
  conv => whnf
  refine cond_s (fun w11 => ?_) (fun w11 => ?_)
  ·replace hm := ift ((si e11).symm.trans (not_t (ni_t w11))) hm
   conv => whnf
   refine RStep.of (loadn_s r0 rfl (Nat.le_of_ble_eq_true rfl) ?_)
   obtain ⟨x13, q13, hm⟩ := bnd hm
   conv => whnf
   refine call_fn (law44_Large_ok (n' := n') q13 (LiC.mono S_ref43_Node.R_ok (l7.trans l9) hp0_0)) .nil ?_
   rintro _ K13 _ l13 ⟨rfl, rfl⟩
   obtain rfl := si hm
   conv => whnf
   refine EndStep.mk _ ((l7.trans l9).trans l13) ⟨rfl, rfl⟩ (ConvH.of (.cons r1 .nil))
  ·replace hm := iff_ ((si e11).symm.trans (not_f (ni_f w11))) hm
   conv => whnf
   refine RStep.of (loadn_s r0 rfl (Nat.le_of_ble_eq_true rfl) ?_)
   obtain ⟨x16, q16, hm⟩ := bnd hm
   conv => whnf
   refine call_fn (law43_Of_ok (n' := n') q16 (LiC.mono S_ref43_Node.R_ok (l7.trans l9) hp0_0)) .nil ?_
   rintro _ K16 _ l16 ⟨a16_0, c16_0, s16_0, rfl, h16_0, r16_0, rfl⟩
   obtain ⟨x17, q17, hm⟩ := bnd hm
   conv => whnf
   refine fzFR Tryd.call13 S_ruletree_Node.R_ok r0 r16_0 fun Kf17_0_0 lf17_0_0 ff17_0_0 => ?_
   refine call_fn (ruletype_Check_ok (program := x16) q17 ff17_0_0 (hG0.mono (((l7.trans l9).trans l16).trans lf17_0_0))) .nil ?_
   rintro _ K17 _ l17 ⟨rfl, rfl⟩
   conv => whnf
   refine RStep.of (loadn_s r0 rfl (Nat.le_of_ble_eq_true rfl) ?_)
   obtain ⟨x21, q21, hm⟩ := bnd hm
   conv => whnf
   refine call_fn (ref44_Check_ok (program := n') q21 (LiC.mono S_ref43_Node.R_ok ((((l7.trans l9).trans l16).trans lf17_0_0).trans l17) hp0_0)) .nil ?_
   rintro _ K21 _ l21 ⟨rfl, rfl⟩
   conv => whnf
   refine alloc_rule rfl ?_
   intro b5
   conv => whnf
   refine store_rule r0 rfl ?_
   conv => whnf
   refine ⟨rfl, rfl, (Nat.le_of_ble_eq_true rfl), ?_⟩
   conv => whnf
   refine draw_go ⟨⟨[], false⟩, _, [(_, _)]⟩ (by kernel_rfl) ⟨Hp.Le.refl _, (ConvH.of (.cons r0 .nil))⟩ ?_
   conv => whnf
   refine field_addr rfl ?_
   conv => whnf
   refine load1_l m0 rfl rfl ?_
   conv => whnf
   refine eq_int ?_
   obtain ⟨x32, e32, hm⟩ := bnd hm
   conv => whnf
   refine cond_s (fun g26_5 => ?_) (fun g26_5 => ?_)
   ·replace e32 := ift g26_5 e32
    conv => whnf
    refine cond_t g26_5 ?_
    obtain ⟨x28, q28, e32⟩ := bnd e32
    conv => whnf
    refine call_fn (base_Num_ok (e := x17.2) q28) .nil ?_
    rintro _ K28 _ l28 ⟨rfl, rfl⟩
    conv => whnf
    refine ⟨⟨l28, (ConvH.of (.cons r0 .nil))⟩, ?_⟩
    conv => whnf
    refine cond_t g26_5 ?_
    conv => whnf
    refine field_addr rfl ?_
    conv => whnf
    refine cond_t g26_5 ?_
    conv => whnf
    refine load1_l m0 rfl rfl ?_
    conv => whnf
    refine cond_t g26_5 ?_
    conv => whnf
    refine eq_int ?_
    conv => whnf
    refine cond_t g26_5 ?_
    obtain rfl := si hm
    conv => whnf
    refine EndStep.mk _ ((((((l7.trans l9).trans l16).trans lf17_0_0).trans l17).trans l21).trans l28) ⟨(by rw [← (si e32)] <;> rfl), rfl⟩ (ConvH.of (.cons r2 .nil))
   ·replace e32 := iff_ g26_5 e32
    conv => whnf
    refine cond_f g26_5 ?_
    conv => whnf
    refine cond_f g26_5 ?_
    conv => whnf
    refine cond_f g26_5 ?_
    conv => whnf
    refine cond_f g26_5 ?_
    conv => whnf
    refine cond_f g26_5 ?_
    obtain rfl := si hm
    conv => whnf
    refine EndStep.mk _ (((((l7.trans l9).trans l16).trans lf17_0_0).trans l17).trans l21) ⟨(by rw [← ((si e32).symm).symm] <;> rfl), rfl⟩ (ConvH.of (.cons r2 .nil))
