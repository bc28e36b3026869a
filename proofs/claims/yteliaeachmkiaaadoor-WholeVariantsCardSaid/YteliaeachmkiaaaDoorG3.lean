/- Functions of the program: mirrors, and that a call returns what the mirror says. Printed by gen.py. -/
import Derived.Test.YteliaeachmkiaaaDoorG2
set_option linter.unusedVariables false
set_option linter.unusedSimpArgs false
open Go Go.SL Go.Proofs
set_option maxRecDepth 1000000
noncomputable def quaysidetop_WholeVariants_L2 : List S_field_Field → Nat → Option (Fl (Bool) (Unit))
  | [], _ => some (Fl.go ())
  | e2 :: xs2, i2 =>
    (quaysidetop_plainValue e2.Value).bind fun x80 =>
    if ((!x80) || decide ((e2.Value.length : Int) > 100)) then
    some (Fl.ret true)
    else
    quaysidetop_WholeVariants_L2 xs2 (i2 + 1)
noncomputable def quaysidetop_WholeVariants_L0 : List (List S_field_Field) → Nat → Option (Fl (Bool) (Unit))
  | [], _ => some (Fl.go ())
  | e0 :: xs0, i0 =>
    (if decide ((e0.length : Int) > 12) then some true else (field_Check e0).bind fun x69 =>
    some x69.isSome).bind fun x71 =>
    if x71 then
    some (Fl.ret true)
    else
    (chk (e0.length ≤ szMax)).bind fun _ =>
    (quaysidetop_WholeVariants_L2 e0 0).bind fun s2 => s2.el (fun r => some (Fl.ret r)) fun t2 =>
    quaysidetop_WholeVariants_L0 xs0 (i0 + 1)
noncomputable def quaysidetop_WholeVariants_L6 : List Int → Nat → (List (Int × Bool)) → Option ((List (Int × Bool)))
  | [], _, y6_0 => some y6_0
  | e6 :: xs6, i6, y6_0 =>
    quaysidetop_WholeVariants_L6 xs6 (i6 + 1) (mset y6_0 e6 true)
noncomputable def quaysidetop_WholeVariants_L4 (varies : (List Str)) (n : Nat) : List (List S_field_Field) → Nat → (List (List Str)) → (List (Int × Bool)) → S_vary_Set → Option (Fl (Bool) ((List (List Str)) × (List (Int × Bool)) × S_vary_Set))
  | [], _, y4_0, y4_1, y4_2 => some (Fl.go (y4_0, y4_1, y4_2))
  | e4 :: xs4, i4, y4_0, y4_1, y4_2 =>
    if decide ((i4 : Int) < (varies.length : Int)) then
    (ix varies (i4 : Int)).bind fun x105 =>
    if decide ((x105.length : Int) > 200) then
    some (Fl.ret true)
    else
    (vary_Names n ([(⟨([118, 97, 114, 121] : Str), x105⟩ : S_field_Field)])).bind fun x114 =>
    if x114.2 then
    (chk (y4_0.length + ([[]] : List (List Str)).length ≤ lim)).bind fun _ =>
    (vary_Set_Put n y4_2 [] e4 (i4 : Int)).bind fun x126 =>
    (chk (x126.1.length ≤ szMax)).bind fun _ =>
    (quaysidetop_WholeVariants_L6 x126.1 0 y4_1).bind fun t6 =>
    quaysidetop_WholeVariants_L4 varies n xs4 (i4 + 1) (y4_0 ++ ([[]] : List (List Str))) t6 x126.2
    else
    (chk (y4_0.length + [x114.1].length ≤ lim)).bind fun _ =>
    (vary_Set_Put n y4_2 x114.1 e4 (i4 : Int)).bind fun x126 =>
    (chk (x126.1.length ≤ szMax)).bind fun _ =>
    (quaysidetop_WholeVariants_L6 x126.1 0 y4_1).bind fun t6 =>
    quaysidetop_WholeVariants_L4 varies n xs4 (i4 + 1) (y4_0 ++ [x114.1]) t6 x126.2
    else
    if decide ((([] : Str).length : Int) > 200) then
    some (Fl.ret true)
    else
    (vary_Names n ([(⟨([118, 97, 114, 121] : Str), ([] : Str)⟩ : S_field_Field)])).bind fun x114 =>
    if x114.2 then
    (chk (y4_0.length + ([[]] : List (List Str)).length ≤ lim)).bind fun _ =>
    (vary_Set_Put n y4_2 [] e4 (i4 : Int)).bind fun x126 =>
    (chk (x126.1.length ≤ szMax)).bind fun _ =>
    (quaysidetop_WholeVariants_L6 x126.1 0 y4_1).bind fun t6 =>
    quaysidetop_WholeVariants_L4 varies n xs4 (i4 + 1) (y4_0 ++ ([[]] : List (List Str))) t6 x126.2
    else
    (chk (y4_0.length + [x114.1].length ≤ lim)).bind fun _ =>
    (vary_Set_Put n y4_2 x114.1 e4 (i4 : Int)).bind fun x126 =>
    (chk (x126.1.length ≤ szMax)).bind fun _ =>
    (quaysidetop_WholeVariants_L6 x126.1 0 y4_1).bind fun t6 =>
    quaysidetop_WholeVariants_L4 varies n xs4 (i4 + 1) (y4_0 ++ [x114.1]) t6 x126.2
noncomputable def quaysidetop_WholeVariants_L10 (stored : (List (List S_field_Field))) (y8_1 : Int) (ask : (List S_field_Field)) : List Str → Nat → Bool → Option (Bool)
  | [], _, y10_0 => some y10_0
  | e10 :: xs10, i10, y10_0 =>
    (if y10_0 then (ix stored y8_1).bind fun x163 =>
    (quaysidetop_alike x163 ask e10).bind fun x167 =>
    some x167 else some false).bind fun x168 =>
    quaysidetop_WholeVariants_L10 stored y8_1 ask xs10 (i10 + 1) x168
noncomputable def quaysidetop_WholeVariants_L8 (t4 : (List (List Str)) × (List (Int × Bool)) × S_vary_Set) (stored : (List (List S_field_Field))) (ask : (List S_field_Field)) (x138 : (List Int)) : Nat → Int → Int → Option (Fl (Bool) (Int × Int))
  | 0, _, _ => none
  | xs8 + 1, y8_0, y8_1 =>
    if decide (y8_1 ≥ 0) then
    (ix t4.1 y8_1).bind fun x152 =>
    (chk (x152.length ≤ szMax)).bind fun _ =>
    (quaysidetop_WholeVariants_L10 stored y8_1 ask x152 0 (!((mget t4.2.1 y8_1).getD false))).bind fun t10 =>
    if t10 then
    (if decide (y8_0 ≥ (x138.length : Int)) then some true else (ix x138 y8_0).bind fun x178 =>
    some (decide (x178 ≠ y8_1))).bind fun x182 =>
    if x182 then
    some (Fl.ret false)
    else
    (chk (InI (y8_0 + 1))).bind fun _ =>
    (chk (InI (y8_1 - 1))).bind fun _ =>
    quaysidetop_WholeVariants_L8 t4 stored ask x138 xs8 (y8_0 + 1) (y8_1 - 1)
    else
    (chk (InI (y8_1 - 1))).bind fun _ =>
    quaysidetop_WholeVariants_L8 t4 stored ask x138 xs8 y8_0 (y8_1 - 1)
    else
    some (Fl.go (y8_0, y8_1))
noncomputable def quaysidetop_WholeVariants_L16 (stored : (List (List S_field_Field))) (y14_1 : Int) (e12 : (List S_field_Field)) : List Str → Nat → Bool → Option (Bool)
  | [], _, y16_0 => some y16_0
  | e16 :: xs16, i16, y16_0 =>
    (if y16_0 then (ix stored y14_1).bind fun x228 =>
    (quaysidetop_alike e12 x228 e16).bind fun x231 =>
    some x231 else some false).bind fun x232 =>
    quaysidetop_WholeVariants_L16 stored y14_1 e12 xs16 (i16 + 1) x232
noncomputable def quaysidetop_WholeVariants_L14 (stored : (List (List S_field_Field))) (t4 : (List (List Str)) × (List (Int × Bool)) × S_vary_Set) (i12 : Nat) (e12 : (List S_field_Field)) : Nat → Bool → Int → Option (Bool × Int)
  | 0, _, _ => none
  | xs14 + 1, y14_0, y14_1 =>
    if decide (y14_1 < (stored.length : Int)) then
    (ix t4.1 (i12 : Int)).bind fun x204 =>
    (ix t4.1 y14_1).bind fun x208 =>
    (base_Texts x204 x208).bind fun x210 =>
    (ix t4.1 (i12 : Int)).bind fun x213 =>
    (chk (x213.length ≤ szMax)).bind fun _ =>
    (quaysidetop_WholeVariants_L16 stored y14_1 e12 x213 0 x210).bind fun t16 =>
    (chk (InI (y14_1 + 1))).bind fun _ =>
    quaysidetop_WholeVariants_L14 stored t4 i12 e12 xs14 (y14_0 || t16) (y14_1 + 1)
    else
    some (y14_0, y14_1)
noncomputable def quaysidetop_WholeVariants_L12 (t4 : (List (List Str)) × (List (Int × Bool)) × S_vary_Set) (stored : (List (List S_field_Field))) (n : Nat) : List (List S_field_Field) → Nat → Option (Fl (Bool) (Unit))
  | [], _ => some (Fl.go ())
  | e12 :: xs12, i12 =>
    if (!((mget t4.2.1 (i12 : Int)).getD false)) then
    quaysidetop_WholeVariants_L12 t4 stored n xs12 (i12 + 1)
    else
    (quaysidetop_WholeVariants_L14 stored t4 i12 e12 n false ((i12 : Int) + 1)).bind fun t14 =>
    if (!t14.1) then
    some (Fl.ret false)
    else
    quaysidetop_WholeVariants_L12 t4 stored n xs12 (i12 + 1)
noncomputable def quaysidetop_WholeVariants (n : Nat) (stored : (List (List S_field_Field))) (varies : (List Str)) (ask : (List S_field_Field)) : Option (Bool) :=
  (if ((decide ((stored.length : Int) > 12) || decide ((varies.length : Int) > 12)) || decide ((ask.length : Int) > 12)) then some true else (quaysidetop_varyAwake n).bind fun x49 =>
  some (!x49)).bind fun x51 =>
  if x51 then
  (quaysidetop_varyAwake n).bind fun x52 =>
  some x52
  else
  (chk (([] : List (List S_field_Field)).length + stored.length ≤ lim)).bind fun _ =>
  (chk ((([] : List (List S_field_Field)) ++ stored).length + [ask].length ≤ lim)).bind fun _ =>
  (chk (((([] : List (List S_field_Field)) ++ stored) ++ [ask]).length ≤ szMax)).bind fun _ =>
  (quaysidetop_WholeVariants_L0 ((([] : List (List S_field_Field)) ++ stored) ++ [ask]) 0).bind fun s0 => s0.el some fun t0 =>
  (vary_New).bind fun x90 =>
  (chk (stored.length ≤ szMax)).bind fun _ =>
  (quaysidetop_WholeVariants_L4 varies n stored 0 [] [] x90).bind fun s4 => s4.el some fun t4 =>
  (vary_Set_Find t4.2.2 ask).bind fun x138 =>
  (chk (InI ((stored.length : Int) - 1))).bind fun _ =>
  (quaysidetop_WholeVariants_L8 t4 stored ask x138 n 0 ((stored.length : Int) - 1)).bind fun s8 => s8.el some fun t8 =>
  (chk (stored.length ≤ szMax)).bind fun _ =>
  (quaysidetop_WholeVariants_L12 t4 stored n stored 0).bind fun s12 => s12.el some fun t12 =>
  (syntax_Quote ([97] : Str)).bind fun x242 =>
  some ((decide (t8.1 = (x138.length : Int)) && x242.2.isNone) && decide (x242.1 = ([34, 97, 34] : Str)))
set_option maxHeartbeats 8000000 in
theorem quaysidetop_WholeVariants_ok {n : Nat} {stored : (List (List S_field_Field))} {varies : (List Str)} {ask : (List S_field_Field)} {ap0_0 : Option Addr} {cp0_0 : Nat} {n0 : Nat} {ap1_0 : Option Addr} {cp1_0 : Nat} {n1 : Nat} {ap2_0 : Option Addr} {cp2_0 : Nat} {n2 : Nat} {K : Hp} {r : Bool}
    (hm : quaysidetop_WholeVariants n stored varies ask = some r) (hp0_0 : LiC (sliL S_field_Field.enc 2) K ap0_0 cp0_0 1 stored) (en0 : n0 = stored.length) (hp1_0 : RdC eS K ap1_0 cp1_0 1 varies) (en1 : n1 = varies.length) (hp2_0 : RdC S_field_Field.enc K ap2_0 cp2_0 2 ask) (en2 : n2 = ask.length) :
    Fn Tryd.prog 3 [.slice ap0_0 n0 cp0_0, .slice ap1_0 n1 cp1_0, .slice ap2_0 n2 cp2_0] K [] (fun v K' H' => v = .bool r ∧ H' = []) := by
  subst en0
  subst en1
  subst en2
  refine Fn.enter Tryd.func3 Tryd.call3 rfl fun F => ?_
  unfold quaysidetop_WholeVariants at hm
  conv => whnf
  refine RStep.of (len_slice rfl ?_)
  conv => whnf
  refine cond_s (fun g38_1 => ?_) (fun g38_1 => ?_)
  · conv => whnf
    refine cond_t g38_1 ?_
    conv => whnf
    refine cond_t g38_1 ?_
    conv => whnf
    refine cond_t g38_1 ?_
    conv => whnf
    refine cond_T ?_
    conv => whnf
    refine cond_T ?_
    conv => whnf
    refine cond_T ?_
    conv => whnf
    refine cond_T ?_
    obtain ⟨x51, e51, hm⟩ := bnd hm
    replace e51 := ift (or_t (or_t g38_1)) e51
    conv => whnf
    refine cond_T ?_
    conv => whnf
    refine cond_T ?_
    conv => whnf
    refine cond_T ?_
    conv => whnf
    refine cond_go rfl ?_
    conv => whnf
    refine cond_T ?_
    replace hm := ift (si e51).symm hm
    obtain ⟨x52, q52, hm⟩ := bnd hm
    conv => whnf
    refine call_fn (quaysidetop_varyAwake_ok q52) .nil ?_
    rintro _ K52 _ l52 ⟨rfl, rfl⟩
    obtain rfl := si hm
    conv => whnf
    refine EndStep.mk _ l52 ⟨rfl, rfl⟩ (ConvH.of (.cons r0 .nil))
  · conv => whnf
    refine cond_f g38_1 ?_
    conv => whnf
    refine RStep.of (len_slice rfl ?_)
    conv => whnf
    refine cond_f g38_1 ?_
    conv => whnf
    refine cond_f g38_1 ?_
    conv => whnf
    refine cond_s (fun g43_1 => ?_) (fun g43_1 => ?_)
    · conv => whnf
      refine cond_t g43_1 ?_
      conv => whnf
      refine cond_t g43_1 ?_
      conv => whnf
      refine cond_t g43_1 ?_
      obtain ⟨x51, e51, hm⟩ := bnd hm
      replace e51 := ift (or_t (or_u g38_1 g43_1)) e51
      conv => whnf
      refine cond_T ?_
      conv => whnf
      refine cond_T ?_
      conv => whnf
      refine cond_T ?_
      conv => whnf
      refine cond_go rfl ?_
      conv => whnf
      refine cond_T ?_
      replace hm := ift (si e51).symm hm
      obtain ⟨x52, q52, hm⟩ := bnd hm
      conv => whnf
      refine call_fn (quaysidetop_varyAwake_ok q52) .nil ?_
      rintro _ K52 _ l52 ⟨rfl, rfl⟩
      obtain rfl := si hm
      conv => whnf
      refine EndStep.mk _ l52 ⟨rfl, rfl⟩ (ConvH.of (.cons r0 .nil))
    · conv => whnf
      refine cond_f g43_1 ?_
      conv => whnf
      refine RStep.of (len_slice rfl ?_)
      conv => whnf
      refine cond_f g43_1 ?_
      conv => whnf
      refine cond_f g43_1 ?_
      obtain ⟨x51, e51, hm⟩ := bnd hm
      conv => whnf
      refine cond_s (fun g48_1 => ?_) (fun g48_1 => ?_)
      · replace e51 := ift (or_u (or_f g38_1 g43_1) g48_1) e51
        conv => whnf
        refine cond_t g48_1 ?_
        conv => whnf
        refine cond_t g48_1 ?_
        conv => whnf
        refine cond_go rfl ?_
        conv => whnf
        refine cond_T ?_
        replace hm := ift (si e51).symm hm
        obtain ⟨x52, q52, hm⟩ := bnd hm
        conv => whnf
        refine call_fn (quaysidetop_varyAwake_ok q52) .nil ?_
        rintro _ K52 _ l52 ⟨rfl, rfl⟩
        obtain rfl := si hm
        conv => whnf
        refine EndStep.mk _ l52 ⟨rfl, rfl⟩ (ConvH.of (.cons r0 .nil))
      · replace e51 := iff_ (or_f (or_f g38_1 g43_1) g48_1) e51
        obtain ⟨x49, q49, e51⟩ := bnd e51
        conv => whnf
        refine call_fn (quaysidetop_varyAwake_ok q49) .nil ?_
        rintro _ K49 _ l49 ⟨rfl, rfl⟩
        conv => whnf
        refine cond_f g48_1 ?_
        conv => whnf
        refine un_not ?_
        conv => whnf
        refine cond_f g48_1 ?_
        conv => whnf
        refine cond_go rfl ?_
        conv => whnf
        refine cond_s (fun w51 => ?_) (fun w51 => ?_)
        · replace hm := ift ((si e51).symm.trans (not_t (ni_t w51))) hm
          obtain ⟨x52, q52, hm⟩ := bnd hm
          conv => whnf
          refine call_fn (quaysidetop_varyAwake_ok q52) .nil ?_
          rintro _ K52 _ l52 ⟨rfl, rfl⟩
          obtain rfl := si hm
          conv => whnf
          refine EndStep.mk _ (l49.trans l52) ⟨rfl, rfl⟩ (ConvH.of (.cons r0 .nil))
        · replace hm := iff_ ((si e51).symm.trans (not_f (ni_f w51))) hm
          conv => whnf
          refine bsOR (R := (sliL S_field_Field.enc 2)) (len := 0) (l := ([] : List (List S_field_Field))) (css := []) (cl := []) sliL_ok elT22 rfl rfl LR.nil rfl rfl rfl ?_ fun b53 => ?_
          · conv => whnf
            first | done | rfl
          obtain ⟨h55, hm⟩ := chkb hm
          conv => whnf
          refine apRk r0 (show LR (sliL S_field_Field.enc 2) _ [] ([] : List (List S_field_Field)) from LR.nil) rfl elT22 rfl (LiC.mono sliL_ok l49 hp0_0) rfl h55 ?_
          intro a55 c55 s55 r_55 o55
          conv => whnf
          refine bsOR (R := (sliL S_field_Field.enc 2)) (len := 1) (l := [ask]) (css := [[.slice ap2_0 ask.length cp2_0]]) (cl := [.slice ap2_0 ask.length cp2_0]) sliL_ok elT22 rfl rfl (LR.snoc LR.nil ⟨ap2_0, cp2_0, rfl, (hp2_0.mono l49)⟩) rfl rfl rfl ?_ fun b57 => ?_
          · conv => whnf
            refine cond_T ?_
            conv => whnf
            first | done | rfl
          obtain ⟨h58, hm⟩ := chkb hm
          conv => whnf
          refine apRl r1 r_55 rfl elT22 (src_ownR rfl r0 rfl sliL_ok (show LR (sliL S_field_Field.enc 2) _ [[.slice ap2_0 ask.length cp2_0]] [ask] from (LR.snoc LR.nil ⟨ap2_0, cp2_0, rfl, (hp2_0.mono l49)⟩))) (show LR (sliL S_field_Field.enc 2) _ [[.slice ap2_0 ask.length cp2_0]] [ask] from (LR.snoc LR.nil ⟨ap2_0, cp2_0, rfl, (hp2_0.mono l49)⟩)) h58 ?_
          intro a58 c58 s58 r_58 o58
          conv => whnf
          refine RStep.of (len_slice rfl ?_)
          obtain ⟨hk0, hm⟩ := chkb hm
          obtain ⟨s0, hl0, hm⟩ := bnd hm
          conv => whnf
          refine code_cut (σ := (Unit)) [6, 8, 10, 60, 61, 62, 63, 64, 65, 66, 67, 68, 69, 70, 71, 72, 73, 74, 75, 76, 77, 78, 79, 80, 81, 82, 83, 84, 85, 86, 87, 88, 89] (fun t0 => []) (fun t0 => [OwnA a58 25 1 c58 s58, OwnA (some ⟨b57, 0, none⟩) 25 1 1 ([[.slice ap2_0 ask.length cp2_0]]), F]) (fun zz K1 => match zz with | t0 => s0 = Fl.go t0) ?_ ?_
          · refine block_go rfl ?_
            conv => whnf
            refine loop_rule (σ := Nat) [6, 8, 10, 60, 61, 62, 63, 64, 65, 66, 67, 68, 69, 70, 71, 72, 73, 74, 75, 76, 77, 78, 79, 80, 81, 82, 83, 84, 85, 86, 87, 88, 89] (fun i0 => [(60, .int .i64 (i0 : Int))]) (fun i0 => [OwnA a58 25 1 c58 s58, OwnA (some ⟨b57, 0, none⟩) 25 1 1 ([[.slice ap2_0 ask.length cp2_0]]), F]) (fun zz K1 => match zz with | i0 => quaysidetop_WholeVariants_L0 (((([] : List (List S_field_Field)) ++ stored) ++ [ask]).drop i0) i0 = some s0) (fun zz => ((([] : List (List S_field_Field)) ++ stored) ++ [ask]).length - zz) (0) rfl ⟨rfl, trivial⟩ (ConvH.of (.cons r0 (.cons r0 (.cons r0 .nil)))) hl0 ?_
            clear hl0
            rintro i0 Kb0 lk0 hl0 j0
            conv at hl0 => whnf
            conv => whnf
            refine cond_go rfl ?_
            conv => whnf
            refine cond_s (fun w0 => ?_) (fun w0 => ?_)
            · obtain ⟨e0, hx0, hd0⟩ := ltx w0
              rw [hd0, quaysidetop_WholeVariants_L0.eq_2] at hl0
              conv => whnf
              refine block_go rfl ?_
              conv => whnf
              refine RStep.ofN (index_addr rfl rfl (hasO o58 hx0) (nn _) (lt_ofNE rfl hx0) ?_)
              obtain ⟨cc63, hc63, hR63⟩ := LR.get (LR.mono sliL_ok lk0 r_58) hx0
              obtain ⟨a63_0, c63_0, rfl, h63_0⟩ := hR63
              conv => whnf
              refine RStep.of (ldA (i := i0) (o := 0) r0 rfl hc63 rfl rfl ?_)
              conv => whnf
              refine RStep.of (len_slice rfl ?_)
              obtain ⟨x71, e71, hl0⟩ := bnd hl0
              conv => whnf
              refine cond_s (fun g67_6 => ?_) (fun g67_6 => ?_)
              · replace e71 := ift g67_6 e71
                conv => whnf
                refine cond_t g67_6 ?_
                conv => whnf
                refine cond_t g67_6 ?_
                conv => whnf
                refine cond_t g67_6 ?_
                conv => whnf
                refine cond_go rfl ?_
                conv => whnf
                refine cond_T ?_
                replace hl0 := ift (si e71).symm hl0
                obtain rfl := si hl0
                replace hm := elr hm
                obtain rfl := si hm
                conv => whnf
                refine EndStep.mk _ (l49.trans lk0) ⟨rfl, rfl⟩ (ConvH.of (.cons r2 .nil))
              · replace e71 := iff_ g67_6 e71
                conv => whnf
                refine cond_f g67_6 ?_
                obtain ⟨x69, q69, e71⟩ := bnd e71
                conv => whnf
                refine call_fn (field_Check_ok q69 h63_0 rfl) .nil ?_
                rintro _ K69 _ l69 ⟨rfl, rfl⟩
                conv => whnf
                refine cond_f g67_6 ?_
                conv => whnf
                refine neq_err rfl ?_
                conv => whnf
                refine cond_f g67_6 ?_
                conv => whnf
                refine cond_go rfl ?_
                conv => whnf
                refine cond_s (fun w71 => ?_) (fun w71 => ?_)
                · replace hl0 := ift ((si e71).symm.trans w71) hl0
                  obtain rfl := si hl0
                  replace hm := elr hm
                  obtain rfl := si hm
                  conv => whnf
                  refine EndStep.mk _ ((l49.trans lk0).trans l69) ⟨rfl, rfl⟩ (ConvH.of (.cons r2 .nil))
                · replace hl0 := iff_ ((si e71).symm.trans w71) hl0
                  conv => whnf
                  refine RStep.of (len_slice rfl ?_)
                  obtain ⟨hk2, hl0⟩ := chkb hl0
                  obtain ⟨s2, hl2, hl0⟩ := bnd hl0
                  conv => whnf
                  refine code_cut (σ := (Unit)) [6, 10, 74, 75, 76, 77, 78, 79, 80, 81, 82, 83, 84, 85, 86, 87, 88] (fun t2 => []) (fun t2 => [OwnA a58 25 1 c58 s58, OwnA (some ⟨b57, 0, none⟩) 25 1 1 ([[.slice ap2_0 ask.length cp2_0]]), F]) (fun zz K1 => match zz with | t2 => s2 = Fl.go t2) ?_ ?_
                  · refine block_go rfl ?_
                    conv => whnf
                    refine loop_rule (σ := Nat) [6, 10, 74, 75, 76, 77, 78, 79, 80, 81, 82, 83, 84, 85, 86, 87, 88] (fun i2 => [(74, .int .i64 (i2 : Int))]) (fun i2 => [OwnA a58 25 1 c58 s58, OwnA (some ⟨b57, 0, none⟩) 25 1 1 ([[.slice ap2_0 ask.length cp2_0]]), F]) (fun zz K1 => match zz with | i2 => quaysidetop_WholeVariants_L2 (e0.drop i2) i2 = some s2) (fun zz => e0.length - zz) (0) rfl ⟨rfl, trivial⟩ (ConvH.of (.cons r0 (.cons r0 (.cons r0 .nil)))) hl2 ?_
                    clear hl2
                    rintro i2 Kb2 lk2 hl2 j2
                    conv at hl2 => whnf
                    conv => whnf
                    refine cond_go rfl ?_
                    conv => whnf
                    refine cond_s (fun w2 => ?_) (fun w2 => ?_)
                    · obtain ⟨e2, hx2, hd2⟩ := ltx w2
                      rw [hd2, quaysidetop_WholeVariants_L2.eq_2] at hl2
                      conv => whnf
                      refine block_go rfl ?_
                      conv => whnf
                      refine RStep.ofN (index_addr rfl rfl (hasK (h63_0.mono (l69.trans lk2)).rd hx2) (nn _) (lt_ofN hx2) ?_)
                      conv => whnf
                      refine RStep.of (load_rd_agg i2 _ (h63_0.mono (l69.trans lk2)).rd rfl (mp hx2) rfl ?_)
                      conv => whnf
                      refine alloc_rule rfl ?_
                      intro b10
                      conv => whnf
                      refine store_rule r0 rfl ?_
                      conv => whnf
                      refine ⟨rfl, rfl, (Nat.le_of_ble_eq_true rfl), ?_⟩
                      conv => whnf
                      refine field_addr rfl ?_
                      conv => whnf
                      refine RStep.of (load1_s r0 rfl rfl ?_)
                      obtain ⟨x80, q80, hl2⟩ := bnd hl2
                      conv => whnf
                      refine call_fn (quaysidetop_plainValue_ok (s := e2.Value) q80) .nil ?_
                      rintro _ K80 _ l80 ⟨rfl, rfl⟩
                      conv => whnf
                      refine un_not ?_
                      conv => whnf
                      refine cond_s (fun g82_11 => ?_) (fun g82_11 => ?_)
                      · conv => whnf
                        refine cond_t g82_11 ?_
                        conv => whnf
                        refine cond_t g82_11 ?_
                        conv => whnf
                        refine cond_t g82_11 ?_
                        conv => whnf
                        refine cond_t g82_11 ?_
                        conv => whnf
                        refine cond_go rfl ?_
                        conv => whnf
                        refine cond_T ?_
                        replace hl2 := ift (or_t (not_t (ni_t g82_11))) hl2
                        obtain rfl := si hl2
                        replace hl0 := elr hl0
                        obtain rfl := si hl0
                        replace hm := elr hm
                        obtain rfl := si hm
                        conv => whnf
                        refine EndStep.mk _ ((((l49.trans lk0).trans l69).trans lk2).trans l80) ⟨rfl, rfl⟩ (ConvH.of (.cons r3 .nil))
                      · conv => whnf
                        refine field_addr rfl ?_
                        conv => whnf
                        refine cond_f g82_11 ?_
                        conv => whnf
                        refine RStep.of (load1_s r0 rfl rfl ?_)
                        conv => whnf
                        refine cond_f g82_11 ?_
                        conv => whnf
                        refine RStep.of (len_str rfl ?_)
                        conv => whnf
                        refine cond_f g82_11 ?_
                        conv => whnf
                        refine cond_f g82_11 ?_
                        conv => whnf
                        refine cond_go rfl ?_
                        conv => whnf
                        refine cond_s (fun w87 => ?_) (fun w87 => ?_)
                        · replace hl2 := ift (or_u (not_f (ni_f g82_11)) w87) hl2
                          obtain rfl := si hl2
                          replace hl0 := elr hl0
                          obtain rfl := si hl0
                          replace hm := elr hm
                          obtain rfl := si hm
                          conv => whnf
                          refine EndStep.mk _ ((((l49.trans lk0).trans l69).trans lk2).trans l80) ⟨rfl, rfl⟩ (ConvH.of (.cons r3 .nil))
                        · replace hl2 := iff_ (or_f (not_f (ni_f g82_11)) w87) hl2
                          conv => whnf
                          refine int_in (cntz hx2 hk2) ?_
                          conv => whnf
                          refine RoundStep.mk (i2 + 1) ⟨rfl, trivial⟩ (by repeat (first | exact trivial | refine And.intro rfl ?_)) (ConvH.of (.cons r1 (.cons r1 (.cons r1 .nil)))) (lk2.trans l80) (ltm hx2) hl2
                    · rw [lty w2, quaysidetop_WholeVariants_L2.eq_1] at hl2
                      conv => whnf
                      refine cond_T ?_
                      conv => whnf
                      refine MeetStep.mk (()) trivial (by repeat (first | exact trivial | refine And.intro rfl ?_)) (ConvH.of (.cons r0 (.cons r0 (.cons r0 .nil)))) lk2 (si hl2).symm
                  · rintro t2 Kt2 lt2 rfl j2
                    replace hl0 := elg hl0
                    conv => whnf
                    refine int_in (cntz hx0 hk0) ?_
                    conv => whnf
                    refine RoundStep.mk (i0 + 1) ⟨rfl, trivial⟩ (by repeat (first | exact trivial | refine And.intro rfl ?_)) (ConvH.of (.cons r0 (.cons r0 (.cons r0 .nil)))) ((lk0.trans l69).trans lt2) (ltm hx0) hl0
            · rw [lty w0, quaysidetop_WholeVariants_L0.eq_1] at hl0
              conv => whnf
              refine cond_T ?_
              conv => whnf
              refine MeetStep.mk (()) trivial (by repeat (first | exact trivial | refine And.intro rfl ?_)) (ConvH.of (.cons r0 (.cons r0 (.cons r0 .nil)))) lk0 (si hl0).symm
          · rintro t0 Kt0 lt0 rfl j0
            replace hm := elg hm
            obtain ⟨x90, q90, hm⟩ := bnd hm
            conv => whnf
            refine call_fn (vary_New_ok q90) .nil ?_
            rintro _ K90 _ l90 ⟨b90_0, a90_1, c90_1, s90_1, rfl, h90_1, r90_1, rfl⟩
            conv => whnf
            refine makeMap_rule intK (fun x => .bool x) fun b91 => ?_
            conv => whnf
            refine RStep.of (len_slice rfl ?_)
            obtain ⟨hk4, hm⟩ := chkb hm
            obtain ⟨s4, hl4, hm⟩ := bnd hm
            conv => whnf
            refine nilC (fun _ : (List Str) => []) 23 1 ?_
            refine code_cut (σ := ((List (List Str)) × (List (Int × Bool)) × S_vary_Set) × Option Addr × Nat × List (List Value) × Option Addr × Nat × List (List Value)) [6, 12, 14, 15, 16, 17, 18, 20, 94, 95, 96, 97, 98, 99, 100, 101, 102, 103, 104, 105, 106, 107, 108, 109, 110, 111, 112, 113, 114, 115, 116, 117, 118, 119, 120, 121, 122, 123, 124, 125, 126, 127, 128, 129, 130, 131, 132, 133, 134, 135] (fun (t4, t4_a0, t4_c0, t4_s0, at4_2_0, ct4_2_0, st4_2_0) => [(12, .slice t4_a0 t4.1.length t4_c0)]) (fun (t4, t4_a0, t4_c0, t4_s0, at4_2_0, ct4_2_0, st4_2_0) => [OwnA t4_a0 23 1 t4_c0 t4_s0, Cells b90_0 52 [.slice at4_2_0 t4.2.2.list.length ct4_2_0], OwnA at4_2_0 60 3 ct4_2_0 st4_2_0, MapE intK (fun x => .bool x) b91 t4.2.1, OwnA a58 25 1 c58 s58, OwnA (some ⟨b57, 0, none⟩) 25 1 1 ([[.slice ap2_0 ask.length cp2_0]]), F]) (fun zz K1 => match zz with | (t4, t4_a0, t4_c0, t4_s0, at4_2_0, ct4_2_0, st4_2_0) => LR (sliL eS 1) K1 t4_s0 t4.1 ∧ (0 < t4.1.length → Has t4_a0) ∧ (0 < t4.2.2.list.length → Has at4_2_0) ∧ LR S_vary_variant.R K1 st4_2_0 t4.2.2.list ∧ s4 = Fl.go t4) ?_ ?_
            · refine block_go rfl ?_
              conv => whnf
              refine loop_rule (σ := Nat × (List (List Str)) × (List (Int × Bool)) × S_vary_Set × Option Addr × Nat × List (List Value) × Option Addr × Nat × List (List Value)) [6, 12, 14, 15, 16, 17, 18, 20, 94, 95, 96, 97, 98, 99, 100, 101, 102, 103, 104, 105, 106, 107, 108, 109, 110, 111, 112, 113, 114, 115, 116, 117, 118, 119, 120, 121, 122, 123, 124, 125, 126, 127, 128, 129, 130, 131, 132, 133, 134, 135] (fun (i4, y4_0, y4_1, y4_2, y4_a0, y4_c0, y4_s0, ay4_2_0, cy4_2_0, sy4_2_0) => [(94, .int .i64 (i4 : Int)), (12, .slice y4_a0 y4_0.length y4_c0)]) (fun (i4, y4_0, y4_1, y4_2, y4_a0, y4_c0, y4_s0, ay4_2_0, cy4_2_0, sy4_2_0) => [OwnA y4_a0 23 1 y4_c0 y4_s0, Cells b90_0 52 [.slice ay4_2_0 y4_2.list.length cy4_2_0], OwnA ay4_2_0 60 3 cy4_2_0 sy4_2_0, MapE intK (fun x => .bool x) b91 y4_1, OwnA a58 25 1 c58 s58, OwnA (some ⟨b57, 0, none⟩) 25 1 1 ([[.slice ap2_0 ask.length cp2_0]]), F]) (fun zz K1 => match zz with | (i4, y4_0, y4_1, y4_2, y4_a0, y4_c0, y4_s0, ay4_2_0, cy4_2_0, sy4_2_0) => LR (sliL eS 1) K1 y4_s0 y4_0 ∧ (0 < y4_0.length → Has y4_a0) ∧ (0 < y4_2.list.length → Has ay4_2_0) ∧ LR S_vary_variant.R K1 sy4_2_0 y4_2.list ∧ quaysidetop_WholeVariants_L4 varies n (stored.drop i4) i4 y4_0 y4_1 y4_2 = some s4) (fun zz => stored.length - zz.1) (0, [], [], x90, none, 0, [], a90_1, c90_1, s90_1) rfl ⟨rfl, rfl, trivial⟩ (ConvH.of (.cons r0 (.cons r1 (.cons r1 (.cons r0 (.cons r0 (.cons r0 (.cons r0 .nil)))))))) ⟨LR.nil, (fun h => by simp at h), h90_1, r90_1, hl4⟩ ?_
              clear hl4
              rintro ⟨i4, y4_0, y4_1, y4_2, y4_a0, y4_c0, y4_s0, ay4_2_0, cy4_2_0, sy4_2_0⟩ Kb4 lk4 ⟨y4_r0, y4_h0, hy4_2_0, ry4_2_0, hl4⟩ j4
              conv => whnf
              refine cond_go rfl ?_
              conv => whnf
              refine cond_s (fun w4 => ?_) (fun w4 => ?_)
              · obtain ⟨e4, hx4, hd4⟩ := ltx w4
                rw [hd4, quaysidetop_WholeVariants_L4.eq_2] at hl4
                conv => whnf
                refine block_go rfl ?_
                conv => whnf
                refine RStep.ofN (index_addr rfl rfl (hasR (LiC.mono sliL_ok (((l49.trans lt0).trans l90).trans lk4) hp0_0).rd hx4) (nn _) (lt_ofN hx4) ?_)
                obtain ⟨ss98, cc98, hr98, hc98, hR98⟩ := LiR.get (LiC.mono sliL_ok (((l49.trans lt0).trans l90).trans lk4) hp0_0).rd hx4
                obtain ⟨a98_0, c98_0, rfl, h98_0⟩ := hR98
                conv => whnf
                refine RStep.of (load_rd i4 0 _ _ hr98 rfl hc98 rfl rfl ?_)
                conv => whnf
                refine RStep.of (len_slice rfl ?_)
                conv => whnf
                refine cond_go rfl ?_
                conv => whnf
                refine cond_s (fun w102 => ?_) (fun w102 => ?_)
                · replace hl4 := ift w102 hl4
                  obtain ⟨x105, l105, k105, hl4⟩ := ixb hl4
                  conv => whnf
                  refine RStep.ofN (index_addr rfl rfl (hasK (hp1_0.mono (((l49.trans lt0).trans l90).trans lk4)).rd k105) l105 (lt_ofE rfl l105 k105) ?_)
                  conv => whnf
                  refine RStep.of (load_rd (((i4 : Int)).toNat) 0 _ _ (hp1_0.mono (((l49.trans lt0).trans l90).trans lk4)).rd rfl (mp k105) rfl rfl ?_)
                  conv => whnf
                  refine RStep.of (len_str rfl ?_)
                  conv => whnf
                  refine cond_go rfl ?_
                  conv => whnf
                  refine cond_s (fun w109 => ?_) (fun w109 => ?_)
                  · replace hl4 := ift w109 hl4
                    obtain rfl := si hl4
                    replace hm := elr hm
                    obtain rfl := si hm
                    conv => whnf
                    refine EndStep.mk _ (((l49.trans lt0).trans l90).trans lk4) ⟨rfl, rfl⟩ (ConvH.of (.cons r6 .nil))
                  · replace hl4 := iff_ w109 hl4
                    conv => whnf
                    refine build_struct rfl rfl ?_
                    conv => whnf
                    refine cond_T ?_
                    conv => whnf
                    refine cond_T ?_
                    conv => whnf
                    refine bsO (len := 1) (enc := S_field_Field.enc) (l := [(⟨([118, 97, 114, 121] : Str), x105⟩ : S_field_Field)]) (cl := [str ([118, 97, 114, 121] : Str), str x105]) elT25 rfl rfl (fun _ _ => rfl) rfl rfl rfl ?_ fun b113 => ?_
                    · conv => whnf
                      refine cond_T ?_
                      conv => whnf
                      first | done | rfl
                    obtain ⟨x114, q114, hl4⟩ := bnd hl4
                    conv => whnf
                    refine call_fn (Fn.lend Tryd.call8 (fun K114_0 l114_0 f114_0 => (vary_Names_ok q114 f114_0 rfl)) (by exact fun _ _ _ _ h => h)) (.cons r0 .nil) ?_
                    rintro _ K114 _ l114 ⟨_, rfl, a114_0, c114_0, rfl, h114_0, rfl⟩
                    conv => whnf
                    refine cond_go rfl ?_
                    conv => whnf
                    refine cond_s (fun w117 => ?_) (fun w117 => ?_)
                    · replace hl4 := ift w117 hl4
                      conv => whnf
                      refine bsOR (R := (sliL eS 1)) (len := 1) (l := ([[]] : List (List Str))) (css := [[.slice none 0 0]]) (cl := [.slice none 0 0]) sliL_ok elT35 rfl rfl (LR.snoc LR.nil ⟨none, 0, rfl, RdC.nil⟩) rfl rfl rfl ?_ fun b120 => ?_
                      · conv => whnf
                        refine cond_T ?_
                        conv => whnf
                        first | done | rfl
                      obtain ⟨h121, hl4⟩ := chkb hl4
                      conv => whnf
                      refine apRl r3 (LR.mono sliL_ok l114 y4_r0) rfl elT35 (src_ownR rfl r0 rfl sliL_ok (show LR (sliL eS 1) _ [[.slice none 0 0]] ([[]] : List (List Str)) from (LR.snoc LR.nil ⟨none, 0, rfl, RdC.nil⟩))) (show LR (sliL eS 1) _ [[.slice none 0 0]] ([[]] : List (List Str)) from (LR.snoc LR.nil ⟨none, 0, rfl, RdC.nil⟩)) h121 ?_
                      intro a121 c121 s121 r_121 o121
                      obtain ⟨x126, q126, hl4⟩ := bnd hl4
                      conv => whnf
                      refine call_fn (vary_Set_Put_ok (s := y4_2) (id := (i4 : Int)) q126 hy4_2_0 (LR.mono S_vary_variant.R_ok l114 ry4_2_0) RdC.nil rfl (h98_0.mono l114) rfl) (.cons r4 (.cons r4 .nil)) ?_
                      rintro _ K126 _ l126 ⟨a126_0, c126_0, a126_1, c126_1, s126_1, rfl, h126_0, h126_1, r126_1, rfl⟩
                      conv => whnf
                      refine RStep.of (len_slice rfl ?_)
                      obtain ⟨hk6, hl4⟩ := chkb hl4
                      obtain ⟨s6, hl6, hl4⟩ := bnd hl4
                      conv => whnf
                      refine code_cut (σ := ((List (Int × Bool)))) [20, 128, 129, 130, 131, 132, 133, 134] (fun t6 => []) (fun t6 => [OwnL eN a126_0 3 1 c126_0 x126.1, Cells b90_0 52 [.slice a126_1 x126.2.list.length c126_1], OwnA a126_1 60 3 c126_1 s126_1, OwnA a121 23 1 c121 s121, OwnA (some ⟨b120, 0, none⟩) 23 1 1 ([[.slice none 0 0]]), OwnL S_field_Field.enc (some ⟨b113, 0, none⟩) 31 2 1 ([(⟨([118, 97, 114, 121] : Str), x105⟩ : S_field_Field)]), OwnL eS a114_0 9 1 c114_0 x114.1, MapE intK (fun x => .bool x) b91 t6, OwnA a58 25 1 c58 s58, OwnA (some ⟨b57, 0, none⟩) 25 1 1 ([[.slice ap2_0 ask.length cp2_0]]), F]) (fun zz K1 => match zz with | t6 => t6 = s6) ?_ ?_
                      · refine block_go rfl ?_
                        conv => whnf
                        refine loop_rule (σ := Nat × (List (Int × Bool))) [20, 128, 129, 130, 131, 132, 133, 134] (fun (i6, y6_0) => [(128, .int .i64 (i6 : Int))]) (fun (i6, y6_0) => [OwnL eN a126_0 3 1 c126_0 x126.1, Cells b90_0 52 [.slice a126_1 x126.2.list.length c126_1], OwnA a126_1 60 3 c126_1 s126_1, OwnA a121 23 1 c121 s121, OwnA (some ⟨b120, 0, none⟩) 23 1 1 ([[.slice none 0 0]]), OwnL S_field_Field.enc (some ⟨b113, 0, none⟩) 31 2 1 ([(⟨([118, 97, 114, 121] : Str), x105⟩ : S_field_Field)]), OwnL eS a114_0 9 1 c114_0 x114.1, MapE intK (fun x => .bool x) b91 y6_0, OwnA a58 25 1 c58 s58, OwnA (some ⟨b57, 0, none⟩) 25 1 1 ([[.slice ap2_0 ask.length cp2_0]]), F]) (fun zz K1 => match zz with | (i6, y6_0) => quaysidetop_WholeVariants_L6 (x126.1.drop i6) i6 y6_0 = some s6) (fun zz => x126.1.length - zz.1) (0, y4_1) rfl ⟨rfl, trivial⟩ (ConvH.of (.cons r0 (.cons r0 (.cons r0 (.cons r0 (.cons r0 (.cons r0 (.cons r0 (.cons r0 (.cons r0 (.cons r0 (.cons r0 .nil)))))))))))) hl6 ?_
                        clear hl6
                        rintro ⟨i6, y6_0⟩ Kb6 lk6 hl6 j6
                        conv at hl6 => whnf
                        conv => whnf
                        refine cond_go rfl ?_
                        conv => whnf
                        refine cond_s (fun w6 => ?_) (fun w6 => ?_)
                        · obtain ⟨e6, hx6, hd6⟩ := ltx w6
                          rw [hd6, quaysidetop_WholeVariants_L6.eq_2] at hl6
                          conv => whnf
                          refine block_go rfl ?_
                          conv => whnf
                          refine RStep.ofN (index_addr rfl rfl (hasO h126_0 hx6) (nn _) (lt_ofNE rfl hx6) ?_)
                          conv => whnf
                          refine RStep.of (ld_own (i := i6) (o := 0) r0 rfl hx6 rfl rfl ?_)
                          conv => whnf
                          refine update_rule (kenc := intK) (venc := (fun x => .bool x)) true rfl r7 rfl (key_int rfl) ?_
                          conv => whnf
                          refine int_in (cntz hx6 hk6) ?_
                          conv => whnf
                          refine RoundStep.mk (i6 + 1, (mset y6_0 e6 true)) ⟨rfl, trivial⟩ (by repeat (first | exact trivial | refine And.intro rfl ?_)) (ConvH.of (.cons r1 (.cons r1 (.cons r1 (.cons r1 (.cons r1 (.cons r1 (.cons r1 (.cons r0 (.cons r0 (.cons r0 (.cons r0 .nil)))))))))))) lk6 (ltm hx6) hl6
                        · rw [lty w6, quaysidetop_WholeVariants_L6.eq_1] at hl6
                          conv => whnf
                          refine cond_T ?_
                          conv => whnf
                          refine MeetStep.mk (y6_0) trivial (by repeat (first | exact trivial | refine And.intro rfl ?_)) (ConvH.of (.cons r0 (.cons r0 (.cons r0 (.cons r0 (.cons r0 (.cons r0 (.cons r0 (.cons r0 (.cons r0 (.cons r0 (.cons r0 .nil)))))))))))) lk6 (si hl6)
                      · rintro t6 Kt6 lt6 rfl j6
                        conv => whnf
                        refine int_in (cntz hx4 hk4) ?_
                        conv => whnf
                        refine RoundStep.mk (i4 + 1, (y4_0 ++ ([[]] : List (List Str))), t6, x126.2, a121, c121, s121, a126_1, c126_1, s126_1) ⟨rfl, rfl, trivial⟩ (by repeat (first | exact trivial | refine And.intro rfl ?_)) (ConvH.of (.cons r3 (.cons r1 (.cons r1 (.cons r4 (.cons r4 (.cons r4 (.cons r4 .nil)))))))) (((lk4.trans l114).trans l126).trans lt6) (ltm hx4) ⟨(LR.mono sliL_ok (l126.trans lt6) r_121), o121, h126_1, (LR.mono S_vary_variant.R_ok lt6 r126_1), hl4⟩
                    · replace hl4 := iff_ w117 hl4
                      conv => whnf
                      refine fW r1 fun Kf120_0_0 lf120_0_0 ff120_0_0 => ?_
                      refine bsOR (R := (sliL eS 1)) (len := 1) (l := [x114.1]) (css := [[.slice a114_0 x114.1.length c114_0]]) (cl := [.slice a114_0 x114.1.length c114_0]) sliL_ok elT35 rfl rfl (LR.snoc LR.nil ⟨a114_0, c114_0, rfl, ff120_0_0⟩) rfl rfl rfl ?_ fun b120 => ?_
                      · conv => whnf
                        refine cond_T ?_
                        conv => whnf
                        first | done | rfl
                      obtain ⟨h121, hl4⟩ := chkb hl4
                      conv => whnf
                      refine apRl r2 (LR.mono sliL_ok (l114.trans lf120_0_0) y4_r0) rfl elT35 (src_ownR rfl r0 rfl sliL_ok (show LR (sliL eS 1) _ [[.slice a114_0 x114.1.length c114_0]] [x114.1] from (LR.snoc LR.nil ⟨a114_0, c114_0, rfl, ff120_0_0⟩))) (show LR (sliL eS 1) _ [[.slice a114_0 x114.1.length c114_0]] [x114.1] from (LR.snoc LR.nil ⟨a114_0, c114_0, rfl, ff120_0_0⟩)) h121 ?_
                      intro a121 c121 s121 r_121 o121
                      obtain ⟨x126, q126, hl4⟩ := bnd hl4
                      conv => whnf
                      refine call_fn (vary_Set_Put_ok (s := y4_2) (id := (i4 : Int)) q126 hy4_2_0 (LR.mono S_vary_variant.R_ok (l114.trans lf120_0_0) ry4_2_0) ff120_0_0 rfl (h98_0.mono (l114.trans lf120_0_0)) rfl) (.cons r3 (.cons r3 .nil)) ?_
                      rintro _ K126 _ l126 ⟨a126_0, c126_0, a126_1, c126_1, s126_1, rfl, h126_0, h126_1, r126_1, rfl⟩
                      conv => whnf
                      refine RStep.of (len_slice rfl ?_)
                      obtain ⟨hk6, hl4⟩ := chkb hl4
                      obtain ⟨s6, hl6, hl4⟩ := bnd hl4
                      conv => whnf
                      refine code_cut (σ := ((List (Int × Bool)))) [20, 128, 129, 130, 131, 132, 133, 134] (fun t6 => []) (fun t6 => [OwnL eN a126_0 3 1 c126_0 x126.1, Cells b90_0 52 [.slice a126_1 x126.2.list.length c126_1], OwnA a126_1 60 3 c126_1 s126_1, OwnA a121 23 1 c121 s121, OwnA (some ⟨b120, 0, none⟩) 23 1 1 ([[.slice a114_0 x114.1.length c114_0]]), OwnL S_field_Field.enc (some ⟨b113, 0, none⟩) 31 2 1 ([(⟨([118, 97, 114, 121] : Str), x105⟩ : S_field_Field)]), MapE intK (fun x => .bool x) b91 t6, OwnA a58 25 1 c58 s58, OwnA (some ⟨b57, 0, none⟩) 25 1 1 ([[.slice ap2_0 ask.length cp2_0]]), F]) (fun zz K1 => match zz with | t6 => t6 = s6) ?_ ?_
                      · refine block_go rfl ?_
                        conv => whnf
                        refine loop_rule (σ := Nat × (List (Int × Bool))) [20, 128, 129, 130, 131, 132, 133, 134] (fun (i6, y6_0) => [(128, .int .i64 (i6 : Int))]) (fun (i6, y6_0) => [OwnL eN a126_0 3 1 c126_0 x126.1, Cells b90_0 52 [.slice a126_1 x126.2.list.length c126_1], OwnA a126_1 60 3 c126_1 s126_1, OwnA a121 23 1 c121 s121, OwnA (some ⟨b120, 0, none⟩) 23 1 1 ([[.slice a114_0 x114.1.length c114_0]]), OwnL S_field_Field.enc (some ⟨b113, 0, none⟩) 31 2 1 ([(⟨([118, 97, 114, 121] : Str), x105⟩ : S_field_Field)]), MapE intK (fun x => .bool x) b91 y6_0, OwnA a58 25 1 c58 s58, OwnA (some ⟨b57, 0, none⟩) 25 1 1 ([[.slice ap2_0 ask.length cp2_0]]), F]) (fun zz K1 => match zz with | (i6, y6_0) => quaysidetop_WholeVariants_L6 (x126.1.drop i6) i6 y6_0 = some s6) (fun zz => x126.1.length - zz.1) (0, y4_1) rfl ⟨rfl, trivial⟩ (ConvH.of (.cons r0 (.cons r0 (.cons r0 (.cons r0 (.cons r0 (.cons r0 (.cons r0 (.cons r0 (.cons r0 (.cons r0 .nil))))))))))) hl6 ?_
                        clear hl6
                        rintro ⟨i6, y6_0⟩ Kb6 lk6 hl6 j6
                        conv at hl6 => whnf
                        conv => whnf
                        refine cond_go rfl ?_
                        conv => whnf
                        refine cond_s (fun w6 => ?_) (fun w6 => ?_)
                        · obtain ⟨e6, hx6, hd6⟩ := ltx w6
                          rw [hd6, quaysidetop_WholeVariants_L6.eq_2] at hl6
                          conv => whnf
                          refine block_go rfl ?_
                          conv => whnf
                          refine RStep.ofN (index_addr rfl rfl (hasO h126_0 hx6) (nn _) (lt_ofNE rfl hx6) ?_)
                          conv => whnf
                          refine RStep.of (ld_own (i := i6) (o := 0) r0 rfl hx6 rfl rfl ?_)
                          conv => whnf
                          refine update_rule (kenc := intK) (venc := (fun x => .bool x)) true rfl r6 rfl (key_int rfl) ?_
                          conv => whnf
                          refine int_in (cntz hx6 hk6) ?_
                          conv => whnf
                          refine RoundStep.mk (i6 + 1, (mset y6_0 e6 true)) ⟨rfl, trivial⟩ (by repeat (first | exact trivial | refine And.intro rfl ?_)) (ConvH.of (.cons r1 (.cons r1 (.cons r1 (.cons r1 (.cons r1 (.cons r1 (.cons r0 (.cons r0 (.cons r0 (.cons r0 .nil))))))))))) lk6 (ltm hx6) hl6
                        · rw [lty w6, quaysidetop_WholeVariants_L6.eq_1] at hl6
                          conv => whnf
                          refine cond_T ?_
                          conv => whnf
                          refine MeetStep.mk (y6_0) trivial (by repeat (first | exact trivial | refine And.intro rfl ?_)) (ConvH.of (.cons r0 (.cons r0 (.cons r0 (.cons r0 (.cons r0 (.cons r0 (.cons r0 (.cons r0 (.cons r0 (.cons r0 .nil))))))))))) lk6 (si hl6)
                      · rintro t6 Kt6 lt6 rfl j6
                        conv => whnf
                        refine int_in (cntz hx4 hk4) ?_
                        conv => whnf
                        refine RoundStep.mk (i4 + 1, (y4_0 ++ [x114.1]), t6, x126.2, a121, c121, s121, a126_1, c126_1, s126_1) ⟨rfl, rfl, trivial⟩ (by repeat (first | exact trivial | refine And.intro rfl ?_)) (ConvH.of (.cons r3 (.cons r1 (.cons r1 (.cons r3 (.cons r3 (.cons r3 (.cons r3 .nil)))))))) ((((lk4.trans l114).trans lf120_0_0).trans l126).trans lt6) (ltm hx4) ⟨(LR.mono sliL_ok (l126.trans lt6) r_121), o121, h126_1, (LR.mono S_vary_variant.R_ok lt6 r126_1), hl4⟩
                · replace hl4 := iff_ w102 hl4
                  conv => whnf
                  refine RStep.of (len_str rfl ?_)
                  conv => whnf
                  refine cond_go rfl ?_
                  conv => whnf
                  refine cond_s (fun w109 => ?_) (fun w109 => ?_)
                  · replace hl4 := ift w109 hl4
                    obtain rfl := si hl4
                    replace hm := elr hm
                    obtain rfl := si hm
                    conv => whnf
                    refine EndStep.mk _ (((l49.trans lt0).trans l90).trans lk4) ⟨rfl, rfl⟩ (ConvH.of (.cons r6 .nil))
                  · replace hl4 := iff_ w109 hl4
                    conv => whnf
                    refine build_struct rfl rfl ?_
                    conv => whnf
                    refine cond_T ?_
                    conv => whnf
                    refine cond_T ?_
                    conv => whnf
                    refine bsO (len := 1) (enc := S_field_Field.enc) (l := [(⟨([118, 97, 114, 121] : Str), ([] : Str)⟩ : S_field_Field)]) (cl := [str ([118, 97, 114, 121] : Str), str ([] : Str)]) elT25 rfl rfl (fun _ _ => rfl) rfl rfl rfl ?_ fun b113 => ?_
                    · conv => whnf
                      refine cond_T ?_
                      conv => whnf
                      first | done | rfl
                    obtain ⟨x114, q114, hl4⟩ := bnd hl4
                    conv => whnf
                    refine call_fn (Fn.lend Tryd.call8 (fun K114_0 l114_0 f114_0 => (vary_Names_ok q114 f114_0 rfl)) (by exact fun _ _ _ _ h => h)) (.cons r0 .nil) ?_
                    rintro _ K114 _ l114 ⟨_, rfl, a114_0, c114_0, rfl, h114_0, rfl⟩
                    conv => whnf
                    refine cond_go rfl ?_
                    conv => whnf
                    refine cond_s (fun w117 => ?_) (fun w117 => ?_)
                    · replace hl4 := ift w117 hl4
                      conv => whnf
                      refine bsOR (R := (sliL eS 1)) (len := 1) (l := ([[]] : List (List Str))) (css := [[.slice none 0 0]]) (cl := [.slice none 0 0]) sliL_ok elT35 rfl rfl (LR.snoc LR.nil ⟨none, 0, rfl, RdC.nil⟩) rfl rfl rfl ?_ fun b120 => ?_
                      · conv => whnf
                        refine cond_T ?_
                        conv => whnf
                        first | done | rfl
                      obtain ⟨h121, hl4⟩ := chkb hl4
                      conv => whnf
                      refine apRl r3 (LR.mono sliL_ok l114 y4_r0) rfl elT35 (src_ownR rfl r0 rfl sliL_ok (show LR (sliL eS 1) _ [[.slice none 0 0]] ([[]] : List (List Str)) from (LR.snoc LR.nil ⟨none, 0, rfl, RdC.nil⟩))) (show LR (sliL eS 1) _ [[.slice none 0 0]] ([[]] : List (List Str)) from (LR.snoc LR.nil ⟨none, 0, rfl, RdC.nil⟩)) h121 ?_
                      intro a121 c121 s121 r_121 o121
                      obtain ⟨x126, q126, hl4⟩ := bnd hl4
                      conv => whnf
                      refine call_fn (vary_Set_Put_ok (s := y4_2) (id := (i4 : Int)) q126 hy4_2_0 (LR.mono S_vary_variant.R_ok l114 ry4_2_0) RdC.nil rfl (h98_0.mono l114) rfl) (.cons r4 (.cons r4 .nil)) ?_
                      rintro _ K126 _ l126 ⟨a126_0, c126_0, a126_1, c126_1, s126_1, rfl, h126_0, h126_1, r126_1, rfl⟩
                      conv => whnf
                      refine RStep.of (len_slice rfl ?_)
                      obtain ⟨hk6, hl4⟩ := chkb hl4
                      obtain ⟨s6, hl6, hl4⟩ := bnd hl4
                      conv => whnf
                      refine code_cut (σ := ((List (Int × Bool)))) [20, 128, 129, 130, 131, 132, 133, 134] (fun t6 => []) (fun t6 => [OwnL eN a126_0 3 1 c126_0 x126.1, Cells b90_0 52 [.slice a126_1 x126.2.list.length c126_1], OwnA a126_1 60 3 c126_1 s126_1, OwnA a121 23 1 c121 s121, OwnA (some ⟨b120, 0, none⟩) 23 1 1 ([[.slice none 0 0]]), OwnL S_field_Field.enc (some ⟨b113, 0, none⟩) 31 2 1 ([(⟨([118, 97, 114, 121] : Str), ([] : Str)⟩ : S_field_Field)]), OwnL eS a114_0 9 1 c114_0 x114.1, MapE intK (fun x => .bool x) b91 t6, OwnA a58 25 1 c58 s58, OwnA (some ⟨b57, 0, none⟩) 25 1 1 ([[.slice ap2_0 ask.length cp2_0]]), F]) (fun zz K1 => match zz with | t6 => t6 = s6) ?_ ?_
                      · refine block_go rfl ?_
                        conv => whnf
                        refine loop_rule (σ := Nat × (List (Int × Bool))) [20, 128, 129, 130, 131, 132, 133, 134] (fun (i6, y6_0) => [(128, .int .i64 (i6 : Int))]) (fun (i6, y6_0) => [OwnL eN a126_0 3 1 c126_0 x126.1, Cells b90_0 52 [.slice a126_1 x126.2.list.length c126_1], OwnA a126_1 60 3 c126_1 s126_1, OwnA a121 23 1 c121 s121, OwnA (some ⟨b120, 0, none⟩) 23 1 1 ([[.slice none 0 0]]), OwnL S_field_Field.enc (some ⟨b113, 0, none⟩) 31 2 1 ([(⟨([118, 97, 114, 121] : Str), ([] : Str)⟩ : S_field_Field)]), OwnL eS a114_0 9 1 c114_0 x114.1, MapE intK (fun x => .bool x) b91 y6_0, OwnA a58 25 1 c58 s58, OwnA (some ⟨b57, 0, none⟩) 25 1 1 ([[.slice ap2_0 ask.length cp2_0]]), F]) (fun zz K1 => match zz with | (i6, y6_0) => quaysidetop_WholeVariants_L6 (x126.1.drop i6) i6 y6_0 = some s6) (fun zz => x126.1.length - zz.1) (0, y4_1) rfl ⟨rfl, trivial⟩ (ConvH.of (.cons r0 (.cons r0 (.cons r0 (.cons r0 (.cons r0 (.cons r0 (.cons r0 (.cons r0 (.cons r0 (.cons r0 (.cons r0 .nil)))))))))))) hl6 ?_
                        clear hl6
                        rintro ⟨i6, y6_0⟩ Kb6 lk6 hl6 j6
                        conv at hl6 => whnf
                        conv => whnf
                        refine cond_go rfl ?_
                        conv => whnf
                        refine cond_s (fun w6 => ?_) (fun w6 => ?_)
                        · obtain ⟨e6, hx6, hd6⟩ := ltx w6
                          rw [hd6, quaysidetop_WholeVariants_L6.eq_2] at hl6
                          conv => whnf
                          refine block_go rfl ?_
                          conv => whnf
                          refine RStep.ofN (index_addr rfl rfl (hasO h126_0 hx6) (nn _) (lt_ofNE rfl hx6) ?_)
                          conv => whnf
                          refine RStep.of (ld_own (i := i6) (o := 0) r0 rfl hx6 rfl rfl ?_)
                          conv => whnf
                          refine update_rule (kenc := intK) (venc := (fun x => .bool x)) true rfl r7 rfl (key_int rfl) ?_
                          conv => whnf
                          refine int_in (cntz hx6 hk6) ?_
                          conv => whnf
                          refine RoundStep.mk (i6 + 1, (mset y6_0 e6 true)) ⟨rfl, trivial⟩ (by repeat (first | exact trivial | refine And.intro rfl ?_)) (ConvH.of (.cons r1 (.cons r1 (.cons r1 (.cons r1 (.cons r1 (.cons r1 (.cons r1 (.cons r0 (.cons r0 (.cons r0 (.cons r0 .nil)))))))))))) lk6 (ltm hx6) hl6
                        · rw [lty w6, quaysidetop_WholeVariants_L6.eq_1] at hl6
                          conv => whnf
                          refine cond_T ?_
                          conv => whnf
                          refine MeetStep.mk (y6_0) trivial (by repeat (first | exact trivial | refine And.intro rfl ?_)) (ConvH.of (.cons r0 (.cons r0 (.cons r0 (.cons r0 (.cons r0 (.cons r0 (.cons r0 (.cons r0 (.cons r0 (.cons r0 (.cons r0 .nil)))))))))))) lk6 (si hl6)
                      · rintro t6 Kt6 lt6 rfl j6
                        conv => whnf
                        refine int_in (cntz hx4 hk4) ?_
                        conv => whnf
                        refine RoundStep.mk (i4 + 1, (y4_0 ++ ([[]] : List (List Str))), t6, x126.2, a121, c121, s121, a126_1, c126_1, s126_1) ⟨rfl, rfl, trivial⟩ (by repeat (first | exact trivial | refine And.intro rfl ?_)) (ConvH.of (.cons r3 (.cons r1 (.cons r1 (.cons r4 (.cons r4 (.cons r4 (.cons r4 .nil)))))))) (((lk4.trans l114).trans l126).trans lt6) (ltm hx4) ⟨(LR.mono sliL_ok (l126.trans lt6) r_121), o121, h126_1, (LR.mono S_vary_variant.R_ok lt6 r126_1), hl4⟩
                    · replace hl4 := iff_ w117 hl4
                      conv => whnf
                      refine fW r1 fun Kf120_0_0 lf120_0_0 ff120_0_0 => ?_
                      refine bsOR (R := (sliL eS 1)) (len := 1) (l := [x114.1]) (css := [[.slice a114_0 x114.1.length c114_0]]) (cl := [.slice a114_0 x114.1.length c114_0]) sliL_ok elT35 rfl rfl (LR.snoc LR.nil ⟨a114_0, c114_0, rfl, ff120_0_0⟩) rfl rfl rfl ?_ fun b120 => ?_
                      · conv => whnf
                        refine cond_T ?_
                        conv => whnf
                        first | done | rfl
                      obtain ⟨h121, hl4⟩ := chkb hl4
                      conv => whnf
                      refine apRl r2 (LR.mono sliL_ok (l114.trans lf120_0_0) y4_r0) rfl elT35 (src_ownR rfl r0 rfl sliL_ok (show LR (sliL eS 1) _ [[.slice a114_0 x114.1.length c114_0]] [x114.1] from (LR.snoc LR.nil ⟨a114_0, c114_0, rfl, ff120_0_0⟩))) (show LR (sliL eS 1) _ [[.slice a114_0 x114.1.length c114_0]] [x114.1] from (LR.snoc LR.nil ⟨a114_0, c114_0, rfl, ff120_0_0⟩)) h121 ?_
                      intro a121 c121 s121 r_121 o121
                      obtain ⟨x126, q126, hl4⟩ := bnd hl4
                      conv => whnf
                      refine call_fn (vary_Set_Put_ok (s := y4_2) (id := (i4 : Int)) q126 hy4_2_0 (LR.mono S_vary_variant.R_ok (l114.trans lf120_0_0) ry4_2_0) ff120_0_0 rfl (h98_0.mono (l114.trans lf120_0_0)) rfl) (.cons r3 (.cons r3 .nil)) ?_
                      rintro _ K126 _ l126 ⟨a126_0, c126_0, a126_1, c126_1, s126_1, rfl, h126_0, h126_1, r126_1, rfl⟩
                      conv => whnf
                      refine RStep.of (len_slice rfl ?_)
                      obtain ⟨hk6, hl4⟩ := chkb hl4
                      obtain ⟨s6, hl6, hl4⟩ := bnd hl4
                      conv => whnf
                      refine code_cut (σ := ((List (Int × Bool)))) [20, 128, 129, 130, 131, 132, 133, 134] (fun t6 => []) (fun t6 => [OwnL eN a126_0 3 1 c126_0 x126.1, Cells b90_0 52 [.slice a126_1 x126.2.list.length c126_1], OwnA a126_1 60 3 c126_1 s126_1, OwnA a121 23 1 c121 s121, OwnA (some ⟨b120, 0, none⟩) 23 1 1 ([[.slice a114_0 x114.1.length c114_0]]), OwnL S_field_Field.enc (some ⟨b113, 0, none⟩) 31 2 1 ([(⟨([118, 97, 114, 121] : Str), ([] : Str)⟩ : S_field_Field)]), MapE intK (fun x => .bool x) b91 t6, OwnA a58 25 1 c58 s58, OwnA (some ⟨b57, 0, none⟩) 25 1 1 ([[.slice ap2_0 ask.length cp2_0]]), F]) (fun zz K1 => match zz with | t6 => t6 = s6) ?_ ?_
                      · refine block_go rfl ?_
                        conv => whnf
                        refine loop_rule (σ := Nat × (List (Int × Bool))) [20, 128, 129, 130, 131, 132, 133, 134] (fun (i6, y6_0) => [(128, .int .i64 (i6 : Int))]) (fun (i6, y6_0) => [OwnL eN a126_0 3 1 c126_0 x126.1, Cells b90_0 52 [.slice a126_1 x126.2.list.length c126_1], OwnA a126_1 60 3 c126_1 s126_1, OwnA a121 23 1 c121 s121, OwnA (some ⟨b120, 0, none⟩) 23 1 1 ([[.slice a114_0 x114.1.length c114_0]]), OwnL S_field_Field.enc (some ⟨b113, 0, none⟩) 31 2 1 ([(⟨([118, 97, 114, 121] : Str), ([] : Str)⟩ : S_field_Field)]), MapE intK (fun x => .bool x) b91 y6_0, OwnA a58 25 1 c58 s58, OwnA (some ⟨b57, 0, none⟩) 25 1 1 ([[.slice ap2_0 ask.length cp2_0]]), F]) (fun zz K1 => match zz with | (i6, y6_0) => quaysidetop_WholeVariants_L6 (x126.1.drop i6) i6 y6_0 = some s6) (fun zz => x126.1.length - zz.1) (0, y4_1) rfl ⟨rfl, trivial⟩ (ConvH.of (.cons r0 (.cons r0 (.cons r0 (.cons r0 (.cons r0 (.cons r0 (.cons r0 (.cons r0 (.cons r0 (.cons r0 .nil))))))))))) hl6 ?_
                        clear hl6
                        rintro ⟨i6, y6_0⟩ Kb6 lk6 hl6 j6
                        conv at hl6 => whnf
                        conv => whnf
                        refine cond_go rfl ?_
                        conv => whnf
                        refine cond_s (fun w6 => ?_) (fun w6 => ?_)
                        · obtain ⟨e6, hx6, hd6⟩ := ltx w6
                          rw [hd6, quaysidetop_WholeVariants_L6.eq_2] at hl6
                          conv => whnf
                          refine block_go rfl ?_
                          conv => whnf
                          refine RStep.ofN (index_addr rfl rfl (hasO h126_0 hx6) (nn _) (lt_ofNE rfl hx6) ?_)
                          conv => whnf
                          refine RStep.of (ld_own (i := i6) (o := 0) r0 rfl hx6 rfl rfl ?_)
                          conv => whnf
                          refine update_rule (kenc := intK) (venc := (fun x => .bool x)) true rfl r6 rfl (key_int rfl) ?_
                          conv => whnf
                          refine int_in (cntz hx6 hk6) ?_
                          conv => whnf
                          refine RoundStep.mk (i6 + 1, (mset y6_0 e6 true)) ⟨rfl, trivial⟩ (by repeat (first | exact trivial | refine And.intro rfl ?_)) (ConvH.of (.cons r1 (.cons r1 (.cons r1 (.cons r1 (.cons r1 (.cons r1 (.cons r0 (.cons r0 (.cons r0 (.cons r0 .nil))))))))))) lk6 (ltm hx6) hl6
                        · rw [lty w6, quaysidetop_WholeVariants_L6.eq_1] at hl6
                          conv => whnf
                          refine cond_T ?_
                          conv => whnf
                          refine MeetStep.mk (y6_0) trivial (by repeat (first | exact trivial | refine And.intro rfl ?_)) (ConvH.of (.cons r0 (.cons r0 (.cons r0 (.cons r0 (.cons r0 (.cons r0 (.cons r0 (.cons r0 (.cons r0 (.cons r0 .nil))))))))))) lk6 (si hl6)
                      · rintro t6 Kt6 lt6 rfl j6
                        conv => whnf
                        refine int_in (cntz hx4 hk4) ?_
                        conv => whnf
                        refine RoundStep.mk (i4 + 1, (y4_0 ++ [x114.1]), t6, x126.2, a121, c121, s121, a126_1, c126_1, s126_1) ⟨rfl, rfl, trivial⟩ (by repeat (first | exact trivial | refine And.intro rfl ?_)) (ConvH.of (.cons r3 (.cons r1 (.cons r1 (.cons r3 (.cons r3 (.cons r3 (.cons r3 .nil)))))))) ((((lk4.trans l114).trans lf120_0_0).trans l126).trans lt6) (ltm hx4) ⟨(LR.mono sliL_ok (l126.trans lt6) r_121), o121, h126_1, (LR.mono S_vary_variant.R_ok lt6 r126_1), hl4⟩
              · rw [lty w4, quaysidetop_WholeVariants_L4.eq_1] at hl4
                conv => whnf
                refine cond_T ?_
                conv => whnf
                refine MeetStep.mk ((y4_0, y4_1, y4_2), y4_a0, y4_c0, y4_s0, ay4_2_0, cy4_2_0, sy4_2_0) ⟨rfl, trivial⟩ (by repeat (first | exact trivial | refine And.intro rfl ?_)) (ConvH.of (.cons r0 (.cons r0 (.cons r0 (.cons r0 (.cons r0 (.cons r0 (.cons r0 .nil)))))))) lk4 ⟨y4_r0, y4_h0, hy4_2_0, ry4_2_0, (si hl4).symm⟩
            · rintro ⟨t4, t4_a0, t4_c0, t4_s0, at4_2_0, ct4_2_0, st4_2_0⟩ Kt4 lt4 ⟨t4_r0, t4_h0, ht4_2_0, rt4_2_0, rfl⟩ j4
              replace hm := elg hm
              obtain ⟨x138, q138, hm⟩ := bnd hm
              conv => whnf
              refine call_fn (vary_Set_Find_ok (s := t4.2.2) q138 ht4_2_0 rt4_2_0 (hp2_0.mono (((l49.trans lt0).trans l90).trans lt4)) rfl) (.cons r1 (.cons r1 .nil)) ?_
              rintro _ K138 _ l138 ⟨a138_0, c138_0, rfl, h138_0, rfl⟩
              conv => whnf
              refine RStep.of (len_slice rfl ?_)
              obtain ⟨h141, hm⟩ := chkb hm
              conv => whnf
              refine int_in h141 ?_
              obtain ⟨s8, hl8, hm⟩ := bnd hm
              conv => whnf
              refine code_cut (σ := (Int × Int)) [6, 22, 23, 24, 26, 142, 143, 144, 145, 146, 147, 148, 149, 150, 151, 152, 153, 154, 155, 156, 157, 158, 159, 160, 161, 162, 163, 164, 165, 166, 167, 168, 169, 170, 171, 172, 173, 174, 175, 176, 177, 178, 179, 180, 181, 182, 183, 184] (fun t8 => [(22, .int .i64 t8.1), (23, .int .i64 t8.2)]) (fun t8 => [OwnL eN a138_0 3 1 c138_0 x138, Cells b90_0 52 [.slice at4_2_0 t4.2.2.list.length ct4_2_0], OwnA at4_2_0 60 3 ct4_2_0 st4_2_0, OwnA t4_a0 23 1 t4_c0 t4_s0, MapE intK (fun x => .bool x) b91 t4.2.1, OwnA a58 25 1 c58 s58, OwnA (some ⟨b57, 0, none⟩) 25 1 1 ([[.slice ap2_0 ask.length cp2_0]]), F]) (fun zz K1 => match zz with | t8 => s8 = Fl.go t8) ?_ ?_
              · refine block_go rfl ?_
                conv => whnf
                refine loop_rule (σ := Nat × Int × Int) [6, 22, 23, 24, 26, 142, 143, 144, 145, 146, 147, 148, 149, 150, 151, 152, 153, 154, 155, 156, 157, 158, 159, 160, 161, 162, 163, 164, 165, 166, 167, 168, 169, 170, 171, 172, 173, 174, 175, 176, 177, 178, 179, 180, 181, 182, 183, 184] (fun (i8, y8_0, y8_1) => [(22, .int .i64 y8_0), (23, .int .i64 y8_1)]) (fun (i8, y8_0, y8_1) => [OwnL eN a138_0 3 1 c138_0 x138, Cells b90_0 52 [.slice at4_2_0 t4.2.2.list.length ct4_2_0], OwnA at4_2_0 60 3 ct4_2_0 st4_2_0, OwnA t4_a0 23 1 t4_c0 t4_s0, MapE intK (fun x => .bool x) b91 t4.2.1, OwnA a58 25 1 c58 s58, OwnA (some ⟨b57, 0, none⟩) 25 1 1 ([[.slice ap2_0 ask.length cp2_0]]), F]) (fun zz K1 => match zz with | (i8, y8_0, y8_1) => quaysidetop_WholeVariants_L8 t4 stored ask x138 i8 y8_0 y8_1 = some s8) (fun zz => zz.1) (n, 0, ((stored.length : Int) - 1)) rfl ⟨rfl, rfl, trivial⟩ (ConvH.of (.cons r0 (.cons r0 (.cons r0 (.cons r0 (.cons r0 (.cons r0 (.cons r0 (.cons r0 .nil))))))))) hl8 ?_
                clear hl8
                rintro ⟨i8, y8_0, y8_1⟩ Kb8 lk8 hl8 j8
                conv at hl8 => whnf
                cases i8 with
                | zero => rw [quaysidetop_WholeVariants_L8.eq_1] at hl8; cases hl8
                | succ i8 =>
                  rw [quaysidetop_WholeVariants_L8.eq_2] at hl8
                  conv => whnf
                  refine cond_go rfl ?_
                  conv => whnf
                  refine cond_s (fun w143 => ?_) (fun w143 => ?_)
                  · replace hl8 := ift w143 hl8
                    conv => whnf
                    refine block_go rfl ?_
                    conv => whnf
                    refine RStep.of (lookup_rule (kenc := intK) (venc := (fun x => .bool x)) (z := false) r4 rfl rfl (key_int rfl) ?_)
                    conv => whnf
                    refine un_not ?_
                    obtain ⟨x152, l152, k152, hl8⟩ := ixb hl8
                    conv => whnf
                    refine RStep.ofN (index_addr rfl rfl (hasO t4_h0 k152) l152 (lt_ofE rfl l152 k152) ?_)
                    obtain ⟨cc153, hc153, hR153⟩ := LR.get (LR.mono sliL_ok (l138.trans lk8) t4_r0) k152
                    obtain ⟨a153_0, c153_0, rfl, h153_0⟩ := hR153
                    conv => whnf
                    refine RStep.of (ldA (i := (y8_1).toNat) (o := 0) r3 rfl hc153 rfl rfl ?_)
                    conv => whnf
                    refine RStep.of (len_slice rfl ?_)
                    obtain ⟨hk10, hl8⟩ := chkb hl8
                    obtain ⟨s10, hl10, hl8⟩ := bnd hl8
                    conv => whnf
                    refine code_cut (σ := (Bool)) [24, 26, 155, 156, 157, 158, 159, 160, 161, 162, 163, 164, 165, 166, 167, 168, 169] (fun t10 => [(24, .bool t10)]) (fun t10 => [OwnL eN a138_0 3 1 c138_0 x138, Cells b90_0 52 [.slice at4_2_0 t4.2.2.list.length ct4_2_0], OwnA at4_2_0 60 3 ct4_2_0 st4_2_0, OwnA t4_a0 23 1 t4_c0 t4_s0, MapE intK (fun x => .bool x) b91 t4.2.1, OwnA a58 25 1 c58 s58, OwnA (some ⟨b57, 0, none⟩) 25 1 1 ([[.slice ap2_0 ask.length cp2_0]]), F]) (fun zz K1 => match zz with | t10 => t10 = s10) ?_ ?_
                    · refine block_go rfl ?_
                      conv => whnf
                      refine loop_rule (σ := Nat × Bool) [24, 26, 155, 156, 157, 158, 159, 160, 161, 162, 163, 164, 165, 166, 167, 168, 169] (fun (i10, y10_0) => [(155, .int .i64 (i10 : Int)), (24, .bool y10_0)]) (fun (i10, y10_0) => [OwnL eN a138_0 3 1 c138_0 x138, Cells b90_0 52 [.slice at4_2_0 t4.2.2.list.length ct4_2_0], OwnA at4_2_0 60 3 ct4_2_0 st4_2_0, OwnA t4_a0 23 1 t4_c0 t4_s0, MapE intK (fun x => .bool x) b91 t4.2.1, OwnA a58 25 1 c58 s58, OwnA (some ⟨b57, 0, none⟩) 25 1 1 ([[.slice ap2_0 ask.length cp2_0]]), F]) (fun zz K1 => match zz with | (i10, y10_0) => quaysidetop_WholeVariants_L10 stored y8_1 ask (x152.drop i10) i10 y10_0 = some s10) (fun zz => x152.length - zz.1) (0, (!((mget t4.2.1 y8_1).getD false))) rfl ⟨rfl, rfl, trivial⟩ (ConvH.of (.cons r0 (.cons r0 (.cons r0 (.cons r0 (.cons r0 (.cons r0 (.cons r0 (.cons r0 .nil))))))))) hl10 ?_
                      clear hl10
                      rintro ⟨i10, y10_0⟩ Kb10 lk10 hl10 j10
                      conv at hl10 => whnf
                      conv => whnf
                      refine cond_go rfl ?_
                      conv => whnf
                      refine cond_s (fun w10 => ?_) (fun w10 => ?_)
                      · obtain ⟨e10, hx10, hd10⟩ := ltx w10
                        rw [hd10, quaysidetop_WholeVariants_L10.eq_2] at hl10
                        conv => whnf
                        refine block_go rfl ?_
                        conv => whnf
                        refine RStep.ofN (index_addr rfl rfl (hasK (h153_0.mono lk10).rd hx10) (nn _) (lt_ofN hx10) ?_)
                        conv => whnf
                        refine RStep.of (load_rd i10 0 _ _ (h153_0.mono lk10).rd rfl (mp hx10) rfl rfl ?_)
                        obtain ⟨x168, e168, hl10⟩ := bnd hl10
                        conv => whnf
                        refine cond_s (fun g160_45 => ?_) (fun g160_45 => ?_)
                        · replace e168 := ift g160_45 e168
                          conv => whnf
                          refine cond_t g160_45 ?_
                          conv => whnf
                          refine cond_t g160_45 ?_
                          obtain ⟨x163, l163, k163, e168⟩ := ixb e168
                          conv => whnf
                          refine RStep.ofN (index_addr rfl rfl (hasR (LiC.mono sliL_ok ((((((l49.trans lt0).trans l90).trans lt4).trans l138).trans lk8).trans lk10) hp0_0).rd k163) l163 (lt_ofE rfl l163 k163) ?_)
                          conv => whnf
                          refine cond_t g160_45 ?_
                          obtain ⟨ss164, cc164, hr164, hc164, hR164⟩ := LiR.get (LiC.mono sliL_ok ((((((l49.trans lt0).trans l90).trans lt4).trans l138).trans lk8).trans lk10) hp0_0).rd k163
                          obtain ⟨a164_0, c164_0, rfl, h164_0⟩ := hR164
                          conv => whnf
                          refine RStep.of (load_rd ((y8_1).toNat) 0 _ _ hr164 rfl hc164 rfl rfl ?_)
                          conv => whnf
                          refine cond_t g160_45 ?_
                          conv => whnf
                          refine cond_t g160_45 ?_
                          conv => whnf
                          refine cond_t g160_45 ?_
                          obtain ⟨x167, q167, e168⟩ := bnd e168
                          conv => whnf
                          refine call_fn (quaysidetop_alike_ok (name := e10) q167 h164_0 rfl (hp2_0.mono ((((((l49.trans lt0).trans l90).trans lt4).trans l138).trans lk8).trans lk10)) rfl) .nil ?_
                          rintro _ K167 _ l167 ⟨rfl, rfl⟩
                          conv => whnf
                          refine cond_t g160_45 ?_
                          conv => whnf
                          refine int_in (cntz hx10 hk10) ?_
                          conv => whnf
                          refine RoundStep.mk (i10 + 1, x168) ⟨rfl, (by rw [← (si e168)] <;> rfl), trivial⟩ (by repeat (first | exact trivial | refine And.intro rfl ?_)) (ConvH.of (.cons r0 (.cons r0 (.cons r0 (.cons r0 (.cons r0 (.cons r0 (.cons r0 (.cons r0 .nil))))))))) (lk10.trans l167) (ltm hx10) hl10
                        · replace e168 := iff_ g160_45 e168
                          conv => whnf
                          refine cond_f g160_45 ?_
                          conv => whnf
                          refine cond_f g160_45 ?_
                          conv => whnf
                          refine cond_f g160_45 ?_
                          conv => whnf
                          refine cond_f g160_45 ?_
                          conv => whnf
                          refine cond_f g160_45 ?_
                          conv => whnf
                          refine cond_f g160_45 ?_
                          conv => whnf
                          refine cond_f g160_45 ?_
                          conv => whnf
                          refine int_in (cntz hx10 hk10) ?_
                          conv => whnf
                          refine RoundStep.mk (i10 + 1, x168) ⟨rfl, (by rw [← ((si e168).symm).symm] <;> rfl), trivial⟩ (by repeat (first | exact trivial | refine And.intro rfl ?_)) (ConvH.of (.cons r0 (.cons r0 (.cons r0 (.cons r0 (.cons r0 (.cons r0 (.cons r0 (.cons r0 .nil))))))))) lk10 (ltm hx10) hl10
                      · rw [lty w10, quaysidetop_WholeVariants_L10.eq_1] at hl10
                        conv => whnf
                        refine cond_T ?_
                        conv => whnf
                        refine MeetStep.mk (y10_0) ⟨rfl, trivial⟩ (by repeat (first | exact trivial | refine And.intro rfl ?_)) (ConvH.of (.cons r0 (.cons r0 (.cons r0 (.cons r0 (.cons r0 (.cons r0 (.cons r0 (.cons r0 .nil))))))))) lk10 (si hl10)
                    · rintro t10 Kt10 lt10 rfl j10
                      conv => whnf
                      refine cond_go rfl ?_
                      conv => whnf
                      refine cond_s (fun w170 => ?_) (fun w170 => ?_)
                      · replace hl8 := ift w170 hl8
                        conv => whnf
                        refine RStep.of (len_slice rfl ?_)
                        obtain ⟨x182, e182, hl8⟩ := bnd hl8
                        conv => whnf
                        refine cond_s (fun g175_48 => ?_) (fun g175_48 => ?_)
                        · replace e182 := ift g175_48 e182
                          conv => whnf
                          refine cond_t g175_48 ?_
                          conv => whnf
                          refine cond_t g175_48 ?_
                          conv => whnf
                          refine cond_t g175_48 ?_
                          conv => whnf
                          refine cond_t g175_48 ?_
                          conv => whnf
                          refine cond_t g175_48 ?_
                          conv => whnf
                          refine cond_t g175_48 ?_
                          conv => whnf
                          refine cond_go rfl ?_
                          conv => whnf
                          refine cond_T ?_
                          replace hl8 := ift (si e182).symm hl8
                          obtain rfl := si hl8
                          replace hm := elr hm
                          obtain rfl := si hm
                          conv => whnf
                          refine EndStep.mk _ ((((((l49.trans lt0).trans l90).trans lt4).trans l138).trans lk8).trans lt10) ⟨rfl, rfl⟩ (ConvH.of (.cons r7 .nil))
                        · replace e182 := iff_ g175_48 e182
                          conv => whnf
                          refine cond_f g175_48 ?_
                          conv => whnf
                          refine cond_f g175_48 ?_
                          obtain ⟨x178, l178, k178, e182⟩ := ixb e182
                          conv => whnf
                          refine RStep.ofN (index_addr rfl rfl (hasO h138_0 k178) l178 (lt_ofE rfl l178 k178) ?_)
                          conv => whnf
                          refine cond_f g175_48 ?_
                          conv => whnf
                          refine RStep.of (ld_own (i := (y8_0).toNat) (o := 0) r0 rfl k178 rfl rfl ?_)
                          conv => whnf
                          refine cond_f g175_48 ?_
                          conv => whnf
                          refine cond_f g175_48 ?_
                          conv => whnf
                          refine neq_int ?_
                          conv => whnf
                          refine cond_f g175_48 ?_
                          conv => whnf
                          refine cond_go rfl ?_
                          conv => whnf
                          refine cond_s (fun w182 => ?_) (fun w182 => ?_)
                          · replace hl8 := ift ((si e182).symm.trans w182) hl8
                            obtain rfl := si hl8
                            replace hm := elr hm
                            obtain rfl := si hm
                            conv => whnf
                            refine EndStep.mk _ ((((((l49.trans lt0).trans l90).trans lt4).trans l138).trans lk8).trans lt10) ⟨rfl, rfl⟩ (ConvH.of (.cons r7 .nil))
                          · replace hl8 := iff_ ((si e182).symm.trans w182) hl8
                            obtain ⟨h184, hl8⟩ := chkb hl8
                            conv => whnf
                            refine int_in h184 ?_
                            obtain ⟨h145, hl8⟩ := chkb hl8
                            conv => whnf
                            refine int_in h145 ?_
                            conv => whnf
                            refine RoundStep.mk (i8, (y8_0 + 1), (y8_1 - 1)) ⟨rfl, rfl, trivial⟩ (by repeat (first | exact trivial | refine And.intro rfl ?_)) (ConvH.of (.cons r0 (.cons r0 (.cons r0 (.cons r0 (.cons r0 (.cons r0 (.cons r0 (.cons r0 .nil))))))))) (lk8.trans lt10) (Nat.lt_succ_self _) hl8
                      · replace hl8 := iff_ w170 hl8
                        obtain ⟨h145, hl8⟩ := chkb hl8
                        conv => whnf
                        refine int_in h145 ?_
                        conv => whnf
                        refine RoundStep.mk (i8, y8_0, (y8_1 - 1)) ⟨rfl, rfl, trivial⟩ (by repeat (first | exact trivial | refine And.intro rfl ?_)) (ConvH.of (.cons r0 (.cons r0 (.cons r0 (.cons r0 (.cons r0 (.cons r0 (.cons r0 (.cons r0 .nil))))))))) (lk8.trans lt10) (Nat.lt_succ_self _) hl8
                  · replace hl8 := iff_ w143 hl8
                    conv => whnf
                    refine cond_T ?_
                    conv => whnf
                    refine MeetStep.mk ((y8_0, y8_1)) ⟨rfl, rfl, trivial⟩ (by repeat (first | exact trivial | refine And.intro rfl ?_)) (ConvH.of (.cons r0 (.cons r0 (.cons r0 (.cons r0 (.cons r0 (.cons r0 (.cons r0 (.cons r0 .nil))))))))) lk8 (si hl8).symm
              · rintro t8 Kt8 lt8 rfl j8
                replace hm := elg hm
                conv => whnf
                refine RStep.of (len_slice rfl ?_)
                obtain ⟨hk12, hm⟩ := chkb hm
                obtain ⟨s12, hl12, hm⟩ := bnd hm
                conv => whnf
                refine code_cut (σ := (Unit)) [6, 27, 28, 29, 30, 32, 187, 188, 189, 190, 191, 192, 193, 194, 195, 196, 197, 198, 199, 200, 201, 202, 203, 204, 205, 206, 207, 208, 209, 210, 211, 212, 213, 214, 215, 216, 217, 218, 219, 220, 221, 222, 223, 224, 225, 226, 227, 228, 229, 230, 231, 232, 233, 234, 235, 236, 237, 238, 239, 240] (fun t12 => []) (fun t12 => [OwnL eN a138_0 3 1 c138_0 x138, Cells b90_0 52 [.slice at4_2_0 t4.2.2.list.length ct4_2_0], OwnA at4_2_0 60 3 ct4_2_0 st4_2_0, OwnA t4_a0 23 1 t4_c0 t4_s0, MapE intK (fun x => .bool x) b91 t4.2.1, OwnA a58 25 1 c58 s58, OwnA (some ⟨b57, 0, none⟩) 25 1 1 ([[.slice ap2_0 ask.length cp2_0]]), F]) (fun zz K1 => match zz with | t12 => s12 = Fl.go t12) ?_ ?_
                · refine block_go rfl ?_
                  conv => whnf
                  refine loop_rule (σ := Nat) [6, 27, 28, 29, 30, 32, 187, 188, 189, 190, 191, 192, 193, 194, 195, 196, 197, 198, 199, 200, 201, 202, 203, 204, 205, 206, 207, 208, 209, 210, 211, 212, 213, 214, 215, 216, 217, 218, 219, 220, 221, 222, 223, 224, 225, 226, 227, 228, 229, 230, 231, 232, 233, 234, 235, 236, 237, 238, 239, 240] (fun i12 => [(187, .int .i64 (i12 : Int))]) (fun i12 => [OwnL eN a138_0 3 1 c138_0 x138, Cells b90_0 52 [.slice at4_2_0 t4.2.2.list.length ct4_2_0], OwnA at4_2_0 60 3 ct4_2_0 st4_2_0, OwnA t4_a0 23 1 t4_c0 t4_s0, MapE intK (fun x => .bool x) b91 t4.2.1, OwnA a58 25 1 c58 s58, OwnA (some ⟨b57, 0, none⟩) 25 1 1 ([[.slice ap2_0 ask.length cp2_0]]), F]) (fun zz K1 => match zz with | i12 => quaysidetop_WholeVariants_L12 t4 stored n (stored.drop i12) i12 = some s12) (fun zz => stored.length - zz) (0) rfl ⟨rfl, trivial⟩ (ConvH.of (.cons r0 (.cons r0 (.cons r0 (.cons r0 (.cons r0 (.cons r0 (.cons r0 (.cons r0 .nil))))))))) hl12 ?_
                  clear hl12
                  rintro i12 Kb12 lk12 hl12 j12
                  conv at hl12 => whnf
                  conv => whnf
                  refine cond_go rfl ?_
                  conv => whnf
                  refine cond_s (fun w12 => ?_) (fun w12 => ?_)
                  · obtain ⟨e12, hx12, hd12⟩ := ltx w12
                    rw [hd12, quaysidetop_WholeVariants_L12.eq_2] at hl12
                    conv => whnf
                    refine block_go rfl ?_
                    conv => whnf
                    refine RStep.of (lookup_rule (kenc := intK) (venc := (fun x => .bool x)) (z := false) r4 rfl rfl (key_int rfl) ?_)
                    conv => whnf
                    refine un_not ?_
                    conv => whnf
                    refine cond_go rfl ?_
                    conv => whnf
                    refine cond_s (fun w193 => ?_) (fun w193 => ?_)
                    · replace hl12 := ift (not_t (ni_t w193)) hl12
                      conv => whnf
                      refine cond_T ?_
                      conv => whnf
                      refine int_in (cntz hx12 hk12) ?_
                      conv => whnf
                      refine RoundStep.mk (i12 + 1) ⟨rfl, trivial⟩ (by repeat (first | exact trivial | refine And.intro rfl ?_)) (ConvH.of (.cons r0 (.cons r0 (.cons r0 (.cons r0 (.cons r0 (.cons r0 (.cons r0 (.cons r0 .nil))))))))) lk12 (ltm hx12) hl12
                    · replace hl12 := iff_ (not_f (ni_f w193)) hl12
                      conv => whnf
                      refine int_in (cntz hx12 hk12) ?_
                      obtain ⟨s14, hl14, hl12⟩ := bnd hl12
                      conv => whnf
                      refine code_cut (σ := (Bool × Int)) [28, 29, 30, 32, 196, 197, 198, 199, 200, 201, 202, 203, 204, 205, 206, 207, 208, 209, 210, 211, 212, 213, 214, 215, 216, 217, 218, 219, 220, 221, 222, 223, 224, 225, 226, 227, 228, 229, 230, 231, 232, 233, 234, 235, 236, 237] (fun t14 => [(28, .bool t14.1), (29, .int .i64 t14.2)]) (fun t14 => [OwnL eN a138_0 3 1 c138_0 x138, Cells b90_0 52 [.slice at4_2_0 t4.2.2.list.length ct4_2_0], OwnA at4_2_0 60 3 ct4_2_0 st4_2_0, OwnA t4_a0 23 1 t4_c0 t4_s0, MapE intK (fun x => .bool x) b91 t4.2.1, OwnA a58 25 1 c58 s58, OwnA (some ⟨b57, 0, none⟩) 25 1 1 ([[.slice ap2_0 ask.length cp2_0]]), F]) (fun zz K1 => match zz with | t14 => t14 = s14) ?_ ?_
                      · refine block_go rfl ?_
                        conv => whnf
                        refine loop_rule (σ := Nat × Bool × Int) [28, 29, 30, 32, 196, 197, 198, 199, 200, 201, 202, 203, 204, 205, 206, 207, 208, 209, 210, 211, 212, 213, 214, 215, 216, 217, 218, 219, 220, 221, 222, 223, 224, 225, 226, 227, 228, 229, 230, 231, 232, 233, 234, 235, 236, 237] (fun (i14, y14_0, y14_1) => [(28, .bool y14_0), (29, .int .i64 y14_1)]) (fun (i14, y14_0, y14_1) => [OwnL eN a138_0 3 1 c138_0 x138, Cells b90_0 52 [.slice at4_2_0 t4.2.2.list.length ct4_2_0], OwnA at4_2_0 60 3 ct4_2_0 st4_2_0, OwnA t4_a0 23 1 t4_c0 t4_s0, MapE intK (fun x => .bool x) b91 t4.2.1, OwnA a58 25 1 c58 s58, OwnA (some ⟨b57, 0, none⟩) 25 1 1 ([[.slice ap2_0 ask.length cp2_0]]), F]) (fun zz K1 => match zz with | (i14, y14_0, y14_1) => quaysidetop_WholeVariants_L14 stored t4 i12 e12 i14 y14_0 y14_1 = some s14) (fun zz => zz.1) (n, false, ((i12 : Int) + 1)) rfl ⟨rfl, rfl, trivial⟩ (ConvH.of (.cons r0 (.cons r0 (.cons r0 (.cons r0 (.cons r0 (.cons r0 (.cons r0 (.cons r0 .nil))))))))) hl14 ?_
                        clear hl14
                        rintro ⟨i14, y14_0, y14_1⟩ Kb14 lk14 hl14 j14
                        conv at hl14 => whnf
                        cases i14 with
                        | zero => rw [quaysidetop_WholeVariants_L14.eq_1] at hl14; cases hl14
                        | succ i14 =>
                          rw [quaysidetop_WholeVariants_L14.eq_2] at hl14
                          conv => whnf
                          refine RStep.of (len_slice rfl ?_)
                          conv => whnf
                          refine cond_go rfl ?_
                          conv => whnf
                          refine cond_s (fun w199 => ?_) (fun w199 => ?_)
                          · replace hl14 := ift w199 hl14
                            conv => whnf
                            refine block_go rfl ?_
                            conv => whnf
                            refine draw_go ⟨⟨[], true⟩, _, []⟩ (by kernel_rfl) ⟨Hp.Le.refl _, (ConvH.of .nil)⟩ ?_
                            obtain ⟨x204, l204, k204, hl14⟩ := ixb hl14
                            conv => whnf
                            refine index_addr rfl rfl (hasO t4_h0 k204) l204 (lt_ofE rfl l204 k204) ?_
                            obtain ⟨cc205, hc205, hR205⟩ := LR.get (LR.mono sliL_ok (((l138.trans lt8).trans lk12).trans lk14) t4_r0) k204
                            obtain ⟨a205_0, c205_0, rfl, h205_0⟩ := hR205
                            conv => whnf
                            refine ldA (i := ((i12 : Int)).toNat) (o := 0) r3 rfl hc205 rfl rfl ?_
                            obtain ⟨x208, l208, k208, hl14⟩ := ixb hl14
                            conv => whnf
                            refine index_addr rfl rfl (hasO t4_h0 k208) l208 (lt_ofE rfl l208 k208) ?_
                            obtain ⟨cc209, hc209, hR209⟩ := LR.get (LR.mono sliL_ok (((l138.trans lt8).trans lk12).trans lk14) t4_r0) k208
                            obtain ⟨a209_0, c209_0, rfl, h209_0⟩ := hR209
                            conv => whnf
                            refine ldA (i := (y14_1).toNat) (o := 0) r3 rfl hc209 rfl rfl ?_
                            obtain ⟨x210, q210, hl14⟩ := bnd hl14
                            conv => whnf
                            refine call_fn (base_Texts_ok q210 h205_0 rfl h209_0 rfl) .nil ?_
                            rintro _ K210 _ l210 ⟨rfl, rfl⟩
                            conv => whnf
                            refine ⟨⟨l210, (ConvH.of .nil)⟩, ?_⟩
                            obtain ⟨x213, l213, k213, hl14⟩ := ixb hl14
                            conv => whnf
                            refine RStep.ofN (index_addr rfl rfl (hasO t4_h0 k213) l213 (lt_ofE rfl l213 k213) ?_)
                            obtain ⟨cc214, hc214, hR214⟩ := LR.get (LR.mono sliL_ok ((((l138.trans lt8).trans lk12).trans lk14).trans l210) t4_r0) k213
                            obtain ⟨a214_0, c214_0, rfl, h214_0⟩ := hR214
                            conv => whnf
                            refine RStep.of (ldA (i := ((i12 : Int)).toNat) (o := 0) r3 rfl hc214 rfl rfl ?_)
                            conv => whnf
                            refine RStep.of (len_slice rfl ?_)
                            obtain ⟨hk16, hl14⟩ := chkb hl14
                            obtain ⟨s16, hl16, hl14⟩ := bnd hl14
                            conv => whnf
                            refine code_cut (σ := (Bool)) [30, 32, 216, 217, 218, 219, 220, 221, 222, 223, 224, 225, 226, 227, 228, 229, 230, 231, 232, 233] (fun t16 => [(30, .bool t16)]) (fun t16 => [OwnL eN a138_0 3 1 c138_0 x138, Cells b90_0 52 [.slice at4_2_0 t4.2.2.list.length ct4_2_0], OwnA at4_2_0 60 3 ct4_2_0 st4_2_0, OwnA t4_a0 23 1 t4_c0 t4_s0, MapE intK (fun x => .bool x) b91 t4.2.1, OwnA a58 25 1 c58 s58, OwnA (some ⟨b57, 0, none⟩) 25 1 1 ([[.slice ap2_0 ask.length cp2_0]]), F]) (fun zz K1 => match zz with | t16 => t16 = s16) ?_ ?_
                            · refine block_go rfl ?_
                              conv => whnf
                              refine loop_rule (σ := Nat × Bool) [30, 32, 216, 217, 218, 219, 220, 221, 222, 223, 224, 225, 226, 227, 228, 229, 230, 231, 232, 233] (fun (i16, y16_0) => [(216, .int .i64 (i16 : Int)), (30, .bool y16_0)]) (fun (i16, y16_0) => [OwnL eN a138_0 3 1 c138_0 x138, Cells b90_0 52 [.slice at4_2_0 t4.2.2.list.length ct4_2_0], OwnA at4_2_0 60 3 ct4_2_0 st4_2_0, OwnA t4_a0 23 1 t4_c0 t4_s0, MapE intK (fun x => .bool x) b91 t4.2.1, OwnA a58 25 1 c58 s58, OwnA (some ⟨b57, 0, none⟩) 25 1 1 ([[.slice ap2_0 ask.length cp2_0]]), F]) (fun zz K1 => match zz with | (i16, y16_0) => quaysidetop_WholeVariants_L16 stored y14_1 e12 (x213.drop i16) i16 y16_0 = some s16) (fun zz => x213.length - zz.1) (0, x210) rfl ⟨rfl, rfl, trivial⟩ (ConvH.of (.cons r0 (.cons r0 (.cons r0 (.cons r0 (.cons r0 (.cons r0 (.cons r0 (.cons r0 .nil))))))))) hl16 ?_
                              clear hl16
                              rintro ⟨i16, y16_0⟩ Kb16 lk16 hl16 j16
                              conv at hl16 => whnf
                              conv => whnf
                              refine cond_go rfl ?_
                              conv => whnf
                              refine cond_s (fun w16 => ?_) (fun w16 => ?_)
                              · obtain ⟨e16, hx16, hd16⟩ := ltx w16
                                rw [hd16, quaysidetop_WholeVariants_L16.eq_2] at hl16
                                conv => whnf
                                refine block_go rfl ?_
                                conv => whnf
                                refine RStep.ofN (index_addr rfl rfl (hasK (h214_0.mono lk16).rd hx16) (nn _) (lt_ofN hx16) ?_)
                                conv => whnf
                                refine RStep.of (load_rd i16 0 _ _ (h214_0.mono lk16).rd rfl (mp hx16) rfl rfl ?_)
                                conv => whnf
                                refine draw_go ⟨⟨[], false⟩, _, []⟩ (by kernel_rfl) ⟨Hp.Le.refl _, (ConvH.of .nil)⟩ ?_
                                obtain ⟨x232, e232, hl16⟩ := bnd hl16
                                conv => whnf
                                refine cond_s (fun g221_63 => ?_) (fun g221_63 => ?_)
                                · replace e232 := ift g221_63 e232
                                  conv => whnf
                                  refine cond_t g221_63 ?_
                                  conv => whnf
                                  refine cond_t g221_63 ?_
                                  conv => whnf
                                  refine index_addr rfl rfl (hasR (LiC.mono sliL_ok (((((((((l49.trans lt0).trans l90).trans lt4).trans l138).trans lt8).trans lk12).trans lk14).trans l210).trans lk16) hp0_0).rd hx12) (nn _) (lt_ofN hx12) ?_
                                  conv => whnf
                                  refine cond_t g221_63 ?_
                                  obtain ⟨ss225, cc225, hr225, hc225, hR225⟩ := LiR.get (LiC.mono sliL_ok (((((((((l49.trans lt0).trans l90).trans lt4).trans l138).trans lt8).trans lk12).trans lk14).trans l210).trans lk16) hp0_0).rd hx12
                                  obtain ⟨a225_0, c225_0, rfl, h225_0⟩ := hR225
                                  conv => whnf
                                  refine load_rd_l i12 0 _ _ hr225 rfl hc225 rfl rfl ?_
                                  conv => whnf
                                  refine cond_t g221_63 ?_
                                  conv => whnf
                                  refine cond_t g221_63 ?_
                                  conv => whnf
                                  refine cond_t g221_63 ?_
                                  obtain ⟨x228, l228, k228, e232⟩ := ixb e232
                                  conv => whnf
                                  refine index_addr rfl rfl (hasR (LiC.mono sliL_ok (((((((((l49.trans lt0).trans l90).trans lt4).trans l138).trans lt8).trans lk12).trans lk14).trans l210).trans lk16) hp0_0).rd k228) l228 (lt_ofE rfl l228 k228) ?_
                                  conv => whnf
                                  refine cond_t g221_63 ?_
                                  obtain ⟨ss229, cc229, hr229, hc229, hR229⟩ := LiR.get (LiC.mono sliL_ok (((((((((l49.trans lt0).trans l90).trans lt4).trans l138).trans lt8).trans lk12).trans lk14).trans l210).trans lk16) hp0_0).rd k228
                                  obtain ⟨a229_0, c229_0, rfl, h229_0⟩ := hR229
                                  conv => whnf
                                  refine load_rd_l ((y14_1).toNat) 0 _ _ hr229 rfl hc229 rfl rfl ?_
                                  conv => whnf
                                  refine cond_t g221_63 ?_
                                  conv => whnf
                                  refine cond_t g221_63 ?_
                                  obtain ⟨x231, q231, e232⟩ := bnd e232
                                  conv => whnf
                                  refine call_fn (quaysidetop_alike_ok (name := e16) q231 h225_0 rfl h229_0 rfl) .nil ?_
                                  rintro _ K231 _ l231 ⟨rfl, rfl⟩
                                  conv => whnf
                                  refine ⟨⟨l231, (ConvH.of .nil)⟩, ?_⟩
                                  conv => whnf
                                  refine cond_t g221_63 ?_
                                  conv => whnf
                                  refine int_in (cntz hx16 hk16) ?_
                                  conv => whnf
                                  refine RoundStep.mk (i16 + 1, x232) ⟨rfl, (by rw [← (si e232)] <;> rfl), trivial⟩ (by repeat (first | exact trivial | refine And.intro rfl ?_)) (ConvH.of (.cons r0 (.cons r0 (.cons r0 (.cons r0 (.cons r0 (.cons r0 (.cons r0 (.cons r0 .nil))))))))) (lk16.trans l231) (ltm hx16) hl16
                                · replace e232 := iff_ g221_63 e232
                                  conv => whnf
                                  refine cond_f g221_63 ?_
                                  conv => whnf
                                  refine cond_f g221_63 ?_
                                  conv => whnf
                                  refine cond_f g221_63 ?_
                                  conv => whnf
                                  refine cond_f g221_63 ?_
                                  conv => whnf
                                  refine cond_f g221_63 ?_
                                  conv => whnf
                                  refine cond_f g221_63 ?_
                                  conv => whnf
                                  refine cond_f g221_63 ?_
                                  conv => whnf
                                  refine cond_f g221_63 ?_
                                  conv => whnf
                                  refine cond_f g221_63 ?_
                                  conv => whnf
                                  refine cond_f g221_63 ?_
                                  conv => whnf
                                  refine int_in (cntz hx16 hk16) ?_
                                  conv => whnf
                                  refine RoundStep.mk (i16 + 1, x232) ⟨rfl, (by rw [← ((si e232).symm).symm] <;> rfl), trivial⟩ (by repeat (first | exact trivial | refine And.intro rfl ?_)) (ConvH.of (.cons r0 (.cons r0 (.cons r0 (.cons r0 (.cons r0 (.cons r0 (.cons r0 (.cons r0 .nil))))))))) lk16 (ltm hx16) hl16
                              · rw [lty w16, quaysidetop_WholeVariants_L16.eq_1] at hl16
                                conv => whnf
                                refine cond_T ?_
                                conv => whnf
                                refine MeetStep.mk (y16_0) ⟨rfl, trivial⟩ (by repeat (first | exact trivial | refine And.intro rfl ?_)) (ConvH.of (.cons r0 (.cons r0 (.cons r0 (.cons r0 (.cons r0 (.cons r0 (.cons r0 (.cons r0 .nil))))))))) lk16 (si hl16)
                            · rintro t16 Kt16 lt16 rfl j16
                              conv => whnf
                              refine cond_s (fun g235_65 => ?_) (fun g235_65 => ?_)
                              · conv => whnf
                                refine cond_t g235_65 ?_
                                obtain ⟨h201, hl14⟩ := chkb hl14
                                conv => whnf
                                refine int_in h201 ?_
                                conv => whnf
                                refine RoundStep.mk (i14, _, (y14_1 + 1)) ⟨(by rw [← ((or_t g235_65)).symm] <;> rfl), rfl, trivial⟩ (by repeat (first | exact trivial | refine And.intro rfl ?_)) (ConvH.of (.cons r0 (.cons r0 (.cons r0 (.cons r0 (.cons r0 (.cons r0 (.cons r0 (.cons r0 .nil))))))))) ((lk14.trans l210).trans lt16) (Nat.lt_succ_self _) hl14
                              · conv => whnf
                                refine cond_f g235_65 ?_
                                obtain ⟨h201, hl14⟩ := chkb hl14
                                conv => whnf
                                refine int_in h201 ?_
                                conv => whnf
                                refine RoundStep.mk (i14, (y14_0 || t16), (y14_1 + 1)) ⟨(by rw [← (or_e (b := t16) g235_65)] <;> rfl), rfl, trivial⟩ (by repeat (first | exact trivial | refine And.intro rfl ?_)) (ConvH.of (.cons r0 (.cons r0 (.cons r0 (.cons r0 (.cons r0 (.cons r0 (.cons r0 (.cons r0 .nil))))))))) ((lk14.trans l210).trans lt16) (Nat.lt_succ_self _) hl14
                          · replace hl14 := iff_ w199 hl14
                            conv => whnf
                            refine cond_T ?_
                            conv => whnf
                            refine MeetStep.mk ((y14_0, y14_1)) ⟨rfl, rfl, trivial⟩ (by repeat (first | exact trivial | refine And.intro rfl ?_)) (ConvH.of (.cons r0 (.cons r0 (.cons r0 (.cons r0 (.cons r0 (.cons r0 (.cons r0 (.cons r0 .nil))))))))) lk14 (si hl14)
                      · rintro t14 Kt14 lt14 rfl j14
                        conv => whnf
                        refine un_not ?_
                        conv => whnf
                        refine cond_go rfl ?_
                        conv => whnf
                        refine cond_s (fun w239 => ?_) (fun w239 => ?_)
                        · replace hl12 := ift (not_t (ni_t w239)) hl12
                          obtain rfl := si hl12
                          replace hm := elr hm
                          obtain rfl := si hm
                          conv => whnf
                          refine EndStep.mk _ (((((((l49.trans lt0).trans l90).trans lt4).trans l138).trans lt8).trans lk12).trans lt14) ⟨rfl, rfl⟩ (ConvH.of (.cons r7 .nil))
                        · replace hl12 := iff_ (not_f (ni_f w239)) hl12
                          conv => whnf
                          refine int_in (cntz hx12 hk12) ?_
                          conv => whnf
                          refine RoundStep.mk (i12 + 1) ⟨rfl, trivial⟩ (by repeat (first | exact trivial | refine And.intro rfl ?_)) (ConvH.of (.cons r0 (.cons r0 (.cons r0 (.cons r0 (.cons r0 (.cons r0 (.cons r0 (.cons r0 .nil))))))))) (lk12.trans lt14) (ltm hx12) hl12
                  · rw [lty w12, quaysidetop_WholeVariants_L12.eq_1] at hl12
                    conv => whnf
                    refine cond_T ?_
                    conv => whnf
                    refine MeetStep.mk (()) trivial (by repeat (first | exact trivial | refine And.intro rfl ?_)) (ConvH.of (.cons r0 (.cons r0 (.cons r0 (.cons r0 (.cons r0 (.cons r0 (.cons r0 (.cons r0 .nil))))))))) lk12 (si hl12).symm
                · rintro t12 Kt12 lt12 rfl j12
                  replace hm := elg hm
                  obtain ⟨x242, q242, hm⟩ := bnd hm
                  conv => whnf
                  refine call_fn (syntax_Quote_ok (s := ([97] : Str)) q242) .nil ?_
                  rintro _ K242 _ l242 ⟨rfl, rfl⟩
                  conv => whnf
                  refine RStep.of (len_slice rfl ?_)
                  conv => whnf
                  refine eq_int ?_
                  conv => whnf
                  refine cond_s (fun g249_70 => ?_) (fun g249_70 => ?_)
                  · conv => whnf
                    refine cond_t g249_70 ?_
                    conv => whnf
                    refine eq_err rfl ?_
                    conv => whnf
                    refine cond_t g249_70 ?_
                    conv => whnf
                    refine cond_s (fun g253_70 => ?_) (fun g253_70 => ?_)
                    · conv => whnf
                      refine cond_t g253_70 ?_
                      conv => whnf
                      refine eq_str ?_
                      conv => whnf
                      refine cond_t g253_70 ?_
                      obtain rfl := si hm
                      conv => whnf
                      refine EndStep.mk _ (((((((l49.trans lt0).trans l90).trans lt4).trans l138).trans lt8).trans lt12).trans l242) ⟨(by rw [← (and_e (b := decide (x242.1 = ([34, 97, 34] : Str))) (and_t g249_70 g253_70))] <;> rfl), rfl⟩ (ConvH.of (.cons r7 .nil))
                    · conv => whnf
                      refine cond_f g253_70 ?_
                      conv => whnf
                      refine cond_f g253_70 ?_
                      obtain rfl := si hm
                      conv => whnf
                      refine EndStep.mk _ (((((((l49.trans lt0).trans l90).trans lt4).trans l138).trans lt8).trans lt12).trans l242) ⟨(by rw [← ((and_f (and_g g249_70 g253_70))).symm] <;> rfl), rfl⟩ (ConvH.of (.cons r7 .nil))
                  · conv => whnf
                    refine cond_f g249_70 ?_
                    conv => whnf
                    refine cond_f g249_70 ?_
                    conv => whnf
                    refine cond_F ?_
                    conv => whnf
                    refine cond_F ?_
                    conv => whnf
                    refine cond_F ?_
                    obtain rfl := si hm
                    conv => whnf
                    refine EndStep.mk _ (((((((l49.trans lt0).trans l90).trans lt4).trans l138).trans lt8).trans lt12).trans l242) ⟨(by rw [← ((and_f (and_f g249_70))).symm] <;> rfl), rfl⟩ (ConvH.of (.cons r7 .nil))
