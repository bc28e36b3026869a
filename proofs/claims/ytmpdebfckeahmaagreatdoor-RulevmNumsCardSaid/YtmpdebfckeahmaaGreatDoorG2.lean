/- Functions of the program: mirrors, and that a call returns what the mirror says. Printed by gen.py. -/
import Derived.Test.YtmpdebfckeahmaaGreatDoorG1
set_option linter.unusedVariables false
set_option linter.unusedSimpArgs false
open Go Go.SL Go.Proofs
set_option maxRecDepth 1000000
noncomputable def Jap (name : Str) : List Str → Nat → Option (Fl (Str × Bool) (Unit))
  | [], _ => some (Fl.go ())
  | e0 :: xs0, i0 =>
    (chk (name.length + ([61] : Str).length ≤ lim)).bind fun _ =>
    (Jy e0 (name ++ ([61] : Str))).bind fun x22 =>
    if x22 then
    (chk (InI ((name.length : Int) + 1))).bind fun _ =>
    (chk (0 ≤ ((name.length : Int) + 1) ∧ ((name.length : Int) + 1) ≤ (e0.length : Int) ∧ (e0.length : Int) ≤ (e0.length : Int))).bind fun _ =>
    some (Fl.ret ((subL e0 ((name.length : Int) + 1) (e0.length : Int)), true))
    else
    Jap name xs0 (i0 + 1)
noncomputable def Jbf (a : Jag) (name : Str) : Option (Str × Bool) :=
  if (!a.HasQuery) then
  some (([] : Str), false)
  else
  (splitM a.Query ([38] : Str)).bind fun x13 =>
  (chk (x13.length ≤ szMax)).bind fun _ =>
  (Jap name x13 0).bind fun s0 => s0.el some fun t0 =>
  some (([] : Str), false)
set_option maxHeartbeats 8000000 in
theorem Jcr {a : Jag} {name : Str} {K : Hp} {r : Str × Bool}
    (hm : Jbf a name = some r) (hG0 : GlL eS 1 0 Jm K) (hG1 : GlL eS 1 1 Jr K) (hG2 : GlL eS 1 2 Jn K) (hG3 : GlN 3 K) (hG5 : GlA 5 (Go.Lib.pow10Tab.map fun z => Value.int .u64 z) K) :
    Fn Tryz.prog 106 [.agg #[str a.Host, str a.Path, str a.Query, .bool a.HasQuery], str name] K [] (fun v K' H' => v = .tuple #[str r.1, .bool r.2] ∧ H' = []) := by
 refine Fn.enter Tryz.func106 Tryz.call106 rfl fun F => ?_
 unfold Jbf at hm
 refine box_rule ?_
 intro b2
 refine Ja rfl (RStep.of (load1_s r0 rfl rfl (un_not (cond_go rfl ?_))))
 refine cond_s (fun w10 => ?_) (fun w10 => ?_)
 replace hm := ift (not_t (ni_t w10)) hm
 obtain rfl := si hm
 refine EndStep.mk _ (Hp.Le.refl _) ⟨rfl, rfl⟩ (ConvH.of (.cons r1 .nil))
 replace hm := iff_ (not_f (ni_f w10)) hm
 refine Ja rfl (RStep.of (load1_s r0 rfl rfl ?_))
 obtain ⟨x13, q13, hm⟩ := bnd hm
 refine call_fn (split_ok q13 hG3) .nil ?_
 rintro _ K13 _ l13 ⟨a13_0, c13_0, rfl, h13_0, rfl⟩
 refine RStep.of (len_slice rfl ?_)
 obtain ⟨hk0, hm⟩ := chkb hm
 obtain ⟨s0, hl0, hm⟩ := bnd hm
 refine code_cut (σ := (Unit)) [4, 5, 7, 15, 16, 17, 18, 19, 20, 21, 22, 23, 24, 25, 26, 27, 28] (fun t0 => []) (fun t0 => [OwnL eS a13_0 9 1 c13_0 x13, Cells b2 210 [str a.Host, str a.Path, str a.Query, .bool a.HasQuery], F]) (fun zz K1 => match zz with | t0 => s0 = Fl.go t0) ?_ ?_
 refine block_go rfl ?_
 refine loop_rule (σ := Nat) [4, 5, 7, 15, 16, 17, 18, 19, 20, 21, 22, 23, 24, 25, 26, 27, 28] (fun i0 => [(15, .int .i64 (i0 : Int))]) (fun i0 => [OwnL eS a13_0 9 1 c13_0 x13, Cells b2 210 [str a.Host, str a.Path, str a.Query, .bool a.HasQuery], F]) (fun zz K1 => match zz with | i0 => Jap name (x13.drop i0) i0 = some s0) (fun zz => x13.length - zz) (0) rfl ⟨rfl, trivial⟩ (ConvH.of (.cons r0 (.cons r0 (.cons r0 .nil)))) hl0 ?_
 clear hl0
 rintro i0 Kb0 lk0 hl0 j0
 conv at hl0 => whnf
 refine cond_go rfl ?_
 refine cond_s (fun w0 => ?_) (fun w0 => ?_)
 obtain ⟨e0, hx0, hd0⟩ := ltx w0
 rw [hd0, Jap.eq_2] at hl0
 refine block_go rfl ?_
 refine RStep.ofN (index_addr rfl rfl (hasO h13_0 hx0) (nn _) (lt_ofNE rfl hx0) (RStep.of (ld_own (i := i0) (o := 0) r0 rfl hx0 rfl rfl ?_)))
 obtain ⟨h21, hl0⟩ := chkb hl0
 refine cat_str h21 ?_
 obtain ⟨x22, q22, hl0⟩ := bnd hl0
 refine call_fn (Jaq (s := e0) (prefixZ := (name ++ ([61] : Str))) q22) .nil ?_
 rintro _ K22 _ l22 ⟨rfl, rfl⟩
 refine CStep.ownLe r0 fun hc2 => ?_
 refine cs rfl rfl hl0 (fun w22 hl0 => ?_) fun w22 hl0 => ?_
 refine RStep.of (len_str rfl ?_)
 obtain ⟨h26, hl0⟩ := chkb hl0
 refine int_in h26 ?_
 obtain ⟨h27, hl0⟩ := chkb hl0
 refine RStep.ofN (sl_str (lo := (some ((name.length : Int) + 1))) (hi := none) rfl h27 ?_)
 obtain rfl := si hl0
 replace hm := elr hm
 obtain rfl := si hm
 refine EndStep.mk _ ((l13.trans lk0).trans l22) ⟨rfl, rfl⟩ (ConvH.of (.cons r2 .nil))
 refine int_in (cntz hx0 hk0) ?_
 refine RoundStep.mk (i0 + 1) ⟨rfl, trivial⟩ (by repeat (first | exact trivial | refine And.intro rfl ?_)) (ConvH.of (.cons r0 (.cons r0 (.cons r0 .nil)))) (lk0.trans l22) (ltm hx0) hl0
 rw [lty w0, Jap.eq_1] at hl0
 refine cond_T ?_
 refine MeetStep.mk (()) trivial (by repeat (first | exact trivial | refine And.intro rfl ?_)) (ConvH.of (.cons r0 (.cons r0 (.cons r0 .nil)))) lk0 (si hl0).symm
 rintro t0 Kt0 lt0 rfl j0
 replace hm := elg hm
 obtain rfl := si hm
 refine EndStep.mk _ (l13.trans lt0) ⟨rfl, rfl⟩ (ConvH.of (.cons r2 .nil))

noncomputable def JT : Nat → Nat → Str → Option (Str)
  | 0, _, y0_0 => some y0_0
  | xs0 + 1, i0, y0_0 =>
    (ix y0_0 (i0 : Int)).bind fun x13 =>
    if (decide ((x13.toNat : Int) ≥ 65) && decide ((x13.toNat : Int) ≤ 90)) then
    (ix y0_0 (i0 : Int)).bind fun x25 =>
    JT xs0 (i0 + 1) (y0_0.set (((i0 : Int)).toNat) (x13 + (32 : UInt8)))
    else
    JT xs0 (i0 + 1) y0_0
noncomputable def Ja4 (s : Str) : Option (Str) :=
  (chk (s.length ≤ lim)).bind fun _ =>
  (chk (InI (s.length : Int))).bind fun _ =>
  (JT (s.length : Int).toNat 0 s).bind fun t0 =>
  some t0
set_option maxHeartbeats 8000000 in
theorem Jcl {s : Str} {K : Hp} {r : Str}
    (hm : Ja4 s = some r)  :
    Fn Tryz.prog 107 [str s] K [] (fun v K' H' => v = str r ∧ H' = []) := by
 refine Fn.enter Tryz.func107 Tryz.call107 rfl fun F => ?_
 unfold Ja4 at hm
 obtain ⟨h7, hm⟩ := chkb hm
 refine cv_bytes rfl rfl rfl h7 ?_
 intro a7 c7 o7
 refine RStep.of (len_slice rfl ?_)
 obtain ⟨hk0, hm⟩ := chkb hm
 obtain ⟨s0, hl0, hm⟩ := bnd hm
 refine code_cut (σ := (Str)) [4, 5, 10, 11, 12, 13, 14, 15, 16, 17, 18, 19, 20, 21, 22, 23, 24, 25, 26] (fun t0 => []) (fun t0 => [OwnL eU a7 5 1 c7 t0, F]) (fun zz K1 => match zz with | t0 => (0 < t0.length → Has a7) ∧ s.length = t0.length ∧ t0 = s0) ?_ ?_
 refine block_go rfl ?_
 refine loop_rule (σ := Nat × Str) [4, 5, 10, 11, 12, 13, 14, 15, 16, 17, 18, 19, 20, 21, 22, 23, 24, 25, 26] (fun (i0, y0_0) => [(10, .int .i64 (i0 : Int))]) (fun (i0, y0_0) => [OwnL eU a7 5 1 c7 y0_0, F]) (fun zz K1 => match zz with | (i0, y0_0) => (0 < y0_0.length → Has a7) ∧ s.length = y0_0.length ∧ JT ((s.length : Int).toNat - i0) i0 y0_0 = some s0) (fun zz => (s.length : Int).toNat - zz.1) (0, s) rfl ⟨rfl, trivial⟩ (ConvH.of (.cons r0 (.cons r0 .nil))) ⟨o7, rfl, hl0⟩ ?_
 clear hl0
 rintro ⟨i0, y0_0⟩ Kb0 lk0 ⟨y0_h0, y0_n0, hl0⟩ j0
 refine cond_go rfl ?_
 refine cond_s (fun w0 => ?_) (fun w0 => ?_)
 rw [ltn w0, JT.eq_2] at hl0
 refine block_go rfl ?_
 obtain ⟨x13, l13, k13, hl0⟩ := ixb hl0
 refine RStep.ofN (index_addr rfl rfl (hasO y0_h0 k13) l13 (lt_ofE y0_n0 l13 k13) (RStep.of (ld_own (i := ((i0 : Int)).toNat) (o := 0) r0 rfl k13 rfl rfl ?_)))
 refine guard_go rfl ?_
 refine cond_s (fun g17_5 => ?_) (fun g17_5 => ?_)
 refine cond_t g17_5 (cond_t g17_5 (cond_go rfl ?_))
 refine cond_s (fun w20 => ?_) (fun w20 => ?_)
 replace hl0 := ift (and_t g17_5 w20) hl0
 refine u8_addS (x := x13) (y := (32 : UInt8)) rfl rfl ?_
 obtain ⟨x25, l25, k25, hl0⟩ := ixb hl0
 refine RStep.ofN (index_addr rfl rfl (hasO y0_h0 k25) l25 (lt_ofE y0_n0 l25 k25) ?_)
 refine st_own (o := 0) (y := (x13 + (32 : UInt8))) x25 r0 rfl k25 rfl (by (conv => whnf); exact ⟨rfl, rfl, (Nat.le_of_ble_eq_true rfl), rfl, rfl, rfl⟩) ?_
 refine int_in (cntn w0 hk0) ?_
 refine RoundStep.mk (i0 + 1, (y0_0.set (((i0 : Int)).toNat) (x13 + (32 : UInt8)))) ⟨rfl, trivial⟩ (by repeat (first | exact trivial | refine And.intro rfl ?_)) (ConvH.of (.cons r0 (.cons r0 .nil))) lk0 (ltnm w0) ⟨(by first | simpa using y0_h0 | exact fun _ => ⟨_, _, rfl⟩), ((y0_n0).trans List.length_set.symm), hl0⟩
 replace hl0 := iff_ (and_g g17_5 w20) hl0
 refine int_in (cntn w0 hk0) ?_
 refine RoundStep.mk (i0 + 1, y0_0) ⟨rfl, trivial⟩ (by repeat (first | exact trivial | refine And.intro rfl ?_)) (ConvH.of (.cons r0 (.cons r0 .nil))) lk0 (ltnm w0) ⟨y0_h0, y0_n0, hl0⟩
 refine cond_f g17_5 (cond_f g17_5 (cond_go rfl (cond_F ?_)))
 replace hl0 := iff_ (and_f g17_5) hl0
 refine int_in (cntn w0 hk0) ?_
 refine RoundStep.mk (i0 + 1, y0_0) ⟨rfl, trivial⟩ (by repeat (first | exact trivial | refine And.intro rfl ?_)) (ConvH.of (.cons r0 (.cons r0 .nil))) lk0 (ltnm w0) ⟨y0_h0, y0_n0, hl0⟩
 rw [lto w0, JT.eq_1] at hl0
 refine cond_T ?_
 refine MeetStep.mk (y0_0) trivial (by repeat (first | exact trivial | refine And.intro rfl ?_)) (ConvH.of (.cons r0 (.cons r0 .nil))) lk0 ⟨y0_h0, y0_n0, (si hl0)⟩
 rintro t0 Kt0 lt0 ⟨t0_h0, t0_n0, rfl⟩ j0
 refine RStep.of (cv_ownE t0_n0 r0 rfl rfl rfl ?_)
 obtain rfl := si hm
 refine EndStep.mk _ lt0 ⟨rfl, rfl⟩ (ConvH.of (.cons r1 .nil))

noncomputable def J9 : List UInt8 → Nat → Int → Option (Fl (Int) (Int))
  | [], _, y0_0 => some (Fl.go y0_0)
  | e0 :: xs0, i0, y0_0 =>
    (if decide ((e0.toNat : Int) < 48) then some true else some (decide ((e0.toNat : Int) > 57))).bind fun x27 =>
    if x27 then
    some (Fl.ret 0)
    else
    (chk (InI (10 * y0_0))).bind fun _ =>
    (chk (InI ((10 * y0_0) + ((e0 - (48 : UInt8)).toNat : Int)))).bind fun _ =>
    J9 xs0 (i0 + 1) ((10 * y0_0) + ((e0 - (48 : UInt8)).toNat : Int))
noncomputable def JaT (s : Str) : Option (Int) :=
  if (decide ((s.length : Int) < 1) || decide ((s.length : Int) > 15)) then
  some 0
  else
  (chk (s.length ≤ szMax)).bind fun _ =>
  (J9 s 0 0).bind fun s0 => s0.el some fun t0 =>
  some t0
set_option maxHeartbeats 8000000 in
theorem Jcg {s : Str} {K : Hp} {r : Int}
    (hm : JaT s = some r)  :
    Fn Tryz.prog 108 [str s] K [] (fun v K' H' => v = .int .i64 r ∧ H' = []) := by
 refine Fn.enter Tryz.func108 Tryz.call108 rfl fun F => ?_
 unfold JaT at hm
 refine code_cut (σ := Unit) [5, 6, 7, 8, 9, 10, 11, 12] (fun _ => [(12, .bool (decide ((s.length : Int) < 1) || decide ((s.length : Int) > 15)))]) (fun _ => [F]) (fun t901 K1 => K1 = K) ?_ ?_
 refine guard_go rfl ?_
 refine RStep.of (len_str rfl ?_)
 refine cond_s (fun g8_1 => ?_) (fun g8_1 => ?_)
 refine cond_t g8_1 (cond_t g8_1 (cond_t g8_1 ?_))
 refine MeetStep.mk (()) ⟨(by rw [← ((or_t g8_1)).symm] <;> rfl), trivial⟩ (by repeat (first | exact trivial | refine And.intro rfl ?_)) (ConvH.of (.cons r0 .nil)) (Hp.Le.refl _) rfl
 refine cond_f g8_1 (RStep.of (len_str rfl (cond_f g8_1 (cond_f g8_1 ?_))))
 refine MeetStep.mk (()) ⟨(by rw [← (or_e (b := decide ((s.length : Int) > 15)) g8_1)] <;> rfl), trivial⟩ (by repeat (first | exact trivial | refine And.intro rfl ?_)) (ConvH.of (.cons r0 .nil)) (Hp.Le.refl _) rfl
 rintro _ _ _ rfl j901
 refine cs rfl rfl hm (fun w12 hm => ?_) fun w12 hm => ?_
 obtain rfl := si hm
 refine EndStep.mk _ (Hp.Le.refl _) ⟨rfl, rfl⟩ (ConvH.of (.cons r0 .nil))
 refine RStep.of (len_str rfl ?_)
 obtain ⟨hk0, hm⟩ := chkb hm
 obtain ⟨s0, hl0, hm⟩ := bnd hm
 refine code_cut (σ := (Int)) [2, 3, 4, 15, 16, 17, 18, 19, 20, 21, 22, 23, 24, 25, 26, 27, 28, 29, 30, 31, 32, 33, 34, 35, 36] (fun t0 => [(3, .int .i64 t0)]) (fun t0 => [F]) (fun zz K1 => match zz with | t0 => s0 = Fl.go t0) ?_ ?_
 refine block_go rfl ?_
 refine loop_rule (σ := Nat × Int) [2, 3, 4, 15, 16, 17, 18, 19, 20, 21, 22, 23, 24, 25, 26, 27, 28, 29, 30, 31, 32, 33, 34, 35, 36] (fun (i0, y0_0) => [(15, .int .i64 (i0 : Int)), (3, .int .i64 y0_0)]) (fun (i0, y0_0) => [F]) (fun zz K1 => match zz with | (i0, y0_0) => J9 (s.drop i0) i0 y0_0 = some s0) (fun zz => s.length - zz.1) (0, 0) rfl ⟨rfl, rfl, trivial⟩ (ConvH.of (.cons r0 .nil)) hl0 ?_
 clear hl0
 rintro ⟨i0, y0_0⟩ Kb0 lk0 hl0 j0
 conv at hl0 => whnf
 refine cond_go rfl ?_
 refine cond_s (fun w0 => ?_) (fun w0 => ?_)
 obtain ⟨e0, hx0, hd0⟩ := ltx w0
 rw [hd0, J9.eq_2] at hl0
 refine block_go rfl ?_
 refine guard_go rfl ?_
 refine idx_str rfl (nn _) hx0 ?_
 obtain ⟨x27, e27, hl0⟩ := bnd hl0
 refine cond_s (fun g22_7 => ?_) (fun g22_7 => ?_)
 replace e27 := ift g22_7 e27
 refine cond_t g22_7 (cond_t g22_7 (cond_t g22_7 (cond_t g22_7 (cond_go rfl (cond_T ?_)))))
 replace hl0 := ift (si e27).symm hl0
 obtain rfl := si hl0
 replace hm := elr hm
 obtain rfl := si hm
 refine EndStep.mk _ lk0 ⟨rfl, rfl⟩ (ConvH.of (.cons r0 .nil))
 replace e27 := iff_ g22_7 e27
 refine cond_f g22_7 (cond_f g22_7 (idx_str rfl (nn _) hx0 (cond_f g22_7 (cond_f g22_7 (cond_go rfl ?_)))))
 refine cond_s (fun w27 => ?_) (fun w27 => ?_)
 replace hl0 := ift ((si e27).symm.trans w27) hl0
 obtain rfl := si hl0
 replace hm := elr hm
 obtain rfl := si hm
 refine EndStep.mk _ lk0 ⟨rfl, rfl⟩ (ConvH.of (.cons r0 .nil))
 replace hl0 := iff_ ((si e27).symm.trans w27) hl0
 obtain ⟨h29, hl0⟩ := chkb hl0
 refine int_in h29 (idx_str rfl (nn _) hx0 (u8_subS (x := e0) (y := (48 : UInt8)) rfl rfl (conv_int rfl rfl (u8in (e0 - (48 : UInt8))) ?_)))
 obtain ⟨h35, hl0⟩ := chkb hl0
 refine int_in h35 (int_in (cntz hx0 hk0) ?_)
 refine RoundStep.mk (i0 + 1, ((10 * y0_0) + ((e0 - (48 : UInt8)).toNat : Int))) ⟨rfl, rfl, trivial⟩ (by repeat (first | exact trivial | refine And.intro rfl ?_)) (ConvH.of (.cons r0 .nil)) lk0 (ltm hx0) hl0
 rw [lty w0, J9.eq_1] at hl0
 refine cond_T ?_
 refine MeetStep.mk (y0_0) ⟨rfl, trivial⟩ (by repeat (first | exact trivial | refine And.intro rfl ?_)) (ConvH.of (.cons r0 .nil)) lk0 (si hl0).symm
 rintro t0 Kt0 lt0 rfl j0
 replace hm := elg hm
 obtain rfl := si hm
 refine EndStep.mk _ lt0 ⟨rfl, rfl⟩ (ConvH.of (.cons r0 .nil))

noncomputable def JK (name : Str) (x : Jd) (inZ : Jt) : Option (Jd × Bool) :=
  if (decide (name = ([112, 97, 114, 116] : Str)) || decide (name = ([116, 101, 120, 116] : Str))) then
  if decide (x.kind ≠ 2) then
  some ((⟨0, 0, ([] : Str), false⟩ : Jd), false)
  else
  if decide (name = ([116, 101, 120, 116] : Str)) then
  (itoaM x.n).bind fun x29 =>
  (JO x29).bind fun x30 =>
  some (x30, true)
  else
  (JaA inZ.Path).bind fun x33 =>
  if (decide (x.n < 0) || decide (x.n ≥ (x33.length : Int))) then
  (JO ([] : Str)).bind fun x44 =>
  some (x44, true)
  else
  (ix x33 x.n).bind fun x48 =>
  (JO x48).bind fun x50 =>
  some (x50, true)
  else
  if decide (x.kind ≠ 1) then
  some ((⟨0, 0, ([] : Str), false⟩ : Jd), false)
  else
  if decide (name = ([104, 101, 97, 100, 101, 114] : Str)) then
  (Jbo inZ.Fields x.s).bind fun x63 =>
  (JO x63.1).bind fun x67 =>
  some (x67, true)
  else
  if decide (name = ([104, 97, 115] : Str)) then
  (Jbo inZ.Fields x.s).bind fun x75 =>
  (JY x75.2).bind fun x79 =>
  some (x79, true)
  else
  if decide (name = ([97, 114, 103] : Str)) then
  (Jbf (⟨([] : Str), ([] : Str), inZ.Query, true⟩ : Jag) x.s).bind fun x88 =>
  (JO x88.1).bind fun x92 =>
  some (x92, true)
  else
  if decide (name = ([108, 101, 110] : Str)) then
  (Jas (x.s.length : Int)).bind fun x98 =>
  some (x98, true)
  else
  if decide (name = ([108, 111, 119, 101, 114] : Str)) then
  (Ja4 x.s).bind fun x103 =>
  (JO x103).bind fun x104 =>
  some (x104, true)
  else
  (JaT x.s).bind fun x107 =>
  (Jas x107).bind fun x108 =>
  some (x108, true)
set_option maxHeartbeats 8000000 in
theorem Jcs {name : Str} {x : Jd} {inZ : Jt} {ap2_0 : Option Addr} {cp2_0 : Nat} {K : Hp} {r : Jd × Bool}
    (hm : JK name x inZ = some r) (hp2_0 : RdC Jg.enc K ap2_0 cp2_0 2 inZ.Fields) (hG0 : GlL eS 1 0 Jm K) (hG1 : GlL eS 1 1 Jr K) (hG2 : GlL eS 1 2 Jn K) (hG3 : GlN 3 K) (hG5 : GlA 5 (Go.Lib.pow10Tab.map fun z => Value.int .u64 z) K) :
    Fn Tryz.prog 66 [str name, .agg #[.int .i64 x.kind, .int .i64 x.n, str x.s, .bool x.isZ], .agg #[str inZ.Method, str inZ.Host, str inZ.Path, str inZ.Query, .slice ap2_0 inZ.Fields.length cp2_0]] K [] (fun v K' H' => v = .tuple #[.agg #[.int .i64 r.1.kind, .int .i64 r.1.n, str r.1.s, .bool r.1.isZ], .bool r.2] ∧ H' = []) := by
 refine Fn.enter Tryz.func66 Tryz.call66 rfl fun F => ?_
 unfold JK at hm
 refine box_rule ?_
 intro b4
 refine box_rule ?_
 intro b5
 refine alloc_rule rfl ?_
 intro b6
 refine code_cut (σ := Unit) [15, 16, 17, 18, 19, 20] (fun _ => [(20, .bool (decide (name = ([112, 97, 114, 116] : Str)) || decide (name = ([116, 101, 120, 116] : Str))))]) (fun _ => [Cells b6 95 [.int .i64 0, .int .i64 0, str ([] : Str), .bool false], Cells b5 41 [str inZ.Method, str inZ.Host, str inZ.Path, str inZ.Query, .slice ap2_0 inZ.Fields.length cp2_0], Cells b4 95 [.int .i64 x.kind, .int .i64 x.n, str x.s, .bool x.isZ], F]) (fun t901 K1 => K1 = K) ?_ ?_
 refine guard_go rfl ?_
 refine eq_str ?_
 refine cond_s (fun g17_1 => ?_) (fun g17_1 => ?_)
 refine cond_t g17_1 (cond_t g17_1 ?_)
 refine MeetStep.mk (()) ⟨(by rw [← ((or_t g17_1)).symm] <;> rfl), trivial⟩ (by repeat (first | exact trivial | refine And.intro rfl ?_)) (ConvH.of (.cons r0 (.cons r0 (.cons r0 (.cons r0 .nil))))) (Hp.Le.refl _) rfl
 refine cond_f g17_1 (eq_str (cond_f g17_1 ?_))
 refine MeetStep.mk (()) ⟨(by rw [← (or_e (b := decide (name = ([116, 101, 120, 116] : Str))) g17_1)] <;> rfl), trivial⟩ (by repeat (first | exact trivial | refine And.intro rfl ?_)) (ConvH.of (.cons r0 (.cons r0 (.cons r0 (.cons r0 .nil))))) (Hp.Le.refl _) rfl
 rintro _ _ _ rfl j901
 refine cs rfl rfl hm (fun w20 hm => ?_) fun w20 hm => ?_
 refine Ja rfl (RStep.of (load1_s r2 rfl rfl (neq_int ?_)))
 refine cs rfl rfl hm (fun w23 hm => ?_) fun w23 hm => ?_
 refine build_struct rfl rfl ?_
 refine store_rule r0 rfl ?_
 refine ⟨rfl, rfl, (Nat.le_of_ble_eq_true rfl), ?_⟩
 obtain rfl := si hm
 refine RStep.of (loadn_s r0 rfl (Nat.le_of_ble_eq_true rfl) ?_)
 refine EndStep.mk _ (Hp.Le.refl _) ⟨rfl, rfl⟩ (ConvH.of (.cons r3 .nil))
 refine eq_str ?_
 refine cs rfl rfl hm (fun w26 hm => ?_) fun w26 hm => ?_
 refine Ja rfl (RStep.of (load1_s r2 rfl rfl ?_))
 obtain ⟨x29, q29, hm⟩ := bnd hm
 refine call_fn (itoa_ok q29 hG5) .nil ?_
 rintro _ K29 _ l29 ⟨rfl, rfl⟩
 obtain ⟨x30, q30, hm⟩ := bnd hm
 refine call_fn (JJ (s := x29) q30) .nil ?_
 rintro _ K30 _ l30 ⟨rfl, rfl⟩
 refine store_rule r0 rfl ?_
 refine ⟨rfl, rfl, (Nat.le_of_ble_eq_true rfl), ?_⟩
 obtain rfl := si hm
 refine RStep.of (loadn_s r0 rfl (Nat.le_of_ble_eq_true rfl) ?_)
 refine EndStep.mk _ (l29.trans l30) ⟨rfl, rfl⟩ (ConvH.of (.cons r3 .nil))
 refine Ja rfl (RStep.of (load1_s r1 rfl rfl ?_))
 obtain ⟨x33, q33, hm⟩ := bnd hm
 refine call_fn (JbR (path := inZ.Path) q33 hG0 hG1 hG2 hG3 hG5) .nil ?_
 rintro _ K33 _ l33 ⟨a33_0, c33_0, rfl, h33_0, rfl⟩
 refine code_cut (σ := Unit) [34, 35, 36, 37, 38, 39, 40, 41, 42, 43] (fun _ => [(43, .bool (decide (x.n < 0) || decide (x.n ≥ (x33.length : Int))))]) (fun _ => [OwnL eS a33_0 9 1 c33_0 x33, Cells b6 95 [.int .i64 0, .int .i64 0, str ([] : Str), .bool false], Cells b5 41 [str inZ.Method, str inZ.Host, str inZ.Path, str inZ.Query, .slice ap2_0 inZ.Fields.length cp2_0], Cells b4 95 [.int .i64 x.kind, .int .i64 x.n, str x.s, .bool x.isZ], F]) (fun t905 K1 => K1 = K33) ?_ ?_
 refine guard_go rfl ?_
 refine Ja rfl (RStep.of (load1_s r3 rfl rfl ?_))
 refine cond_s (fun g37_7 => ?_) (fun g37_7 => ?_)
 refine cond_t g37_7 (cond_t g37_7 (cond_t g37_7 (cond_t g37_7 (cond_t g37_7 ?_))))
 refine MeetStep.mk (()) ⟨(by rw [← ((or_t g37_7)).symm] <;> rfl), trivial⟩ (by repeat (first | exact trivial | refine And.intro rfl ?_)) (ConvH.of (.cons r0 (.cons r0 (.cons r0 (.cons r0 (.cons r0 .nil)))))) (Hp.Le.refl _) rfl
 refine Ja rfl (cond_f g37_7 (RStep.of (load1_s r3 rfl rfl (cond_f g37_7 (cond_f g37_7 (RStep.of (len_slice rfl ?_)))))))
 refine cond_f g37_7 (cond_f g37_7 ?_)
 refine MeetStep.mk (()) ⟨(by rw [← (or_e (b := decide (x.n ≥ (x33.length : Int))) g37_7)] <;> rfl), trivial⟩ (by repeat (first | exact trivial | refine And.intro rfl ?_)) (ConvH.of (.cons r0 (.cons r0 (.cons r0 (.cons r0 (.cons r0 .nil)))))) (Hp.Le.refl _) rfl
 rintro _ _ _ rfl j905
 refine cs rfl rfl hm (fun w43 hm => ?_) fun w43 hm => ?_
 obtain ⟨x44, q44, hm⟩ := bnd hm
 refine call_fn (JJ (s := ([] : Str)) q44) .nil ?_
 rintro _ K44 _ l44 ⟨rfl, rfl⟩
 refine store_rule r1 rfl ?_
 refine ⟨rfl, rfl, (Nat.le_of_ble_eq_true rfl), ?_⟩
 obtain rfl := si hm
 refine RStep.of (loadn_s r0 rfl (Nat.le_of_ble_eq_true rfl) ?_)
 refine EndStep.mk _ (l33.trans l44) ⟨rfl, rfl⟩ (ConvH.of (.cons r4 .nil))
 refine Ja rfl (RStep.of (load1_s r3 rfl rfl ?_))
 obtain ⟨x48, l48, k48, hm⟩ := ixb hm
 refine RStep.ofN (index_addr rfl rfl (hasO h33_0 k48) l48 (lt_ofE rfl l48 k48) (RStep.of (ld_own (i := (x.n).toNat) (o := 0) r0 rfl k48 rfl rfl ?_)))
 obtain ⟨x50, q50, hm⟩ := bnd hm
 refine call_fn (JJ (s := x48) q50) .nil ?_
 rintro _ K50 _ l50 ⟨rfl, rfl⟩
 refine store_rule r1 rfl ?_
 refine ⟨rfl, rfl, (Nat.le_of_ble_eq_true rfl), ?_⟩
 obtain rfl := si hm
 refine RStep.of (loadn_s r0 rfl (Nat.le_of_ble_eq_true rfl) ?_)
 refine EndStep.mk _ (l33.trans l50) ⟨rfl, rfl⟩ (ConvH.of (.cons r4 .nil))
 refine Ja rfl (RStep.of (load1_s r2 rfl rfl (neq_int ?_)))
 refine cs rfl rfl hm (fun w53 hm => ?_) fun w53 hm => ?_
 refine build_struct rfl rfl ?_
 refine store_rule r0 rfl ?_
 refine ⟨rfl, rfl, (Nat.le_of_ble_eq_true rfl), ?_⟩
 obtain rfl := si hm
 refine RStep.of (loadn_s r0 rfl (Nat.le_of_ble_eq_true rfl) ?_)
 refine EndStep.mk _ (Hp.Le.refl _) ⟨rfl, rfl⟩ (ConvH.of (.cons r3 .nil))
 refine block_go rfl ?_
 refine eq_str ?_
 refine cs rfl rfl hm (fun w56 hm => ?_) fun w56 hm => ?_
 refine Ja rfl (RStep.of (load1_s r1 rfl rfl (Ja rfl (RStep.of (load1_s r2 rfl rfl ?_)))))
 obtain ⟨x63, q63, hm⟩ := bnd hm
 refine call_fn (Jb9 (name := x.s) q63 hp2_0 rfl) .nil ?_
 rintro _ K63 _ l63 ⟨rfl, rfl⟩
 obtain ⟨x67, q67, hm⟩ := bnd hm
 refine call_fn (JJ (s := x63.1) q67) .nil ?_
 rintro _ K67 _ l67 ⟨rfl, rfl⟩
 refine store_rule r0 rfl ?_
 refine ⟨rfl, rfl, (Nat.le_of_ble_eq_true rfl), ?_⟩
 obtain rfl := si hm
 refine RStep.of (loadn_s r0 rfl (Nat.le_of_ble_eq_true rfl) ?_)
 refine EndStep.mk _ (l63.trans l67) ⟨rfl, rfl⟩ (ConvH.of (.cons r3 .nil))
 refine eq_str ?_
 refine cs rfl rfl hm (fun w68 hm => ?_) fun w68 hm => ?_
 refine Ja rfl (RStep.of (load1_s r1 rfl rfl (Ja rfl (RStep.of (load1_s r2 rfl rfl ?_)))))
 obtain ⟨x75, q75, hm⟩ := bnd hm
 refine call_fn (Jb9 (name := x.s) q75 hp2_0 rfl) .nil ?_
 rintro _ K75 _ l75 ⟨rfl, rfl⟩
 obtain ⟨x79, q79, hm⟩ := bnd hm
 refine call_fn (JS (isZ := x75.2) q79) .nil ?_
 rintro _ K79 _ l79 ⟨rfl, rfl⟩
 refine store_rule r0 rfl ?_
 refine ⟨rfl, rfl, (Nat.le_of_ble_eq_true rfl), ?_⟩
 obtain rfl := si hm
 refine RStep.of (loadn_s r0 rfl (Nat.le_of_ble_eq_true rfl) ?_)
 refine EndStep.mk _ (l75.trans l79) ⟨rfl, rfl⟩ (ConvH.of (.cons r3 .nil))
 refine eq_str ?_
 refine cs rfl rfl hm (fun w80 hm => ?_) fun w80 hm => ?_
 refine Ja rfl (RStep.of (load1_s r1 rfl rfl (build_struct rfl rfl (cond_T (cond_T (Ja rfl ?_))))))
 refine RStep.of (load1_s r2 rfl rfl ?_)
 obtain ⟨x88, q88, hm⟩ := bnd hm
 refine call_fn (Jcr (a := (⟨([] : Str), ([] : Str), inZ.Query, true⟩ : Jag)) (name := x.s) q88 hG0 hG1 hG2 hG3 hG5) .nil ?_
 rintro _ K88 _ l88 ⟨rfl, rfl⟩
 obtain ⟨x92, q92, hm⟩ := bnd hm
 refine call_fn (JJ (s := x88.1) q92) .nil ?_
 rintro _ K92 _ l92 ⟨rfl, rfl⟩
 refine store_rule r0 rfl ?_
 refine ⟨rfl, rfl, (Nat.le_of_ble_eq_true rfl), ?_⟩
 obtain rfl := si hm
 refine RStep.of (loadn_s r0 rfl (Nat.le_of_ble_eq_true rfl) ?_)
 refine EndStep.mk _ (l88.trans l92) ⟨rfl, rfl⟩ (ConvH.of (.cons r3 .nil))
 refine eq_str ?_
 refine cs rfl rfl hm (fun w93 hm => ?_) fun w93 hm => ?_
 refine Ja rfl (RStep.of (load1_s r2 rfl rfl (RStep.of (len_str rfl ?_))))
 obtain ⟨x98, q98, hm⟩ := bnd hm
 refine call_fn (Jal (n' := (x.s.length : Int)) q98) .nil ?_
 rintro _ K98 _ l98 ⟨rfl, rfl⟩
 refine store_rule r0 rfl ?_
 refine ⟨rfl, rfl, (Nat.le_of_ble_eq_true rfl), ?_⟩
 obtain rfl := si hm
 refine RStep.of (loadn_s r0 rfl (Nat.le_of_ble_eq_true rfl) ?_)
 refine EndStep.mk _ l98 ⟨rfl, rfl⟩ (ConvH.of (.cons r3 .nil))
 refine eq_str ?_
 refine cs rfl rfl hm (fun w99 hm => ?_) fun w99 hm => ?_
 refine Ja rfl (RStep.of (load1_s r2 rfl rfl ?_))
 obtain ⟨x103, q103, hm⟩ := bnd hm
 refine call_fn (Jcl (s := x.s) q103) .nil ?_
 rintro _ K103 _ l103 ⟨rfl, rfl⟩
 obtain ⟨x104, q104, hm⟩ := bnd hm
 refine call_fn (JJ (s := x103) q104) .nil ?_
 rintro _ K104 _ l104 ⟨rfl, rfl⟩
 refine store_rule r0 rfl ?_
 refine ⟨rfl, rfl, (Nat.le_of_ble_eq_true rfl), ?_⟩
 obtain rfl := si hm
 refine RStep.of (loadn_s r0 rfl (Nat.le_of_ble_eq_true rfl) ?_)
 refine EndStep.mk _ (l103.trans l104) ⟨rfl, rfl⟩ (ConvH.of (.cons r3 .nil))
 refine Ja rfl (RStep.of (load1_s r2 rfl rfl ?_))
 obtain ⟨x107, q107, hm⟩ := bnd hm
 refine call_fn (Jcg (s := x.s) q107) .nil ?_
 rintro _ K107 _ l107 ⟨rfl, rfl⟩
 obtain ⟨x108, q108, hm⟩ := bnd hm
 refine call_fn (Jal (n' := x107) q108) .nil ?_
 rintro _ K108 _ l108 ⟨rfl, rfl⟩
 refine store_rule r0 rfl ?_
 refine ⟨rfl, rfl, (Nat.le_of_ble_eq_true rfl), ?_⟩
 obtain rfl := si hm
 refine RStep.of (loadn_s r0 rfl (Nat.le_of_ble_eq_true rfl) ?_)
 refine EndStep.mk _ (l107.trans l108) ⟨rfl, rfl⟩ (ConvH.of (.cons r3 .nil))

noncomputable def JaK (a : Int) (b : Int) : Option (Jd) :=
  if (decide (a = 0) || decide (b = 0)) then
  (Jas 0).bind fun x14 =>
  some x14
  else
  (chk (InI (-a))).bind fun _ =>
  (chk (InI (-b))).bind fun _ =>
  (chk ((max b (-b)) ≠ 0 ∧ InI (Int.tdiv 1099511627776 (max b (-b))))).bind fun _ =>
  ((if decide ((max a (-a)) > (Int.tdiv 1099511627776 (max b (-b)))) then
  some (1099511627776, 1)
  else
  some ((max a (-a)), (max b (-b))) : Option (Int × Int))).bind fun t903 =>
  if (!((decide (a < 0)) == (decide (b < 0)))) then
  (chk (InI (-t903.1))).bind fun _ =>
  (chk (InI ((-t903.1) * t903.2))).bind fun _ =>
  (Jas ((-t903.1) * t903.2)).bind fun x37 =>
  some x37
  else
  (chk (InI (t903.1 * t903.2))).bind fun _ =>
  (Jas (t903.1 * t903.2)).bind fun x41 =>
  some x41
set_option maxHeartbeats 8000000 in
theorem Jb3 {a : Int} {b : Int} {K : Hp} {r : Jd}
    (hm : JaK a b = some r)  :
    Fn Tryz.prog 109 [.int .i64 a, .int .i64 b] K [] (fun v K' H' => v = .agg #[.int .i64 r.kind, .int .i64 r.n, str r.s, .bool r.isZ] ∧ H' = []) := by
 refine Fn.enter Tryz.func109 Tryz.call109 rfl fun F => ?_
 unfold JaK at hm
 refine alloc_rule rfl ?_
 intro b4
 refine code_cut (σ := Unit) [8, 9, 10, 11, 12, 13] (fun _ => [(13, .bool (decide (a = 0) || decide (b = 0)))]) (fun _ => [Cells b4 95 [.int .i64 0, .int .i64 0, str ([] : Str), .bool false], F]) (fun t901 K1 => K1 = K) ?_ ?_
 refine guard_go rfl ?_
 refine eq_int ?_
 refine cond_s (fun g10_1 => ?_) (fun g10_1 => ?_)
 refine cond_t g10_1 (cond_t g10_1 ?_)
 refine MeetStep.mk (()) ⟨(by rw [← ((or_t g10_1)).symm] <;> rfl), trivial⟩ (by repeat (first | exact trivial | refine And.intro rfl ?_)) (ConvH.of (.cons r0 (.cons r0 .nil))) (Hp.Le.refl _) rfl
 refine cond_f g10_1 (eq_int (cond_f g10_1 ?_))
 refine MeetStep.mk (()) ⟨(by rw [← (or_e (b := decide (b = 0)) g10_1)] <;> rfl), trivial⟩ (by repeat (first | exact trivial | refine And.intro rfl ?_)) (ConvH.of (.cons r0 (.cons r0 .nil))) (Hp.Le.refl _) rfl
 rintro _ _ _ rfl j901
 refine cs rfl rfl hm (fun w13 hm => ?_) fun w13 hm => ?_
 obtain ⟨x14, q14, hm⟩ := bnd hm
 refine call_fn (Jal (n' := 0) q14) .nil ?_
 rintro _ K14 _ l14 ⟨rfl, rfl⟩
 refine store_rule r0 rfl ?_
 refine ⟨rfl, rfl, (Nat.le_of_ble_eq_true rfl), ?_⟩
 obtain rfl := si hm
 refine RStep.of (loadn_s r0 rfl (Nat.le_of_ble_eq_true rfl) ?_)
 refine EndStep.mk _ l14 ⟨rfl, rfl⟩ (ConvH.of (.cons r1 .nil))
 refine neq_bool rfl ?_
 obtain ⟨h22, hm⟩ := chkb hm
 refine un_neg h22 ?_
 refine RStep.of (max_int ?_)
 obtain ⟨h26, hm⟩ := chkb hm
 refine un_neg h26 ?_
 refine RStep.of (max_int ?_)
 obtain ⟨h30, hm⟩ := chkb hm
 refine quo_t h30.1 h30.2 ?_
 obtain ⟨s903, hl903, hm⟩ := bnd hm
 refine code_cut (σ := (Int × Int)) [6, 7] (fun t903 => [(6, .int .i64 t903.1), (7, .int .i64 t903.2)]) (fun t903 => [Cells b4 95 [.int .i64 0, .int .i64 0, str ([] : Str), .bool false], F]) (fun zz K1 => match zz with | t903 => t903 = s903) ?_ ?_
 refine cs rfl rfl hl903 (fun w31 hl903 => ?_) fun w31 hl903 => ?_
 refine MeetStep.mk ((1099511627776, 1)) ⟨rfl, rfl, trivial⟩ (by repeat (first | exact trivial | refine And.intro rfl ?_)) (ConvH.of (.cons r0 (.cons r0 .nil))) (Hp.Le.refl _) (si hl903)
 refine MeetStep.mk (((max a (-a)), (max b (-b)))) ⟨rfl, rfl, trivial⟩ (by repeat (first | exact trivial | refine And.intro rfl ?_)) (ConvH.of (.cons r0 (.cons r0 .nil))) (Hp.Le.refl _) (si hl903)
 rintro t903 Kt903 lt903 rfl j903
 refine cs rfl rfl hm (fun w32 hm => ?_) fun w32 hm => ?_
 obtain ⟨h34, hm⟩ := chkb hm
 refine un_neg h34 ?_
 obtain ⟨h36, hm⟩ := chkb hm
 refine int_in h36 ?_
 obtain ⟨x37, q37, hm⟩ := bnd hm
 refine call_fn (Jal (n' := ((-t903.1) * t903.2)) q37) .nil ?_
 rintro _ K37 _ l37 ⟨rfl, rfl⟩
 refine store_rule r0 rfl ?_
 refine ⟨rfl, rfl, (Nat.le_of_ble_eq_true rfl), ?_⟩
 obtain rfl := si hm
 refine RStep.of (loadn_s r0 rfl (Nat.le_of_ble_eq_true rfl) ?_)
 refine EndStep.mk _ (lt903.trans l37) ⟨rfl, rfl⟩ (ConvH.of (.cons r1 .nil))
 obtain ⟨h40, hm⟩ := chkb hm
 refine int_in h40 ?_
 obtain ⟨x41, q41, hm⟩ := bnd hm
 refine call_fn (Jal (n' := (t903.1 * t903.2)) q41) .nil ?_
 rintro _ K41 _ l41 ⟨rfl, rfl⟩
 refine store_rule r0 rfl ?_
 refine ⟨rfl, rfl, (Nat.le_of_ble_eq_true rfl), ?_⟩
 obtain rfl := si hm
 refine RStep.of (loadn_s r0 rfl (Nat.le_of_ble_eq_true rfl) ?_)
 refine EndStep.mk _ (lt903.trans l41) ⟨rfl, rfl⟩ (ConvH.of (.cons r1 .nil))

noncomputable def JM (s : Str) (suffix : Str) : Option (Bool) :=
  (if decide ((s.length : Int) ≥ (suffix.length : Int)) then (chk (InI ((s.length : Int) - (suffix.length : Int)))).bind fun _ =>
  (chk (0 ≤ ((s.length : Int) - (suffix.length : Int)) ∧ ((s.length : Int) - (suffix.length : Int)) ≤ (s.length : Int) ∧ (s.length : Int) ≤ (s.length : Int))).bind fun _ =>
  some (decide ((subL s ((s.length : Int) - (suffix.length : Int)) (s.length : Int)) = suffix)) else some false).bind fun x20 =>
  some x20
set_option maxHeartbeats 8000000 in
theorem JaU {s : Str} {suffix : Str} {K : Hp} {r : Bool}
    (hm : JM s suffix = some r)  :
    Fn Tryz.prog 147 [str s, str suffix] K [] (fun v K' H' => v = .bool r ∧ H' = []) := by
 refine Fn.enter Tryz.func147 Tryz.call147 rfl fun F => ?_
 unfold JM at hm
 refine guard_go rfl ?_
 refine RStep.of (len_str rfl (RStep.of (len_str rfl ?_)))
 obtain ⟨x20, e20, hm⟩ := bnd hm
 refine cond_s (fun g10_1 => ?_) (fun g10_1 => ?_)
 replace e20 := ift g10_1 e20
 refine cond_t g10_1 (cond_t g10_1 (RStep.of (len_str rfl (cond_t g10_1 (cond_t g10_1 (RStep.of (len_str rfl ?_)))))))
 refine cond_t g10_1 ?_
 obtain ⟨h16, e20⟩ := chkb e20
 refine int_in h16 (cond_t g10_1 ?_)
 obtain ⟨h17, e20⟩ := chkb e20
 refine RStep.ofN (sl_str (lo := (some ((s.length : Int) - (suffix.length : Int)))) (hi := none) rfl h17 (cond_t g10_1 (cond_t g10_1 (eq_str (cond_t g10_1 ?_)))))
 obtain rfl := si hm
 refine EndStep.mk _ (Hp.Le.refl _) ⟨(by rw [← (si e20)] <;> rfl), rfl⟩ (ConvH.of (.cons r0 .nil))
 replace e20 := iff_ g10_1 e20
 refine cond_f g10_1 (cond_f g10_1 (cond_f g10_1 (cond_f g10_1 (cond_f g10_1 (cond_f g10_1 ?_)))))
 refine cond_f g10_1 (cond_f g10_1 (cond_f g10_1 ?_))
 obtain rfl := si hm
 refine EndStep.mk _ (Hp.Le.refl _) ⟨(by rw [← ((si e20).symm).symm] <;> rfl), rfl⟩ (ConvH.of (.cons r0 .nil))

noncomputable def Jat (s : Str) (suffix : Str) : Option (Bool) :=
  (JM s suffix).bind fun x7 =>
  some x7
set_option maxHeartbeats 8000000 in
theorem JbO {s : Str} {suffix : Str} {K : Hp} {r : Bool}
    (hm : Jat s suffix = some r)  :
    Fn Tryz.prog 110 [str s, str suffix] K [] (fun v K' H' => v = .bool r ∧ H' = []) := by
 refine Fn.enter Tryz.func110 Tryz.call110 rfl fun F => ?_
 unfold Jat at hm
 obtain ⟨x7, q7, hm⟩ := bnd hm
 refine call_fn (JaU (s := s) (suffix := suffix) q7) .nil ?_
 rintro _ K7 _ l7 ⟨rfl, rfl⟩
 obtain rfl := si hm
 refine EndStep.mk _ l7 ⟨rfl, rfl⟩ (ConvH.of (.cons r0 .nil))

noncomputable def Jo (op : Str) (a : Jd) (b : Jd) : Option (Jd × Bool) :=
  if decide (a.kind ≠ b.kind) then
  some ((⟨0, 0, ([] : Str), false⟩ : Jd), false)
  else
  if decide (op = ([43] : Str)) then
  if decide (a.kind = 1) then
  (chk (a.s.length + b.s.length ≤ lim)).bind fun _ =>
  (JO (a.s ++ b.s)).bind fun x31 =>
  some (x31, true)
  else
  (chk (InI (a.n + b.n))).bind fun _ =>
  (Jas (a.n + b.n)).bind fun x37 =>
  some (x37, decide (a.kind = 2))
  else
  if decide (op = ([45] : Str)) then
  (chk (InI (a.n - b.n))).bind fun _ =>
  (Jas (a.n - b.n)).bind fun x46 =>
  some (x46, decide (a.kind = 2))
  else
  if decide (op = ([42] : Str)) then
  if (!decide (a.kind = 2)) then
  some ((⟨0, 0, ([] : Str), false⟩ : Jd), false)
  else
  (JaK a.n b.n).bind fun x57 =>
  some (x57, true)
  else
  if decide (op = ([61, 61] : Str)) then
  (JY (decide (a.kind = b.kind) && (decide (a.n = b.n) && (decide (a.s = b.s) && (a.isZ == b.isZ))))).bind fun x63 =>
  some (x63, true)
  else
  if decide (op = ([33, 61] : Str)) then
  (JY (!(decide (a.kind = b.kind) && (decide (a.n = b.n) && (decide (a.s = b.s) && (a.isZ == b.isZ)))))).bind fun x69 =>
  some (x69, true)
  else
  if decide (op = ([60] : Str)) then
  (JY (decide (a.n < b.n))).bind fun x77 =>
  some (x77, decide (a.kind = 2))
  else
  if decide (op = ([60, 61] : Str)) then
  (JY (decide (a.n ≤ b.n))).bind fun x86 =>
  some (x86, decide (a.kind = 2))
  else
  if decide (op = ([115, 116, 97, 114, 116, 115] : Str)) then
  (Jy a.s b.s).bind fun x94 =>
  (JY x94).bind fun x95 =>
  some (x95, decide (a.kind = 1))
  else
  if decide (op = ([101, 110, 100, 115] : Str)) then
  (Jat a.s b.s).bind fun x103 =>
  (JY x103).bind fun x104 =>
  some (x104, decide (a.kind = 1))
  else
  (containsM a.s b.s).bind fun x110 =>
  (JY x110).bind fun x111 =>
  some (x111, decide (a.kind = 1))
set_option maxHeartbeats 8000000 in
theorem Jb4 {op : Str} {a : Jd} {b : Jd} {K : Hp} {r : Jd × Bool}
    (hm : Jo op a b = some r) (hG0 : GlL eS 1 0 Jm K) (hG1 : GlL eS 1 1 Jr K) (hG2 : GlL eS 1 2 Jn K) (hG3 : GlN 3 K) (hG5 : GlA 5 (Go.Lib.pow10Tab.map fun z => Value.int .u64 z) K) :
    Fn Tryz.prog 67 [str op, .agg #[.int .i64 a.kind, .int .i64 a.n, str a.s, .bool a.isZ], .agg #[.int .i64 b.kind, .int .i64 b.n, str b.s, .bool b.isZ]] K [] (fun v K' H' => v = .tuple #[.agg #[.int .i64 r.1.kind, .int .i64 r.1.n, str r.1.s, .bool r.1.isZ], .bool r.2] ∧ H' = []) := by
 refine Fn.enter Tryz.func67 Tryz.call67 rfl fun F => ?_
 unfold Jo at hm
 refine box_rule ?_
 intro b4
 refine box_rule ?_
 intro b5
 refine alloc_rule rfl ?_
 intro b6
 refine Ja rfl (RStep.of (load1_s r2 rfl rfl (Ja rfl (RStep.of (load1_s r1 rfl rfl (neq_int ?_))))))
 refine cs rfl rfl hm (fun w14 hm => ?_) fun w14 hm => ?_
 refine build_struct rfl rfl ?_
 refine store_rule r0 rfl ?_
 refine ⟨rfl, rfl, (Nat.le_of_ble_eq_true rfl), ?_⟩
 obtain rfl := si hm
 refine RStep.of (loadn_s r0 rfl (Nat.le_of_ble_eq_true rfl) ?_)
 refine EndStep.mk _ (Hp.Le.refl _) ⟨rfl, rfl⟩ (ConvH.of (.cons r3 .nil))
 refine draw_go ⟨⟨[], false⟩, _, [(_, _)], []⟩ (by kernel_rfl) ⟨Hp.Le.refl _, (ConvH.of (.cons r2 .nil)), ci0⟩ ?_
 refine Ja rfl (load1_l m0 rfl rfl (eq_int (Ja rfl (load1_l m0 rfl rfl (eq_int ?_)))))
 refine block_go rfl ?_
 refine eq_str ?_
 refine cs rfl rfl hm (fun w23 hm => ?_) fun w23 hm => ?_
 refine cs rfl rfl hm (fun w25 hm => ?_) fun w25 hm => ?_
 refine Ja rfl (RStep.of (load1_s r2 rfl rfl (Ja rfl (RStep.of (load1_s r1 rfl rfl ?_)))))
 obtain ⟨h30, hm⟩ := chkb hm
 refine cat_str h30 ?_
 obtain ⟨x31, q31, hm⟩ := bnd hm
 refine call_fn (JJ (s := (a.s ++ b.s)) q31) .nil ?_
 rintro _ K31 _ l31 ⟨rfl, rfl⟩
 refine store_rule r0 rfl ?_
 refine ⟨rfl, rfl, (Nat.le_of_ble_eq_true rfl), ?_⟩
 obtain rfl := si hm
 refine RStep.of (loadn_s r0 rfl (Nat.le_of_ble_eq_true rfl) ?_)
 refine EndStep.mk _ l31 ⟨rfl, rfl⟩ (ConvH.of (.cons r3 .nil))
 refine Ja rfl (RStep.of (load1_s r2 rfl rfl (Ja rfl (RStep.of (load1_s r1 rfl rfl ?_)))))
 obtain ⟨h36, hm⟩ := chkb hm
 refine int_in h36 ?_
 obtain ⟨x37, q37, hm⟩ := bnd hm
 refine call_fn (Jal (n' := (a.n + b.n)) q37) .nil ?_
 rintro _ K37 _ l37 ⟨rfl, rfl⟩
 refine store_rule r0 rfl ?_
 refine ⟨rfl, rfl, (Nat.le_of_ble_eq_true rfl), ?_⟩
 obtain rfl := si hm
 refine RStep.of (loadn_s r0 rfl (Nat.le_of_ble_eq_true rfl) ?_)
 refine EndStep.mk _ l37 ⟨rfl, rfl⟩ (ConvH.of (.cons r3 .nil))
 refine eq_str ?_
 refine cs rfl rfl hm (fun w39 hm => ?_) fun w39 hm => ?_
 refine Ja rfl (RStep.of (load1_s r2 rfl rfl (Ja rfl (RStep.of (load1_s r1 rfl rfl ?_)))))
 obtain ⟨h45, hm⟩ := chkb hm
 refine int_in h45 ?_
 obtain ⟨x46, q46, hm⟩ := bnd hm
 refine call_fn (Jal (n' := (a.n - b.n)) q46) .nil ?_
 rintro _ K46 _ l46 ⟨rfl, rfl⟩
 refine store_rule r0 rfl ?_
 refine ⟨rfl, rfl, (Nat.le_of_ble_eq_true rfl), ?_⟩
 obtain rfl := si hm
 refine RStep.of (loadn_s r0 rfl (Nat.le_of_ble_eq_true rfl) ?_)
 refine EndStep.mk _ l46 ⟨rfl, rfl⟩ (ConvH.of (.cons r3 .nil))
 refine eq_str ?_
 refine cs rfl rfl hm (fun w48 hm => ?_) fun w48 hm => ?_
 refine un_not (cond_go rfl ?_)
 refine cond_s (fun w51 => ?_) (fun w51 => ?_)
 replace hm := ift (not_t (ni_t w51)) hm
 refine build_struct rfl rfl ?_
 refine store_rule r0 rfl ?_
 refine ⟨rfl, rfl, (Nat.le_of_ble_eq_true rfl), ?_⟩
 obtain rfl := si hm
 refine RStep.of (loadn_s r0 rfl (Nat.le_of_ble_eq_true rfl) ?_)
 refine EndStep.mk _ (Hp.Le.refl _) ⟨rfl, rfl⟩ (ConvH.of (.cons r3 .nil))
 replace hm := iff_ (not_f (ni_f w51)) hm
 refine Ja rfl (RStep.of (load1_s r2 rfl rfl (Ja rfl (RStep.of (load1_s r1 rfl rfl ?_)))))
 obtain ⟨x57, q57, hm⟩ := bnd hm
 refine call_fn (Jb3 (a := a.n) (b := b.n) q57) .nil ?_
 rintro _ K57 _ l57 ⟨rfl, rfl⟩
 refine store_rule r0 rfl ?_
 refine ⟨rfl, rfl, (Nat.le_of_ble_eq_true rfl), ?_⟩
 obtain rfl := si hm
 refine RStep.of (loadn_s r0 rfl (Nat.le_of_ble_eq_true rfl) ?_)
 refine EndStep.mk _ l57 ⟨rfl, rfl⟩ (ConvH.of (.cons r3 .nil))
 refine eq_str ?_
 refine cs rfl rfl hm (fun w58 hm => ?_) fun w58 hm => ?_
 refine RStep.of (loadn_s r2 rfl (Nat.le_of_ble_eq_true rfl) (RStep.of (loadn_s r1 rfl (Nat.le_of_ble_eq_true rfl) ?_)))
 refine eq_agg (b := (decide (a.kind = b.kind) && (decide (a.n = b.n) && (decide (a.s = b.s) && (a.isZ == b.isZ))))) rfl (by kernel_rfl) (by kernel_rfl) (by kernel_rfl) rfl ?_
 obtain ⟨x63, q63, hm⟩ := bnd hm
 refine call_fn (JS (isZ := (decide (a.kind = b.kind) && (decide (a.n = b.n) && (decide (a.s = b.s) && (a.isZ == b.isZ))))) q63) .nil ?_
 rintro _ K63 _ l63 ⟨rfl, rfl⟩
 refine store_rule r0 rfl ?_
 refine ⟨rfl, rfl, (Nat.le_of_ble_eq_true rfl), ?_⟩
 obtain rfl := si hm
 refine RStep.of (loadn_s r0 rfl (Nat.le_of_ble_eq_true rfl) ?_)
 refine EndStep.mk _ l63 ⟨rfl, rfl⟩ (ConvH.of (.cons r3 .nil))
 refine eq_str ?_
 refine cs rfl rfl hm (fun w64 hm => ?_) fun w64 hm => ?_
 refine RStep.of (loadn_s r2 rfl (Nat.le_of_ble_eq_true rfl) (RStep.of (loadn_s r1 rfl (Nat.le_of_ble_eq_true rfl) ?_)))
 refine neq_agg (b := (decide (a.kind = b.kind) && (decide (a.n = b.n) && (decide (a.s = b.s) && (a.isZ == b.isZ))))) rfl (by kernel_rfl) (by kernel_rfl) (by kernel_rfl) rfl ?_
 obtain ⟨x69, q69, hm⟩ := bnd hm
 refine call_fn (JS (isZ := (!(decide (a.kind = b.kind) && (decide (a.n = b.n) && (decide (a.s = b.s) && (a.isZ == b.isZ)))))) q69) .nil ?_
 rintro _ K69 _ l69 ⟨rfl, rfl⟩
 refine store_rule r0 rfl ?_
 refine ⟨rfl, rfl, (Nat.le_of_ble_eq_true rfl), ?_⟩
 obtain rfl := si hm
 refine RStep.of (loadn_s r0 rfl (Nat.le_of_ble_eq_true rfl) ?_)
 refine EndStep.mk _ l69 ⟨rfl, rfl⟩ (ConvH.of (.cons r3 .nil))
 refine eq_str ?_
 refine cs rfl rfl hm (fun w70 hm => ?_) fun w70 hm => ?_
 refine Ja rfl (RStep.of (load1_s r2 rfl rfl (Ja rfl (RStep.of (load1_s r1 rfl rfl ?_)))))
 obtain ⟨x77, q77, hm⟩ := bnd hm
 refine call_fn (JS (isZ := (decide (a.n < b.n))) q77) .nil ?_
 rintro _ K77 _ l77 ⟨rfl, rfl⟩
 refine store_rule r0 rfl ?_
 refine ⟨rfl, rfl, (Nat.le_of_ble_eq_true rfl), ?_⟩
 obtain rfl := si hm
 refine RStep.of (loadn_s r0 rfl (Nat.le_of_ble_eq_true rfl) ?_)
 refine EndStep.mk _ l77 ⟨rfl, rfl⟩ (ConvH.of (.cons r3 .nil))
 refine eq_str ?_
 refine cs rfl rfl hm (fun w79 hm => ?_) fun w79 hm => ?_
 refine Ja rfl (RStep.of (load1_s r2 rfl rfl (Ja rfl (RStep.of (load1_s r1 rfl rfl ?_)))))
 obtain ⟨x86, q86, hm⟩ := bnd hm
 refine call_fn (JS (isZ := (decide (a.n ≤ b.n))) q86) .nil ?_
 rintro _ K86 _ l86 ⟨rfl, rfl⟩
 refine store_rule r0 rfl ?_
 refine ⟨rfl, rfl, (Nat.le_of_ble_eq_true rfl), ?_⟩
 obtain rfl := si hm
 refine RStep.of (loadn_s r0 rfl (Nat.le_of_ble_eq_true rfl) ?_)
 refine EndStep.mk _ l86 ⟨rfl, rfl⟩ (ConvH.of (.cons r3 .nil))
 refine eq_str ?_
 refine cs rfl rfl hm (fun w88 hm => ?_) fun w88 hm => ?_
 refine Ja rfl (RStep.of (load1_s r2 rfl rfl (Ja rfl (RStep.of (load1_s r1 rfl rfl ?_)))))
 obtain ⟨x94, q94, hm⟩ := bnd hm
 refine call_fn (Jaq (s := a.s) (prefixZ := b.s) q94) .nil ?_
 rintro _ K94 _ l94 ⟨rfl, rfl⟩
 obtain ⟨x95, q95, hm⟩ := bnd hm
 refine call_fn (JS (isZ := x94) q95) .nil ?_
 rintro _ K95 _ l95 ⟨rfl, rfl⟩
 refine store_rule r0 rfl ?_
 refine ⟨rfl, rfl, (Nat.le_of_ble_eq_true rfl), ?_⟩
 obtain rfl := si hm
 refine RStep.of (loadn_s r0 rfl (Nat.le_of_ble_eq_true rfl) ?_)
 refine EndStep.mk _ (l94.trans l95) ⟨rfl, rfl⟩ (ConvH.of (.cons r3 .nil))
 refine eq_str ?_
 refine cs rfl rfl hm (fun w97 hm => ?_) fun w97 hm => ?_
 refine Ja rfl (RStep.of (load1_s r2 rfl rfl (Ja rfl (RStep.of (load1_s r1 rfl rfl ?_)))))
 obtain ⟨x103, q103, hm⟩ := bnd hm
 refine call_fn (JbO (s := a.s) (suffix := b.s) q103) .nil ?_
 rintro _ K103 _ l103 ⟨rfl, rfl⟩
 obtain ⟨x104, q104, hm⟩ := bnd hm
 refine call_fn (JS (isZ := x103) q104) .nil ?_
 rintro _ K104 _ l104 ⟨rfl, rfl⟩
 refine store_rule r0 rfl ?_
 refine ⟨rfl, rfl, (Nat.le_of_ble_eq_true rfl), ?_⟩
 obtain rfl := si hm
 refine RStep.of (loadn_s r0 rfl (Nat.le_of_ble_eq_true rfl) ?_)
 refine EndStep.mk _ (l103.trans l104) ⟨rfl, rfl⟩ (ConvH.of (.cons r3 .nil))
 refine Ja rfl (RStep.of (load1_s r2 rfl rfl (Ja rfl (RStep.of (load1_s r1 rfl rfl ?_)))))
 obtain ⟨x110, q110, hm⟩ := bnd hm
 refine call_fn (contains_ok q110 hG3) .nil ?_
 rintro _ K110 _ l110 ⟨rfl, rfl⟩
 obtain ⟨x111, q111, hm⟩ := bnd hm
 refine call_fn (JS (isZ := x110) q111) .nil ?_
 rintro _ K111 _ l111 ⟨rfl, rfl⟩
 refine store_rule r0 rfl ?_
 refine ⟨rfl, rfl, (Nat.le_of_ble_eq_true rfl), ?_⟩
 obtain rfl := si hm
 refine RStep.of (loadn_s r0 rfl (Nat.le_of_ble_eq_true rfl) ?_)
 refine EndStep.mk _ (l110.trans l111) ⟨rfl, rfl⟩ (ConvH.of (.cons r3 .nil))

noncomputable def syntax_tchar (c : UInt8) : Option (Bool) :=
  if (decide ((c.toNat : Int) ≥ 48) && decide ((c.toNat : Int) ≤ 57)) then
  some true
  else
  if (decide ((c.toNat : Int) ≥ 97) && decide ((c.toNat : Int) ≤ 122)) then
  some true
  else
  if (decide ((c.toNat : Int) ≥ 65) && decide ((c.toNat : Int) ≤ 90)) then
  some true
  else
  (ixByteM ([33, 35, 36, 37, 38, 39, 42, 43, 45, 46, 94, 95, 96, 124, 126] : Str) c).bind fun x23 =>
  some (decide (x23 ≥ 0))
set_option maxHeartbeats 8000000 in
theorem syntax_tchar_ok {c : UInt8} {K : Hp} {r : Bool}
    (hm : syntax_tchar c = some r)  :
    Fn Tryz.prog 213 [.int .u8 (c.toNat : Int)] K [] (fun v K' H' => v = .bool r ∧ H' = []) := by
 refine Fn.enter Tryz.func213 Tryz.call213 rfl fun F => ?_
 unfold syntax_tchar at hm
 refine block_go rfl ?_
 refine code_cut (σ := Unit) [3, 4, 5, 6, 7, 8, 9] (fun _ => [(3, .bool (decide ((c.toNat : Int) ≥ 48) && decide ((c.toNat : Int) ≤ 57)))]) (fun _ => [F]) (fun t901 K1 => K1 = K) ?_ ?_
 refine guard_go rfl ?_
 refine cond_s (fun g6_1 => ?_) (fun g6_1 => ?_)
 refine cond_t g6_1 (cond_t g6_1 ?_)
 refine MeetStep.mk (()) ⟨(by rw [← (and_e (b := decide ((c.toNat : Int) ≤ 57)) g6_1)] <;> rfl), trivial⟩ (by repeat (first | exact trivial | refine And.intro rfl ?_)) (ConvH.of (.cons r0 .nil)) (Hp.Le.refl _) rfl
 refine cond_f g6_1 (cond_f g6_1 ?_)
 refine MeetStep.mk (()) ⟨(by rw [← ((and_f g6_1)).symm] <;> rfl), trivial⟩ (by repeat (first | exact trivial | refine And.intro rfl ?_)) (ConvH.of (.cons r0 .nil)) (Hp.Le.refl _) rfl
 rintro _ _ _ rfl j901
 refine cs rfl rfl hm (fun w3 hm => ?_) fun w3 hm => ?_
 refine cond_go rfl (cond_t w3 ?_)
 obtain rfl := si hm
 refine EndStep.mk _ (Hp.Le.refl _) ⟨rfl, rfl⟩ (ConvH.of (.cons r0 .nil))
 refine guard_go rfl ?_
 refine cond_s (fun g12_2 => ?_) (fun g12_2 => ?_)
 refine cond_t g12_2 (cond_t g12_2 (cond_go rfl ?_))
 refine cond_s (fun w3 => ?_) (fun w3 => ?_)
 replace hm := ift (and_t g12_2 w3) hm
 refine cond_go rfl (cond_t w3 ?_)
 obtain rfl := si hm
 refine EndStep.mk _ (Hp.Le.refl _) ⟨rfl, rfl⟩ (ConvH.of (.cons r0 .nil))
 replace hm := iff_ (and_g g12_2 w3) hm
 refine guard_go rfl ?_
 refine cond_s (fun g18_3 => ?_) (fun g18_3 => ?_)
 refine cond_t g18_3 (cond_t g18_3 (cond_go rfl ?_))
 refine cond_s (fun w3 => ?_) (fun w3 => ?_)
 replace hm := ift (and_t g18_3 w3) hm
 obtain rfl := si hm
 refine EndStep.mk _ (Hp.Le.refl _) ⟨rfl, rfl⟩ (ConvH.of (.cons r0 .nil))
 replace hm := iff_ (and_g g18_3 w3) hm
 obtain ⟨x23, q23, hm⟩ := bnd hm
 refine call_fn (ixb_ok q23) .nil ?_
 rintro _ K23 _ l23 ⟨rfl, rfl⟩
 obtain rfl := si hm
 refine EndStep.mk _ l23 ⟨rfl, rfl⟩ (ConvH.of (.cons r0 .nil))
 refine cond_f g18_3 (cond_f g18_3 (cond_go rfl (cond_F ?_)))
 replace hm := iff_ (and_f g18_3) hm
 obtain ⟨x23, q23, hm⟩ := bnd hm
 refine call_fn (ixb_ok q23) .nil ?_
 rintro _ K23 _ l23 ⟨rfl, rfl⟩
 obtain rfl := si hm
 refine EndStep.mk _ l23 ⟨rfl, rfl⟩ (ConvH.of (.cons r0 .nil))
 refine cond_f g12_2 (cond_f g12_2 (cond_go rfl (cond_F ?_)))
 replace hm := iff_ (and_f g12_2) hm
 refine guard_go rfl ?_
 refine cond_s (fun g18_3 => ?_) (fun g18_3 => ?_)
 refine cond_t g18_3 (cond_t g18_3 (cond_go rfl ?_))
 refine cond_s (fun w3 => ?_) (fun w3 => ?_)
 replace hm := ift (and_t g18_3 w3) hm
 obtain rfl := si hm
 refine EndStep.mk _ (Hp.Le.refl _) ⟨rfl, rfl⟩ (ConvH.of (.cons r0 .nil))
 replace hm := iff_ (and_g g18_3 w3) hm
 obtain ⟨x23, q23, hm⟩ := bnd hm
 refine call_fn (ixb_ok q23) .nil ?_
 rintro _ K23 _ l23 ⟨rfl, rfl⟩
 obtain rfl := si hm
 refine EndStep.mk _ l23 ⟨rfl, rfl⟩ (ConvH.of (.cons r0 .nil))
 refine cond_f g18_3 (cond_f g18_3 (cond_go rfl (cond_F ?_)))
 replace hm := iff_ (and_f g18_3) hm
 obtain ⟨x23, q23, hm⟩ := bnd hm
 refine call_fn (ixb_ok q23) .nil ?_
 rintro _ K23 _ l23 ⟨rfl, rfl⟩
 obtain rfl := si hm
 refine EndStep.mk _ l23 ⟨rfl, rfl⟩ (ConvH.of (.cons r0 .nil))

noncomputable def syntax_Token_L0 : List UInt8 → Nat → Option (Fl (Bool) (Unit))
  | [], _ => some (Fl.go ())
  | e0 :: xs0, i0 =>
    (syntax_tchar e0).bind fun x12 =>
    if (!x12) then
    some (Fl.ret false)
    else
    syntax_Token_L0 xs0 (i0 + 1)
noncomputable def syntax_Token (s : Str) : Option (Bool) :=
  (chk (s.length ≤ szMax)).bind fun _ =>
  (syntax_Token_L0 s 0).bind fun s0 => s0.el some fun t0 =>
  some (decide (s ≠ ([] : Str)))
set_option maxHeartbeats 8000000 in
theorem syntax_Token_ok {s : Str} {K : Hp} {r : Bool}
    (hm : syntax_Token s = some r)  :
    Fn Tryz.prog 183 [str s] K [] (fun v K' H' => v = .bool r ∧ H' = []) := by
 refine Fn.enter Tryz.func183 Tryz.call183 rfl fun F => ?_
 unfold syntax_Token at hm
 refine RStep.of (len_str rfl ?_)
 obtain ⟨hk0, hm⟩ := chkb hm
 obtain ⟨s0, hl0, hm⟩ := bnd hm
 refine code_cut (σ := (Unit)) [2, 3, 6, 7, 8, 9, 10, 11, 12, 13, 14] (fun t0 => []) (fun t0 => [F]) (fun zz K1 => match zz with | t0 => s0 = Fl.go t0) ?_ ?_
 refine block_go rfl ?_
 refine loop_rule (σ := Nat) [2, 3, 6, 7, 8, 9, 10, 11, 12, 13, 14] (fun i0 => [(6, .int .i64 (i0 : Int))]) (fun i0 => [F]) (fun zz K1 => match zz with | i0 => syntax_Token_L0 (s.drop i0) i0 = some s0) (fun zz => s.length - zz) (0) rfl ⟨rfl, trivial⟩ (ConvH.of (.cons r0 .nil)) hl0 ?_
 clear hl0
 rintro i0 Kb0 lk0 hl0 j0
 conv at hl0 => whnf
 refine cond_go rfl ?_
 refine cond_s (fun w0 => ?_) (fun w0 => ?_)
 obtain ⟨e0, hx0, hd0⟩ := ltx w0
 rw [hd0, syntax_Token_L0.eq_2] at hl0
 refine block_go rfl ?_
 refine idx_str rfl (nn _) hx0 ?_
 obtain ⟨x12, q12, hl0⟩ := bnd hl0
 refine call_fn (syntax_tchar_ok (c := e0) q12) .nil ?_
 rintro _ K12 _ l12 ⟨rfl, rfl⟩
 refine un_not (cond_go rfl ?_)
 refine cond_s (fun w13 => ?_) (fun w13 => ?_)
 replace hl0 := ift (not_t (ni_t w13)) hl0
 obtain rfl := si hl0
 replace hm := elr hm
 obtain rfl := si hm
 refine EndStep.mk _ (lk0.trans l12) ⟨rfl, rfl⟩ (ConvH.of (.cons r0 .nil))
 replace hl0 := iff_ (not_f (ni_f w13)) hl0
 refine int_in (cntz hx0 hk0) ?_
 refine RoundStep.mk (i0 + 1) ⟨rfl, trivial⟩ (by repeat (first | exact trivial | refine And.intro rfl ?_)) (ConvH.of (.cons r0 .nil)) (lk0.trans l12) (ltm hx0) hl0
 rw [lty w0, syntax_Token_L0.eq_1] at hl0
 refine cond_T ?_
 refine MeetStep.mk (()) trivial (by repeat (first | exact trivial | refine And.intro rfl ?_)) (ConvH.of (.cons r0 .nil)) lk0 (si hl0).symm
 rintro t0 Kt0 lt0 rfl j0
 replace hm := elg hm
 refine neq_str ?_
 obtain rfl := si hm
 refine EndStep.mk _ lt0 ⟨rfl, rfl⟩ (ConvH.of (.cons r0 .nil))

noncomputable def Jbp (s : Str) : Option (Str × Err) :=
  (syntax_Token s).bind fun x5 =>
  if (!x5) then
  some (([] : Str), (some 8))
  else
  if decide ((s.length : Int) > 64) then
  some (([] : Str), (some 5))
  else
  (Jaw s).bind fun x13 =>
  some (x13, none)
set_option maxHeartbeats 8000000 in
theorem Jcw {s : Str} {K : Hp} {r : Str × Err}
    (hm : Jbp s = some r)  :
    Fn Tryz.prog 150 [str s] K [] (fun v K' H' => v = .tuple #[str r.1, errV 87 r.2] ∧ H' = []) := by
 refine Fn.enter Tryz.func150 Tryz.call150 rfl fun F => ?_
 unfold Jbp at hm
 obtain ⟨x5, q5, hm⟩ := bnd hm
 refine call_fn (syntax_Token_ok (s := s) q5) .nil ?_
 rintro _ K5 _ l5 ⟨rfl, rfl⟩
 refine un_not (cond_go rfl ?_)
 refine cond_s (fun w6 => ?_) (fun w6 => ?_)
 replace hm := ift (not_t (ni_t w6)) hm
 refine mk_iface rfl ?_
 obtain rfl := si hm
 refine EndStep.mk _ l5 ⟨rfl, rfl⟩ (ConvH.of (.cons r0 .nil))
 replace hm := iff_ (not_f (ni_f w6)) hm
 refine RStep.of (len_str rfl ?_)
 refine cs rfl rfl hm (fun w10 hm => ?_) fun w10 hm => ?_
 refine mk_iface rfl ?_
 obtain rfl := si hm
 refine EndStep.mk _ l5 ⟨rfl, rfl⟩ (ConvH.of (.cons r0 .nil))
 obtain ⟨x13, q13, hm⟩ := bnd hm
 refine call_fn (JaJ (s := s) q13) .nil ?_
 rintro _ K13 _ l13 ⟨rfl, rfl⟩
 obtain rfl := si hm
 refine EndStep.mk _ (l5.trans l13) ⟨rfl, rfl⟩ (ConvH.of (.cons r0 .nil))

noncomputable def Jaa : List UInt8 → Nat → Option (Fl (Bool) (Unit))
  | [], _ => some (Fl.go ())
  | e0 :: xs0, i0 =>
    (if decide ((e0.toNat : Int) < 32) then some (decide ((e0.toNat : Int) ≠ 9)) else some false).bind fun x18 =>
    (if x18 then some true else some (decide ((e0.toNat : Int) = 127))).bind fun x24 =>
    if x24 then
    some (Fl.ret true)
    else
    Jaa xs0 (i0 + 1)
noncomputable def JaV (s : Str) : Option (Bool) :=
  (chk (s.length ≤ szMax)).bind fun _ =>
  (Jaa s 0).bind fun s0 => s0.el some fun t0 =>
  some false
set_option maxHeartbeats 8000000 in
theorem Jch {s : Str} {K : Hp} {r : Bool}
    (hm : JaV s = some r)  :
    Fn Tryz.prog 184 [str s] K [] (fun v K' H' => v = .bool r ∧ H' = []) := by
 refine Fn.enter Tryz.func184 Tryz.call184 rfl fun F => ?_
 unfold JaV at hm
 refine RStep.of (len_str rfl ?_)
 obtain ⟨hk0, hm⟩ := chkb hm
 obtain ⟨s0, hl0, hm⟩ := bnd hm
 refine code_cut (σ := (Unit)) [2, 3, 6, 7, 8, 9, 10, 11, 12, 13, 14, 15, 16, 17, 18, 19, 20, 21, 22, 23, 24, 25] (fun t0 => []) (fun t0 => [F]) (fun zz K1 => match zz with | t0 => s0 = Fl.go t0) ?_ ?_
 refine block_go rfl ?_
 refine loop_rule (σ := Nat) [2, 3, 6, 7, 8, 9, 10, 11, 12, 13, 14, 15, 16, 17, 18, 19, 20, 21, 22, 23, 24, 25] (fun i0 => [(6, .int .i64 (i0 : Int))]) (fun i0 => [F]) (fun zz K1 => match zz with | i0 => Jaa (s.drop i0) i0 = some s0) (fun zz => s.length - zz) (0) rfl ⟨rfl, trivial⟩ (ConvH.of (.cons r0 .nil)) hl0 ?_
 clear hl0
 rintro i0 Kb0 lk0 hl0 j0
 conv at hl0 => whnf
 refine cond_go rfl ?_
 refine cond_s (fun w0 => ?_) (fun w0 => ?_)
 obtain ⟨e0, hx0, hd0⟩ := ltx w0
 rw [hd0, Jaa.eq_2] at hl0
 refine block_go rfl ?_
 refine guard_go rfl ?_
 refine idx_str rfl (nn _) hx0 ?_
 obtain ⟨x18, e18, hl0⟩ := bnd hl0
 refine cond_s (fun g13_4 => ?_) (fun g13_4 => ?_)
 replace e18 := ift g13_4 e18
 refine cond_t g13_4 (cond_t g13_4 (idx_str rfl (nn _) hx0 (cond_t g13_4 (neq_int (cond_t g13_4 ?_)))))
 obtain ⟨x24, e24, hl0⟩ := bnd hl0
 refine cond_s (fun g19_4 => ?_) (fun g19_4 => ?_)
 replace e24 := ift ((si e18).symm.trans g19_4) e24
 refine cond_t g19_4 (cond_t g19_4 (cond_t g19_4 (cond_t g19_4 (cond_go rfl (cond_T ?_)))))
 replace hl0 := ift (si e24).symm hl0
 obtain rfl := si hl0
 replace hm := elr hm
 obtain rfl := si hm
 refine EndStep.mk _ lk0 ⟨rfl, rfl⟩ (ConvH.of (.cons r0 .nil))
 replace e24 := iff_ ((si e18).symm.trans g19_4) e24
 refine cond_f g19_4 (cond_f g19_4 (idx_str rfl (nn _) hx0 (cond_f g19_4 (eq_int (cond_f g19_4 ?_)))))
 refine cond_go rfl ?_
 refine cond_s (fun w24 => ?_) (fun w24 => ?_)
 replace hl0 := ift ((si e24).symm.trans w24) hl0
 obtain rfl := si hl0
 replace hm := elr hm
 obtain rfl := si hm
 refine EndStep.mk _ lk0 ⟨rfl, rfl⟩ (ConvH.of (.cons r0 .nil))
 replace hl0 := iff_ ((si e24).symm.trans w24) hl0
 refine int_in (cntz hx0 hk0) ?_
 refine RoundStep.mk (i0 + 1) ⟨rfl, trivial⟩ (by repeat (first | exact trivial | refine And.intro rfl ?_)) (ConvH.of (.cons r0 .nil)) lk0 (ltm hx0) hl0
 replace e18 := iff_ g13_4 e18
 refine cond_f g13_4 (cond_f g13_4 (cond_f g13_4 (cond_f g13_4 ?_)))
 obtain ⟨x24, e24, hl0⟩ := bnd hl0
 replace e24 := iff_ (si e18).symm e24
 refine cond_F (cond_F (cond_F (idx_str rfl (nn _) hx0 (cond_F (eq_int ?_)))))
 refine cond_F (cond_go rfl ?_)
 refine cond_s (fun w24 => ?_) (fun w24 => ?_)
 replace hl0 := ift ((si e24).symm.trans w24) hl0
 obtain rfl := si hl0
 replace hm := elr hm
 obtain rfl := si hm
 refine EndStep.mk _ lk0 ⟨rfl, rfl⟩ (ConvH.of (.cons r0 .nil))
 replace hl0 := iff_ ((si e24).symm.trans w24) hl0
 refine int_in (cntz hx0 hk0) ?_
 refine RoundStep.mk (i0 + 1) ⟨rfl, trivial⟩ (by repeat (first | exact trivial | refine And.intro rfl ?_)) (ConvH.of (.cons r0 .nil)) lk0 (ltm hx0) hl0
 rw [lty w0, Jaa.eq_1] at hl0
 refine cond_T ?_
 refine MeetStep.mk (()) trivial (by repeat (first | exact trivial | refine And.intro rfl ?_)) (ConvH.of (.cons r0 .nil)) lk0 (si hl0).symm
 rintro t0 Kt0 lt0 rfl j0
 replace hm := elg hm
 obtain rfl := si hm
 refine EndStep.mk _ lt0 ⟨rfl, rfl⟩ (ConvH.of (.cons r0 .nil))

noncomputable def Jbg (s : Str) : Option (Str × Err) :=
  (JaV s).bind fun x5 =>
  if x5 then
  some (([] : Str), (some 2))
  else
  (trimM s ([32, 9] : Str)).bind fun x8 =>
  if decide ((x8.length : Int) > 2048) then
  some (([] : Str), (some 5))
  else
  some (x8, none)
set_option maxHeartbeats 8000000 in
theorem Jct {s : Str} {K : Hp} {r : Str × Err}
    (hm : Jbg s = some r)  :
    Fn Tryz.prog 151 [str s] K [] (fun v K' H' => v = .tuple #[str r.1, errV 87 r.2] ∧ H' = []) := by
 refine Fn.enter Tryz.func151 Tryz.call151 rfl fun F => ?_
 unfold Jbg at hm
 obtain ⟨x5, q5, hm⟩ := bnd hm
 refine call_fn (Jch (s := s) q5) .nil ?_
 rintro _ K5 _ l5 ⟨rfl, rfl⟩
 refine cs rfl rfl hm (fun w5 hm => ?_) fun w5 hm => ?_
 refine mk_iface rfl ?_
 obtain rfl := si hm
 refine EndStep.mk _ l5 ⟨rfl, rfl⟩ (ConvH.of (.cons r0 .nil))
 obtain ⟨x8, q8, hm⟩ := bnd hm
 refine call_fn (trim_ok q8) .nil ?_
 rintro _ K8 _ l8 ⟨rfl, rfl⟩
 refine RStep.of (len_str rfl ?_)
 refine cs rfl rfl hm (fun w11 hm => ?_) fun w11 hm => ?_
 refine mk_iface rfl ?_
 obtain rfl := si hm
 refine EndStep.mk _ (l5.trans l8) ⟨rfl, rfl⟩ (ConvH.of (.cons r0 .nil))
 obtain rfl := si hm
 refine EndStep.mk _ (l5.trans l8) ⟨rfl, rfl⟩ (ConvH.of (.cons r0 .nil))

noncomputable def Jae (x12 : Str) (value : Str) : List Jg → Nat → (List Jg) → Bool → Option ((List Jg) × Bool)
  | [], _, y0_0, y0_1 => some (y0_0, y0_1)
  | e0 :: xs0, i0, y0_0, y0_1 =>
    (Jaw e0.Name).bind fun x22 =>
    if decide (x22 ≠ x12) then
    (chk (y0_0.length + [e0].length ≤ lim)).bind fun _ =>
    Jae x12 value xs0 (i0 + 1) (y0_0 ++ [e0]) y0_1
    else
    if (!y0_1) then
    (chk (y0_0.length + [(⟨x12, value⟩ : Jg)].length ≤ lim)).bind fun _ =>
    Jae x12 value xs0 (i0 + 1) (y0_0 ++ [(⟨x12, value⟩ : Jg)]) true
    else
    Jae x12 value xs0 (i0 + 1) y0_0 y0_1
noncomputable def JbG (f : (List Jg)) (name : Str) (value : Str) : Option ((List Jg)) :=
  (Jaw name).bind fun x12 =>
  (chk (f.length ≤ szMax)).bind fun _ =>
  (Jae x12 value f 0 [] false).bind fun t0 =>
  if (!t0.2) then
  (chk (t0.1.length + [(⟨x12, value⟩ : Jg)].length ≤ lim)).bind fun _ =>
  some (t0.1 ++ [(⟨x12, value⟩ : Jg)])
  else
  some t0.1
set_option maxHeartbeats 8000000 in
theorem JcB {f : (List Jg)} {name : Str} {value : Str} {ap0_0 : Option Addr} {cp0_0 : Nat} {n0 : Nat} {K : Hp} {r : (List Jg)}
    (hm : JbG f name value = some r) (hp0_0 : RdC Jg.enc K ap0_0 cp0_0 2 f) (en0 : n0 = f.length) :
    Fn Tryz.prog 152 [.slice ap0_0 n0 cp0_0, str name, str value] K [] (fun v K' H' => ∃ ar_0 : Option Addr, ∃ cr_0 : Nat, v = .slice ar_0 r.length cr_0 ∧ (0 < r.length → Has ar_0) ∧ H' = [OwnL Jg.enc ar_0 77 2 cr_0 r]) := by
 subst en0
 refine Fn.enter Tryz.func152 Tryz.call152 rfl fun F => ?_
 unfold JbG at hm
 obtain ⟨x12, q12, hm⟩ := bnd hm
 refine call_fn (JaJ (s := name) q12) .nil ?_
 rintro _ K12 _ l12 ⟨rfl, rfl⟩
 refine RStep.of (len_slice rfl ?_)
 obtain ⟨hk0, hm⟩ := chkb hm
 obtain ⟨s0, hl0, hm⟩ := bnd hm
 refine nilC Jg.enc 77 2 ?_
 refine code_cut (σ := ((List Jg) × Bool) × Option Addr × Nat) [7, 8, 10, 15, 16, 17, 18, 19, 20, 21, 22, 23, 24, 25, 26, 27, 28, 29, 30, 31, 32, 33, 34, 35, 36, 37, 38] (fun (t0, t0_a0, t0_c0) => [(7, .slice t0_a0 t0.1.length t0_c0), (8, .bool t0.2)]) (fun (t0, t0_a0, t0_c0) => [OwnL Jg.enc t0_a0 77 2 t0_c0 t0.1, F]) (fun zz K1 => match zz with | (t0, t0_a0, t0_c0) => (0 < t0.1.length → Has t0_a0) ∧ t0 = s0) ?_ ?_
 refine block_go rfl ?_
 refine loop_rule (σ := Nat × (List Jg) × Bool × Option Addr × Nat) [7, 8, 10, 15, 16, 17, 18, 19, 20, 21, 22, 23, 24, 25, 26, 27, 28, 29, 30, 31, 32, 33, 34, 35, 36, 37, 38] (fun (i0, y0_0, y0_1, y0_a0, y0_c0) => [(15, .int .i64 (i0 : Int)), (7, .slice y0_a0 y0_0.length y0_c0), (8, .bool y0_1)]) (fun (i0, y0_0, y0_1, y0_a0, y0_c0) => [OwnL Jg.enc y0_a0 77 2 y0_c0 y0_0, F]) (fun zz K1 => match zz with | (i0, y0_0, y0_1, y0_a0, y0_c0) => (0 < y0_0.length → Has y0_a0) ∧ Jae x12 value (f.drop i0) i0 y0_0 y0_1 = some s0) (fun zz => f.length - zz.1) (0, [], false, none, 0) rfl ⟨rfl, rfl, rfl, trivial⟩ (ConvH.of (.cons r0 (.cons r0 .nil))) ⟨(fun h => by simp at h), hl0⟩ ?_
 clear hl0
 rintro ⟨i0, y0_0, y0_1, y0_a0, y0_c0⟩ Kb0 lk0 ⟨y0_h0, hl0⟩ j0
 refine cond_go rfl ?_
 refine cond_s (fun w0 => ?_) (fun w0 => ?_)
 obtain ⟨e0, hx0, hd0⟩ := ltx w0
 rw [hd0, Jae.eq_2] at hl0
 refine block_go rfl ?_
 refine RStep.ofN (index_addr rfl rfl (hasK (hp0_0.mono (l12.trans lk0)).rd hx0) (nn _) (lt_ofN hx0) (RStep.of (load_rd_agg i0 _ (hp0_0.mono (l12.trans lk0)).rd rfl (mp hx0) rfl ?_)))
 refine alloc_rule rfl ?_
 intro b10
 refine store_rule r0 rfl ?_
 refine ⟨rfl, rfl, (Nat.le_of_ble_eq_true rfl), ?_⟩
 refine block_go rfl ?_
 refine Ja rfl (RStep.of (load1_s r0 rfl rfl ?_))
 obtain ⟨x22, q22, hl0⟩ := bnd hl0
 refine call_fn (JaJ (s := e0.Name) q22) .nil ?_
 rintro _ K22 _ l22 ⟨rfl, rfl⟩
 refine neq_str ?_
 refine cs rfl rfl hl0 (fun w19 hl0 => ?_) fun w19 hl0 => ?_
 refine RStep.of (loadn_s r0 rfl (Nat.le_of_ble_eq_true rfl) ?_)
 refine bsO (len := 1) (enc := Jg.enc) (l := [e0]) (cl := [str e0.Name, str e0.Value]) elT30 rfl rfl (fun _ _ => rfl) rfl rfl rfl ?_ fun b27 => ?_
 · conv => whnf
   refine cond_T ?_
   first | done | rfl
 obtain ⟨h28, hl0⟩ := chkb hl0
 refine apE rfl r2 elT30 (src_own' rfl r0 rfl (fun _ => rfl) (fun _ => rfl)) h28 ?_
 intro a28 c28 o28
 refine int_in (cntz hx0 hk0) ?_
 refine RoundStep.mk (i0 + 1, (y0_0 ++ [e0]), y0_1, a28, c28) ⟨rfl, rfl, rfl, trivial⟩ (by repeat (first | exact trivial | refine And.intro rfl ?_)) (ConvH.of (.cons r0 (.cons r2 .nil))) (lk0.trans l22) (ltm hx0) ⟨o28, hl0⟩
 refine un_not (cond_go rfl ?_)
 refine cond_s (fun w29 => ?_) (fun w29 => ?_)
 replace hl0 := ift (not_t (ni_t w29)) hl0
 refine build_struct rfl rfl (cond_T (cond_T ?_))
 refine bsO (len := 1) (enc := Jg.enc) (l := [(⟨x12, value⟩ : Jg)]) (cl := [str x12, str value]) elT30 rfl rfl (fun _ _ => rfl) rfl rfl rfl ?_ fun b36 => ?_
 · conv => whnf
   refine cond_T ?_
   first | done | rfl
 obtain ⟨h37, hl0⟩ := chkb hl0
 refine apE rfl r2 elT30 (src_own' rfl r0 rfl (fun _ => rfl) (fun _ => rfl)) h37 ?_
 intro a37 c37 o37
 refine int_in (cntz hx0 hk0) ?_
 refine RoundStep.mk (i0 + 1, (y0_0 ++ [(⟨x12, value⟩ : Jg)]), true, a37, c37) ⟨rfl, rfl, rfl, trivial⟩ (by repeat (first | exact trivial | refine And.intro rfl ?_)) (ConvH.of (.cons r0 (.cons r2 .nil))) (lk0.trans l22) (ltm hx0) ⟨o37, hl0⟩
 replace hl0 := iff_ (not_f (ni_f w29)) hl0
 refine int_in (cntz hx0 hk0) ?_
 refine RoundStep.mk (i0 + 1, y0_0, y0_1, y0_a0, y0_c0) ⟨rfl, rfl, rfl, trivial⟩ (by repeat (first | exact trivial | refine And.intro rfl ?_)) (ConvH.of (.cons r1 (.cons r1 .nil))) (lk0.trans l22) (ltm hx0) ⟨y0_h0, hl0⟩
 rw [lty w0, Jae.eq_1] at hl0
 refine cond_T ?_
 refine MeetStep.mk ((y0_0, y0_1), y0_a0, y0_c0) ⟨rfl, rfl, trivial⟩ (by repeat (first | exact trivial | refine And.intro rfl ?_)) (ConvH.of (.cons r0 (.cons r0 .nil))) lk0 ⟨y0_h0, (si hl0)⟩
 rintro ⟨t0, t0_a0, t0_c0⟩ Kt0 lt0 ⟨t0_h0, rfl⟩ j0
 refine un_not (cond_go rfl ?_)
 refine cond_s (fun w40 => ?_) (fun w40 => ?_)
 replace hm := ift (not_t (ni_t w40)) hm
 refine build_struct rfl rfl (cond_T (cond_T ?_))
 refine bsO (len := 1) (enc := Jg.enc) (l := [(⟨x12, value⟩ : Jg)]) (cl := [str x12, str value]) elT30 rfl rfl (fun _ _ => rfl) rfl rfl rfl ?_ fun b45 => ?_
 · conv => whnf
   refine cond_T ?_
   first | done | rfl
 obtain ⟨h46, hm⟩ := chkb hm
 refine apE rfl r1 elT30 (src_own' rfl r0 rfl (fun _ => rfl) (fun _ => rfl)) h46 ?_
 intro a46 c46 o46
 obtain rfl := si hm
 refine EndStep.mk _ (l12.trans lt0) ⟨a46, c46, rfl, o46, rfl⟩ (ConvH.of (.cons r0 (.cons r1 .nil)))
 replace hm := iff_ (not_f (ni_f w40)) hm
 obtain rfl := si hm
 refine EndStep.mk _ (l12.trans lt0) ⟨t0_a0, t0_c0, rfl, t0_h0, rfl⟩ (ConvH.of (.cons r0 (.cons r0 .nil)))

noncomputable def J7 (r' : Jf) (s : Str) (x : Jd) : Option (Err × Jf) :=
  (cutM s ([58] : Str)).bind fun x15 =>
  (Jbp x15.2.1).bind fun x21 =>
  if x21.2.isSome then
  some ((some 8), r')
  else
  if decide (x15.1 = ([118, 97, 114, 121] : Str)) then
  (Jv r'.Vary x21.1).bind fun x34 =>
  if (!x34) then
  (chk (r'.Vary.length + [x21.1].length ≤ lim)).bind fun _ =>
  some (none, (⟨r'.Path, r'.Query, r'.Headers, (r'.Vary ++ [x21.1]), r'.Tags, r'.TTL, r'.Deny, r'.Steps, r'.Pass, r'.Token⟩ : Jf))
  else
  some (none, r')
  else
  (Jbg x.s).bind fun x49 =>
  if x49.2.isSome then
  some (x49.2, r')
  else
  (JbG r'.Headers x21.1 x49.1).bind fun x62 =>
  some (none, (⟨r'.Path, r'.Query, x62, r'.Vary, r'.Tags, r'.TTL, r'.Deny, r'.Steps, r'.Pass, r'.Token⟩ : Jf))
set_option maxHeartbeats 8000000 in
theorem Jbq {r' : Jf} {s : Str} {x : Jd} {b0 : Nat} {ap0_0 : Option Addr} {cp0_0 : Nat} {ap0_1 : Option Addr} {cp0_1 : Nat} {ap0_2 : Option Addr} {cp0_2 : Nat} {T0_ : TypeId} {p0_ q0_ : List Value} {K : Hp} {r : Err × Jf}
    (hm : J7 r' s x = some r) (hp0_0 : (0 < r'.Headers.length → Has ap0_0)) (hp0_1 : (0 < r'.Vary.length → Has ap0_1)) (hp0_2 : (0 < r'.Tags.length → Has ap0_2)) (hG0 : GlL eS 1 0 Jm K) (hG1 : GlL eS 1 1 Jr K) (hG2 : GlL eS 1 2 Jn K) (hG3 : GlN 3 K) (hG5 : GlA 5 (Go.Lib.pow10Tab.map fun z => Value.int .u64 z) K) :
    Fn Tryz.prog 114 [.pointer (some ⟨b0, p0_.length + 0, none⟩), str s, .agg #[.int .i64 x.kind, .int .i64 x.n, str x.s, .bool x.isZ]] K [CellsAt b0 T0_ p0_ q0_ [str r'.Path, str r'.Query, .slice ap0_0 r'.Headers.length cp0_0, .slice ap0_1 r'.Vary.length cp0_1, .slice ap0_2 r'.Tags.length cp0_2, .int .i64 r'.TTL, .int .i64 r'.Deny, .int .i64 r'.Steps, .bool r'.Pass, .bool r'.Token], OwnL Jg.enc ap0_0 77 2 cp0_0 r'.Headers, OwnL eS ap0_1 9 1 cp0_1 r'.Vary, OwnL eS ap0_2 9 1 cp0_2 r'.Tags] (fun v K' H' => ∃ ar_0 : Option Addr, ∃ cr_0 : Nat, ∃ ar_1 : Option Addr, ∃ cr_1 : Nat, ∃ ar_2 : Option Addr, ∃ cr_2 : Nat, v = errV 87 r.1 ∧ (0 < r.2.Headers.length → Has ar_0) ∧ (0 < r.2.Vary.length → Has ar_1) ∧ (0 < r.2.Tags.length → Has ar_2) ∧ H' = [CellsAt b0 T0_ p0_ q0_ [str r.2.Path, str r.2.Query, .slice ar_0 r.2.Headers.length cr_0, .slice ar_1 r.2.Vary.length cr_1, .slice ar_2 r.2.Tags.length cr_2, .int .i64 r.2.TTL, .int .i64 r.2.Deny, .int .i64 r.2.Steps, .bool r.2.Pass, .bool r.2.Token], OwnL Jg.enc ar_0 77 2 cr_0 r.2.Headers, OwnL eS ar_1 9 1 cr_1 r.2.Vary, OwnL eS ar_2 9 1 cr_2 r.2.Tags]) := by
 refine Fn.enter Tryz.func114 Tryz.call114 rfl fun F => ?_
 unfold J7 at hm
 refine box_rule ?_
 intro b5
 obtain ⟨x15, q15, hm⟩ := bnd hm
 refine call_fn (cut_ok q15 hG3) .nil ?_
 rintro _ K15 _ l15 ⟨rfl, rfl⟩
 obtain ⟨x21, q21, hm⟩ := bnd hm
 refine call_fn (Jcw (s := x15.2.1) q21) .nil ?_
 rintro _ K21 _ l21 ⟨rfl, rfl⟩
 refine neq_err rfl ?_
 refine cs rfl rfl hm (fun w25 hm => ?_) fun w25 hm => ?_
 refine mk_iface rfl ?_
 obtain rfl := si hm
 refine EndStep.mk _ (l15.trans l21) ⟨ap0_0, cp0_0, ap0_1, cp0_1, ap0_2, cp0_2, rfl, hp0_0, hp0_1, hp0_2, rfl⟩ (ConvH.of (.cons r1 (.cons r1 (.cons r1 (.cons r1 (.cons r1 .nil))))))
 refine eq_str ?_
 refine cs rfl rfl hm (fun w28 hm => ?_) fun w28 hm => ?_
 refine nil_check ?_
 refine fa_sub (j' := 3) rfl rfl ?_
 refine RStep.of (load1_s r1 rfl (at_get rfl) ?_)
 obtain ⟨x34, q34, hm⟩ := bnd hm
 refine call_fn (Fn.lend Tryz.call113 (fun K34_0 l34_0 f34_0 => (JN (v' := x21.1) q34 f34_0 rfl)) (by exact fun _ _ _ _ h => h)) (.cons r3 .nil) ?_
 rintro _ K34 _ l34 ⟨_, rfl, rfl, rfl⟩
 refine un_not (cond_go rfl ?_)
 refine cond_s (fun w35 => ?_) (fun w35 => ?_)
 replace hm := ift (not_t (ni_t w35)) hm
 refine nil_check ?_
 refine fa_sub (j' := 3) rfl rfl ?_
 refine RStep.of (load1_s r2 rfl (at_get rfl) ?_)
 refine bsO (len := 1) (enc := eS) (l := [x21.1]) (cl := [str x21.1]) elT31 rfl rfl (fun _ _ => rfl) rfl rfl rfl ?_ fun b42 => ?_
 · conv => whnf
   refine cond_T ?_
   first | done | rfl
 obtain ⟨h43, hm⟩ := chkb hm
 refine apE rfl r1 elT31 (src_own' rfl r0 rfl (fun _ => rfl) (fun _ => rfl)) h43 ?_
 intro a43 c43 o43
 refine nil_check ?_
 refine fa_sub (j' := 3) rfl rfl ?_
 refine st_sub r3 rfl ?_
 refine ⟨rfl, rfl, (Nat.le_of_ble_eq_true rfl), ?_⟩
 obtain rfl := si hm
 refine EndStep.mk _ ((l15.trans l21).trans l34) ⟨ap0_0, cp0_0, a43, c43, ap0_2, cp0_2, rfl, hp0_0, o43, hp0_2, rfl⟩ (ConvH.of (.cons r0 (.cons r3 (.cons r0 (.cons r2 (.cons r2 .nil))))))
 replace hm := iff_ (not_f (ni_f w35)) hm
 obtain rfl := si hm
 refine EndStep.mk _ ((l15.trans l21).trans l34) ⟨ap0_0, cp0_0, ap0_1, cp0_1, ap0_2, cp0_2, rfl, hp0_0, hp0_1, hp0_2, rfl⟩ (ConvH.of (.cons r2 (.cons r2 (.cons r0 (.cons r1 (.cons r1 .nil))))))
 refine Ja rfl (RStep.of (load1_s r0 rfl rfl ?_))
 obtain ⟨x49, q49, hm⟩ := bnd hm
 refine call_fn (Jct (s := x.s) q49) .nil ?_
 rintro _ K49 _ l49 ⟨rfl, rfl⟩
 refine neq_err rfl ?_
 refine cs rfl rfl hm (fun w53 hm => ?_) fun w53 hm => ?_
 obtain rfl := si hm
 refine EndStep.mk _ ((l15.trans l21).trans l49) ⟨ap0_0, cp0_0, ap0_1, cp0_1, ap0_2, cp0_2, rfl, hp0_0, hp0_1, hp0_2, rfl⟩ (ConvH.of (.cons r1 (.cons r1 (.cons r1 (.cons r1 (.cons r1 .nil))))))
 refine nil_check ?_
 refine fa_sub (j' := 2) rfl rfl ?_
 refine RStep.of (load1_s r1 rfl (at_get rfl) ?_)
 obtain ⟨x62, q62, hm⟩ := bnd hm
 refine call_fn (Fn.lend Tryz.call152 (fun K62_0 l62_0 f62_0 => (JcB (name := x21.1) (value := x49.1) q62 f62_0 rfl)) (by exact fun _ _ _ _ h => h)) (.cons r2 .nil) ?_
 rintro _ K62 _ l62 ⟨_, rfl, a62_0, c62_0, rfl, h62_0, rfl⟩
 refine nil_check ?_
 refine fa_sub (j' := 2) rfl rfl ?_
 refine st_sub r3 rfl ?_
 refine ⟨rfl, rfl, (Nat.le_of_ble_eq_true rfl), ?_⟩
 obtain rfl := si hm
 refine EndStep.mk _ (((l15.trans l21).trans l49).trans l62) ⟨a62_0, c62_0, ap0_1, cp0_1, ap0_2, cp0_2, rfl, h62_0, hp0_1, hp0_2, rfl⟩ (ConvH.of (.cons r0 (.cons r1 (.cons r2 (.cons r2 (.cons r2 .nil))))))

noncomputable def J0 (r' : Jf) (s : Str) (x : Jd) : Option (Err × Jf) :=
  (((if (decide (s = ([112, 97, 115, 115] : Str)) || decide (s = ([116, 111, 107, 101, 110] : Str))) then some true else (Jy s ([118, 97, 114, 121, 58] : Str)).bind fun x17 =>
  some x17).bind fun t902 =>
  if t902 then
  some 0
  else
  if (decide (s = ([116, 116, 108] : Str)) || decide (s = ([100, 101, 110, 121] : Str))) then
  some 2
  else
  some 1 : Option (Int))).bind fun t901 =>
  if decide (x.kind ≠ t901) then
  some ((some 9), r')
  else
  if decide (s = ([112, 97, 116, 104] : Str)) then
  some (none, (⟨x.s, r'.Query, r'.Headers, r'.Vary, r'.Tags, r'.TTL, r'.Deny, r'.Steps, r'.Pass, r'.Token⟩ : Jf))
  else
  if decide (s = ([113, 117, 101, 114, 121] : Str)) then
  some (none, (⟨r'.Path, x.s, r'.Headers, r'.Vary, r'.Tags, r'.TTL, r'.Deny, r'.Steps, r'.Pass, r'.Token⟩ : Jf))
  else
  if decide (s = ([116, 97, 103] : Str)) then
  (Jv r'.Tags x.s).bind fun x58 =>
  if (!x58) then
  (chk (r'.Tags.length + [x.s].length ≤ lim)).bind fun _ =>
  some (none, (⟨r'.Path, r'.Query, r'.Headers, r'.Vary, (r'.Tags ++ [x.s]), r'.TTL, r'.Deny, r'.Steps, r'.Pass, r'.Token⟩ : Jf))
  else
  some (none, r')
  else
  if decide (s = ([116, 116, 108] : Str)) then
  some (none, (⟨r'.Path, r'.Query, r'.Headers, r'.Vary, r'.Tags, (max 0 x.n), r'.Deny, r'.Steps, r'.Pass, r'.Token⟩ : Jf))
  else
  if decide (s = ([100, 101, 110, 121] : Str)) then
  if (decide (x.n < 400) || decide (x.n > 499)) then
  some (none, (⟨r'.Path, r'.Query, r'.Headers, r'.Vary, r'.Tags, r'.TTL, 403, r'.Steps, r'.Pass, r'.Token⟩ : Jf))
  else
  some (none, (⟨r'.Path, r'.Query, r'.Headers, r'.Vary, r'.Tags, r'.TTL, x.n, r'.Steps, r'.Pass, r'.Token⟩ : Jf))
  else
  if decide (s = ([112, 97, 115, 115] : Str)) then
  some (none, (⟨r'.Path, r'.Query, r'.Headers, r'.Vary, r'.Tags, r'.TTL, r'.Deny, r'.Steps, true, r'.Token⟩ : Jf))
  else
  if decide (s = ([116, 111, 107, 101, 110] : Str)) then
  some (none, (⟨r'.Path, r'.Query, r'.Headers, r'.Vary, r'.Tags, r'.TTL, r'.Deny, r'.Steps, r'.Pass, true⟩ : Jf))
  else
  (J7 r' s x).bind fun x35 =>
  some (x35.1, x35.2)
set_option maxHeartbeats 8000000 in
theorem JbA {r' : Jf} {s : Str} {x : Jd} {b0 : Nat} {ap0_0 : Option Addr} {cp0_0 : Nat} {ap0_1 : Option Addr} {cp0_1 : Nat} {ap0_2 : Option Addr} {cp0_2 : Nat} {T0_ : TypeId} {p0_ q0_ : List Value} {K : Hp} {r : Err × Jf}
    (hm : J0 r' s x = some r) (hp0_0 : (0 < r'.Headers.length → Has ap0_0)) (hp0_1 : (0 < r'.Vary.length → Has ap0_1)) (hp0_2 : (0 < r'.Tags.length → Has ap0_2)) (hG0 : GlL eS 1 0 Jm K) (hG1 : GlL eS 1 1 Jr K) (hG2 : GlL eS 1 2 Jn K) (hG3 : GlN 3 K) (hG5 : GlA 5 (Go.Lib.pow10Tab.map fun z => Value.int .u64 z) K) :
    Fn Tryz.prog 70 [.pointer (some ⟨b0, p0_.length + 0, none⟩), str s, .agg #[.int .i64 x.kind, .int .i64 x.n, str x.s, .bool x.isZ]] K [CellsAt b0 T0_ p0_ q0_ [str r'.Path, str r'.Query, .slice ap0_0 r'.Headers.length cp0_0, .slice ap0_1 r'.Vary.length cp0_1, .slice ap0_2 r'.Tags.length cp0_2, .int .i64 r'.TTL, .int .i64 r'.Deny, .int .i64 r'.Steps, .bool r'.Pass, .bool r'.Token], OwnL Jg.enc ap0_0 77 2 cp0_0 r'.Headers, OwnL eS ap0_1 9 1 cp0_1 r'.Vary, OwnL eS ap0_2 9 1 cp0_2 r'.Tags] (fun v K' H' => ∃ ar_0 : Option Addr, ∃ cr_0 : Nat, ∃ ar_1 : Option Addr, ∃ cr_1 : Nat, ∃ ar_2 : Option Addr, ∃ cr_2 : Nat, v = errV 87 r.1 ∧ (0 < r.2.Headers.length → Has ar_0) ∧ (0 < r.2.Vary.length → Has ar_1) ∧ (0 < r.2.Tags.length → Has ar_2) ∧ H' = [CellsAt b0 T0_ p0_ q0_ [str r.2.Path, str r.2.Query, .slice ar_0 r.2.Headers.length cr_0, .slice ar_1 r.2.Vary.length cr_1, .slice ar_2 r.2.Tags.length cr_2, .int .i64 r.2.TTL, .int .i64 r.2.Deny, .int .i64 r.2.Steps, .bool r.2.Pass, .bool r.2.Token], OwnL Jg.enc ar_0 77 2 cr_0 r.2.Headers, OwnL eS ar_1 9 1 cr_1 r.2.Vary, OwnL eS ar_2 9 1 cr_2 r.2.Tags]) := by
 refine Fn.enter Tryz.func70 Tryz.call70 rfl fun F => ?_
 unfold J0 at hm
 refine box_rule ?_
 intro b5
 obtain ⟨s901, hl901, hm⟩ := bnd hm
 refine code_cut (σ := (Int)) [7, 8, 9, 10, 11, 12, 13, 14, 15, 16, 17, 18, 19, 20, 21, 22, 23, 24, 25] (fun t901 => [(7, .int .i64 t901)]) (fun t901 => [Cells b5 95 [.int .i64 x.kind, .int .i64 x.n, str x.s, .bool x.isZ], CellsAt b0 T0_ p0_ q0_ [str r'.Path, str r'.Query, .slice ap0_0 r'.Headers.length cp0_0, .slice ap0_1 r'.Vary.length cp0_1, .slice ap0_2 r'.Tags.length cp0_2, .int .i64 r'.TTL, .int .i64 r'.Deny, .int .i64 r'.Steps, .bool r'.Pass, .bool r'.Token], OwnL Jg.enc ap0_0 77 2 cp0_0 r'.Headers, OwnL eS ap0_1 9 1 cp0_1 r'.Vary, OwnL eS ap0_2 9 1 cp0_2 r'.Tags, F]) (fun zz K1 => match zz with | t901 => t901 = s901) ?_ ?_
 refine block_go rfl ?_
 obtain ⟨s902, hl902, hl901⟩ := bnd hl901
 refine code_cut (σ := Bool) [8, 9, 10, 11, 12, 13, 14, 15, 16, 17, 18] (fun t902 => [(8, .bool t902)]) (fun _ => [Cells b5 95 [.int .i64 x.kind, .int .i64 x.n, str x.s, .bool x.isZ], CellsAt b0 T0_ p0_ q0_ [str r'.Path, str r'.Query, .slice ap0_0 r'.Headers.length cp0_0, .slice ap0_1 r'.Vary.length cp0_1, .slice ap0_2 r'.Tags.length cp0_2, .int .i64 r'.TTL, .int .i64 r'.Deny, .int .i64 r'.Steps, .bool r'.Pass, .bool r'.Token], OwnL Jg.enc ap0_0 77 2 cp0_0 r'.Headers, OwnL eS ap0_1 9 1 cp0_1 r'.Vary, OwnL eS ap0_2 9 1 cp0_2 r'.Tags, F]) (fun t902 K1 => t902 = s902) ?_ ?_
 replace hl902 := bsm hl902
 refine guard_go rfl ?_
 refine eq_str ?_
 refine cond_s (fun g11_2 => ?_) (fun g11_2 => ?_)
 refine cond_t g11_2 (cond_t g11_2 ?_)
 obtain ⟨x18, e18, hl902⟩ := bnd hl902
 replace e18 := ift (or_t g11_2) e18
 refine cond_T (cond_T (cond_T ?_))
 refine MeetStep.mk (x18) ⟨(by rw [← ((si e18).symm).symm] <;> rfl), trivial⟩ (by repeat (first | exact trivial | refine And.intro rfl ?_)) (ConvH.of (.cons r0 (.cons r0 (.cons r0 (.cons r0 (.cons r0 (.cons r0 .nil))))))) (Hp.Le.refl _) (si hl902)
 refine cond_f g11_2 (eq_str (cond_f g11_2 ?_))
 obtain ⟨x18, e18, hl902⟩ := bnd hl902
 refine cond_s (fun g15_2 => ?_) (fun g15_2 => ?_)
 replace e18 := ift (or_u g11_2 g15_2) e18
 refine cond_t g15_2 (cond_t g15_2 ?_)
 refine MeetStep.mk (x18) ⟨(by rw [← ((si e18).symm).symm] <;> rfl), trivial⟩ (by repeat (first | exact trivial | refine And.intro rfl ?_)) (ConvH.of (.cons r0 (.cons r0 (.cons r0 (.cons r0 (.cons r0 (.cons r0 .nil))))))) (Hp.Le.refl _) (si hl902)
 replace e18 := iff_ (or_f g11_2 g15_2) e18
 refine cond_f g15_2 ?_
 obtain ⟨x17, q17, e18⟩ := bnd e18
 refine call_fn (Jaq (s := s) (prefixZ := ([118, 97, 114, 121, 58] : Str)) q17) .nil ?_
 rintro _ K17 _ l17 ⟨rfl, rfl⟩
 refine cond_f g15_2 ?_
 refine MeetStep.mk (x18) ⟨(by rw [← (si e18)] <;> rfl), trivial⟩ (by repeat (first | exact trivial | refine And.intro rfl ?_)) (ConvH.of (.cons r0 (.cons r0 (.cons r0 (.cons r0 (.cons r0 (.cons r0 .nil))))))) l17 (si hl902)
 rintro t902 Kt902 lt902 rfl j902
 refine cs rfl rfl hl901 (fun w8 hl901 => ?_) fun w8 hl901 => ?_
 refine MeetStep.mk (0) ⟨rfl, trivial⟩ (by repeat (first | exact trivial | refine And.intro rfl ?_)) (ConvH.of (.cons r0 (.cons r0 (.cons r0 (.cons r0 (.cons r0 (.cons r0 .nil))))))) lt902 (si hl901)
 refine guard_go rfl ?_
 refine eq_str ?_
 refine cond_s (fun g22_4 => ?_) (fun g22_4 => ?_)
 refine cond_t g22_4 (cond_t g22_4 (cond_go rfl (cond_T ?_)))
 replace hl901 := ift (or_t g22_4) hl901
 refine MeetStep.mk (2) ⟨rfl, trivial⟩ (by repeat (first | exact trivial | refine And.intro rfl ?_)) (ConvH.of (.cons r0 (.cons r0 (.cons r0 (.cons r0 (.cons r0 (.cons r0 .nil))))))) lt902 (si hl901)
 refine cond_f g22_4 (eq_str (cond_f g22_4 (cond_go rfl ?_)))
 refine cond_s (fun w19 => ?_) (fun w19 => ?_)
 replace hl901 := ift (or_u g22_4 w19) hl901
 refine MeetStep.mk (2) ⟨rfl, trivial⟩ (by repeat (first | exact trivial | refine And.intro rfl ?_)) (ConvH.of (.cons r0 (.cons r0 (.cons r0 (.cons r0 (.cons r0 (.cons r0 .nil))))))) lt902 (si hl901)
 replace hl901 := iff_ (or_f g22_4 w19) hl901
 refine MeetStep.mk (1) ⟨rfl, trivial⟩ (by repeat (first | exact trivial | refine And.intro rfl ?_)) (ConvH.of (.cons r0 (.cons r0 (.cons r0 (.cons r0 (.cons r0 (.cons r0 .nil))))))) lt902 (si hl901)
 rintro t901 Kt901 lt901 rfl j901
 refine Ja rfl (RStep.of (load1_s r0 rfl rfl (neq_int ?_)))
 refine cs rfl rfl hm (fun w29 hm => ?_) fun w29 hm => ?_
 refine mk_iface rfl ?_
 obtain rfl := si hm
 refine EndStep.mk _ lt901 ⟨ap0_0, cp0_0, ap0_1, cp0_1, ap0_2, cp0_2, rfl, hp0_0, hp0_1, hp0_2, rfl⟩ (ConvH.of (.cons r1 (.cons r1 (.cons r1 (.cons r1 (.cons r1 .nil))))))
 refine block_go rfl ?_
 refine eq_str ?_
 refine cs rfl rfl hm (fun w36 hm => ?_) fun w36 hm => ?_
 refine Ja rfl (RStep.of (load1_s r0 rfl rfl (nil_check ?_)))
 refine fa_sub (j' := 0) rfl rfl ?_
 refine st_sub r1 rfl ?_
 refine ⟨rfl, rfl, (Nat.le_of_ble_eq_true rfl), ?_⟩
 obtain rfl := si hm
 refine EndStep.mk _ lt901 ⟨ap0_0, cp0_0, ap0_1, cp0_1, ap0_2, cp0_2, rfl, hp0_0, hp0_1, hp0_2, rfl⟩ (ConvH.of (.cons r0 (.cons r1 (.cons r1 (.cons r1 (.cons r1 .nil))))))
 refine eq_str ?_
 refine cs rfl rfl hm (fun w43 hm => ?_) fun w43 hm => ?_
 refine Ja rfl (RStep.of (load1_s r0 rfl rfl (nil_check ?_)))
 refine fa_sub (j' := 1) rfl rfl ?_
 refine st_sub r1 rfl ?_
 refine ⟨rfl, rfl, (Nat.le_of_ble_eq_true rfl), ?_⟩
 obtain rfl := si hm
 refine EndStep.mk _ lt901 ⟨ap0_0, cp0_0, ap0_1, cp0_1, ap0_2, cp0_2, rfl, hp0_0, hp0_1, hp0_2, rfl⟩ (ConvH.of (.cons r0 (.cons r1 (.cons r1 (.cons r1 (.cons r1 .nil))))))
 refine eq_str ?_
 refine cs rfl rfl hm (fun w50 hm => ?_) fun w50 hm => ?_
 refine draw_go ⟨⟨[], false⟩, _, [(_, _), (_, _)], []⟩ (by kernel_rfl) ⟨Hp.Le.refl _, (ConvH.of (.cons r1 (.cons r0 .nil))), ci0⟩ ?_
 refine nil_check ?_
 refine fa_sub (j' := 4) rfl rfl ?_
 refine load1_l m0 rfl (at_get rfl) (Ja rfl (load1_l m1 rfl rfl ?_))
 obtain ⟨x58, q58, hm⟩ := bnd hm
 refine call_fn (Fn.lend Tryz.call113 (fun K58_0 l58_0 f58_0 => (JN (v' := x.s) q58 f58_0 rfl)) (by exact fun _ _ _ _ h => h)) (.cons r4 .nil) ?_
 rintro _ K58 _ l58 ⟨_, rfl, rfl, rfl⟩
 refine ⟨⟨l58, (ConvH.of (.cons r2 (.cons r1 .nil))), ci0⟩, ?_⟩
 refine un_not (cond_go rfl ?_)
 refine cond_s (fun w59 => ?_) (fun w59 => ?_)
 replace hm := ift (not_t (ni_t w59)) hm
 refine draw_go_tail ⟨⟨[], false⟩, _, [(_, _), (_, _)], []⟩ 9 rfl (by kernel_rfl) ⟨Hp.Le.refl _, (ConvH.of (.cons r2 (.cons r1 .nil))), ci0⟩ ?_
 refine nil_check ?_
 refine fa_sub (j' := 4) rfl rfl ?_
 refine load1_l m0 rfl (at_get rfl) (Ja rfl (load1_l m1 rfl rfl ?_))
 refine bsO (len := 1) (enc := eS) (l := [x.s]) (cl := [str x.s]) elT31 rfl rfl (fun _ _ => rfl) rfl rfl rfl ?_ fun b67 => ?_
 · conv => whnf
   refine cond_T ?_
   first | done | rfl
 refine ⟨⟨(Hp.Le.refl _), (ConvH.of (.cons r3 (.cons r2 .nil))), ci0⟩, ?_⟩
 obtain ⟨h68, hm⟩ := chkb hm
 refine apE rfl r1 elT31 (src_own' rfl r0 rfl (fun _ => rfl) (fun _ => rfl)) h68 ?_
 intro a68 c68 o68
 refine ⟨⟨(Hp.Le.refl _), (ConvH.of (.cons r3 (.cons r2 .nil))), ci0⟩, ?_⟩
 refine nil_check ?_
 refine fa_sub (j' := 4) rfl rfl ?_
 refine st_sub r3 rfl ?_
 refine ⟨rfl, rfl, (Nat.le_of_ble_eq_true rfl), ?_⟩
 refine ⟨⟨Hp.emp_le _, (ConvH.of .nil), ci0⟩, ?_⟩
 obtain rfl := si hm
 refine EndStep.mk _ (lt901.trans l58) ⟨ap0_0, cp0_0, ap0_1, cp0_1, a68, c68, rfl, hp0_0, hp0_1, o68, rfl⟩ (ConvH.of (.cons r0 (.cons r3 (.cons r3 (.cons r0 (.cons r2 .nil))))))
 replace hm := iff_ (not_f (ni_f w59)) hm
 obtain rfl := si hm
 refine EndStep.mk _ (lt901.trans l58) ⟨ap0_0, cp0_0, ap0_1, cp0_1, ap0_2, cp0_2, rfl, hp0_0, hp0_1, hp0_2, rfl⟩ (ConvH.of (.cons r2 (.cons r2 (.cons r2 (.cons r0 (.cons r1 .nil))))))
 refine eq_str ?_
 refine cs rfl rfl hm (fun w71 hm => ?_) fun w71 hm => ?_
 refine Ja rfl (RStep.of (load1_s r0 rfl rfl (RStep.of (max_int (nil_check ?_)))))
 refine fa_sub (j' := 5) rfl rfl ?_
 refine st_sub r1 rfl ?_
 refine ⟨rfl, rfl, (Nat.le_of_ble_eq_true rfl), ?_⟩
 obtain rfl := si hm
 refine EndStep.mk _ lt901 ⟨ap0_0, cp0_0, ap0_1, cp0_1, ap0_2, cp0_2, rfl, hp0_0, hp0_1, hp0_2, rfl⟩ (ConvH.of (.cons r0 (.cons r1 (.cons r1 (.cons r1 (.cons r1 .nil))))))
 refine eq_str ?_
 refine cs rfl rfl hm (fun w79 hm => ?_) fun w79 hm => ?_
 refine Ja rfl (RStep.of (load1_s r0 rfl rfl (nil_check ?_)))
 refine fa_sub (j' := 6) rfl rfl ?_
 refine st_sub r1 rfl ?_
 refine ⟨rfl, rfl, (Nat.le_of_ble_eq_true rfl), ?_⟩
 refine guard_go rfl ?_
 refine Ja rfl (RStep.of (load1_s r1 rfl rfl ?_))
 refine cond_s (fun g89_21 => ?_) (fun g89_21 => ?_)
 refine cond_t g89_21 (cond_t g89_21 (cond_t g89_21 (cond_go rfl (cond_T ?_))))
 replace hm := ift (or_t g89_21) hm
 refine nil_check ?_
 refine fa_sub (j' := 6) rfl rfl ?_
 refine st_sub r0 rfl ?_
 refine ⟨rfl, rfl, (Nat.le_of_ble_eq_true rfl), ?_⟩
 obtain rfl := si hm
 refine EndStep.mk _ lt901 ⟨ap0_0, cp0_0, ap0_1, cp0_1, ap0_2, cp0_2, rfl, hp0_0, hp0_1, hp0_2, rfl⟩ (ConvH.of (.cons r0 (.cons r1 (.cons r1 (.cons r1 (.cons r1 .nil))))))
 refine Ja rfl (cond_f g89_21 (RStep.of (load1_s r1 rfl rfl (cond_f g89_21 (cond_f g89_21 (cond_go rfl ?_))))))
 refine cond_s (fun w93 => ?_) (fun w93 => ?_)
 replace hm := ift (or_u g89_21 w93) hm
 refine nil_check ?_
 refine fa_sub (j' := 6) rfl rfl ?_
 refine st_sub r0 rfl ?_
 refine ⟨rfl, rfl, (Nat.le_of_ble_eq_true rfl), ?_⟩
 obtain rfl := si hm
 refine EndStep.mk _ lt901 ⟨ap0_0, cp0_0, ap0_1, cp0_1, ap0_2, cp0_2, rfl, hp0_0, hp0_1, hp0_2, rfl⟩ (ConvH.of (.cons r0 (.cons r1 (.cons r1 (.cons r1 (.cons r1 .nil))))))
 replace hm := iff_ (or_f g89_21 w93) hm
 obtain rfl := si hm
 refine EndStep.mk _ lt901 ⟨ap0_0, cp0_0, ap0_1, cp0_1, ap0_2, cp0_2, rfl, hp0_0, hp0_1, hp0_2, rfl⟩ (ConvH.of (.cons r0 (.cons r1 (.cons r1 (.cons r1 (.cons r1 .nil))))))
 refine eq_str ?_
 refine cs rfl rfl hm (fun w97 hm => ?_) fun w97 hm => ?_
 refine nil_check ?_
 refine fa_sub (j' := 8) rfl rfl ?_
 refine st_sub r1 rfl ?_
 refine ⟨rfl, rfl, (Nat.le_of_ble_eq_true rfl), ?_⟩
 obtain rfl := si hm
 refine EndStep.mk _ lt901 ⟨ap0_0, cp0_0, ap0_1, cp0_1, ap0_2, cp0_2, rfl, hp0_0, hp0_1, hp0_2, rfl⟩ (ConvH.of (.cons r0 (.cons r1 (.cons r1 (.cons r1 (.cons r1 .nil))))))
 refine eq_str ?_
 refine cs rfl rfl hm (fun w102 hm => ?_) fun w102 hm => ?_
 refine nil_check ?_
 refine fa_sub (j' := 9) rfl rfl ?_
 refine st_sub r1 rfl ?_
 refine ⟨rfl, rfl, (Nat.le_of_ble_eq_true rfl), ?_⟩
 obtain rfl := si hm
 refine EndStep.mk _ lt901 ⟨ap0_0, cp0_0, ap0_1, cp0_1, ap0_2, cp0_2, rfl, hp0_0, hp0_1, hp0_2, rfl⟩ (ConvH.of (.cons r0 (.cons r1 (.cons r1 (.cons r1 (.cons r1 .nil))))))
 refine RStep.of (loadn_s r0 rfl (Nat.le_of_ble_eq_true rfl) ?_)
 obtain ⟨x35, q35, hm⟩ := bnd hm
 refine call_fn (Jbq (r' := r') (s := s) (x := x) q35 hp0_0 hp0_1 hp0_2 (hG0.mono lt901) (hG1.mono lt901) (hG2.mono lt901) (hG3.mono lt901) (hG5.mono lt901)) (.cons r1 (.cons r1 (.cons r1 (.cons r1 .nil)))) ?_
 rintro _ K35 _ l35 ⟨a35_0, c35_0, a35_1, c35_1, a35_2, c35_2, rfl, h35_0, h35_1, h35_2, rfl⟩
 obtain rfl := si hm
 refine EndStep.mk _ (lt901.trans l35) ⟨a35_0, c35_0, a35_1, c35_1, a35_2, c35_2, rfl, h35_0, h35_1, h35_2, rfl⟩ (ConvH.of (.cons r0 (.cons r0 (.cons r0 (.cons r0 (.cons r1 .nil))))))

noncomputable def Jai (m : Jb) (atZ : Int) (x : Je) : Option (Int × Err × Jb) :=
  (chk (InI (m.result.Steps + 1))).bind fun _ =>
  if decide ((m.result.Steps + 1) > m.most) then
  some (0, (some 13), (⟨m.inZ, m.most, (⟨m.result.Path, m.result.Query, m.result.Headers, m.result.Vary, m.result.Tags, m.result.TTL, m.result.Deny, (m.result.Steps + 1), m.result.Pass, m.result.Token⟩ : Jf), m.stack, m.slots⟩ : Jb))
  else
  (chk (InI (atZ + 1))).bind fun _ =>
  if decide (x.Op = 1) then
  (Jas x.N).bind fun x48 =>
  (Jp (⟨m.inZ, m.most, (⟨m.result.Path, m.result.Query, m.result.Headers, m.result.Vary, m.result.Tags, m.result.TTL, m.result.Deny, (m.result.Steps + 1), m.result.Pass, m.result.Token⟩ : Jf), m.stack, m.slots⟩ : Jb) x48 false).bind fun x49 =>
  some ((atZ + 1), x49.1, (⟨m.inZ, x49.2.most, x49.2.result, x49.2.stack, x49.2.slots⟩ : Jb))
  else
  if decide (x.Op = 2) then
  (JO x.S).bind fun x56 =>
  (Jp (⟨m.inZ, m.most, (⟨m.result.Path, m.result.Query, m.result.Headers, m.result.Vary, m.result.Tags, m.result.TTL, m.result.Deny, (m.result.Steps + 1), m.result.Pass, m.result.Token⟩ : Jf), m.stack, m.slots⟩ : Jb) x56 false).bind fun x57 =>
  some ((atZ + 1), x57.1, (⟨m.inZ, x57.2.most, x57.2.result, x57.2.stack, x57.2.slots⟩ : Jb))
  else
  if decide (x.Op = 3) then
  (ix m.slots x.N).bind fun x67 =>
  (Jp (⟨m.inZ, m.most, (⟨m.result.Path, m.result.Query, m.result.Headers, m.result.Vary, m.result.Tags, m.result.TTL, m.result.Deny, (m.result.Steps + 1), m.result.Pass, m.result.Token⟩ : Jf), m.stack, m.slots⟩ : Jb) x67 false).bind fun x69 =>
  some ((atZ + 1), x69.1, (⟨m.inZ, x69.2.most, x69.2.result, x69.2.stack, x69.2.slots⟩ : Jb))
  else
  if decide (x.Op = 5) then
  (JR x.S m.inZ).bind fun x80 =>
  (Jp (⟨m.inZ, m.most, (⟨m.result.Path, m.result.Query, m.result.Headers, m.result.Vary, m.result.Tags, m.result.TTL, m.result.Deny, (m.result.Steps + 1), m.result.Pass, m.result.Token⟩ : Jf), m.stack, m.slots⟩ : Jb) x80 false).bind fun x81 =>
  some ((atZ + 1), x81.1, (⟨m.inZ, x81.2.most, x81.2.result, x81.2.stack, x81.2.slots⟩ : Jb))
  else
  if decide (x.Op = 4) then
  (Jq (⟨m.inZ, m.most, (⟨m.result.Path, m.result.Query, m.result.Headers, m.result.Vary, m.result.Tags, m.result.TTL, m.result.Deny, (m.result.Steps + 1), m.result.Pass, m.result.Token⟩ : Jf), m.stack, m.slots⟩ : Jb)).bind fun x88 =>
  (ix x88.2.slots x.N).bind fun x91 =>
  some ((atZ + 1), none, (⟨m.inZ, x88.2.most, x88.2.result, x88.2.stack, (x88.2.slots.set ((x.N).toNat) x88.1)⟩ : Jb))
  else
  if decide (x.Op = 6) then
  (Jq (⟨m.inZ, m.most, (⟨m.result.Path, m.result.Query, m.result.Headers, m.result.Vary, m.result.Tags, m.result.TTL, m.result.Deny, (m.result.Steps + 1), m.result.Pass, m.result.Token⟩ : Jf), m.stack, m.slots⟩ : Jb)).bind fun x98 =>
  (JK x.S x98.1 m.inZ).bind fun x103 =>
  if (!x103.2) then
  some (0, (some 9), (⟨m.inZ, x98.2.most, x98.2.result, x98.2.stack, x98.2.slots⟩ : Jb))
  else
  (Jp (⟨m.inZ, x98.2.most, x98.2.result, x98.2.stack, x98.2.slots⟩ : Jb) x103.1 true).bind fun x112 =>
  some ((atZ + 1), x112.1, (⟨m.inZ, x112.2.most, x112.2.result, x112.2.stack, x112.2.slots⟩ : Jb))
  else
  if decide (x.Op = 7) then
  (Jq (⟨m.inZ, m.most, (⟨m.result.Path, m.result.Query, m.result.Headers, m.result.Vary, m.result.Tags, m.result.TTL, m.result.Deny, (m.result.Steps + 1), m.result.Pass, m.result.Token⟩ : Jf), m.stack, m.slots⟩ : Jb)).bind fun x116 =>
  (Jq (⟨m.inZ, x116.2.most, x116.2.result, x116.2.stack, x116.2.slots⟩ : Jb)).bind fun x121 =>
  (Jo x.S x121.1 x116.1).bind fun x123 =>
  if (!x123.2) then
  some (0, (some 9), (⟨m.inZ, x121.2.most, x121.2.result, x121.2.stack, x121.2.slots⟩ : Jb))
  else
  (Jp (⟨m.inZ, x121.2.most, x121.2.result, x121.2.stack, x121.2.slots⟩ : Jb) x123.1 true).bind fun x132 =>
  some ((atZ + 1), x132.1, (⟨m.inZ, x132.2.most, x132.2.result, x132.2.stack, x132.2.slots⟩ : Jb))
  else
  if decide (x.Op = 8) then
  (Jq (⟨m.inZ, m.most, (⟨m.result.Path, m.result.Query, m.result.Headers, m.result.Vary, m.result.Tags, m.result.TTL, m.result.Deny, (m.result.Steps + 1), m.result.Pass, m.result.Token⟩ : Jf), m.stack, m.slots⟩ : Jb)).bind fun x136 =>
  if decide (x136.1.kind ≠ 3) then
  some (0, (some 9), (⟨m.inZ, x136.2.most, x136.2.result, x136.2.stack, x136.2.slots⟩ : Jb))
  else
  (JY (!x136.1.isZ)).bind fun x146 =>
  (Jp (⟨m.inZ, x136.2.most, x136.2.result, x136.2.stack, x136.2.slots⟩ : Jb) x146 false).bind fun x147 =>
  some ((atZ + 1), x147.1, (⟨m.inZ, x147.2.most, x147.2.result, x147.2.stack, x147.2.slots⟩ : Jb))
  else
  if decide (x.Op = 9) then
  some (x.N, none, (⟨m.inZ, m.most, (⟨m.result.Path, m.result.Query, m.result.Headers, m.result.Vary, m.result.Tags, m.result.TTL, m.result.Deny, (m.result.Steps + 1), m.result.Pass, m.result.Token⟩ : Jf), m.stack, m.slots⟩ : Jb))
  else
  if decide (x.Op = 10) then
  (Jq (⟨m.inZ, m.most, (⟨m.result.Path, m.result.Query, m.result.Headers, m.result.Vary, m.result.Tags, m.result.TTL, m.result.Deny, (m.result.Steps + 1), m.result.Pass, m.result.Token⟩ : Jf), m.stack, m.slots⟩ : Jb)).bind fun x155 =>
  if decide (x155.1.kind ≠ 3) then
  some (0, (some 9), (⟨m.inZ, x155.2.most, x155.2.result, x155.2.stack, x155.2.slots⟩ : Jb))
  else
  if (!x155.1.isZ) then
  some (x.N, none, (⟨m.inZ, x155.2.most, x155.2.result, x155.2.stack, x155.2.slots⟩ : Jb))
  else
  some ((atZ + 1), none, (⟨m.inZ, x155.2.most, x155.2.result, x155.2.stack, x155.2.slots⟩ : Jb))
  else
  if decide (x.Op = 11) then
  (if (decide (x.S ≠ ([112, 97, 115, 115] : Str)) && decide (x.S ≠ ([116, 111, 107, 101, 110] : Str))) then (Jy x.S ([118, 97, 114, 121, 58] : Str)).bind fun x179 =>
  some (!x179) else some false).bind fun t918 =>
  ((if t918 then
  (Jq (⟨m.inZ, m.most, (⟨m.result.Path, m.result.Query, m.result.Headers, m.result.Vary, m.result.Tags, m.result.TTL, m.result.Deny, (m.result.Steps + 1), m.result.Pass, m.result.Token⟩ : Jf), m.stack, m.slots⟩ : Jb)).bind fun x183 =>
  some (x183.1.kind, x183.1.n, x183.1.s, x183.1.isZ, (⟨m.inZ, x183.2.most, x183.2.result, x183.2.stack, x183.2.slots⟩ : Jb))
  else
  some (0, 0, ([] : Str), false, (⟨m.inZ, m.most, (⟨m.result.Path, m.result.Query, m.result.Headers, m.result.Vary, m.result.Tags, m.result.TTL, m.result.Deny, (m.result.Steps + 1), m.result.Pass, m.result.Token⟩ : Jf), m.stack, m.slots⟩ : Jb)) : Option (Int × Int × Str × Bool × Jb))).bind fun t919 =>
  (J0 t919.2.2.2.2.result x.S (⟨t919.1, t919.2.1, t919.2.2.1, t919.2.2.2.1⟩ : Jd)).bind fun x190 =>
  if x190.1.isSome then
  some (0, x190.1, (⟨m.inZ, t919.2.2.2.2.most, x190.2, t919.2.2.2.2.stack, t919.2.2.2.2.slots⟩ : Jb))
  else
  if decide (x.S = ([100, 101, 110, 121] : Str)) then
  some ((-1), none, (⟨m.inZ, t919.2.2.2.2.most, x190.2, t919.2.2.2.2.stack, t919.2.2.2.2.slots⟩ : Jb))
  else
  some ((atZ + 1), none, (⟨m.inZ, t919.2.2.2.2.most, x190.2, t919.2.2.2.2.stack, t919.2.2.2.2.slots⟩ : Jb))
  else
  if decide (x.Op = 12) then
  some ((-1), none, (⟨m.inZ, m.most, (⟨m.result.Path, m.result.Query, m.result.Headers, m.result.Vary, m.result.Tags, m.result.TTL, m.result.Deny, (m.result.Steps + 1), m.result.Pass, m.result.Token⟩ : Jf), m.stack, m.slots⟩ : Jb))
  else
  some ((atZ + 1), none, (⟨m.inZ, m.most, (⟨m.result.Path, m.result.Query, m.result.Headers, m.result.Vary, m.result.Tags, m.result.TTL, m.result.Deny, (m.result.Steps + 1), m.result.Pass, m.result.Token⟩ : Jf), m.stack, m.slots⟩ : Jb))
set_option maxHeartbeats 8000000 in
theorem JbB {m : Jb} {atZ : Int} {x : Je} {b0 : Nat} {ap0_0 : Option Addr} {cp0_0 : Nat} {ap0_1 : Option Addr} {cp0_1 : Nat} {ap0_2 : Option Addr} {cp0_2 : Nat} {ap0_3 : Option Addr} {cp0_3 : Nat} {ap0_4 : Option Addr} {cp0_4 : Nat} {K : Hp} {r : Int × Err × Jb}
    (hm : Jai m atZ x = some r) (hp0_0 : RdC Jg.enc K ap0_0 cp0_0 2 m.inZ.Fields) (hp0_1 : (0 < m.result.Headers.length → Has ap0_1)) (hp0_2 : (0 < m.result.Vary.length → Has ap0_2)) (hp0_3 : (0 < m.result.Tags.length → Has ap0_3)) (hp0_4 : (0 < m.stack.length → Has ap0_4)) (zp0_5 : m.slots.length = 512) (hG0 : GlL eS 1 0 Jm K) (hG1 : GlL eS 1 1 Jr K) (hG2 : GlL eS 1 2 Jn K) (hG3 : GlN 3 K) (hG5 : GlA 5 (Go.Lib.pow10Tab.map fun z => Value.int .u64 z) K) :
    Fn Tryz.prog 33 [.pointer (some ⟨b0, 0, none⟩), .int .i64 atZ, .agg #[.int .i64 x.Op, .int .i64 x.N, str x.S]] K [Cells b0 98 ((str m.inZ.Method) :: (str m.inZ.Host) :: (str m.inZ.Path) :: (str m.inZ.Query) :: (.slice ap0_0 m.inZ.Fields.length cp0_0) :: (.int .i64 m.most) :: (str m.result.Path) :: (str m.result.Query) :: (.slice ap0_1 m.result.Headers.length cp0_1) :: (.slice ap0_2 m.result.Vary.length cp0_2) :: (.slice ap0_3 m.result.Tags.length cp0_3) :: (.int .i64 m.result.TTL) :: (.int .i64 m.result.Deny) :: (.int .i64 m.result.Steps) :: (.bool m.result.Pass) :: (.bool m.result.Token) :: (.slice ap0_4 m.stack.length cp0_4) :: (m.slots.map Jd.enc).flatten), OwnL Jg.enc ap0_1 77 2 cp0_1 m.result.Headers, OwnL eS ap0_2 9 1 cp0_2 m.result.Vary, OwnL eS ap0_3 9 1 cp0_3 m.result.Tags, OwnL Jd.enc ap0_4 95 4 cp0_4 m.stack] (fun v K' H' => ∃ ar_0 : Option Addr, ∃ cr_0 : Nat, ∃ ar_1 : Option Addr, ∃ cr_1 : Nat, ∃ ar_2 : Option Addr, ∃ cr_2 : Nat, ∃ ar_3 : Option Addr, ∃ cr_3 : Nat, v = .tuple #[.int .i64 r.1, errV 87 r.2.1] ∧ (0 < r.2.2.result.Headers.length → Has ar_0) ∧ (0 < r.2.2.result.Vary.length → Has ar_1) ∧ (0 < r.2.2.result.Tags.length → Has ar_2) ∧ (0 < r.2.2.stack.length → Has ar_3) ∧ r.2.2.slots.length = 512 ∧ H' = [Cells b0 98 ((str m.inZ.Method) :: (str m.inZ.Host) :: (str m.inZ.Path) :: (str m.inZ.Query) :: (.slice ap0_0 m.inZ.Fields.length cp0_0) :: (.int .i64 r.2.2.most) :: (str r.2.2.result.Path) :: (str r.2.2.result.Query) :: (.slice ar_0 r.2.2.result.Headers.length cr_0) :: (.slice ar_1 r.2.2.result.Vary.length cr_1) :: (.slice ar_2 r.2.2.result.Tags.length cr_2) :: (.int .i64 r.2.2.result.TTL) :: (.int .i64 r.2.2.result.Deny) :: (.int .i64 r.2.2.result.Steps) :: (.bool r.2.2.result.Pass) :: (.bool r.2.2.result.Token) :: (.slice ar_3 r.2.2.stack.length cr_3) :: (r.2.2.slots.map Jd.enc).flatten), OwnL Jg.enc ar_0 77 2 cr_0 r.2.2.result.Headers, OwnL eS ar_1 9 1 cr_1 r.2.2.result.Vary, OwnL eS ar_2 9 1 cr_2 r.2.2.result.Tags, OwnL Jd.enc ar_3 95 4 cr_3 r.2.2.stack]) := by
 refine Fn.enter Tryz.func33 Tryz.call33 rfl fun F => ?_
 unfold Jai at hm
 refine box_rule ?_
 intro b5
 refine nil_check (Ja rfl (Ja rfl (RStep.of (load1_s r1 rfl rfl ?_))))
 obtain ⟨h23, hm⟩ := chkb hm
 refine int_in h23 (nil_check (Ja rfl (Ja rfl ?_)))
 refine st_tl (cs' := (str m.inZ.Method) :: (str m.inZ.Host) :: (str m.inZ.Path) :: (str m.inZ.Query) :: (.slice ap0_0 m.inZ.Fields.length cp0_0) :: (.int .i64 m.most) :: (str m.result.Path) :: (str m.result.Query) :: (.slice ap0_1 m.result.Headers.length cp0_1) :: (.slice ap0_2 m.result.Vary.length cp0_2) :: (.slice ap0_3 m.result.Tags.length cp0_3) :: (.int .i64 m.result.TTL) :: (.int .i64 m.result.Deny) :: (.int .i64 (m.result.Steps + 1)) :: (.bool m.result.Pass) :: (.bool m.result.Token) :: (.slice ap0_4 m.stack.length cp0_4) :: (m.slots.map Jd.enc).flatten) r1 rfl rfl (by exact rfl) (by exact Nat.le_of_ble_eq_true rfl) (by exact rfl) ?_
 refine draw_go ⟨⟨[], false⟩, _, [(_, _)], []⟩ (by kernel_rfl) ⟨Hp.Le.refl _, (ConvH.of (.cons r0 .nil)), ci0⟩ ?_
 refine nil_check (Ja rfl (Ja rfl (load1_l m0 rfl rfl (nil_check (Ja rfl ?_)))))
 refine load1_l m0 rfl rfl ?_
 refine cs rfl rfl hm (fun w36 hm => ?_) fun w36 hm => ?_
 refine mk_iface rfl ?_
 obtain rfl := si hm
 refine EndStep.mk _ (Hp.Le.refl _) ⟨ap0_1, cp0_1, ap0_2, cp0_2, ap0_3, cp0_3, ap0_4, cp0_4, rfl, hp0_1, hp0_2, hp0_3, hp0_4, zp0_5, rfl⟩ (ConvH.of (.cons r0 (.cons r1 (.cons r1 (.cons r1 (.cons r1 (.cons r1 .nil)))))))
 obtain ⟨h39, hm⟩ := chkb hm
 refine int_in h39 (Ja rfl (RStep.of (load1_s r1 rfl rfl ?_)))
 refine block_go rfl ?_
 refine eq_int ?_
 refine cs rfl rfl hm (fun w42 hm => ?_) fun w42 hm => ?_
 refine Ja rfl (RStep.of (load1_s r1 rfl rfl ?_))
 obtain ⟨x48, q48, hm⟩ := bnd hm
 refine call_fn (Jal (n' := x.N) q48) .nil ?_
 rintro _ K48 _ l48 ⟨rfl, rfl⟩
 obtain ⟨x49, q49, hm⟩ := bnd hm
 refine call_fn (JG (m := (⟨m.inZ, m.most, (⟨m.result.Path, m.result.Query, m.result.Headers, m.result.Vary, m.result.Tags, m.result.TTL, m.result.Deny, (m.result.Steps + 1), m.result.Pass, m.result.Token⟩ : Jf), m.stack, m.slots⟩ : Jb)) (x := x48) (operation := false) q49 (hp0_0.mono l48) hp0_1 hp0_2 hp0_3 hp0_4 zp0_5) (.cons r0 (.cons r1 (.cons r1 (.cons r1 (.cons r1 .nil))))) ?_
 rintro _ K49 _ l49 ⟨a49_0, c49_0, a49_1, c49_1, a49_2, c49_2, a49_3, c49_3, rfl, h49_0, h49_1, h49_2, h49_3, z49_4, rfl⟩
 obtain rfl := si hm
 refine EndStep.mk _ (l48.trans l49) ⟨a49_0, c49_0, a49_1, c49_1, a49_2, c49_2, a49_3, c49_3, rfl, h49_0, h49_1, h49_2, h49_3, z49_4, rfl⟩ (ConvH.of (.cons r0 (.cons r0 (.cons r0 (.cons r0 (.cons r0 (.cons r1 .nil)))))))
 refine eq_int ?_
 refine cs rfl rfl hm (fun w50 hm => ?_) fun w50 hm => ?_
 refine Ja rfl (RStep.of (load1_s r1 rfl rfl ?_))
 obtain ⟨x56, q56, hm⟩ := bnd hm
 refine call_fn (JJ (s := x.S) q56) .nil ?_
 rintro _ K56 _ l56 ⟨rfl, rfl⟩
 obtain ⟨x57, q57, hm⟩ := bnd hm
 refine call_fn (JG (m := (⟨m.inZ, m.most, (⟨m.result.Path, m.result.Query, m.result.Headers, m.result.Vary, m.result.Tags, m.result.TTL, m.result.Deny, (m.result.Steps + 1), m.result.Pass, m.result.Token⟩ : Jf), m.stack, m.slots⟩ : Jb)) (x := x56) (operation := false) q57 (hp0_0.mono l56) hp0_1 hp0_2 hp0_3 hp0_4 zp0_5) (.cons r0 (.cons r1 (.cons r1 (.cons r1 (.cons r1 .nil))))) ?_
 rintro _ K57 _ l57 ⟨a57_0, c57_0, a57_1, c57_1, a57_2, c57_2, a57_3, c57_3, rfl, h57_0, h57_1, h57_2, h57_3, z57_4, rfl⟩
 obtain rfl := si hm
 refine EndStep.mk _ (l56.trans l57) ⟨a57_0, c57_0, a57_1, c57_1, a57_2, c57_2, a57_3, c57_3, rfl, h57_0, h57_1, h57_2, h57_3, z57_4, rfl⟩ (ConvH.of (.cons r0 (.cons r0 (.cons r0 (.cons r0 (.cons r0 (.cons r1 .nil)))))))
 refine eq_int ?_
 refine cs rfl rfl hm (fun w58 hm => ?_) fun w58 hm => ?_
 refine draw_go ⟨⟨[], true⟩, _, [], []⟩ (by kernel_rfl) ⟨Hp.Le.refl _, (ConvH.of .nil), ci0⟩ ?_
 refine Ja rfl ?_
 refine load1_s r1 rfl rfl ?_
 refine nil_check (Ja rfl ?_)
 obtain ⟨x67, l67, k67, hm⟩ := ixb hm
 refine arr_addrV (sz := 4) rfl rfl l67 (ba_lt zp0_5 l67 k67) ?_
 refine ld_ba (enc := Jd.enc) (sz := 4) r0 rfl (by exact rfl) k67 (by exact rfl) ?_
 obtain ⟨x69, q69, hm⟩ := bnd hm
 refine call_fn (JG (m := (⟨m.inZ, m.most, (⟨m.result.Path, m.result.Query, m.result.Headers, m.result.Vary, m.result.Tags, m.result.TTL, m.result.Deny, (m.result.Steps + 1), m.result.Pass, m.result.Token⟩ : Jf), m.stack, m.slots⟩ : Jb)) (x := x67) (operation := false) q69 hp0_0 hp0_1 hp0_2 hp0_3 hp0_4 zp0_5) (.cons r0 (.cons r1 (.cons r1 (.cons r1 (.cons r1 .nil))))) ?_
 rintro _ K69 _ l69 ⟨a69_0, c69_0, a69_1, c69_1, a69_2, c69_2, a69_3, c69_3, rfl, h69_0, h69_1, h69_2, h69_3, z69_4, rfl⟩
 refine ⟨⟨l69, (ConvH.of .nil), ci0⟩, ?_⟩
 obtain rfl := si hm
 refine EndStep.mk _ l69 ⟨a69_0, c69_0, a69_1, c69_1, a69_2, c69_2, a69_3, c69_3, rfl, h69_0, h69_1, h69_2, h69_3, z69_4, rfl⟩ (ConvH.of (.cons r0 (.cons r0 (.cons r0 (.cons r0 (.cons r0 (.cons r1 .nil)))))))
 refine eq_int ?_
 refine cs rfl rfl hm (fun w70 hm => ?_) fun w70 hm => ?_
 refine draw_go ⟨⟨[], false⟩, _, [(_, _)], [(b0, [str m.inZ.Method, str m.inZ.Host, str m.inZ.Path, str m.inZ.Query, .slice ap0_0 m.inZ.Fields.length cp0_0])]⟩ (by kernel_rfl) ⟨Hp.Le.refl _, (ConvH.of (.cons r1 .nil)), (ci1 r0 (by exact rfl))⟩ ?_
 refine Ja rfl (load1_l m0 rfl rfl (nil_check (Ja rfl ?_)))
 refine loadn_c m0 rfl (Nat.le_of_ble_eq_true rfl) ?_
 obtain ⟨x80, q80, hm⟩ := bnd hm
 refine call_fn (JbE (name := x.S) (inZ := m.inZ) q80 hp0_0) .nil ?_
 rintro _ K80 _ l80 ⟨rfl, rfl⟩
 refine ⟨⟨l80, (ConvH.of (.cons r1 .nil)), (ci1 r0 (by exact rfl))⟩, ?_⟩
 obtain ⟨x81, q81, hm⟩ := bnd hm
 refine call_fn (JG (m := (⟨m.inZ, m.most, (⟨m.result.Path, m.result.Query, m.result.Headers, m.result.Vary, m.result.Tags, m.result.TTL, m.result.Deny, (m.result.Steps + 1), m.result.Pass, m.result.Token⟩ : Jf), m.stack, m.slots⟩ : Jb)) (x := x80) (operation := false) q81 (hp0_0.mono l80) hp0_1 hp0_2 hp0_3 hp0_4 zp0_5) (.cons r0 (.cons r1 (.cons r1 (.cons r1 (.cons r1 .nil))))) ?_
 rintro _ K81 _ l81 ⟨a81_0, c81_0, a81_1, c81_1, a81_2, c81_2, a81_3, c81_3, rfl, h81_0, h81_1, h81_2, h81_3, z81_4, rfl⟩
 refine ⟨⟨(l80.trans l81), (ConvH.of (.cons r5 .nil)), (ci1 r0 (by exact rfl))⟩, ?_⟩
 obtain rfl := si hm
 refine EndStep.mk _ (l80.trans l81) ⟨a81_0, c81_0, a81_1, c81_1, a81_2, c81_2, a81_3, c81_3, rfl, h81_0, h81_1, h81_2, h81_3, z81_4, rfl⟩ (ConvH.of (.cons r0 (.cons r0 (.cons r0 (.cons r0 (.cons r0 (.cons r1 .nil)))))))
 refine eq_int ?_
 refine cs rfl rfl hm (fun w82 hm => ?_) fun w82 hm => ?_
 refine draw_go ⟨⟨[], false⟩, _, [(_, _)], []⟩ (by kernel_rfl) ⟨Hp.Le.refl _, (ConvH.of (.cons r1 .nil)), ci0⟩ ?_
 refine Ja rfl (load1_l m0 rfl rfl ?_)
 obtain ⟨x88, q88, hm⟩ := bnd hm
 refine call_fn (JI (m := (⟨m.inZ, m.most, (⟨m.result.Path, m.result.Query, m.result.Headers, m.result.Vary, m.result.Tags, m.result.TTL, m.result.Deny, (m.result.Steps + 1), m.result.Pass, m.result.Token⟩ : Jf), m.stack, m.slots⟩ : Jb)) q88 hp0_0 hp0_1 hp0_2 hp0_3 hp0_4 zp0_5) (.cons r0 (.cons r1 (.cons r1 (.cons r1 (.cons r1 .nil))))) ?_
 rintro _ K88 _ l88 ⟨a88_0, c88_0, a88_1, c88_1, a88_2, c88_2, a88_3, c88_3, rfl, h88_0, h88_1, h88_2, h88_3, z88_4, rfl⟩
 refine ⟨⟨l88, (ConvH.of (.cons r5 .nil)), ci0⟩, ?_⟩
 refine nil_check (Ja rfl ?_)
 obtain ⟨x91, l91, k91, hm⟩ := ixb hm
 refine arr_addrV (sz := 4) rfl rfl l91 (ba_lt z88_4 l91 k91) ?_
 refine st_ba (sz := 4) (enc := Jd.enc) (y := x88.1) (cs' := (str m.inZ.Method) :: (str m.inZ.Host) :: (str m.inZ.Path) :: (str m.inZ.Query) :: (.slice ap0_0 m.inZ.Fields.length cp0_0) :: (.int .i64 x88.2.most) :: (str x88.2.result.Path) :: (str x88.2.result.Query) :: (.slice a88_0 x88.2.result.Headers.length c88_0) :: (.slice a88_1 x88.2.result.Vary.length c88_1) :: (.slice a88_2 x88.2.result.Tags.length c88_2) :: (.int .i64 x88.2.result.TTL) :: (.int .i64 x88.2.result.Deny) :: (.int .i64 x88.2.result.Steps) :: (.bool x88.2.result.Pass) :: (.bool x88.2.result.Token) :: (.slice a88_3 x88.2.stack.length c88_3) :: ((x88.2.slots.set ((x.N).toNat) x88.1).map Jd.enc).flatten) r0 rfl (by exact rfl) k91 rfl (fun _ => rfl) (fun _ => rfl) (by exact rfl) (by decide) ?_
 refine ⟨⟨l88, (ConvH.of (.cons r5 .nil)), ci0⟩, ?_⟩
 obtain rfl := si hm
 refine EndStep.mk _ l88 ⟨a88_0, c88_0, a88_1, c88_1, a88_2, c88_2, a88_3, c88_3, rfl, h88_0, h88_1, h88_2, h88_3, (List.length_set.trans z88_4), rfl⟩ (ConvH.of (.cons r0 (.cons r0 (.cons r0 (.cons r0 (.cons r0 (.cons r1 .nil)))))))
 refine eq_int ?_
 refine cs rfl rfl hm (fun w92 hm => ?_) fun w92 hm => ?_
 refine draw_go_F ⟨⟨[], false⟩, _, [(_, _)], [(b0, [str m.inZ.Method, str m.inZ.Host, str m.inZ.Path, str m.inZ.Query, .slice ap0_0 m.inZ.Fields.length cp0_0])]⟩ 15 rfl (by kernel_rfl) ⟨Hp.Le.refl _, (ConvH.of (.cons r1 .nil)), (ci1 r0 (by exact rfl))⟩ ?_
 refine Ja rfl (load1_l m0 rfl rfl ?_)
 intro GG3
 obtain ⟨x98, q98, hm⟩ := bnd hm
 refine call_fn (JI (m := (⟨m.inZ, m.most, (⟨m.result.Path, m.result.Query, m.result.Headers, m.result.Vary, m.result.Tags, m.result.TTL, m.result.Deny, (m.result.Steps + 1), m.result.Pass, m.result.Token⟩ : Jf), m.stack, m.slots⟩ : Jb)) q98 hp0_0 hp0_1 hp0_2 hp0_3 hp0_4 zp0_5) (.cons r0 (.cons r1 (.cons r1 (.cons r1 (.cons r1 .nil))))) ?_
 rintro _ K98 _ l98 ⟨a98_0, c98_0, a98_1, c98_1, a98_2, c98_2, a98_3, c98_3, rfl, h98_0, h98_1, h98_2, h98_3, z98_4, rfl⟩
 refine ⟨⟨l98, (ConvH.of (.cons r5 .nil)), (ci1 r0 (by exact rfl))⟩, ?_⟩
 refine ⟨_, .cons r7 .nil, ⟨l98, (ConvH.of (.cons r5 .nil)), (ci1 r0 (by exact rfl))⟩, ?_⟩
 refine nil_check (Ja rfl ?_)
 refine loadn_c m0 rfl (Nat.le_of_ble_eq_true rfl) ?_
 intro GG8
 obtain ⟨x103, q103, hm⟩ := bnd hm
 refine call_fn (Jcs (name := x.S) (x := x98.1) (inZ := m.inZ) q103 (hp0_0.mono l98) (hG0.mono l98) (hG1.mono l98) (hG2.mono l98) (hG3.mono l98) (hG5.mono l98)) .nil ?_
 rintro _ K103 _ l103 ⟨rfl, rfl⟩
 refine ⟨⟨(l98.trans l103), (ConvH.of (.cons r5 .nil)), (ci1 r0 (by exact rfl))⟩, ?_⟩
 refine ⟨_, .cons r7 .nil, ⟨(l98.trans l103), (ConvH.of (.cons r5 .nil)), (ci1 r0 (by exact rfl))⟩, ?_⟩
 refine allocA rfl ?_
 intro b9
 intro GG13
 refine store_rule r0 rfl ?_
 refine ⟨rfl, rfl, (Nat.le_of_ble_eq_true rfl), ?_⟩
 refine ⟨⟨(l98.trans l103), (ConvH.of (.cons r6 .nil)), (ci1 r1 (by exact rfl))⟩, ?_⟩
 refine ⟨_, .cons r8 .nil, ⟨(l98.trans l103), (ConvH.of (.cons r6 .nil)), (ci1 r1 (by exact rfl))⟩, ?_⟩
 refine un_not (cond_go rfl ?_)
 refine cond_s (fun w107 => ?_) (fun w107 => ?_)
 replace hm := ift (not_t (ni_t w107)) hm
 refine mk_iface rfl ?_
 obtain rfl := si hm
 refine EndStep.mk _ (l98.trans l103) ⟨a98_0, c98_0, a98_1, c98_1, a98_2, c98_2, a98_3, c98_3, rfl, h98_0, h98_1, h98_2, h98_3, z98_4, rfl⟩ (ConvH.of (.cons r1 (.cons r1 (.cons r1 (.cons r1 (.cons r1 (.cons r2 .nil)))))))
 replace hm := iff_ (not_f (ni_f w107)) hm
 refine RStep.of (loadn_s r0 rfl (Nat.le_of_ble_eq_true rfl) ?_)
 obtain ⟨x112, q112, hm⟩ := bnd hm
 refine call_fn (JG (m := (⟨m.inZ, x98.2.most, x98.2.result, x98.2.stack, x98.2.slots⟩ : Jb)) (x := x103.1) (operation := true) q112 (hp0_0.mono (l98.trans l103)) h98_0 h98_1 h98_2 h98_3 z98_4) (.cons r1 (.cons r1 (.cons r1 (.cons r1 (.cons r1 .nil))))) ?_
 rintro _ K112 _ l112 ⟨a112_0, c112_0, a112_1, c112_1, a112_2, c112_2, a112_3, c112_3, rfl, h112_0, h112_1, h112_2, h112_3, z112_4, rfl⟩
 obtain rfl := si hm
 refine EndStep.mk _ ((l98.trans l103).trans l112) ⟨a112_0, c112_0, a112_1, c112_1, a112_2, c112_2, a112_3, c112_3, rfl, h112_0, h112_1, h112_2, h112_3, z112_4, rfl⟩ (ConvH.of (.cons r0 (.cons r0 (.cons r0 (.cons r0 (.cons r0 (.cons r2 .nil)))))))
 refine eq_int ?_
 refine cs rfl rfl hm (fun w113 hm => ?_) fun w113 hm => ?_
 obtain ⟨x116, q116, hm⟩ := bnd hm
 refine call_fn (JI (m := (⟨m.inZ, m.most, (⟨m.result.Path, m.result.Query, m.result.Headers, m.result.Vary, m.result.Tags, m.result.TTL, m.result.Deny, (m.result.Steps + 1), m.result.Pass, m.result.Token⟩ : Jf), m.stack, m.slots⟩ : Jb)) q116 hp0_0 hp0_1 hp0_2 hp0_3 hp0_4 zp0_5) (.cons r0 (.cons r1 (.cons r1 (.cons r1 (.cons r1 .nil))))) ?_
 rintro _ K116 _ l116 ⟨a116_0, c116_0, a116_1, c116_1, a116_2, c116_2, a116_3, c116_3, rfl, h116_0, h116_1, h116_2, h116_3, z116_4, rfl⟩
 refine alloc_rule rfl ?_
 intro b11
 refine store_rule r0 rfl ?_
 refine ⟨rfl, rfl, (Nat.le_of_ble_eq_true rfl), ?_⟩
 refine draw_go_F ⟨⟨[], false⟩, _, [(_, _), (_, _)], []⟩ 12 rfl (by kernel_rfl) ⟨Hp.Le.refl _, (ConvH.of (.cons r6 (.cons r0 .nil))), ci0⟩ ?_
 refine Ja rfl (load1_l m0 rfl rfl ?_)
 intro GG3
 obtain ⟨x121, q121, hm⟩ := bnd hm
 refine call_fn (JI (m := (⟨m.inZ, x116.2.most, x116.2.result, x116.2.stack, x116.2.slots⟩ : Jb)) q121 (hp0_0.mono l116) h116_0 h116_1 h116_2 h116_3 z116_4) (.cons r1 (.cons r1 (.cons r1 (.cons r1 (.cons r1 .nil))))) ?_
 rintro _ K121 _ l121 ⟨a121_0, c121_0, a121_1, c121_1, a121_2, c121_2, a121_3, c121_3, rfl, h121_0, h121_1, h121_2, h121_3, z121_4, rfl⟩
 refine ⟨⟨l121, (ConvH.of (.cons r6 (.cons r5 .nil))), ci0⟩, ?_⟩
 refine ⟨_, .cons r8 .nil, ⟨l121, (ConvH.of (.cons r6 (.cons r5 .nil))), ci0⟩, ?_⟩
 refine loadn_l m1 rfl (Nat.le_of_ble_eq_true rfl) ?_
 intro GG5
 obtain ⟨x123, q123, hm⟩ := bnd hm
 refine call_fn (Jb4 (op := x.S) (a := x121.1) (b := x116.1) q123 (hG0.mono (l116.trans l121)) (hG1.mono (l116.trans l121)) (hG2.mono (l116.trans l121)) (hG3.mono (l116.trans l121)) (hG5.mono (l116.trans l121))) .nil ?_
 rintro _ K123 _ l123 ⟨rfl, rfl⟩
 refine ⟨⟨(l121.trans l123), (ConvH.of (.cons r6 (.cons r5 .nil))), ci0⟩, ?_⟩
 refine ⟨_, .cons r8 .nil, ⟨(l121.trans l123), (ConvH.of (.cons r6 (.cons r5 .nil))), ci0⟩, ?_⟩
 refine allocA rfl ?_
 intro b12
 intro GG10
 refine store_rule r0 rfl ?_
 refine ⟨rfl, rfl, (Nat.le_of_ble_eq_true rfl), ?_⟩
 refine ⟨⟨(l121.trans l123), (ConvH.of (.cons r7 (.cons r6 .nil))), ci0⟩, ?_⟩
 refine ⟨_, .cons r9 .nil, ⟨(l121.trans l123), (ConvH.of (.cons r7 (.cons r6 .nil))), ci0⟩, ?_⟩
 refine un_not (cond_go rfl ?_)
 refine cond_s (fun w127 => ?_) (fun w127 => ?_)
 replace hm := ift (not_t (ni_t w127)) hm
 refine mk_iface rfl ?_
 obtain rfl := si hm
 refine EndStep.mk _ ((l116.trans l121).trans l123) ⟨a121_0, c121_0, a121_1, c121_1, a121_2, c121_2, a121_3, c121_3, rfl, h121_0, h121_1, h121_2, h121_3, z121_4, rfl⟩ (ConvH.of (.cons r1 (.cons r1 (.cons r1 (.cons r1 (.cons r1 (.cons r3 .nil)))))))
 replace hm := iff_ (not_f (ni_f w127)) hm
 refine RStep.of (loadn_s r0 rfl (Nat.le_of_ble_eq_true rfl) ?_)
 obtain ⟨x132, q132, hm⟩ := bnd hm
 refine call_fn (JG (m := (⟨m.inZ, x121.2.most, x121.2.result, x121.2.stack, x121.2.slots⟩ : Jb)) (x := x123.1) (operation := true) q132 (hp0_0.mono ((l116.trans l121).trans l123)) h121_0 h121_1 h121_2 h121_3 z121_4) (.cons r1 (.cons r1 (.cons r1 (.cons r1 (.cons r1 .nil))))) ?_
 rintro _ K132 _ l132 ⟨a132_0, c132_0, a132_1, c132_1, a132_2, c132_2, a132_3, c132_3, rfl, h132_0, h132_1, h132_2, h132_3, z132_4, rfl⟩
 obtain rfl := si hm
 refine EndStep.mk _ (((l116.trans l121).trans l123).trans l132) ⟨a132_0, c132_0, a132_1, c132_1, a132_2, c132_2, a132_3, c132_3, rfl, h132_0, h132_1, h132_2, h132_3, z132_4, rfl⟩ (ConvH.of (.cons r0 (.cons r0 (.cons r0 (.cons r0 (.cons r0 (.cons r3 .nil)))))))
 refine eq_int ?_
 refine cs rfl rfl hm (fun w133 hm => ?_) fun w133 hm => ?_
 obtain ⟨x136, q136, hm⟩ := bnd hm
 refine call_fn (JI (m := (⟨m.inZ, m.most, (⟨m.result.Path, m.result.Query, m.result.Headers, m.result.Vary, m.result.Tags, m.result.TTL, m.result.Deny, (m.result.Steps + 1), m.result.Pass, m.result.Token⟩ : Jf), m.stack, m.slots⟩ : Jb)) q136 hp0_0 hp0_1 hp0_2 hp0_3 hp0_4 zp0_5) (.cons r0 (.cons r1 (.cons r1 (.cons r1 (.cons r1 .nil))))) ?_
 rintro _ K136 _ l136 ⟨a136_0, c136_0, a136_1, c136_1, a136_2, c136_2, a136_3, c136_3, rfl, h136_0, h136_1, h136_2, h136_3, z136_4, rfl⟩
 refine alloc_rule rfl ?_
 intro b14
 refine store_rule r0 rfl ?_
 refine ⟨rfl, rfl, (Nat.le_of_ble_eq_true rfl), ?_⟩
 refine Ja rfl (RStep.of (load1_s r0 rfl rfl (neq_int ?_)))
 refine cs rfl rfl hm (fun w139 hm => ?_) fun w139 hm => ?_
 refine mk_iface rfl ?_
 obtain rfl := si hm
 refine EndStep.mk _ l136 ⟨a136_0, c136_0, a136_1, c136_1, a136_2, c136_2, a136_3, c136_3, rfl, h136_0, h136_1, h136_2, h136_3, z136_4, rfl⟩ (ConvH.of (.cons r1 (.cons r1 (.cons r1 (.cons r1 (.cons r1 (.cons r2 .nil)))))))
 refine Ja rfl (RStep.of (load1_s r0 rfl rfl (un_not ?_)))
 obtain ⟨x146, q146, hm⟩ := bnd hm
 refine call_fn (JS (isZ := (!x136.1.isZ)) q146) .nil ?_
 rintro _ K146 _ l146 ⟨rfl, rfl⟩
 obtain ⟨x147, q147, hm⟩ := bnd hm
 refine call_fn (JG (m := (⟨m.inZ, x136.2.most, x136.2.result, x136.2.stack, x136.2.slots⟩ : Jb)) (x := x146) (operation := false) q147 (hp0_0.mono (l136.trans l146)) h136_0 h136_1 h136_2 h136_3 z136_4) (.cons r1 (.cons r1 (.cons r1 (.cons r1 (.cons r1 .nil))))) ?_
 rintro _ K147 _ l147 ⟨a147_0, c147_0, a147_1, c147_1, a147_2, c147_2, a147_3, c147_3, rfl, h147_0, h147_1, h147_2, h147_3, z147_4, rfl⟩
 obtain rfl := si hm
 refine EndStep.mk _ ((l136.trans l146).trans l147) ⟨a147_0, c147_0, a147_1, c147_1, a147_2, c147_2, a147_3, c147_3, rfl, h147_0, h147_1, h147_2, h147_3, z147_4, rfl⟩ (ConvH.of (.cons r0 (.cons r0 (.cons r0 (.cons r0 (.cons r0 (.cons r2 .nil)))))))
 refine eq_int ?_
 refine cs rfl rfl hm (fun w148 hm => ?_) fun w148 hm => ?_
 refine Ja rfl (RStep.of (load1_s r1 rfl rfl ?_))
 obtain rfl := si hm
 refine EndStep.mk _ (Hp.Le.refl _) ⟨ap0_1, cp0_1, ap0_2, cp0_2, ap0_3, cp0_3, ap0_4, cp0_4, rfl, hp0_1, hp0_2, hp0_3, hp0_4, zp0_5, rfl⟩ (ConvH.of (.cons r0 (.cons r1 (.cons r1 (.cons r1 (.cons r1 (.cons r1 .nil)))))))
 refine eq_int ?_
 refine cs rfl rfl hm (fun w152 hm => ?_) fun w152 hm => ?_
 obtain ⟨x155, q155, hm⟩ := bnd hm
 refine call_fn (JI (m := (⟨m.inZ, m.most, (⟨m.result.Path, m.result.Query, m.result.Headers, m.result.Vary, m.result.Tags, m.result.TTL, m.result.Deny, (m.result.Steps + 1), m.result.Pass, m.result.Token⟩ : Jf), m.stack, m.slots⟩ : Jb)) q155 hp0_0 hp0_1 hp0_2 hp0_3 hp0_4 zp0_5) (.cons r0 (.cons r1 (.cons r1 (.cons r1 (.cons r1 .nil))))) ?_
 rintro _ K155 _ l155 ⟨a155_0, c155_0, a155_1, c155_1, a155_2, c155_2, a155_3, c155_3, rfl, h155_0, h155_1, h155_2, h155_3, z155_4, rfl⟩
 refine alloc_rule rfl ?_
 intro b15
 refine store_rule r0 rfl ?_
 refine ⟨rfl, rfl, (Nat.le_of_ble_eq_true rfl), ?_⟩
 refine Ja rfl (RStep.of (load1_s r0 rfl rfl (neq_int ?_)))
 refine cs rfl rfl hm (fun w158 hm => ?_) fun w158 hm => ?_
 refine mk_iface rfl ?_
 obtain rfl := si hm
 refine EndStep.mk _ l155 ⟨a155_0, c155_0, a155_1, c155_1, a155_2, c155_2, a155_3, c155_3, rfl, h155_0, h155_1, h155_2, h155_3, z155_4, rfl⟩ (ConvH.of (.cons r1 (.cons r1 (.cons r1 (.cons r1 (.cons r1 (.cons r2 .nil)))))))
 refine Ja rfl (RStep.of (load1_s r0 rfl rfl (un_not (cond_go rfl ?_))))
 refine cond_s (fun w162 => ?_) (fun w162 => ?_)
 replace hm := ift (not_t (ni_t w162)) hm
 refine Ja rfl (RStep.of (load1_s r6 rfl rfl ?_))
 obtain rfl := si hm
 refine EndStep.mk _ l155 ⟨a155_0, c155_0, a155_1, c155_1, a155_2, c155_2, a155_3, c155_3, rfl, h155_0, h155_1, h155_2, h155_3, z155_4, rfl⟩ (ConvH.of (.cons r1 (.cons r1 (.cons r1 (.cons r1 (.cons r1 (.cons r2 .nil)))))))
 replace hm := iff_ (not_f (ni_f w162)) hm
 obtain rfl := si hm
 refine EndStep.mk _ l155 ⟨a155_0, c155_0, a155_1, c155_1, a155_2, c155_2, a155_3, c155_3, rfl, h155_0, h155_1, h155_2, h155_3, z155_4, rfl⟩ (ConvH.of (.cons r1 (.cons r1 (.cons r1 (.cons r1 (.cons r1 (.cons r2 .nil)))))))
 refine eq_int ?_
 refine cs rfl rfl hm (fun w165 hm => ?_) fun w165 hm => ?_
 refine build_struct rfl rfl ?_
 refine alloc_rule rfl ?_
 intro b16
 refine store_rule r0 rfl ?_
 refine ⟨rfl, rfl, (Nat.le_of_ble_eq_true rfl), ?_⟩
 obtain ⟨s918, hl918, hm⟩ := bnd hm
 refine code_cut (σ := Bool) [168, 169, 170, 171, 172, 173, 174, 175, 176, 177, 178, 179, 180, 181] (fun t918 => [(181, .bool t918)]) (fun _ => [Cells b16 95 [.int .i64 0, .int .i64 0, str ([] : Str), .bool false], Cells b0 98 ((str m.inZ.Method) :: (str m.inZ.Host) :: (str m.inZ.Path) :: (str m.inZ.Query) :: (.slice ap0_0 m.inZ.Fields.length cp0_0) :: (.int .i64 m.most) :: (str m.result.Path) :: (str m.result.Query) :: (.slice ap0_1 m.result.Headers.length cp0_1) :: (.slice ap0_2 m.result.Vary.length cp0_2) :: (.slice ap0_3 m.result.Tags.length cp0_3) :: (.int .i64 m.result.TTL) :: (.int .i64 m.result.Deny) :: (.int .i64 (m.result.Steps + 1)) :: (.bool m.result.Pass) :: (.bool m.result.Token) :: (.slice ap0_4 m.stack.length cp0_4) :: (m.slots.map Jd.enc).flatten), Cells b5 54 [.int .i64 x.Op, .int .i64 x.N, str x.S], OwnL Jg.enc ap0_1 77 2 cp0_1 m.result.Headers, OwnL eS ap0_2 9 1 cp0_2 m.result.Vary, OwnL eS ap0_3 9 1 cp0_3 m.result.Tags, OwnL Jd.enc ap0_4 95 4 cp0_4 m.stack, F]) (fun t918 K1 => t918 = s918) ?_ ?_
 replace hl918 := bsm hl918
 refine guard_go rfl ?_
 refine Ja rfl (RStep.of (load1_s r2 rfl rfl (neq_str ?_)))
 refine cond_s (fun g171_42 => ?_) (fun g171_42 => ?_)
 refine Ja rfl (cond_t g171_42 (RStep.of (load1_s r2 rfl rfl (cond_t g171_42 (neq_str (cond_t g171_42 ?_))))))
 obtain ⟨x181, e181, hl918⟩ := bnd hl918
 refine cond_s (fun g176_42 => ?_) (fun g176_42 => ?_)
 replace e181 := ift (and_t g171_42 g176_42) e181
 refine Ja rfl (cond_t g176_42 (RStep.of (load1_s r2 rfl rfl (cond_t g176_42 ?_))))
 obtain ⟨x179, q179, e181⟩ := bnd e181
 refine call_fn (Jaq (s := x.S) (prefixZ := ([118, 97, 114, 121, 58] : Str)) q179) .nil ?_
 rintro _ K179 _ l179 ⟨rfl, rfl⟩
 refine cond_t g176_42 (un_not (cond_t g176_42 ?_))
 refine MeetStep.mk (x181) ⟨(by rw [← (si e181)] <;> rfl), trivial⟩ (by repeat (first | exact trivial | refine And.intro rfl ?_)) (ConvH.of (.cons r0 (.cons r0 (.cons r0 (.cons r0 (.cons r0 (.cons r0 (.cons r0 (.cons r0 .nil))))))))) l179 (si hl918)
 replace e181 := iff_ (and_g g171_42 g176_42) e181
 refine cond_f g176_42 (cond_f g176_42 (cond_f g176_42 (cond_f g176_42 ?_)))
 refine MeetStep.mk (x181) ⟨(by rw [← ((si e181).symm).symm] <;> rfl), trivial⟩ (by repeat (first | exact trivial | refine And.intro rfl ?_)) (ConvH.of (.cons r0 (.cons r0 (.cons r0 (.cons r0 (.cons r0 (.cons r0 (.cons r0 (.cons r0 .nil))))))))) (Hp.Le.refl _) (si hl918)
 refine cond_f g171_42 (cond_f g171_42 (cond_f g171_42 ?_))
 obtain ⟨x181, e181, hl918⟩ := bnd hl918
 replace e181 := iff_ (and_f g171_42) e181
 refine cond_F (cond_F (cond_F (cond_F (cond_F ?_))))
 refine MeetStep.mk (x181) ⟨(by rw [← ((si e181).symm).symm] <;> rfl), trivial⟩ (by repeat (first | exact trivial | refine And.intro rfl ?_)) (ConvH.of (.cons r0 (.cons r0 (.cons r0 (.cons r0 (.cons r0 (.cons r0 (.cons r0 (.cons r0 .nil))))))))) (Hp.Le.refl _) (si hl918)
 rintro t918 Kt918 lt918 rfl j918
 obtain ⟨s919, hl919, hm⟩ := bnd hm
 refine code_cut (σ := (Int × Int × Str × Bool × Jb) × Option Addr × Nat × Option Addr × Nat × Option Addr × Nat × Option Addr × Nat) [182, 183] (fun (t919, at919_4_0, ct919_4_0, at919_4_1, ct919_4_1, at919_4_2, ct919_4_2, at919_4_3, ct919_4_3) => []) (fun (t919, at919_4_0, ct919_4_0, at919_4_1, ct919_4_1, at919_4_2, ct919_4_2, at919_4_3, ct919_4_3) => [Cells b0 98 ((str m.inZ.Method) :: (str m.inZ.Host) :: (str m.inZ.Path) :: (str m.inZ.Query) :: (.slice ap0_0 m.inZ.Fields.length cp0_0) :: (.int .i64 t919.2.2.2.2.most) :: (str t919.2.2.2.2.result.Path) :: (str t919.2.2.2.2.result.Query) :: (.slice at919_4_0 t919.2.2.2.2.result.Headers.length ct919_4_0) :: (.slice at919_4_1 t919.2.2.2.2.result.Vary.length ct919_4_1) :: (.slice at919_4_2 t919.2.2.2.2.result.Tags.length ct919_4_2) :: (.int .i64 t919.2.2.2.2.result.TTL) :: (.int .i64 t919.2.2.2.2.result.Deny) :: (.int .i64 t919.2.2.2.2.result.Steps) :: (.bool t919.2.2.2.2.result.Pass) :: (.bool t919.2.2.2.2.result.Token) :: (.slice at919_4_3 t919.2.2.2.2.stack.length ct919_4_3) :: (t919.2.2.2.2.slots.map Jd.enc).flatten), OwnL Jg.enc at919_4_0 77 2 ct919_4_0 t919.2.2.2.2.result.Headers, OwnL eS at919_4_1 9 1 ct919_4_1 t919.2.2.2.2.result.Vary, OwnL eS at919_4_2 9 1 ct919_4_2 t919.2.2.2.2.result.Tags, OwnL Jd.enc at919_4_3 95 4 ct919_4_3 t919.2.2.2.2.stack, Cells b16 95 [.int .i64 t919.1, .int .i64 t919.2.1, str t919.2.2.1, .bool t919.2.2.2.1], Cells b5 54 [.int .i64 x.Op, .int .i64 x.N, str x.S], F]) (fun zz K1 => match zz with | (t919, at919_4_0, ct919_4_0, at919_4_1, ct919_4_1, at919_4_2, ct919_4_2, at919_4_3, ct919_4_3) => (0 < t919.2.2.2.2.result.Headers.length → Has at919_4_0) ∧ (0 < t919.2.2.2.2.result.Vary.length → Has at919_4_1) ∧ (0 < t919.2.2.2.2.result.Tags.length → Has at919_4_2) ∧ (0 < t919.2.2.2.2.stack.length → Has at919_4_3) ∧ t919.2.2.2.2.slots.length = 512 ∧ t919 = s919) ?_ ?_
 refine cs rfl rfl hl919 (fun w181 hl919 => ?_) fun w181 hl919 => ?_
 obtain ⟨x183, q183, hl919⟩ := bnd hl919
 refine call_fn (JI (m := (⟨m.inZ, m.most, (⟨m.result.Path, m.result.Query, m.result.Headers, m.result.Vary, m.result.Tags, m.result.TTL, m.result.Deny, (m.result.Steps + 1), m.result.Pass, m.result.Token⟩ : Jf), m.stack, m.slots⟩ : Jb)) q183 (hp0_0.mono lt918) hp0_1 hp0_2 hp0_3 hp0_4 zp0_5) (.cons r1 (.cons r2 (.cons r2 (.cons r2 (.cons r2 .nil))))) ?_
 rintro _ K183 _ l183 ⟨a183_0, c183_0, a183_1, c183_1, a183_2, c183_2, a183_3, c183_3, rfl, h183_0, h183_1, h183_2, h183_3, z183_4, rfl⟩
 refine store_rule r5 rfl ?_
 refine ⟨rfl, rfl, (Nat.le_of_ble_eq_true rfl), ?_⟩
 refine MeetStep.mk ((x183.1.kind, x183.1.n, x183.1.s, x183.1.isZ, (⟨m.inZ, x183.2.most, x183.2.result, x183.2.stack, x183.2.slots⟩ : Jb)), a183_0, c183_0, a183_1, c183_1, a183_2, c183_2, a183_3, c183_3) trivial (by repeat (first | exact trivial | refine And.intro rfl ?_)) (ConvH.of (.cons r1 (.cons r1 (.cons r1 (.cons r1 (.cons r1 (.cons r0 (.cons r0 (.cons r0 .nil))))))))) l183 ⟨h183_0, h183_1, h183_2, h183_3, z183_4, (si hl919)⟩
 refine MeetStep.mk ((0, 0, ([] : Str), false, (⟨m.inZ, m.most, (⟨m.result.Path, m.result.Query, m.result.Headers, m.result.Vary, m.result.Tags, m.result.TTL, m.result.Deny, (m.result.Steps + 1), m.result.Pass, m.result.Token⟩ : Jf), m.stack, m.slots⟩ : Jb)), ap0_1, cp0_1, ap0_2, cp0_2, ap0_3, cp0_3, ap0_4, cp0_4) trivial (by repeat (first | exact trivial | refine And.intro rfl ?_)) (ConvH.of (.cons r1 (.cons r2 (.cons r2 (.cons r2 (.cons r2 (.cons r0 (.cons r0 (.cons r0 .nil))))))))) (Hp.Le.refl _) ⟨hp0_1, hp0_2, hp0_3, hp0_4, zp0_5, (si hl919)⟩
 rintro ⟨t919, at919_4_0, ct919_4_0, at919_4_1, ct919_4_1, at919_4_2, ct919_4_2, at919_4_3, ct919_4_3⟩ Kt919 lt919 ⟨ht919_4_0, ht919_4_1, ht919_4_2, ht919_4_3, zt919_4_4, rfl⟩ j919
 refine draw_go ⟨⟨[], false⟩, _, [(_, _), (_, _)], []⟩ (by kernel_rfl) ⟨Hp.Le.refl _, (ConvH.of (.cons r6 (.cons r5 .nil))), ci0⟩ ?_
 refine nil_check (Ja rfl (Ja rfl (load1_l m0 rfl rfl (loadn_l m1 rfl (Nat.le_of_ble_eq_true rfl) ?_))))
 obtain ⟨x190, q190, hm⟩ := bnd hm
 refine call_fn (JbA (r' := t919.2.2.2.2.result) (s := x.S) (x := (⟨t919.1, t919.2.1, t919.2.2.1, t919.2.2.2.1⟩ : Jd)) (p0_ := [str m.inZ.Method, str m.inZ.Host, str m.inZ.Path, str m.inZ.Query, .slice ap0_0 m.inZ.Fields.length cp0_0, .int .i64 t919.2.2.2.2.most]) (q0_ := (.slice at919_4_3 t919.2.2.2.2.stack.length ct919_4_3) :: (t919.2.2.2.2.slots.map Jd.enc).flatten) q190 ht919_4_0 ht919_4_1 ht919_4_2 (hG0.mono (lt918.trans lt919)) (hG1.mono (lt918.trans lt919)) (hG2.mono (lt918.trans lt919)) (hG3.mono (lt918.trans lt919)) (hG5.mono (lt918.trans lt919))) (.cons r0 (.cons r0 (.cons r0 (.cons r0 .nil)))) ?_
 rintro _ K190 _ l190 ⟨a190_0, c190_0, a190_1, c190_1, a190_2, c190_2, rfl, h190_0, h190_1, h190_2, rfl⟩
 refine ⟨⟨l190, (ConvH.of (.cons r6 (.cons r5 .nil))), ci0⟩, ?_⟩
 refine neq_err rfl ?_
 refine cs rfl rfl hm (fun w192 hm => ?_) fun w192 hm => ?_
 obtain rfl := si hm
 refine EndStep.mk _ ((lt918.trans lt919).trans l190) ⟨a190_0, c190_0, a190_1, c190_1, a190_2, c190_2, at919_4_3, ct919_4_3, rfl, h190_0, h190_1, h190_2, ht919_4_3, zt919_4_4, rfl⟩ (ConvH.of (.cons r0 (.cons r0 (.cons r0 (.cons r0 (.cons r0 (.cons r2 .nil)))))))
 refine Ja rfl (RStep.of (load1_s r6 rfl rfl (eq_str ?_)))
 refine cs rfl rfl hm (fun w196 hm => ?_) fun w196 hm => ?_
 obtain rfl := si hm
 refine EndStep.mk _ ((lt918.trans lt919).trans l190) ⟨a190_0, c190_0, a190_1, c190_1, a190_2, c190_2, at919_4_3, ct919_4_3, rfl, h190_0, h190_1, h190_2, ht919_4_3, zt919_4_4, rfl⟩ (ConvH.of (.cons r0 (.cons r0 (.cons r0 (.cons r0 (.cons r0 (.cons r2 .nil)))))))
 obtain rfl := si hm
 refine EndStep.mk _ ((lt918.trans lt919).trans l190) ⟨a190_0, c190_0, a190_1, c190_1, a190_2, c190_2, at919_4_3, ct919_4_3, rfl, h190_0, h190_1, h190_2, ht919_4_3, zt919_4_4, rfl⟩ (ConvH.of (.cons r0 (.cons r0 (.cons r0 (.cons r0 (.cons r0 (.cons r2 .nil)))))))
 refine eq_int ?_
 refine cs rfl rfl hm (fun w197 hm => ?_) fun w197 hm => ?_
 obtain rfl := si hm
 refine EndStep.mk _ (Hp.Le.refl _) ⟨ap0_1, cp0_1, ap0_2, cp0_2, ap0_3, cp0_3, ap0_4, cp0_4, rfl, hp0_1, hp0_2, hp0_3, hp0_4, zp0_5, rfl⟩ (ConvH.of (.cons r0 (.cons r1 (.cons r1 (.cons r1 (.cons r1 (.cons r1 .nil)))))))
 obtain rfl := si hm
 refine EndStep.mk _ (Hp.Le.refl _) ⟨ap0_1, cp0_1, ap0_2, cp0_2, ap0_3, cp0_3, ap0_4, cp0_4, rfl, hp0_1, hp0_2, hp0_3, hp0_4, zp0_5, rfl⟩ (ConvH.of (.cons r0 (.cons r1 (.cons r1 (.cons r1 (.cons r1 (.cons r1 .nil)))))))
