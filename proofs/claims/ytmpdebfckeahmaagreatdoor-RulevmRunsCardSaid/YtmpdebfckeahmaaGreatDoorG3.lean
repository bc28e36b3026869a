/- Functions of the program: mirrors, and that a call returns what the mirror says. Printed by gen.py. -/
import Derived.Test.YtmpdebfckeahmaaGreatDoorG2
set_option linter.unusedVariables false
set_option linter.unusedSimpArgs false
open Go Go.SL Go.Proofs
set_option maxRecDepth 1000000
noncomputable def JC (code : (List Jl)) (inZ : Ju) : Nat → Int → Jb → Option (Fl (Jh × Err) (Int × Jb))
  | 0, _, _ => none
  | xs0 + 1, y0_0, y0_1 =>
    if decide (y0_0 ≥ 0) then
    (ix code y0_0).bind fun x33 =>
    (Jag (⟨inZ, y0_1.most, y0_1.result, y0_1.stack, y0_1.slots⟩ : Jb) y0_0 x33).bind fun x35 =>
    if x35.2.1.isSome then
    some (Fl.ret ((⟨([] : Str), ([] : Str), [], [], [], 0, 0, 0, false, false⟩ : Jh), x35.2.1))
    else
    JC code inZ xs0 x35.1 (⟨inZ, x35.2.2.most, x35.2.2.result, x35.2.2.stack, x35.2.2.slots⟩ : Jb)
    else
    some (Fl.go (y0_0, (⟨inZ, y0_1.most, y0_1.result, y0_1.stack, y0_1.slots⟩ : Jb)))
noncomputable def JaB (n : Nat) (code : (List Jl)) (inZ : Ju) (most : Int) : Option (Jh × Err) :=
  (JbK code).bind fun x13 =>
  if x13.isSome then
  some ((⟨([] : Str), ([] : Str), [], [], [], 0, 0, 0, false, false⟩ : Jh), (some 2))
  else
  (JC code inZ n 0 (⟨inZ, most, (⟨inZ.Path, inZ.Query, [], [], [], (-1), 0, 0, false, false⟩ : Jh), [], (List.replicate 512 (⟨0, 0, ([] : Str), false⟩ : Je))⟩ : Jb)).bind fun s0 => s0.el some fun t0 =>
  some (t0.2.result, none)
set_option maxHeartbeats 8000000 in
theorem Jcn {n : Nat} {code : (List Jl)} {inZ : Ju} {most : Int} {ap0_0 : Option Addr} {cp0_0 : Nat} {n0 : Nat} {ap1_0 : Option Addr} {cp1_0 : Nat} {K : Hp} {r : Jh × Err}
    (hm : JaB n code inZ most = some r) (hp0_0 : RdC Jl.enc K ap0_0 cp0_0 3 code) (en0 : n0 = code.length) (hp1_0 : RdC Jf.enc K ap1_0 cp1_0 2 inZ.Fields) (hG0 : GlL eS 1 0 Jo K) (hG1 : GlL eS 1 1 Js K) (hG2 : GlL eS 1 2 Jt K) (hG3 : GlN 3 K) (hG5 : GlA 5 (Go.Lib.pow10Tab.map fun z => Value.int .u64 z) K) :
    Fn Tryz.prog 13 [.slice ap0_0 n0 cp0_0, .agg #[str inZ.Method, str inZ.Host, str inZ.Path, str inZ.Query, .slice ap1_0 inZ.Fields.length cp1_0], .int .i64 most] K [] (fun v K' H' => ∃ ar_0 : Option Addr, ∃ cr_0 : Nat, ∃ ar_1 : Option Addr, ∃ cr_1 : Nat, ∃ ar_2 : Option Addr, ∃ cr_2 : Nat, v = .tuple #[.agg #[str r.1.Path, str r.1.Query, .slice ar_0 r.1.Headers.length cr_0, .slice ar_1 r.1.Vary.length cr_1, .slice ar_2 r.1.Tags.length cr_2, .int .i64 r.1.TTL, .int .i64 r.1.Deny, .int .i64 r.1.Steps, .bool r.1.Pass, .bool r.1.Token], errV 87 r.2] ∧ (0 < r.1.Headers.length → Has ar_0) ∧ (0 < r.1.Vary.length → Has ar_1) ∧ (0 < r.1.Tags.length → Has ar_2) ∧ H' = [OwnL Jf.enc ar_0 77 2 cr_0 r.1.Headers, OwnL eS ar_1 9 1 cr_1 r.1.Vary, OwnL eS ar_2 9 1 cr_2 r.1.Tags]) := by
 subst en0
 refine Fn.enter Tryz.func13 Tryz.call13 rfl fun F => ?_
 unfold JaB at hm
 refine box_rule ?_
 intro b4
 refine alloc_rule rfl ?_
 intro b6
 obtain ⟨x13, q13, hm⟩ := bnd hm
 refine call_fn (Jct q13 hp0_0 rfl hG0 hG1 hG2 hG3 hG5) .nil ?_
 rintro _ K13 _ l13 ⟨rfl, rfl⟩
 refine neq_err rfl ?_
 refine cs rfl rfl hm (fun w14 hm => ?_) fun w14 hm => ?_
 refine build_struct rfl rfl ?_
 refine mk_iface rfl ?_
 refine store_rule r0 rfl ?_
 refine ⟨rfl, rfl, (Nat.le_of_ble_eq_true rfl), ?_⟩
 obtain rfl := si hm
 refine RStep.of (loadn_s r0 rfl (Nat.le_of_ble_eq_true rfl) ?_)
 refine nilE Jf.enc 77 2 ?_
 refine nilE eS 9 1 ?_
 refine nilE eS 9 1 ?_
 refine EndStep.mk _ l13 ⟨none, 0, none, 0, none, 0, rfl, (fun h => by simp at h), (fun h => by simp at h), (fun h => by simp at h), rfl⟩ (ConvH.of (.cons r2 (.cons r1 (.cons r0 (.cons r2 .nil)))))
 refine RStep.of (loadn_s r1 rfl (Nat.le_of_ble_eq_true rfl) (Ja rfl (RStep.of (load1_s r1 rfl rfl (Ja rfl (RStep.of (load1_s r1 rfl rfl (build_struct rfl rfl ?_))))))))
 refine cond_T (cond_T (cond_T ?_))
 refine build_tail (enc := Je.enc) [str ([] : Str), str ([] : Str), str ([] : Str), str ([] : Str), .slice none 0 0, .int .i64 0, str ([] : Str), str ([] : Str), .slice none 0 0, .slice none 0 0, .slice none 0 0, .int .i64 0, .int .i64 0, .int .i64 0, .bool false, .bool false, .slice none 0 0] (List.replicate 512 (⟨0, 0, ([] : Str), false⟩ : Je)) (by kernel_rfl) rfl ?_
 refine cond_T (cond_T (cond_T ?_))
 refine box_tail ?_
 intro b25
 obtain ⟨s0, hl0, hm⟩ := bnd hm
 refine nilC Jf.enc 77 2 ?_
 refine nilC eS 9 1 ?_
 refine nilC eS 9 1 ?_
 refine nilC Je.enc 95 4 ?_
 refine code_cut (σ := (Int × Jb) × Option Addr × Nat × Option Addr × Nat × Option Addr × Nat × Option Addr × Nat) [7, 9, 10, 11, 26, 27, 28, 29, 30, 31, 32, 33, 34, 35, 36, 37, 38, 39, 40, 41, 42] (fun (t0, at0_1_0, ct0_1_0, at0_1_1, ct0_1_1, at0_1_2, ct0_1_2, at0_1_3, ct0_1_3) => [(9, .int .i64 t0.1)]) (fun (t0, at0_1_0, ct0_1_0, at0_1_1, ct0_1_1, at0_1_2, ct0_1_2, at0_1_3, ct0_1_3) => [Cells b25 98 ((str inZ.Method) :: (str inZ.Host) :: (str inZ.Path) :: (str inZ.Query) :: (.slice ap1_0 inZ.Fields.length cp1_0) :: (.int .i64 t0.2.most) :: (str t0.2.result.Path) :: (str t0.2.result.Query) :: (.slice at0_1_0 t0.2.result.Headers.length ct0_1_0) :: (.slice at0_1_1 t0.2.result.Vary.length ct0_1_1) :: (.slice at0_1_2 t0.2.result.Tags.length ct0_1_2) :: (.int .i64 t0.2.result.TTL) :: (.int .i64 t0.2.result.Deny) :: (.int .i64 t0.2.result.Steps) :: (.bool t0.2.result.Pass) :: (.bool t0.2.result.Token) :: (.slice at0_1_3 t0.2.stack.length ct0_1_3) :: (t0.2.slots.map Je.enc).flatten), OwnL Jf.enc at0_1_0 77 2 ct0_1_0 t0.2.result.Headers, OwnL eS at0_1_1 9 1 ct0_1_1 t0.2.result.Vary, OwnL eS at0_1_2 9 1 ct0_1_2 t0.2.result.Tags, OwnL Je.enc at0_1_3 95 4 ct0_1_3 t0.2.stack, Cells b6 33 [str ([] : Str), str ([] : Str), .slice none 0 0, .slice none 0 0, .slice none 0 0, .int .i64 0, .int .i64 0, .int .i64 0, .bool false, .bool false], Cells b4 41 [str inZ.Method, str inZ.Host, str inZ.Path, str inZ.Query, .slice ap1_0 inZ.Fields.length cp1_0], F]) (fun zz K1 => match zz with | (t0, at0_1_0, ct0_1_0, at0_1_1, ct0_1_1, at0_1_2, ct0_1_2, at0_1_3, ct0_1_3) => (0 < t0.2.result.Headers.length → Has at0_1_0) ∧ (0 < t0.2.result.Vary.length → Has at0_1_1) ∧ (0 < t0.2.result.Tags.length → Has at0_1_2) ∧ (0 < t0.2.stack.length → Has at0_1_3) ∧ t0.2.slots.length = 512 ∧ s0 = Fl.go t0) ?_ ?_
 refine block_go rfl ?_
 refine loop_rule (σ := Nat × Int × Jb × Option Addr × Nat × Option Addr × Nat × Option Addr × Nat × Option Addr × Nat) [7, 9, 10, 11, 26, 27, 28, 29, 30, 31, 32, 33, 34, 35, 36, 37, 38, 39, 40, 41, 42] (fun (i0, y0_0, y0_1, ay0_1_0, cy0_1_0, ay0_1_1, cy0_1_1, ay0_1_2, cy0_1_2, ay0_1_3, cy0_1_3) => [(9, .int .i64 y0_0)]) (fun (i0, y0_0, y0_1, ay0_1_0, cy0_1_0, ay0_1_1, cy0_1_1, ay0_1_2, cy0_1_2, ay0_1_3, cy0_1_3) => [Cells b25 98 ((str inZ.Method) :: (str inZ.Host) :: (str inZ.Path) :: (str inZ.Query) :: (.slice ap1_0 inZ.Fields.length cp1_0) :: (.int .i64 y0_1.most) :: (str y0_1.result.Path) :: (str y0_1.result.Query) :: (.slice ay0_1_0 y0_1.result.Headers.length cy0_1_0) :: (.slice ay0_1_1 y0_1.result.Vary.length cy0_1_1) :: (.slice ay0_1_2 y0_1.result.Tags.length cy0_1_2) :: (.int .i64 y0_1.result.TTL) :: (.int .i64 y0_1.result.Deny) :: (.int .i64 y0_1.result.Steps) :: (.bool y0_1.result.Pass) :: (.bool y0_1.result.Token) :: (.slice ay0_1_3 y0_1.stack.length cy0_1_3) :: (y0_1.slots.map Je.enc).flatten), OwnL Jf.enc ay0_1_0 77 2 cy0_1_0 y0_1.result.Headers, OwnL eS ay0_1_1 9 1 cy0_1_1 y0_1.result.Vary, OwnL eS ay0_1_2 9 1 cy0_1_2 y0_1.result.Tags, OwnL Je.enc ay0_1_3 95 4 cy0_1_3 y0_1.stack, Cells b6 33 [str ([] : Str), str ([] : Str), .slice none 0 0, .slice none 0 0, .slice none 0 0, .int .i64 0, .int .i64 0, .int .i64 0, .bool false, .bool false], Cells b4 41 [str inZ.Method, str inZ.Host, str inZ.Path, str inZ.Query, .slice ap1_0 inZ.Fields.length cp1_0], F]) (fun zz K1 => match zz with | (i0, y0_0, y0_1, ay0_1_0, cy0_1_0, ay0_1_1, cy0_1_1, ay0_1_2, cy0_1_2, ay0_1_3, cy0_1_3) => (0 < y0_1.result.Headers.length → Has ay0_1_0) ∧ (0 < y0_1.result.Vary.length → Has ay0_1_1) ∧ (0 < y0_1.result.Tags.length → Has ay0_1_2) ∧ (0 < y0_1.stack.length → Has ay0_1_3) ∧ y0_1.slots.length = 512 ∧ JC code inZ i0 y0_0 y0_1 = some s0) (fun zz => zz.1) (n, 0, (⟨inZ, most, (⟨inZ.Path, inZ.Query, [], [], [], (-1), 0, 0, false, false⟩ : Jh), [], (List.replicate 512 (⟨0, 0, ([] : Str), false⟩ : Je))⟩ : Jb), none, 0, none, 0, none, 0, none, 0) rfl ⟨rfl, trivial⟩ (ConvH.of (.cons r4 (.cons r3 (.cons r2 (.cons r1 (.cons r0 (.cons r0 (.cons r0 (.cons r0 .nil))))))))) ⟨(fun h => by simp at h), (fun h => by simp at h), (fun h => by simp at h), (fun h => by simp at h), List.length_replicate, hl0⟩ ?_
 clear hl0
 rintro ⟨i0, y0_0, y0_1, ay0_1_0, cy0_1_0, ay0_1_1, cy0_1_1, ay0_1_2, cy0_1_2, ay0_1_3, cy0_1_3⟩ Kb0 lk0 ⟨hy0_1_0, hy0_1_1, hy0_1_2, hy0_1_3, zy0_1_4, hl0⟩ j0
 cases i0 with
 | zero => rw [JC.eq_1] at hl0; cases hl0
 | succ i0 =>
  rw [JC.eq_2] at hl0
  refine cs rfl rfl hl0 (fun w27 hl0 => ?_) fun w27 hl0 => ?_
  refine block_go rfl ?_
  obtain ⟨x33, l33, k33, hl0⟩ := ixb hl0
  refine RStep.ofN (index_addr rfl rfl (hasK (hp0_0.mono (l13.trans lk0)).rd k33) l33 (lt_ofE rfl l33 k33) (RStep.of (load_rd_agg ((y0_0).toNat) _ (hp0_0.mono (l13.trans lk0)).rd rfl (mp k33) rfl ?_)))
  obtain ⟨x35, q35, hl0⟩ := bnd hl0
  refine call_fn (Jb1 (m := (⟨inZ, y0_1.most, y0_1.result, y0_1.stack, y0_1.slots⟩ : Jb)) (atZ := y0_0) (x := x33) q35 (hp1_0.mono (l13.trans lk0)) hy0_1_0 hy0_1_1 hy0_1_2 hy0_1_3 zy0_1_4 (hG0.mono (l13.trans lk0)) (hG1.mono (l13.trans lk0)) (hG2.mono (l13.trans lk0)) (hG3.mono (l13.trans lk0)) (hG5.mono (l13.trans lk0))) (.cons r0 (.cons r0 (.cons r0 (.cons r0 (.cons r0 .nil))))) ?_
  rintro _ K35 _ l35 ⟨a35_0, c35_0, a35_1, c35_1, a35_2, c35_2, a35_3, c35_3, rfl, h35_0, h35_1, h35_2, h35_3, z35_4, rfl⟩
  refine neq_err rfl ?_
  refine cs rfl rfl hl0 (fun w39 hl0 => ?_) fun w39 hl0 => ?_
  refine build_struct rfl rfl ?_
  refine store_rule r5 rfl ?_
  refine ⟨rfl, rfl, (Nat.le_of_ble_eq_true rfl), ?_⟩
  obtain rfl := si hl0
  replace hm := elr hm
  obtain rfl := si hm
  refine RStep.of (loadn_s r0 rfl (Nat.le_of_ble_eq_true rfl) ?_)
  refine nilE Jf.enc 77 2 ?_
  refine nilE eS 9 1 ?_
  refine nilE eS 9 1 ?_
  refine EndStep.mk _ ((l13.trans lk0).trans l35) ⟨none, 0, none, 0, none, 0, rfl, (fun h => by simp at h), (fun h => by simp at h), (fun h => by simp at h), rfl⟩ (ConvH.of (.cons r2 (.cons r1 (.cons r0 (.cons r7 .nil)))))
  refine RoundStep.mk (i0, x35.1, (⟨inZ, x35.2.2.most, x35.2.2.result, x35.2.2.stack, x35.2.2.slots⟩ : Jb), a35_0, c35_0, a35_1, c35_1, a35_2, c35_2, a35_3, c35_3) ⟨rfl, trivial⟩ (by repeat (first | exact trivial | refine And.intro rfl ?_)) (ConvH.of (.cons r0 (.cons r0 (.cons r0 (.cons r0 (.cons r0 (.cons r0 (.cons r0 (.cons r0 .nil))))))))) (lk0.trans l35) (Nat.lt_succ_self _) ⟨h35_0, h35_1, h35_2, h35_3, z35_4, hl0⟩
  refine cond_T ?_
  refine MeetStep.mk ((y0_0, (⟨inZ, y0_1.most, y0_1.result, y0_1.stack, y0_1.slots⟩ : Jb)), ay0_1_0, cy0_1_0, ay0_1_1, cy0_1_1, ay0_1_2, cy0_1_2, ay0_1_3, cy0_1_3) ⟨rfl, trivial⟩ (by repeat (first | exact trivial | refine And.intro rfl ?_)) (ConvH.of (.cons r0 (.cons r0 (.cons r0 (.cons r0 (.cons r0 (.cons r0 (.cons r0 (.cons r0 .nil))))))))) lk0 ⟨hy0_1_0, hy0_1_1, hy0_1_2, hy0_1_3, zy0_1_4, (si hl0).symm⟩
 rintro ⟨t0, at0_1_0, ct0_1_0, at0_1_1, ct0_1_1, at0_1_2, ct0_1_2, at0_1_3, ct0_1_3⟩ Kt0 lt0 ⟨ht0_1_0, ht0_1_1, ht0_1_2, ht0_1_3, zt0_1_4, rfl⟩ j0
 replace hm := elg hm
 refine nil_check (Ja rfl (RStep.of (loadn_s r0 rfl (Nat.le_of_ble_eq_true rfl) ?_)))
 refine store_rule r5 rfl ?_
 refine ⟨rfl, rfl, (Nat.le_of_ble_eq_true rfl), ?_⟩
 obtain rfl := si hm
 refine RStep.of (loadn_s r0 rfl (Nat.le_of_ble_eq_true rfl) ?_)
 refine EndStep.mk _ (l13.trans lt0) ⟨at0_1_0, ct0_1_0, at0_1_1, ct0_1_1, at0_1_2, ct0_1_2, rfl, ht0_1_0, ht0_1_1, ht0_1_2, rfl⟩ (ConvH.of (.cons r2 (.cons r2 (.cons r2 (.cons r4 .nil)))))

noncomputable def Ja8 (n : Nat) : Option (Bool) :=
  (JaB n ([(⟨2, 0, ([120] : Str)⟩ : Jl), (⟨11, 0, ([116, 97, 103] : Str)⟩ : Jl), (⟨12, 0, ([] : Str)⟩ : Jl)]) (⟨([] : Str), ([] : Str), ([47] : Str), ([] : Str), []⟩ : Ju) 3).bind fun x9 =>
  (if (x9.2.isNone && decide ((x9.1.Tags.length : Int) = 1)) then (ix x9.1.Tags 0).bind fun x23 =>
  some (decide (x23 = ([120] : Str))) else some false).bind fun x26 =>
  some (((x26 && decide (x9.1.Steps = 3)) && decide (x9.1.TTL = (-1))) && decide (x9.1.Path = ([47] : Str)))
set_option maxHeartbeats 8000000 in
theorem Jcj {n : Nat}  {K : Hp} {r : Bool}
    (hm : Ja8 n = some r) (hG0 : GlL eS 1 0 Jo K) (hG1 : GlL eS 1 1 Js K) (hG2 : GlL eS 1 2 Jt K) (hG3 : GlN 3 K) (hG5 : GlA 5 (Go.Lib.pow10Tab.map fun z => Value.int .u64 z) K) :
    Fn Tryz.prog 10 [] K [] (fun v K' H' => v = .bool r ∧ H' = []) := by
 refine Fn.enter Tryz.func10 Tryz.call10 rfl fun F => ?_
 unfold Ja8 at hm
 refine build_struct rfl rfl (cond_T (cond_T (build_struct rfl rfl (cond_T (cond_T ?_)))))
 refine build_struct rfl rfl (cond_T ?_)
 refine bsO (len := 3) (enc := Jl.enc) (l := [(⟨2, 0, ([120] : Str)⟩ : Jl), (⟨11, 0, ([116, 97, 103] : Str)⟩ : Jl), (⟨12, 0, ([] : Str)⟩ : Jl)]) (cl := [.int .i64 2, .int .i64 0, str ([120] : Str), .int .i64 11, .int .i64 0, str ([116, 97, 103] : Str), .int .i64 12, .int .i64 0, str ([] : Str)]) elT38 rfl rfl (fun _ _ => rfl) rfl rfl rfl ?_ fun b7 => ?_
 · conv => whnf
   refine cond_T (cond_T (cond_T ?_))
   first | done | rfl
 refine build_struct rfl rfl (cond_T ?_)
 obtain ⟨x9, q9, hm⟩ := bnd hm
 refine call_fn (Fn.lend Tryz.call13 (fun K9_0 l9_0 f9_0 => (Jcn (inZ := (⟨([] : Str), ([] : Str), ([47] : Str), ([] : Str), []⟩ : Ju)) (most := 3) q9 f9_0 rfl RdC.nil (hG0.mono l9_0) (hG1.mono l9_0) (hG2.mono l9_0) (hG3.mono l9_0) (hG5.mono l9_0))) (by exact fun _ _ _ _ h => h)) (.cons r0 .nil) ?_
 rintro _ K9 _ l9 ⟨_, rfl, a9_0, c9_0, a9_1, c9_1, a9_2, c9_2, rfl, h9_0, h9_1, h9_2, rfl⟩
 refine alloc_rule rfl ?_
 intro b1
 refine store_rule r0 rfl ?_
 refine ⟨rfl, rfl, (Nat.le_of_ble_eq_true rfl), ?_⟩
 refine guard_go rfl ?_
 refine eq_err rfl ?_
 refine cond_s (fun g14_2 => ?_) (fun g14_2 => ?_)
 refine Ja rfl (cond_t g14_2 (RStep.of (load1_s r0 rfl rfl (cond_t g14_2 (RStep.of (len_slice rfl (cond_t g14_2 ?_)))))))
 refine eq_int (cond_t g14_2 ?_)
 obtain ⟨x26, e26, hm⟩ := bnd hm
 refine cond_s (fun g20_2 => ?_) (fun g20_2 => ?_)
 replace e26 := ift (and_t g14_2 g20_2) e26
 refine Ja rfl (cond_t g20_2 (RStep.of (load1_s r0 rfl rfl (cond_t g20_2 ?_))))
 obtain ⟨x23, l23, k23, e26⟩ := ixb e26
 refine RStep.ofN (index_addr rfl rfl (hasO h9_2 k23) l23 (lt_ofE rfl l23 k23) (cond_t g20_2 (RStep.of (ld_own (i := (0 : Int).toNat) (o := 0) r4 rfl k23 rfl rfl (cond_t g20_2 (eq_str (cond_t g20_2 ?_)))))))
 refine cond_s (fun g27_2 => ?_) (fun g27_2 => ?_)
 refine Ja rfl (cond_t g27_2 (RStep.of (load1_s r0 rfl rfl (cond_t g27_2 (eq_int (cond_t g27_2 ?_))))))
 refine cond_s (fun g32_2 => ?_) (fun g32_2 => ?_)
 refine Ja rfl (cond_t g32_2 (RStep.of (load1_s r0 rfl rfl (cond_t g32_2 (eq_int (cond_t g32_2 ?_))))))
 refine cond_s (fun g37_2 => ?_) (fun g37_2 => ?_)
 refine Ja rfl (cond_t g37_2 (RStep.of (load1_s r0 rfl rfl (cond_t g37_2 (eq_str (cond_t g37_2 ?_))))))
 obtain rfl := si hm
 refine EndStep.mk _ l9 ⟨(by rw [← (and_e (b := decide (x9.1.Path = ([47] : Str))) (and_t (and_t ((si e26).symm.trans g27_2) g32_2) g37_2))] <;> rfl), rfl⟩ (ConvH.of (.cons r5 .nil))
 refine cond_f g37_2 (cond_f g37_2 (cond_f g37_2 ?_))
 obtain rfl := si hm
 refine EndStep.mk _ l9 ⟨(by rw [← ((and_f (and_g (and_t ((si e26).symm.trans g27_2) g32_2) g37_2))).symm] <;> rfl), rfl⟩ (ConvH.of (.cons r5 .nil))
 refine cond_f g32_2 (cond_f g32_2 (cond_f g32_2 (cond_F (cond_F (cond_F ?_)))))
 refine cond_F ?_
 obtain rfl := si hm
 refine EndStep.mk _ l9 ⟨(by rw [← ((and_f (and_f (and_g ((si e26).symm.trans g27_2) g32_2)))).symm] <;> rfl), rfl⟩ (ConvH.of (.cons r5 .nil))
 refine cond_f g27_2 (cond_f g27_2 (cond_f g27_2 (cond_F (cond_F (cond_F ?_)))))
 refine cond_F (cond_F (cond_F (cond_F (cond_F ?_))))
 obtain rfl := si hm
 refine EndStep.mk _ l9 ⟨(by rw [← ((and_f (and_f (and_f ((si e26).symm.trans g27_2))))).symm] <;> rfl), rfl⟩ (ConvH.of (.cons r5 .nil))
 replace e26 := iff_ (and_g g14_2 g20_2) e26
 refine cond_f g20_2 (cond_f g20_2 (cond_f g20_2 (cond_f g20_2 (cond_f g20_2 (cond_F ?_)))))
 refine cond_F (cond_F (cond_F (cond_F (cond_F (cond_F ?_)))))
 refine cond_F (cond_F (cond_F (cond_F (cond_F ?_))))
 obtain rfl := si hm
 refine EndStep.mk _ l9 ⟨(by rw [← ((and_f (and_f (and_f (si e26).symm)))).symm] <;> rfl), rfl⟩ (ConvH.of (.cons r5 .nil))
 refine cond_f g14_2 (cond_f g14_2 (cond_f g14_2 (cond_f g14_2 ?_)))
 obtain ⟨x26, e26, hm⟩ := bnd hm
 replace e26 := iff_ (and_f g14_2) e26
 refine cond_F (cond_F (cond_F (cond_F (cond_F (cond_F ?_)))))
 refine cond_F (cond_F (cond_F (cond_F (cond_F (cond_F ?_)))))
 refine cond_F (cond_F (cond_F (cond_F (cond_F (cond_F ?_)))))
 obtain rfl := si hm
 refine EndStep.mk _ l9 ⟨(by rw [← ((and_f (and_f (and_f (si e26).symm)))).symm] <;> rfl), rfl⟩ (ConvH.of (.cons r5 .nil))

noncomputable def JaQ (code : (List Jm)) : Nat → Int → Int → Option (Int × Int)
  | 0, _, _ => none
  | xs0 + 1, y0_0, y0_1 =>
    if decide (y0_1 < (code.length : Int)) then
    (ix code y0_1).bind fun x14 =>
    JaQ code xs0 (IntKind.i64.wrap (y0_0 + (x14.S.length : Int))) (IntKind.i64.wrap (y0_1 + 1))
    else
    some (y0_0, y0_1)
noncomputable def Jb8 (n : Nat) (code : (List Jm)) : Option (Bool) :=
  (JaQ code n 0 0).bind fun t0 =>
  some (decide ((code.length : Int) ≤ 300) && decide (t0.1 ≤ 12000))
set_option maxHeartbeats 8000000 in
theorem Jdf {n : Nat} {code : (List Jm)} {ap0_0 : Option Addr} {cp0_0 : Nat} {n0 : Nat} {K : Hp} {r : Bool}
    (hm : Jb8 n code = some r) (hp0_0 : RdC Jm.enc K ap0_0 cp0_0 3 code) (en0 : n0 = code.length) :
    Fn Tryz.prog 11 [.slice ap0_0 n0 cp0_0] K [] (fun v K' H' => v = .bool r ∧ H' = []) := by
 subst en0
 refine Fn.enter Tryz.func11 Tryz.call11 rfl fun F => ?_
 unfold Jb8 at hm
 obtain ⟨s0, hl0, hm⟩ := bnd hm
 refine code_cut (σ := (Int × Int)) [3, 4, 5, 6, 7, 8, 9, 10, 11, 12, 13, 14, 15, 16, 17, 18] (fun t0 => [(3, .int .i64 t0.1), (4, .int .i64 t0.2)]) (fun t0 => [F]) (fun zz K1 => match zz with | t0 => t0 = s0) ?_ ?_
 refine block_go rfl ?_
 refine loop_rule (σ := Nat × Int × Int) [3, 4, 5, 6, 7, 8, 9, 10, 11, 12, 13, 14, 15, 16, 17, 18] (fun (i0, y0_0, y0_1) => [(3, .int .i64 y0_0), (4, .int .i64 y0_1)]) (fun (i0, y0_0, y0_1) => [F]) (fun zz K1 => match zz with | (i0, y0_0, y0_1) => JaQ code i0 y0_0 y0_1 = some s0) (fun zz => zz.1) (n, 0, 0) rfl ⟨rfl, rfl, trivial⟩ (ConvH.of (.cons r0 .nil)) hl0 ?_
 clear hl0
 rintro ⟨i0, y0_0, y0_1⟩ Kb0 lk0 hl0 j0
 conv at hl0 => whnf
 cases i0 with
 | zero => rw [JaQ.eq_1] at hl0; cases hl0
 | succ i0 =>
  rw [JaQ.eq_2] at hl0
  refine RStep.of (len_slice rfl ?_)
  refine cs rfl rfl hl0 (fun w8 hl0 => ?_) fun w8 hl0 => ?_
  refine block_go rfl ?_
  obtain ⟨x14, l14, k14, hl0⟩ := ixb hl0
  refine RStep.ofN (index_addr rfl rfl (hasK (hp0_0.mono lk0).rd k14) l14 (lt_ofE rfl l14 k14) (eptr_field rfl (hasK (hp0_0.mono lk0).rd k14) (RStep.of (load_rd ((y0_1).toNat) 2 _ _ (hp0_0.mono lk0).rd rfl (mp k14) rfl rfl (RStep.of (len_str rfl ?_))))))
  refine int_wrap ?_
  refine int_wrap ?_
  refine RoundStep.mk (i0, (IntKind.i64.wrap (y0_0 + (x14.S.length : Int))), (IntKind.i64.wrap (y0_1 + 1))) ⟨rfl, rfl, trivial⟩ (by repeat (first | exact trivial | refine And.intro rfl ?_)) (ConvH.of (.cons r0 .nil)) lk0 (Nat.lt_succ_self _) hl0
  refine cond_T ?_
  refine MeetStep.mk ((y0_0, y0_1)) ⟨rfl, rfl, trivial⟩ (by repeat (first | exact trivial | refine And.intro rfl ?_)) (ConvH.of (.cons r0 .nil)) lk0 (si hl0)
 rintro t0 Kt0 lt0 rfl j0
 refine guard_go rfl ?_
 refine RStep.of (len_slice rfl ?_)
 refine cond_s (fun g22_6 => ?_) (fun g22_6 => ?_)
 refine cond_t g22_6 (cond_t g22_6 ?_)
 obtain rfl := si hm
 refine EndStep.mk _ lt0 ⟨(by rw [← (and_e (b := decide (t0.1 ≤ 12000)) g22_6)] <;> rfl), rfl⟩ (ConvH.of (.cons r0 .nil))
 refine cond_f g22_6 (cond_f g22_6 ?_)
 obtain rfl := si hm
 refine EndStep.mk _ lt0 ⟨(by rw [← ((and_f g22_6)).symm] <;> rfl), rfl⟩ (ConvH.of (.cons r0 .nil))

noncomputable def JaK (inZ : Jn) : Nat → Int → Int → Option (Int × Int)
  | 0, _, _ => none
  | xs0 + 1, y0_0, y0_1 =>
    if decide (y0_1 < (inZ.Fields.length : Int)) then
    (ix inZ.Fields y0_1).bind fun x31 =>
    (ix inZ.Fields y0_1).bind fun x38 =>
    JaK inZ xs0 (IntKind.i64.wrap (y0_0 + (IntKind.i64.wrap ((x31.Name.length : Int) + (x38.Value.length : Int))))) (IntKind.i64.wrap (y0_1 + 1))
    else
    some (y0_0, y0_1)
noncomputable def JbO (n : Nat) (inZ : Jn) : Option (Bool) :=
  (JaK inZ n (IntKind.i64.wrap ((IntKind.i64.wrap ((IntKind.i64.wrap ((inZ.Method.length : Int) + (inZ.Host.length : Int))) + (inZ.Path.length : Int))) + (inZ.Query.length : Int))) 0).bind fun t0 =>
  some (decide (t0.1 ≤ 8000) && decide ((inZ.Fields.length : Int) ≤ 40))
set_option maxHeartbeats 8000000 in
theorem Jc6 {n : Nat} {inZ : Jn} {ap0_0 : Option Addr} {cp0_0 : Nat} {K : Hp} {r : Bool}
    (hm : JbO n inZ = some r) (hp0_0 : RdC Jc.enc K ap0_0 cp0_0 2 inZ.Fields) :
    Fn Tryz.prog 12 [.agg #[str inZ.Method, str inZ.Host, str inZ.Path, str inZ.Query, .slice ap0_0 inZ.Fields.length cp0_0]] K [] (fun v K' H' => v = .bool r ∧ H' = []) := by
 refine Fn.enter Tryz.func12 Tryz.call12 rfl fun F => ?_
 unfold JbO at hm
 refine box_rule ?_
 intro b1
 refine Ja rfl (RStep.of (load1_s r0 rfl rfl (RStep.of (len_str rfl (Ja rfl (RStep.of (load1_s r0 rfl rfl (RStep.of (len_str rfl ?_)))))))))
 refine int_wrap ?_
 refine Ja rfl (RStep.of (load1_s r0 rfl rfl (RStep.of (len_str rfl ?_))))
 refine int_wrap ?_
 refine Ja rfl (RStep.of (load1_s r0 rfl rfl (RStep.of (len_str rfl ?_))))
 refine int_wrap ?_
 obtain ⟨s0, hl0, hm⟩ := bnd hm
 refine code_cut (σ := (Int × Int)) [3, 4, 20, 21, 22, 23, 24, 25, 26, 27, 28, 29, 30, 31, 32, 33, 34, 35, 36, 37, 38, 39, 40, 41, 42, 43] (fun t0 => [(3, .int .i64 t0.1), (4, .int .i64 t0.2)]) (fun t0 => [Cells b1 25 [str inZ.Method, str inZ.Host, str inZ.Path, str inZ.Query, .slice ap0_0 inZ.Fields.length cp0_0], F]) (fun zz K1 => match zz with | t0 => t0 = s0) ?_ ?_
 refine block_go rfl ?_
 refine loop_rule (σ := Nat × Int × Int) [3, 4, 20, 21, 22, 23, 24, 25, 26, 27, 28, 29, 30, 31, 32, 33, 34, 35, 36, 37, 38, 39, 40, 41, 42, 43] (fun (i0, y0_0, y0_1) => [(3, .int .i64 y0_0), (4, .int .i64 y0_1)]) (fun (i0, y0_0, y0_1) => [Cells b1 25 [str inZ.Method, str inZ.Host, str inZ.Path, str inZ.Query, .slice ap0_0 inZ.Fields.length cp0_0], F]) (fun zz K1 => match zz with | (i0, y0_0, y0_1) => JaK inZ i0 y0_0 y0_1 = some s0) (fun zz => zz.1) (n, (IntKind.i64.wrap ((IntKind.i64.wrap ((IntKind.i64.wrap ((inZ.Method.length : Int) + (inZ.Host.length : Int))) + (inZ.Path.length : Int))) + (inZ.Query.length : Int))), 0) rfl ⟨rfl, rfl, trivial⟩ (ConvH.of (.cons r0 (.cons r0 .nil))) hl0 ?_
 clear hl0
 rintro ⟨i0, y0_0, y0_1⟩ Kb0 lk0 hl0 j0
 conv at hl0 => whnf
 cases i0 with
 | zero => rw [JaK.eq_1] at hl0; cases hl0
 | succ i0 =>
  rw [JaK.eq_2] at hl0
  refine Ja rfl (RStep.of (load1_s r0 rfl rfl (RStep.of (len_slice rfl ?_))))
  refine cs rfl rfl hl0 (fun w24 hl0 => ?_) fun w24 hl0 => ?_
  refine block_go rfl ?_
  refine draw_go ⟨⟨[], false⟩, _, [(_, _)], []⟩ (by kernel_rfl) ⟨Hp.Le.refl _, (ConvH.of (.cons r0 .nil)), ci0⟩ ?_
  refine Ja rfl (load1_l m0 rfl rfl ?_)
  obtain ⟨x31, l31, k31, hl0⟩ := ixb hl0
  refine index_addr rfl rfl (hasK (hp0_0.mono lk0).rd k31) l31 (lt_ofE rfl l31 k31) (eptr_field rfl (hasK (hp0_0.mono lk0).rd k31) (load_rd_l ((y0_1).toNat) 0 _ _ (hp0_0.mono lk0).rd rfl (mp k31) rfl rfl (len_strN rfl (Ja rfl (load1_l m0 rfl rfl ?_)))))
  obtain ⟨x38, l38, k38, hl0⟩ := ixb hl0
  refine index_addr rfl rfl (hasK (hp0_0.mono lk0).rd k38) l38 (lt_ofE rfl l38 k38) (eptr_field rfl (hasK (hp0_0.mono lk0).rd k38) (load_rd_l ((y0_1).toNat) 1 _ _ (hp0_0.mono lk0).rd rfl (mp k38) rfl rfl (len_strN rfl ?_)))
  refine int_wrap ?_
  refine int_wrap ?_
  refine int_wrap ?_
  refine RoundStep.mk (i0, (IntKind.i64.wrap (y0_0 + (IntKind.i64.wrap ((x31.Name.length : Int) + (x38.Value.length : Int))))), (IntKind.i64.wrap (y0_1 + 1))) ⟨rfl, rfl, trivial⟩ (by repeat (first | exact trivial | refine And.intro rfl ?_)) (ConvH.of (.cons r0 (.cons r0 .nil))) lk0 (Nat.lt_succ_self _) hl0
  refine cond_T ?_
  refine MeetStep.mk ((y0_0, y0_1)) ⟨rfl, rfl, trivial⟩ (by repeat (first | exact trivial | refine And.intro rfl ?_)) (ConvH.of (.cons r0 (.cons r0 .nil))) lk0 (si hl0)
 rintro t0 Kt0 lt0 rfl j0
 refine guard_go rfl ?_
 refine cond_s (fun g46_6 => ?_) (fun g46_6 => ?_)
 refine Ja rfl (cond_t g46_6 (RStep.of (load1_s r0 rfl rfl (cond_t g46_6 (RStep.of (len_slice rfl (cond_t g46_6 ?_)))))))
 refine cond_t g46_6 ?_
 obtain rfl := si hm
 refine EndStep.mk _ lt0 ⟨(by rw [← (and_e (b := decide ((inZ.Fields.length : Int) ≤ 40)) g46_6)] <;> rfl), rfl⟩ (ConvH.of (.cons r1 .nil))
 refine cond_f g46_6 (cond_f g46_6 (cond_f g46_6 (cond_f g46_6 ?_)))
 obtain rfl := si hm
 refine EndStep.mk _ lt0 ⟨(by rw [← ((and_f g46_6)).symm] <;> rfl), rfl⟩ (ConvH.of (.cons r1 .nil))

noncomputable def Jap : List Jm → Nat → (List Jl) → Option ((List Jl))
  | [], _, y0_0 => some y0_0
  | e0 :: xs0, i0, y0_0 =>
    (chk (y0_0.length + [(⟨e0.Op, e0.N, e0.S⟩ : Jl)].length ≤ lim)).bind fun _ =>
    Jap xs0 (i0 + 1) (y0_0 ++ [(⟨e0.Op, e0.N, e0.S⟩ : Jl)])
noncomputable def JbP (code : (List Jm)) : Option ((List Jl)) :=
  (chk (code.length ≤ szMax)).bind fun _ =>
  (Jap code 0 []).bind fun t0 =>
  some t0
set_option maxHeartbeats 8000000 in
theorem Jc7 {code : (List Jm)} {ap0_0 : Option Addr} {cp0_0 : Nat} {n0 : Nat} {K : Hp} {r : (List Jl)}
    (hm : JbP code = some r) (hp0_0 : RdC Jm.enc K ap0_0 cp0_0 3 code) (en0 : n0 = code.length) :
    Fn Tryz.prog 14 [.slice ap0_0 n0 cp0_0] K [] (fun v K' H' => ∃ ar_0 : Option Addr, ∃ cr_0 : Nat, v = .slice ar_0 r.length cr_0 ∧ (0 < r.length → Has ar_0) ∧ H' = [OwnL Jl.enc ar_0 54 3 cr_0 r]) := by
 subst en0
 refine Fn.enter Tryz.func14 Tryz.call14 rfl fun F => ?_
 unfold JbP at hm
 refine RStep.of (len_slice rfl ?_)
 obtain ⟨hk0, hm⟩ := chkb hm
 obtain ⟨s0, hl0, hm⟩ := bnd hm
 refine nilC Jl.enc 54 3 ?_
 refine code_cut (σ := ((List Jl)) × Option Addr × Nat) [3, 5, 8, 9, 10, 11, 12, 13, 14, 15, 16, 17, 18, 19, 20, 21, 22] (fun (t0, t0_a0, t0_c0) => [(3, .slice t0_a0 t0.length t0_c0)]) (fun (t0, t0_a0, t0_c0) => [OwnL Jl.enc t0_a0 54 3 t0_c0 t0, F]) (fun zz K1 => match zz with | (t0, t0_a0, t0_c0) => (0 < t0.length → Has t0_a0) ∧ t0 = s0) ?_ ?_
 refine block_go rfl ?_
 refine loop_rule (σ := Nat × (List Jl) × Option Addr × Nat) [3, 5, 8, 9, 10, 11, 12, 13, 14, 15, 16, 17, 18, 19, 20, 21, 22] (fun (i0, y0_0, y0_a0, y0_c0) => [(8, .int .i64 (i0 : Int)), (3, .slice y0_a0 y0_0.length y0_c0)]) (fun (i0, y0_0, y0_a0, y0_c0) => [OwnL Jl.enc y0_a0 54 3 y0_c0 y0_0, F]) (fun zz K1 => match zz with | (i0, y0_0, y0_a0, y0_c0) => (0 < y0_0.length → Has y0_a0) ∧ Jap (code.drop i0) i0 y0_0 = some s0) (fun zz => code.length - zz.1) (0, [], none, 0) rfl ⟨rfl, rfl, trivial⟩ (ConvH.of (.cons r0 (.cons r0 .nil))) ⟨(fun h => by simp at h), hl0⟩ ?_
 clear hl0
 rintro ⟨i0, y0_0, y0_a0, y0_c0⟩ Kb0 lk0 ⟨y0_h0, hl0⟩ j0
 refine cond_go rfl ?_
 refine cond_s (fun w0 => ?_) (fun w0 => ?_)
 obtain ⟨e0, hx0, hd0⟩ := ltx w0
 rw [hd0, Jap.eq_2] at hl0
 refine block_go rfl ?_
 refine RStep.ofN (index_addr rfl rfl (hasK (hp0_0.mono lk0).rd hx0) (nn _) (lt_ofN hx0) (RStep.of (load_rd_agg i0 _ (hp0_0.mono lk0).rd rfl (mp hx0) rfl ?_)))
 refine alloc_rule rfl ?_
 intro b5
 refine store_rule r0 rfl ?_
 refine ⟨rfl, rfl, (Nat.le_of_ble_eq_true rfl), ?_⟩
 refine Ja rfl (RStep.of (load1_s r0 rfl rfl (Ja rfl (RStep.of (load1_s r0 rfl rfl (Ja rfl (RStep.of (load1_s r0 rfl rfl ?_))))))))
 refine build_struct rfl rfl (cond_T (cond_T (cond_T ?_)))
 refine bsO (len := 1) (enc := Jl.enc) (l := [(⟨e0.Op, e0.N, e0.S⟩ : Jl)]) (cl := [.int .i64 e0.Op, .int .i64 e0.N, str e0.S]) elT38 rfl rfl (fun _ _ => rfl) rfl rfl rfl ?_ fun b20 => ?_
 · conv => whnf
   refine cond_T ?_
   first | done | rfl
 obtain ⟨h21, hl0⟩ := chkb hl0
 refine apE rfl r2 elT38 (src_own' rfl r0 rfl (fun _ => rfl) (fun _ => rfl)) h21 ?_
 intro a21 c21 o21
 refine int_in (cntz hx0 hk0) ?_
 refine RoundStep.mk (i0 + 1, (y0_0 ++ [(⟨e0.Op, e0.N, e0.S⟩ : Jl)]), a21, c21) ⟨rfl, rfl, trivial⟩ (by repeat (first | exact trivial | refine And.intro rfl ?_)) (ConvH.of (.cons r0 (.cons r2 .nil))) lk0 (ltm hx0) ⟨o21, hl0⟩
 rw [lty w0, Jap.eq_1] at hl0
 refine cond_T ?_
 refine MeetStep.mk (y0_0, y0_a0, y0_c0) ⟨rfl, trivial⟩ (by repeat (first | exact trivial | refine And.intro rfl ?_)) (ConvH.of (.cons r0 (.cons r0 .nil))) lk0 ⟨y0_h0, (si hl0)⟩
 rintro ⟨t0, t0_a0, t0_c0⟩ Kt0 lt0 ⟨t0_h0, rfl⟩ j0
 obtain rfl := si hm
 refine EndStep.mk _ lt0 ⟨t0_a0, t0_c0, rfl, t0_h0, rfl⟩ (ConvH.of (.cons r0 (.cons r0 .nil)))

noncomputable def J6 : List Jc → Nat → (List Jf) → Option ((List Jf))
  | [], _, y0_0 => some y0_0
  | e0 :: xs0, i0, y0_0 =>
    (chk (y0_0.length + [(⟨e0.Name, e0.Value⟩ : Jf)].length ≤ lim)).bind fun _ =>
    J6 xs0 (i0 + 1) (y0_0 ++ [(⟨e0.Name, e0.Value⟩ : Jf)])
noncomputable def Jbq (l : (List Jc)) : Option ((List Jf)) :=
  (chk (l.length ≤ szMax)).bind fun _ =>
  (J6 l 0 []).bind fun t0 =>
  some t0
set_option maxHeartbeats 8000000 in
theorem JcP {l : (List Jc)} {ap0_0 : Option Addr} {cp0_0 : Nat} {n0 : Nat} {K : Hp} {r : (List Jf)}
    (hm : Jbq l = some r) (hp0_0 : RdC Jc.enc K ap0_0 cp0_0 2 l) (en0 : n0 = l.length) :
    Fn Tryz.prog 34 [.slice ap0_0 n0 cp0_0] K [] (fun v K' H' => ∃ ar_0 : Option Addr, ∃ cr_0 : Nat, v = .slice ar_0 r.length cr_0 ∧ (0 < r.length → Has ar_0) ∧ H' = [OwnL Jf.enc ar_0 77 2 cr_0 r]) := by
 subst en0
 refine Fn.enter Tryz.func34 Tryz.call34 rfl fun F => ?_
 unfold Jbq at hm
 refine RStep.of (len_slice rfl ?_)
 obtain ⟨hk0, hm⟩ := chkb hm
 obtain ⟨s0, hl0, hm⟩ := bnd hm
 refine nilC Jf.enc 77 2 ?_
 refine code_cut (σ := ((List Jf)) × Option Addr × Nat) [3, 5, 8, 9, 10, 11, 12, 13, 14, 15, 16, 17, 18, 19, 20] (fun (t0, t0_a0, t0_c0) => [(3, .slice t0_a0 t0.length t0_c0)]) (fun (t0, t0_a0, t0_c0) => [OwnL Jf.enc t0_a0 77 2 t0_c0 t0, F]) (fun zz K1 => match zz with | (t0, t0_a0, t0_c0) => (0 < t0.length → Has t0_a0) ∧ t0 = s0) ?_ ?_
 refine block_go rfl ?_
 refine loop_rule (σ := Nat × (List Jf) × Option Addr × Nat) [3, 5, 8, 9, 10, 11, 12, 13, 14, 15, 16, 17, 18, 19, 20] (fun (i0, y0_0, y0_a0, y0_c0) => [(8, .int .i64 (i0 : Int)), (3, .slice y0_a0 y0_0.length y0_c0)]) (fun (i0, y0_0, y0_a0, y0_c0) => [OwnL Jf.enc y0_a0 77 2 y0_c0 y0_0, F]) (fun zz K1 => match zz with | (i0, y0_0, y0_a0, y0_c0) => (0 < y0_0.length → Has y0_a0) ∧ J6 (l.drop i0) i0 y0_0 = some s0) (fun zz => l.length - zz.1) (0, [], none, 0) rfl ⟨rfl, rfl, trivial⟩ (ConvH.of (.cons r0 (.cons r0 .nil))) ⟨(fun h => by simp at h), hl0⟩ ?_
 clear hl0
 rintro ⟨i0, y0_0, y0_a0, y0_c0⟩ Kb0 lk0 ⟨y0_h0, hl0⟩ j0
 refine cond_go rfl ?_
 refine cond_s (fun w0 => ?_) (fun w0 => ?_)
 obtain ⟨e0, hx0, hd0⟩ := ltx w0
 rw [hd0, J6.eq_2] at hl0
 refine block_go rfl ?_
 refine RStep.ofN (index_addr rfl rfl (hasK (hp0_0.mono lk0).rd hx0) (nn _) (lt_ofN hx0) (RStep.of (load_rd_agg i0 _ (hp0_0.mono lk0).rd rfl (mp hx0) rfl ?_)))
 refine alloc_rule rfl ?_
 intro b5
 refine store_rule r0 rfl ?_
 refine ⟨rfl, rfl, (Nat.le_of_ble_eq_true rfl), ?_⟩
 refine Ja rfl (RStep.of (load1_s r0 rfl rfl (Ja rfl (RStep.of (load1_s r0 rfl rfl (build_struct rfl rfl (cond_T ?_)))))))
 refine cond_T ?_
 refine bsO (len := 1) (enc := Jf.enc) (l := [(⟨e0.Name, e0.Value⟩ : Jf)]) (cl := [str e0.Name, str e0.Value]) elT30 rfl rfl (fun _ _ => rfl) rfl rfl rfl ?_ fun b18 => ?_
 · conv => whnf
   refine cond_T ?_
   first | done | rfl
 obtain ⟨h19, hl0⟩ := chkb hl0
 refine apE rfl r2 elT30 (src_own' rfl r0 rfl (fun _ => rfl) (fun _ => rfl)) h19 ?_
 intro a19 c19 o19
 refine int_in (cntz hx0 hk0) ?_
 refine RoundStep.mk (i0 + 1, (y0_0 ++ [(⟨e0.Name, e0.Value⟩ : Jf)]), a19, c19) ⟨rfl, rfl, trivial⟩ (by repeat (first | exact trivial | refine And.intro rfl ?_)) (ConvH.of (.cons r0 (.cons r2 .nil))) lk0 (ltm hx0) ⟨o19, hl0⟩
 rw [lty w0, J6.eq_1] at hl0
 refine cond_T ?_
 refine MeetStep.mk (y0_0, y0_a0, y0_c0) ⟨rfl, trivial⟩ (by repeat (first | exact trivial | refine And.intro rfl ?_)) (ConvH.of (.cons r0 (.cons r0 .nil))) lk0 ⟨y0_h0, (si hl0)⟩
 rintro ⟨t0, t0_a0, t0_c0⟩ Kt0 lt0 ⟨t0_h0, rfl⟩ j0
 obtain rfl := si hm
 refine EndStep.mk _ lt0 ⟨t0_a0, t0_c0, rfl, t0_h0, rfl⟩ (ConvH.of (.cons r0 (.cons r0 .nil)))

noncomputable def JbA (inZ : Jn) : Option (Ju) :=
  (Jbq inZ.Fields).bind fun x13 =>
  some (⟨inZ.Method, inZ.Host, inZ.Path, inZ.Query, x13⟩ : Ju)
set_option maxHeartbeats 8000000 in
theorem JcW {inZ : Jn} {ap0_0 : Option Addr} {cp0_0 : Nat} {K : Hp} {r : Ju}
    (hm : JbA inZ = some r) (hp0_0 : RdC Jc.enc K ap0_0 cp0_0 2 inZ.Fields) :
    Fn Tryz.prog 15 [.agg #[str inZ.Method, str inZ.Host, str inZ.Path, str inZ.Query, .slice ap0_0 inZ.Fields.length cp0_0]] K [] (fun v K' H' => ∃ ar_0 : Option Addr, ∃ cr_0 : Nat, v = .agg #[str r.Method, str r.Host, str r.Path, str r.Query, .slice ar_0 r.Fields.length cr_0] ∧ (0 < r.Fields.length → Has ar_0) ∧ H' = [OwnL Jf.enc ar_0 77 2 cr_0 r.Fields]) := by
 refine Fn.enter Tryz.func15 Tryz.call15 rfl fun F => ?_
 unfold JbA at hm
 refine box_rule ?_
 intro b1
 refine alloc_rule rfl ?_
 intro b2
 refine draw_go ⟨⟨[], false⟩, _, [(_, _)], []⟩ (by kernel_rfl) ⟨Hp.Le.refl _, (ConvH.of (.cons r1 .nil)), ci0⟩ ?_
 refine Ja rfl (load1_l m0 rfl rfl (Ja rfl (load1_l m0 rfl rfl (Ja rfl (load1_l m0 rfl rfl ?_)))))
 refine Ja rfl (load1_l m0 rfl rfl (Ja rfl (load1_l m0 rfl rfl ?_)))
 obtain ⟨x13, q13, hm⟩ := bnd hm
 refine call_fn (JcP q13 hp0_0 rfl) .nil ?_
 rintro _ K13 _ l13 ⟨a13_0, c13_0, rfl, h13_0, rfl⟩
 refine ⟨⟨l13, (ConvH.of (.cons r2 .nil)), ci0⟩, ?_⟩
 refine build_struct rfl rfl (cond_T (cond_T (cond_T (cond_T (cond_T ?_)))))
 refine store_rule r1 rfl ?_
 refine ⟨rfl, rfl, (Nat.le_of_ble_eq_true rfl), ?_⟩
 refine ⟨⟨l13, (ConvH.of (.cons r2 .nil)), ci0⟩, ?_⟩
 obtain rfl := si hm
 refine RStep.of (loadn_s r0 rfl (Nat.le_of_ble_eq_true rfl) ?_)
 refine EndStep.mk _ l13 ⟨a13_0, c13_0, rfl, h13_0, rfl⟩ (ConvH.of (.cons r1 (.cons r2 .nil)))

noncomputable def JI : List UInt8 → Nat → Option (Fl (Bool) (Unit))
  | [], _ => some (Fl.go ())
  | e0 :: xs0, i0 =>
    (if decide ((e0.toNat : Int) < 32) then some true else some (decide ((e0.toNat : Int) > 126))).bind fun x18 =>
    if x18 then
    some (Fl.ret false)
    else
    JI xs0 (i0 + 1)
noncomputable def JaC (s : Str) : Option (Bool) :=
  (chk (s.length ≤ szMax)).bind fun _ =>
  (JI s 0).bind fun s0 => s0.el some fun t0 =>
  some true
set_option maxHeartbeats 8000000 in
theorem JbH {s : Str} {K : Hp} {r : Bool}
    (hm : JaC s = some r)  :
    Fn Tryz.prog 115 [str s] K [] (fun v K' H' => v = .bool r ∧ H' = []) := by
 refine Fn.enter Tryz.func115 Tryz.call115 rfl fun F => ?_
 unfold JaC at hm
 refine RStep.of (len_str rfl ?_)
 obtain ⟨hk0, hm⟩ := chkb hm
 obtain ⟨s0, hl0, hm⟩ := bnd hm
 refine code_cut (σ := (Unit)) [2, 3, 6, 7, 8, 9, 10, 11, 12, 13, 14, 15, 16, 17, 18, 19] (fun t0 => []) (fun t0 => [F]) (fun zz K1 => match zz with | t0 => s0 = Fl.go t0) ?_ ?_
 refine block_go rfl ?_
 refine loop_rule (σ := Nat) [2, 3, 6, 7, 8, 9, 10, 11, 12, 13, 14, 15, 16, 17, 18, 19] (fun i0 => [(6, .int .i64 (i0 : Int))]) (fun i0 => [F]) (fun zz K1 => match zz with | i0 => JI (s.drop i0) i0 = some s0) (fun zz => s.length - zz) (0) rfl ⟨rfl, trivial⟩ (ConvH.of (.cons r0 .nil)) hl0 ?_
 clear hl0
 rintro i0 Kb0 lk0 hl0 j0
 conv at hl0 => whnf
 refine cond_go rfl ?_
 refine cond_s (fun w0 => ?_) (fun w0 => ?_)
 obtain ⟨e0, hx0, hd0⟩ := ltx w0
 rw [hd0, JI.eq_2] at hl0
 refine block_go rfl ?_
 refine guard_go rfl ?_
 refine idx_str rfl (nn _) hx0 ?_
 obtain ⟨x18, e18, hl0⟩ := bnd hl0
 refine cond_s (fun g13_4 => ?_) (fun g13_4 => ?_)
 replace e18 := ift g13_4 e18
 refine cond_t g13_4 (cond_t g13_4 (cond_t g13_4 (cond_t g13_4 (cond_go rfl (cond_T ?_)))))
 replace hl0 := ift (si e18).symm hl0
 obtain rfl := si hl0
 replace hm := elr hm
 obtain rfl := si hm
 refine EndStep.mk _ lk0 ⟨rfl, rfl⟩ (ConvH.of (.cons r0 .nil))
 replace e18 := iff_ g13_4 e18
 refine cond_f g13_4 (cond_f g13_4 (idx_str rfl (nn _) hx0 (cond_f g13_4 (cond_f g13_4 (cond_go rfl ?_)))))
 refine cond_s (fun w18 => ?_) (fun w18 => ?_)
 replace hl0 := ift ((si e18).symm.trans w18) hl0
 obtain rfl := si hl0
 replace hm := elr hm
 obtain rfl := si hm
 refine EndStep.mk _ lk0 ⟨rfl, rfl⟩ (ConvH.of (.cons r0 .nil))
 replace hl0 := iff_ ((si e18).symm.trans w18) hl0
 refine int_in (cntz hx0 hk0) ?_
 refine RoundStep.mk (i0 + 1) ⟨rfl, trivial⟩ (by repeat (first | exact trivial | refine And.intro rfl ?_)) (ConvH.of (.cons r0 .nil)) lk0 (ltm hx0) hl0
 rw [lty w0, JI.eq_1] at hl0
 refine cond_T ?_
 refine MeetStep.mk (()) trivial (by repeat (first | exact trivial | refine And.intro rfl ?_)) (ConvH.of (.cons r0 .nil)) lk0 (si hl0).symm
 rintro t0 Kt0 lt0 rfl j0
 replace hm := elg hm
 obtain rfl := si hm
 refine EndStep.mk _ lt0 ⟨rfl, rfl⟩ (ConvH.of (.cons r0 .nil))

noncomputable def JaD (s : Str) : Option (Bool) :=
  some (((decide (s = ([109, 101, 116, 104, 111, 100] : Str)) || decide (s = ([104, 111, 115, 116] : Str))) || decide (s = ([112, 97, 116, 104] : Str))) || decide (s = ([113, 117, 101, 114, 121] : Str)))
set_option maxHeartbeats 8000000 in
theorem Jci {s : Str} {K : Hp} {r : Bool}
    (hm : JaD s = some r)  :
    Fn Tryz.prog 116 [str s] K [] (fun v K' H' => v = .bool r ∧ H' = []) := by
 refine Fn.enter Tryz.func116 Tryz.call116 rfl fun F => ?_
 unfold JaD at hm
 refine guard_go rfl ?_
 refine eq_str ?_
 refine cond_s (fun g5_1 => ?_) (fun g5_1 => ?_)
 refine cond_t g5_1 (cond_t g5_1 (cond_T (cond_T (cond_T (cond_T ?_)))))
 refine cond_T (cond_T ?_)
 obtain rfl := si hm
 refine EndStep.mk _ (Hp.Le.refl _) ⟨(by rw [← ((or_t (or_t (or_t g5_1)))).symm] <;> rfl), rfl⟩ (ConvH.of (.cons r0 .nil))
 refine cond_f g5_1 (eq_str (cond_f g5_1 ?_))
 refine cond_s (fun g9_1 => ?_) (fun g9_1 => ?_)
 refine cond_t g9_1 (cond_t g9_1 (cond_T (cond_T (cond_T ?_))))
 obtain rfl := si hm
 refine EndStep.mk _ (Hp.Le.refl _) ⟨(by rw [← ((or_t (or_t (or_u g5_1 g9_1)))).symm] <;> rfl), rfl⟩ (ConvH.of (.cons r0 .nil))
 refine cond_f g9_1 (eq_str (cond_f g9_1 ?_))
 refine cond_s (fun g13_1 => ?_) (fun g13_1 => ?_)
 refine cond_t g13_1 (cond_t g13_1 ?_)
 obtain rfl := si hm
 refine EndStep.mk _ (Hp.Le.refl _) ⟨(by rw [← ((or_t (or_u (or_f g5_1 g9_1) g13_1))).symm] <;> rfl), rfl⟩ (ConvH.of (.cons r0 .nil))
 refine cond_f g13_1 (eq_str (cond_f g13_1 ?_))
 obtain rfl := si hm
 refine EndStep.mk _ (Hp.Le.refl _) ⟨(by rw [← (or_e (b := decide (s = ([113, 117, 101, 114, 121] : Str))) (or_f (or_f g5_1 g9_1) g13_1))] <;> rfl), rfl⟩ (ConvH.of (.cons r0 .nil))

noncomputable def Ja0 (s : Str) : Option (Int × Int × Bool) :=
  if decide (s = ([104, 101, 97, 100, 101, 114] : Str)) then
  some (1, 1, true)
  else
  if decide (s = ([97, 114, 103] : Str)) then
  some (1, 1, true)
  else
  if decide (s = ([108, 111, 119, 101, 114] : Str)) then
  some (1, 1, true)
  else
  if decide (s = ([104, 97, 115] : Str)) then
  some (1, 3, true)
  else
  if decide (s = ([108, 101, 110] : Str)) then
  some (1, 2, true)
  else
  if decide (s = ([110, 117, 109, 98, 101, 114] : Str)) then
  some (1, 2, true)
  else
  if decide (s = ([112, 97, 114, 116] : Str)) then
  some (2, 1, true)
  else
  if decide (s = ([116, 101, 120, 116] : Str)) then
  some (2, 1, true)
  else
  some (0, 0, false)
set_option maxHeartbeats 8000000 in
theorem Jcw {s : Str} {K : Hp} {r : Int × Int × Bool}
    (hm : Ja0 s = some r)  :
    Fn Tryz.prog 117 [str s] K [] (fun v K' H' => v = .tuple #[.int .i64 r.1, .int .i64 r.2.1, .bool r.2.2] ∧ H' = []) := by
 refine Fn.enter Tryz.func117 Tryz.call117 rfl fun F => ?_
 unfold Ja0 at hm
 refine block_go rfl ?_
 refine eq_str ?_
 refine cs rfl rfl hm (fun w6 hm => ?_) fun w6 hm => ?_
 refine cond_go rfl (cond_t w6 ?_)
 obtain rfl := si hm
 refine EndStep.mk _ (Hp.Le.refl _) ⟨rfl, rfl⟩ (ConvH.of (.cons r0 .nil))
 refine eq_str ?_
 refine cs rfl rfl hm (fun w6 hm => ?_) fun w6 hm => ?_
 refine cond_go rfl (cond_t w6 ?_)
 obtain rfl := si hm
 refine EndStep.mk _ (Hp.Le.refl _) ⟨rfl, rfl⟩ (ConvH.of (.cons r0 .nil))
 refine eq_str ?_
 refine cs rfl rfl hm (fun w6 hm => ?_) fun w6 hm => ?_
 obtain rfl := si hm
 refine EndStep.mk _ (Hp.Le.refl _) ⟨rfl, rfl⟩ (ConvH.of (.cons r0 .nil))
 refine eq_str ?_
 refine cs rfl rfl hm (fun w10 hm => ?_) fun w10 hm => ?_
 obtain rfl := si hm
 refine EndStep.mk _ (Hp.Le.refl _) ⟨rfl, rfl⟩ (ConvH.of (.cons r0 .nil))
 refine eq_str ?_
 refine cs rfl rfl hm (fun w12 hm => ?_) fun w12 hm => ?_
 refine cond_go rfl (cond_t w12 ?_)
 obtain rfl := si hm
 refine EndStep.mk _ (Hp.Le.refl _) ⟨rfl, rfl⟩ (ConvH.of (.cons r0 .nil))
 refine eq_str ?_
 refine cs rfl rfl hm (fun w12 hm => ?_) fun w12 hm => ?_
 obtain rfl := si hm
 refine EndStep.mk _ (Hp.Le.refl _) ⟨rfl, rfl⟩ (ConvH.of (.cons r0 .nil))
 refine eq_str ?_
 refine cs rfl rfl hm (fun w15 hm => ?_) fun w15 hm => ?_
 refine cond_go rfl (cond_t w15 ?_)
 obtain rfl := si hm
 refine EndStep.mk _ (Hp.Le.refl _) ⟨rfl, rfl⟩ (ConvH.of (.cons r0 .nil))
 refine eq_str ?_
 refine cs rfl rfl hm (fun w15 hm => ?_) fun w15 hm => ?_
 obtain rfl := si hm
 refine EndStep.mk _ (Hp.Le.refl _) ⟨rfl, rfl⟩ (ConvH.of (.cons r0 .nil))
 obtain rfl := si hm
 refine EndStep.mk _ (Hp.Le.refl _) ⟨rfl, rfl⟩ (ConvH.of (.cons r0 .nil))

noncomputable def JaE (s : Str) : List Str → Nat → Option (Fl (Bool) (Unit))
  | [], _ => some (Fl.go ())
  | e0 :: xs0, i0 =>
    if decide (e0 = s) then
    some (Fl.ret true)
    else
    JaE s xs0 (i0 + 1)
noncomputable def Ja1 (s : Str) (list : (List Str)) : Option (Bool) :=
  (chk (list.length ≤ szMax)).bind fun _ =>
  (JaE s list 0).bind fun s0 => s0.el some fun t0 =>
  some false
set_option maxHeartbeats 8000000 in
theorem Jb9 {s : Str} {list : (List Str)} {ap1_0 : Option Addr} {cp1_0 : Nat} {n1 : Nat} {K : Hp} {r : Bool}
    (hm : Ja1 s list = some r) (hp1_0 : RdC eS K ap1_0 cp1_0 1 list) (en1 : n1 = list.length) :
    Fn Tryz.prog 118 [str s, .slice ap1_0 n1 cp1_0] K [] (fun v K' H' => v = .bool r ∧ H' = []) := by
 subst en1
 refine Fn.enter Tryz.func118 Tryz.call118 rfl fun F => ?_
 unfold Ja1 at hm
 refine RStep.of (len_slice rfl ?_)
 obtain ⟨hk0, hm⟩ := chkb hm
 obtain ⟨s0, hl0, hm⟩ := bnd hm
 refine code_cut (σ := (Unit)) [4, 6, 9, 10, 11, 12, 13, 14, 15, 16] (fun t0 => []) (fun t0 => [F]) (fun zz K1 => match zz with | t0 => s0 = Fl.go t0) ?_ ?_
 refine block_go rfl ?_
 refine loop_rule (σ := Nat) [4, 6, 9, 10, 11, 12, 13, 14, 15, 16] (fun i0 => [(9, .int .i64 (i0 : Int))]) (fun i0 => [F]) (fun zz K1 => match zz with | i0 => JaE s (list.drop i0) i0 = some s0) (fun zz => list.length - zz) (0) rfl ⟨rfl, trivial⟩ (ConvH.of (.cons r0 .nil)) hl0 ?_
 clear hl0
 rintro i0 Kb0 lk0 hl0 j0
 conv at hl0 => whnf
 refine cond_go rfl ?_
 refine cond_s (fun w0 => ?_) (fun w0 => ?_)
 obtain ⟨e0, hx0, hd0⟩ := ltx w0
 rw [hd0, JaE.eq_2] at hl0
 refine block_go rfl ?_
 refine RStep.ofN (index_addr rfl rfl (hasK (hp1_0.mono lk0).rd hx0) (nn _) (lt_ofN hx0) (RStep.of (load_rd i0 0 _ _ (hp1_0.mono lk0).rd rfl (mp hx0) rfl rfl (eq_str ?_))))
 refine cs rfl rfl hl0 (fun w15 hl0 => ?_) fun w15 hl0 => ?_
 obtain rfl := si hl0
 replace hm := elr hm
 obtain rfl := si hm
 refine EndStep.mk _ lk0 ⟨rfl, rfl⟩ (ConvH.of (.cons r0 .nil))
 refine int_in (cntz hx0 hk0) ?_
 refine RoundStep.mk (i0 + 1) ⟨rfl, trivial⟩ (by repeat (first | exact trivial | refine And.intro rfl ?_)) (ConvH.of (.cons r0 .nil)) lk0 (ltm hx0) hl0
 rw [lty w0, JaE.eq_1] at hl0
 refine cond_T ?_
 refine MeetStep.mk (()) trivial (by repeat (first | exact trivial | refine And.intro rfl ?_)) (ConvH.of (.cons r0 .nil)) lk0 (si hl0).symm
 rintro t0 Kt0 lt0 rfl j0
 replace hm := elg hm
 obtain rfl := si hm
 refine EndStep.mk _ lt0 ⟨rfl, rfl⟩ (ConvH.of (.cons r0 .nil))

noncomputable def JaF (s : Str) (word : Str) : Option (Bool) :=
  (if decide ((s.length : Int) ≥ (word.length : Int)) then (chk (0 ≤ (0 : Int) ∧ (0 : Int) ≤ (word.length : Int) ∧ (word.length : Int) ≤ (s.length : Int))).bind fun _ =>
  some (decide ((subL s (0 : Int) (word.length : Int)) = word)) else some false).bind fun x17 =>
  (if x17 then (JaC s).bind fun x20 =>
  some x20 else some false).bind fun x21 =>
  some x21
set_option maxHeartbeats 8000000 in
theorem Jca {s : Str} {word : Str} {K : Hp} {r : Bool}
    (hm : JaF s word = some r)  :
    Fn Tryz.prog 119 [str s, str word] K [] (fun v K' H' => v = .bool r ∧ H' = []) := by
 refine Fn.enter Tryz.func119 Tryz.call119 rfl fun F => ?_
 unfold JaF at hm
 refine guard_go rfl ?_
 refine RStep.of (len_str rfl (RStep.of (len_str rfl ?_)))
 obtain ⟨x17, e17, hm⟩ := bnd hm
 refine cond_s (fun g10_1 => ?_) (fun g10_1 => ?_)
 replace e17 := ift g10_1 e17
 refine cond_t g10_1 (cond_t g10_1 (RStep.of (len_str rfl (cond_t g10_1 ?_))))
 obtain ⟨h14, e17⟩ := chkb e17
 refine RStep.ofN (sl_str (lo := none) (hi := (some (word.length : Int))) rfl h14 (cond_t g10_1 (cond_t g10_1 (eq_str (cond_t g10_1 ?_)))))
 obtain ⟨x21, e21, hm⟩ := bnd hm
 refine cond_s (fun g18_1 => ?_) (fun g18_1 => ?_)
 replace e21 := ift ((si e17).symm.trans g18_1) e21
 refine cond_t g18_1 ?_
 obtain ⟨x20, q20, e21⟩ := bnd e21
 refine call_fn (JbH (s := s) q20) .nil ?_
 rintro _ K20 _ l20 ⟨rfl, rfl⟩
 refine cond_t g18_1 ?_
 obtain rfl := si hm
 refine EndStep.mk _ l20 ⟨(by rw [← (si e21)] <;> rfl), rfl⟩ (ConvH.of (.cons r0 .nil))
 replace e21 := iff_ ((si e17).symm.trans g18_1) e21
 refine cond_f g18_1 (cond_f g18_1 ?_)
 obtain rfl := si hm
 refine EndStep.mk _ (Hp.Le.refl _) ⟨(by rw [← ((si e21).symm).symm] <;> rfl), rfl⟩ (ConvH.of (.cons r0 .nil))
 replace e17 := iff_ g10_1 e17
 refine cond_f g10_1 (cond_f g10_1 (cond_f g10_1 (cond_f g10_1 (cond_f g10_1 (cond_f g10_1 ?_)))))
 obtain ⟨x21, e21, hm⟩ := bnd hm
 replace e21 := iff_ (si e17).symm e21
 refine cond_F (cond_F (cond_F ?_))
 obtain rfl := si hm
 refine EndStep.mk _ (Hp.Le.refl _) ⟨(by rw [← ((si e21).symm).symm] <;> rfl), rfl⟩ (ConvH.of (.cons r0 .nil))

noncomputable def JaR (x : Jm) : Option (Int × Int × Bool) :=
  if decide (x.Op = 1) then
  some (0, 1, ((decide (x.S = ([] : Str)) && decide (x.N ≥ 0)) && decide (x.N ≤ 999999999)))
  else
  if decide (x.Op = 2) then
  (if decide (x.N = 0) then (JaC x.S).bind fun x49 =>
  some x49 else some false).bind fun x50 =>
  some (0, 1, x50)
  else
  if decide (x.Op = 3) then
  some (0, 1, ((decide (x.S = ([] : Str)) && decide (x.N ≥ 0)) && decide (x.N < 512)))
  else
  if decide (x.Op = 4) then
  some (1, 0, ((decide (x.S = ([] : Str)) && decide (x.N ≥ 0)) && decide (x.N < 512)))
  else
  if decide (x.Op = 5) then
  (if decide (x.N = 0) then (JaD x.S).bind fun x63 =>
  some x63 else some false).bind fun x64 =>
  some (0, 1, x64)
  else
  if decide (x.Op = 6) then
  (Ja0 x.S).bind fun x70 =>
  some (1, 1, (decide (x.N = 0) && x70.2.2))
  else
  if decide (x.Op = 7) then
  (if decide (x.N = 0) then (Ja1 x.S ([([43] : Str), ([45] : Str), ([42] : Str), ([61, 61] : Str), ([33, 61] : Str), ([60] : Str), ([60, 61] : Str), ([115, 116, 97, 114, 116, 115] : Str), ([101, 110, 100, 115] : Str), ([99, 111, 110, 116, 97, 105, 110, 115] : Str)])).bind fun x85 =>
  some x85 else some false).bind fun x86 =>
  some (2, 1, x86)
  else
  if decide (x.Op = 8) then
  some (1, 1, (decide (x.S = ([] : Str)) && decide (x.N = 0)))
  else
  if decide (x.Op = 9) then
  some (0, 0, decide (x.S = ([] : Str)))
  else
  if decide (x.Op = 10) then
  some (1, 0, decide (x.S = ([] : Str)))
  else
  if decide (x.Op = 11) then
  (Ja1 x.S ([([112, 97, 115, 115] : Str), ([116, 111, 107, 101, 110] : Str)])).bind fun x104 =>
  (if x104 then some true else (JaF x.S ([118, 97, 114, 121, 58] : Str)).bind fun x108 =>
  some x108).bind fun x109 =>
  if x109 then
  some (0, 0, decide (x.N = 0))
  else
  if decide (x.N = 0) then
  (Ja1 x.S ([([112, 97, 116, 104] : Str), ([113, 117, 101, 114, 121] : Str), ([116, 97, 103] : Str), ([116, 116, 108] : Str), ([100, 101, 110, 121] : Str)])).bind fun x116 =>
  (if x116 then some true else (JaF x.S ([104, 101, 97, 100, 101, 114, 58] : Str)).bind fun x120 =>
  some x120).bind fun x121 =>
  some (1, 0, x121)
  else
  some (1, 0, false)
  else
  if decide (x.Op = 12) then
  some (0, 0, (decide (x.S = ([] : Str)) && decide (x.N = 0)))
  else
  some (0, 0, false)
set_option maxHeartbeats 8000000 in
theorem Jcb {x : Jm} {K : Hp} {r : Int × Int × Bool}
    (hm : JaR x = some r)  :
    Fn Tryz.prog 71 [.agg #[.int .i64 x.Op, .int .i64 x.N, str x.S]] K [] (fun v K' H' => v = .tuple #[.int .i64 r.1, .int .i64 r.2.1, .bool r.2.2] ∧ H' = []) := by
 refine Fn.enter Tryz.func71 Tryz.call71 rfl fun F => ?_
 unfold JaR at hm
 refine box_rule ?_
 intro b1
 refine Ja rfl (RStep.of (load1_s r0 rfl rfl (eq_str (Ja rfl (RStep.of (load1_s r0 rfl rfl (eq_int ?_)))))))
 refine code_cut (σ := Unit) [7, 17, 18, 19, 20, 21, 22, 23, 24, 25, 26, 27] (fun _ => [(7, .bool ((decide (x.S = ([] : Str)) && decide (x.N ≥ 0)) && decide (x.N < 512)))]) (fun _ => [Cells b1 89 [.int .i64 x.Op, .int .i64 x.N, str x.S], F]) (fun t901 K1 => K1 = K) ?_ ?_
 refine guard_go rfl ?_
 refine cond_s (fun g18_3 => ?_) (fun g18_3 => ?_)
 refine Ja rfl (cond_t g18_3 (RStep.of (load1_s r0 rfl rfl (cond_t g18_3 (cond_t g18_3 ?_)))))
 refine cond_s (fun g23_3 => ?_) (fun g23_3 => ?_)
 refine Ja rfl (cond_t g23_3 (RStep.of (load1_s r0 rfl rfl (cond_t g23_3 (cond_t g23_3 ?_)))))
 refine MeetStep.mk (()) ⟨(by rw [← (and_e (b := decide (x.N < 512)) (and_t g18_3 g23_3))] <;> rfl), trivial⟩ (by repeat (first | exact trivial | refine And.intro rfl ?_)) (ConvH.of (.cons r0 (.cons r0 .nil))) (Hp.Le.refl _) rfl
 refine cond_f g23_3 (cond_f g23_3 (cond_f g23_3 ?_))
 refine MeetStep.mk (()) ⟨(by rw [← ((and_f (and_g g18_3 g23_3))).symm] <;> rfl), trivial⟩ (by repeat (first | exact trivial | refine And.intro rfl ?_)) (ConvH.of (.cons r0 (.cons r0 .nil))) (Hp.Le.refl _) rfl
 refine cond_f g18_3 (cond_f g18_3 (cond_f g18_3 (cond_F (cond_F (cond_F ?_)))))
 refine cond_F ?_
 refine MeetStep.mk (()) ⟨(by rw [← ((and_f (and_f g18_3))).symm] <;> rfl), trivial⟩ (by repeat (first | exact trivial | refine And.intro rfl ?_)) (ConvH.of (.cons r0 (.cons r0 .nil))) (Hp.Le.refl _) rfl
 rintro _ _ _ rfl j901
 refine Ja rfl (RStep.of (load1_s r0 rfl rfl ?_))
 refine block_go rfl ?_
 refine eq_int ?_
 refine cs rfl rfl hm (fun w30 hm => ?_) fun w30 hm => ?_
 refine draw_go ⟨⟨[], false⟩, _, [(_, _)], []⟩ (by kernel_rfl) ⟨Hp.Le.refl _, (ConvH.of (.cons r0 .nil)), ci0⟩ ?_
 refine cond_s (fun g33_6 => ?_) (fun g33_6 => ?_)
 refine Ja rfl (cond_t g33_6 (load1_l m0 rfl rfl (cond_t g33_6 (cond_t g33_6 ?_))))
 refine cond_s (fun g38_6 => ?_) (fun g38_6 => ?_)
 refine Ja rfl (cond_t g38_6 (load1_l m0 rfl rfl (cond_t g38_6 (cond_t g38_6 ?_))))
 obtain rfl := si hm
 refine EndStep.mk _ (Hp.Le.refl _) ⟨(by rw [← (and_e (b := decide (x.N ≤ 999999999)) (and_t g33_6 g38_6))] <;> rfl), rfl⟩ (ConvH.of (.cons r1 .nil))
 refine cond_f g38_6 (cond_f g38_6 (cond_f g38_6 ?_))
 obtain rfl := si hm
 refine EndStep.mk _ (Hp.Le.refl _) ⟨(by rw [← ((and_f (and_g g33_6 g38_6))).symm] <;> rfl), rfl⟩ (ConvH.of (.cons r1 .nil))
 refine cond_f g33_6 (cond_f g33_6 (cond_f g33_6 (cond_F (cond_F (cond_F ?_)))))
 refine cond_F ?_
 obtain rfl := si hm
 refine EndStep.mk _ (Hp.Le.refl _) ⟨(by rw [← ((and_f (and_f g33_6))).symm] <;> rfl), rfl⟩ (ConvH.of (.cons r1 .nil))
 refine eq_int ?_
 refine cs rfl rfl hm (fun w43 hm => ?_) fun w43 hm => ?_
 refine guard_go rfl ?_
 obtain ⟨x50, e50, hm⟩ := bnd hm
 refine cond_s (fun g46_8 => ?_) (fun g46_8 => ?_)
 replace e50 := ift g46_8 e50
 refine Ja rfl (cond_t g46_8 (RStep.of (load1_s r0 rfl rfl (cond_t g46_8 ?_))))
 obtain ⟨x49, q49, e50⟩ := bnd e50
 refine call_fn (JbH (s := x.S) q49) .nil ?_
 rintro _ K49 _ l49 ⟨rfl, rfl⟩
 refine cond_t g46_8 ?_
 obtain rfl := si hm
 refine EndStep.mk _ l49 ⟨(by rw [← (si e50)] <;> rfl), rfl⟩ (ConvH.of (.cons r1 .nil))
 replace e50 := iff_ g46_8 e50
 refine cond_f g46_8 (cond_f g46_8 (cond_f g46_8 ?_))
 obtain rfl := si hm
 refine EndStep.mk _ (Hp.Le.refl _) ⟨(by rw [← ((si e50).symm).symm] <;> rfl), rfl⟩ (ConvH.of (.cons r1 .nil))
 refine eq_int ?_
 refine cs rfl rfl hm (fun w51 hm => ?_) fun w51 hm => ?_
 obtain rfl := si hm
 refine EndStep.mk _ (Hp.Le.refl _) ⟨rfl, rfl⟩ (ConvH.of (.cons r1 .nil))
 refine eq_int ?_
 refine cs rfl rfl hm (fun w54 hm => ?_) fun w54 hm => ?_
 obtain rfl := si hm
 refine EndStep.mk _ (Hp.Le.refl _) ⟨rfl, rfl⟩ (ConvH.of (.cons r1 .nil))
 refine eq_int ?_
 refine cs rfl rfl hm (fun w57 hm => ?_) fun w57 hm => ?_
 refine guard_go rfl ?_
 obtain ⟨x64, e64, hm⟩ := bnd hm
 refine cond_s (fun g60_14 => ?_) (fun g60_14 => ?_)
 replace e64 := ift g60_14 e64
 refine Ja rfl (cond_t g60_14 (RStep.of (load1_s r0 rfl rfl (cond_t g60_14 ?_))))
 obtain ⟨x63, q63, e64⟩ := bnd e64
 refine call_fn (Jci (s := x.S) q63) .nil ?_
 rintro _ K63 _ l63 ⟨rfl, rfl⟩
 refine cond_t g60_14 ?_
 obtain rfl := si hm
 refine EndStep.mk _ l63 ⟨(by rw [← (si e64)] <;> rfl), rfl⟩ (ConvH.of (.cons r1 .nil))
 replace e64 := iff_ g60_14 e64
 refine cond_f g60_14 (cond_f g60_14 (cond_f g60_14 ?_))
 obtain rfl := si hm
 refine EndStep.mk _ (Hp.Le.refl _) ⟨(by rw [← ((si e64).symm).symm] <;> rfl), rfl⟩ (ConvH.of (.cons r1 .nil))
 refine eq_int ?_
 refine cs rfl rfl hm (fun w65 hm => ?_) fun w65 hm => ?_
 refine Ja rfl (RStep.of (load1_s r0 rfl rfl ?_))
 obtain ⟨x70, q70, hm⟩ := bnd hm
 refine call_fn (Jcw (s := x.S) q70) .nil ?_
 rintro _ K70 _ l70 ⟨rfl, rfl⟩
 refine guard_go rfl ?_
 refine cond_s (fun g75_17 => ?_) (fun g75_17 => ?_)
 refine cond_t g75_17 ?_
 obtain rfl := si hm
 refine EndStep.mk _ l70 ⟨(by rw [← (and_e (b := x70.2.2) g75_17)] <;> rfl), rfl⟩ (ConvH.of (.cons r1 .nil))
 refine cond_f g75_17 ?_
 obtain rfl := si hm
 refine EndStep.mk _ l70 ⟨(by rw [← ((and_f g75_17)).symm] <;> rfl), rfl⟩ (ConvH.of (.cons r1 .nil))
 refine eq_int ?_
 refine cs rfl rfl hm (fun w78 hm => ?_) fun w78 hm => ?_
 refine guard_go rfl ?_
 obtain ⟨x86, e86, hm⟩ := bnd hm
 refine cond_s (fun g81_19 => ?_) (fun g81_19 => ?_)
 replace e86 := ift g81_19 e86
 refine Ja rfl (cond_t g81_19 (RStep.of (load1_s r0 rfl rfl (cond_t g81_19 ?_))))
 refine bsO (len := 10) (enc := eS) (l := [([43] : Str), ([45] : Str), ([42] : Str), ([61, 61] : Str), ([33, 61] : Str), ([60] : Str), ([60, 61] : Str), ([115, 116, 97, 114, 116, 115] : Str), ([101, 110, 100, 115] : Str), ([99, 111, 110, 116, 97, 105, 110, 115] : Str)]) (cl := [str ([43] : Str), str ([45] : Str), str ([42] : Str), str ([61, 61] : Str), str ([33, 61] : Str), str ([60] : Str), str ([60, 61] : Str), str ([115, 116, 97, 114, 116, 115] : Str), str ([101, 110, 100, 115] : Str), str ([99, 111, 110, 116, 97, 105, 110, 115] : Str)]) elT31 rfl rfl (fun _ _ => rfl) rfl rfl rfl ?_ fun b84 => ?_
 · conv => whnf
   refine cond_T (cond_T (cond_T (cond_T (cond_T (cond_T ?_)))))
   refine cond_T (cond_T (cond_T (cond_T ?_)))
   first | done | rfl
 refine cond_t g81_19 ?_
 obtain ⟨x85, q85, e86⟩ := bnd e86
 refine call_fn (Fn.lend Tryz.call118 (fun K85_1 l85_1 f85_1 => (Jb9 (s := x.S) q85 f85_1 rfl)) (by exact fun _ _ _ _ h => h)) (.cons r0 .nil) ?_
 rintro _ K85 _ l85 ⟨_, rfl, rfl, rfl⟩
 refine cond_t g81_19 ?_
 obtain rfl := si hm
 refine EndStep.mk _ l85 ⟨(by rw [← (si e86)] <;> rfl), rfl⟩ (ConvH.of (.cons r2 .nil))
 replace e86 := iff_ g81_19 e86
 refine cond_f g81_19 (cond_f g81_19 (cond_f g81_19 (cond_f g81_19 ?_)))
 obtain rfl := si hm
 refine EndStep.mk _ (Hp.Le.refl _) ⟨(by rw [← ((si e86).symm).symm] <;> rfl), rfl⟩ (ConvH.of (.cons r1 .nil))
 refine eq_int ?_
 refine cs rfl rfl hm (fun w87 hm => ?_) fun w87 hm => ?_
 refine guard_go rfl ?_
 refine cond_s (fun g90_21 => ?_) (fun g90_21 => ?_)
 refine cond_t g90_21 ?_
 obtain rfl := si hm
 refine EndStep.mk _ (Hp.Le.refl _) ⟨(by rw [← (and_e (b := decide (x.N = 0)) g90_21)] <;> rfl), rfl⟩ (ConvH.of (.cons r1 .nil))
 refine cond_f g90_21 ?_
 obtain rfl := si hm
 refine EndStep.mk _ (Hp.Le.refl _) ⟨(by rw [← ((and_f g90_21)).symm] <;> rfl), rfl⟩ (ConvH.of (.cons r1 .nil))
 refine eq_int ?_
 refine cs rfl rfl hm (fun w93 hm => ?_) fun w93 hm => ?_
 obtain rfl := si hm
 refine EndStep.mk _ (Hp.Le.refl _) ⟨rfl, rfl⟩ (ConvH.of (.cons r1 .nil))
 refine eq_int ?_
 refine cs rfl rfl hm (fun w96 hm => ?_) fun w96 hm => ?_
 obtain rfl := si hm
 refine EndStep.mk _ (Hp.Le.refl _) ⟨rfl, rfl⟩ (ConvH.of (.cons r1 .nil))
 refine eq_int ?_
 refine cs rfl rfl hm (fun w99 hm => ?_) fun w99 hm => ?_
 refine guard_go rfl ?_
 refine Ja rfl (RStep.of (load1_s r0 rfl rfl ?_))
 refine bsO (len := 2) (enc := eS) (l := [([112, 97, 115, 115] : Str), ([116, 111, 107, 101, 110] : Str)]) (cl := [str ([112, 97, 115, 115] : Str), str ([116, 111, 107, 101, 110] : Str)]) elT31 rfl rfl (fun _ _ => rfl) rfl rfl rfl ?_ fun b103 => ?_
 · conv => whnf
   refine cond_T (cond_T ?_)
   first | done | rfl
 obtain ⟨x104, q104, hm⟩ := bnd hm
 refine call_fn (Fn.lend Tryz.call118 (fun K104_1 l104_1 f104_1 => (Jb9 (s := x.S) q104 f104_1 rfl)) (by exact fun _ _ _ _ h => h)) (.cons r0 .nil) ?_
 rintro _ K104 _ l104 ⟨_, rfl, rfl, rfl⟩
 obtain ⟨x109, e109, hm⟩ := bnd hm
 refine cond_s (fun g105_27 => ?_) (fun g105_27 => ?_)
 replace e109 := ift g105_27 e109
 refine cond_t g105_27 (cond_t g105_27 (cond_t g105_27 (cond_go rfl (cond_T ?_))))
 replace hm := ift (si e109).symm hm
 obtain rfl := si hm
 refine EndStep.mk _ l104 ⟨rfl, rfl⟩ (ConvH.of (.cons r2 .nil))
 replace e109 := iff_ g105_27 e109
 refine Ja rfl (cond_f g105_27 (RStep.of (load1_s r1 rfl rfl (cond_f g105_27 ?_))))
 obtain ⟨x108, q108, e109⟩ := bnd e109
 refine call_fn (Jca (s := x.S) (word := ([118, 97, 114, 121, 58] : Str)) q108) .nil ?_
 rintro _ K108 _ l108 ⟨rfl, rfl⟩
 refine cond_f g105_27 (cond_go rfl ?_)
 refine cond_s (fun w109 => ?_) (fun w109 => ?_)
 replace hm := ift ((si e109).symm.trans w109) hm
 obtain rfl := si hm
 refine EndStep.mk _ (l104.trans l108) ⟨rfl, rfl⟩ (ConvH.of (.cons r2 .nil))
 replace hm := iff_ ((si e109).symm.trans w109) hm
 refine guard_go rfl ?_
 refine cond_s (fun g112_29 => ?_) (fun g112_29 => ?_)
 replace hm := ift g112_29 hm
 refine Ja rfl (cond_t g112_29 (RStep.of (load1_s r1 rfl rfl (cond_t g112_29 ?_))))
 refine bsO (len := 5) (enc := eS) (l := [([112, 97, 116, 104] : Str), ([113, 117, 101, 114, 121] : Str), ([116, 97, 103] : Str), ([116, 116, 108] : Str), ([100, 101, 110, 121] : Str)]) (cl := [str ([112, 97, 116, 104] : Str), str ([113, 117, 101, 114, 121] : Str), str ([116, 97, 103] : Str), str ([116, 116, 108] : Str), str ([100, 101, 110, 121] : Str)]) elT31 rfl rfl (fun _ _ => rfl) rfl rfl rfl ?_ fun b115 => ?_
 · conv => whnf
   refine cond_T (cond_T (cond_T (cond_T (cond_T ?_))))
   first | done | rfl
 refine cond_t g112_29 ?_
 obtain ⟨x116, q116, hm⟩ := bnd hm
 refine call_fn (Fn.lend Tryz.call118 (fun K116_1 l116_1 f116_1 => (Jb9 (s := x.S) q116 f116_1 rfl)) (by exact fun _ _ _ _ h => h)) (.cons r0 .nil) ?_
 rintro _ K116 _ l116 ⟨_, rfl, rfl, rfl⟩
 refine cond_t g112_29 ?_
 obtain ⟨x121, e121, hm⟩ := bnd hm
 refine cond_s (fun g117_29 => ?_) (fun g117_29 => ?_)
 replace e121 := ift g117_29 e121
 refine cond_t g117_29 (cond_t g117_29 (cond_t g112_29 (cond_t g117_29 (cond_t g112_29 ?_))))
 obtain rfl := si hm
 refine EndStep.mk _ ((l104.trans l108).trans l116) ⟨(by rw [← ((si e121).symm).symm] <;> rfl), rfl⟩ (ConvH.of (.cons r3 .nil))
 replace e121 := iff_ g117_29 e121
 refine Ja rfl (cond_f g117_29 (RStep.of (load1_s r2 rfl rfl (cond_f g117_29 ?_))))
 obtain ⟨x120, q120, e121⟩ := bnd e121
 refine call_fn (Jca (s := x.S) (word := ([104, 101, 97, 100, 101, 114, 58] : Str)) q120) .nil ?_
 rintro _ K120 _ l120 ⟨rfl, rfl⟩
 refine cond_t g112_29 (cond_f g117_29 (cond_t g112_29 ?_))
 obtain rfl := si hm
 refine EndStep.mk _ (((l104.trans l108).trans l116).trans l120) ⟨(by rw [← (si e121)] <;> rfl), rfl⟩ (ConvH.of (.cons r3 .nil))
 replace hm := iff_ g112_29 hm
 refine cond_f g112_29 (cond_f g112_29 (cond_f g112_29 (cond_f g112_29 (cond_f g112_29 (cond_f g112_29 ?_)))))
 obtain rfl := si hm
 refine EndStep.mk _ (l104.trans l108) ⟨rfl, rfl⟩ (ConvH.of (.cons r2 .nil))
 refine eq_int ?_
 refine cs rfl rfl hm (fun w123 hm => ?_) fun w123 hm => ?_
 refine guard_go rfl ?_
 refine cond_s (fun g126_31 => ?_) (fun g126_31 => ?_)
 refine cond_t g126_31 ?_
 obtain rfl := si hm
 refine EndStep.mk _ (Hp.Le.refl _) ⟨(by rw [← (and_e (b := decide (x.N = 0)) g126_31)] <;> rfl), rfl⟩ (ConvH.of (.cons r1 .nil))
 refine cond_f g126_31 ?_
 obtain rfl := si hm
 refine EndStep.mk _ (Hp.Le.refl _) ⟨(by rw [← ((and_f g126_31)).symm] <;> rfl), rfl⟩ (ConvH.of (.cons r1 .nil))
 obtain rfl := si hm
 refine EndStep.mk _ (Hp.Le.refl _) ⟨rfl, rfl⟩ (ConvH.of (.cons r1 .nil))

noncomputable def JM (e0 : Int) : List Int → Nat → (List Int) → Option ((List Int))
  | [], _, y2_0 => some y2_0
  | e2 :: xs2, i2, y2_0 =>
    if decide (e0 = e2) then
    (chk (y2_0.length + [e0].length ≤ lim)).bind fun _ =>
    JM e0 xs2 (i2 + 1) (y2_0 ++ [e0])
    else
    JM e0 xs2 (i2 + 1) y2_0
noncomputable def Jaq (b : (List Int)) : List Int → Nat → (List Int) → Option ((List Int))
  | [], _, y0_0 => some y0_0
  | e0 :: xs0, i0, y0_0 =>
    (chk (b.length ≤ szMax)).bind fun _ =>
    (JM e0 b 0 y0_0).bind fun t2 =>
    Jaq b xs0 (i0 + 1) t2
noncomputable def Jbk (a : (List Int)) (b : (List Int)) : Option ((List Int)) :=
  (chk (a.length ≤ szMax)).bind fun _ =>
  (Jaq b a 0 []).bind fun t0 =>
  some t0
set_option maxHeartbeats 8000000 in
theorem JbX {a : (List Int)} {b : (List Int)} {ap0_0 : Option Addr} {cp0_0 : Nat} {n0 : Nat} {ap1_0 : Option Addr} {cp1_0 : Nat} {n1 : Nat} {K : Hp} {r : (List Int)}
    (hm : Jbk a b = some r) (hp0_0 : RdC eN K ap0_0 cp0_0 1 a) (en0 : n0 = a.length) (hp1_0 : RdC eN K ap1_0 cp1_0 1 b) (en1 : n1 = b.length) :
    Fn Tryz.prog 73 [.slice ap0_0 n0 cp0_0, .slice ap1_0 n1 cp1_0] K [] (fun v K' H' => ∃ ar_0 : Option Addr, ∃ cr_0 : Nat, v = .slice ar_0 r.length cr_0 ∧ (0 < r.length → Has ar_0) ∧ H' = [OwnL eN ar_0 3 1 cr_0 r]) := by
 subst en0
 subst en1
 refine Fn.enter Tryz.func73 Tryz.call73 rfl fun F => ?_
 unfold Jbk at hm
 refine RStep.of (len_slice rfl ?_)
 obtain ⟨hk0, hm⟩ := chkb hm
 obtain ⟨s0, hl0, hm⟩ := bnd hm
 refine nilC eN 3 1 ?_
 refine code_cut (σ := ((List Int)) × Option Addr × Nat) [5, 7, 9, 12, 13, 14, 15, 16, 17, 18, 19, 20, 21, 22, 23, 24, 25, 26, 27, 28, 29, 30] (fun (t0, t0_a0, t0_c0) => [(5, .slice t0_a0 t0.length t0_c0)]) (fun (t0, t0_a0, t0_c0) => [OwnL eN t0_a0 3 1 t0_c0 t0, F]) (fun zz K1 => match zz with | (t0, t0_a0, t0_c0) => (0 < t0.length → Has t0_a0) ∧ t0 = s0) ?_ ?_
 refine block_go rfl ?_
 refine loop_rule (σ := Nat × (List Int) × Option Addr × Nat) [5, 7, 9, 12, 13, 14, 15, 16, 17, 18, 19, 20, 21, 22, 23, 24, 25, 26, 27, 28, 29, 30] (fun (i0, y0_0, y0_a0, y0_c0) => [(12, .int .i64 (i0 : Int)), (5, .slice y0_a0 y0_0.length y0_c0)]) (fun (i0, y0_0, y0_a0, y0_c0) => [OwnL eN y0_a0 3 1 y0_c0 y0_0, F]) (fun zz K1 => match zz with | (i0, y0_0, y0_a0, y0_c0) => (0 < y0_0.length → Has y0_a0) ∧ Jaq b (a.drop i0) i0 y0_0 = some s0) (fun zz => a.length - zz.1) (0, [], none, 0) rfl ⟨rfl, rfl, trivial⟩ (ConvH.of (.cons r0 (.cons r0 .nil))) ⟨(fun h => by simp at h), hl0⟩ ?_
 clear hl0
 rintro ⟨i0, y0_0, y0_a0, y0_c0⟩ Kb0 lk0 ⟨y0_h0, hl0⟩ j0
 refine cond_go rfl ?_
 refine cond_s (fun w0 => ?_) (fun w0 => ?_)
 obtain ⟨e0, hx0, hd0⟩ := ltx w0
 rw [hd0, Jaq.eq_2] at hl0
 refine block_go rfl ?_
 refine RStep.ofN (index_addr rfl rfl (hasK (hp0_0.mono lk0).rd hx0) (nn _) (lt_ofN hx0) (RStep.of (load_rd i0 0 _ _ (hp0_0.mono lk0).rd rfl (mp hx0) rfl rfl (RStep.of (len_slice rfl ?_)))))
 obtain ⟨hk2, hl0⟩ := chkb hl0
 obtain ⟨s2, hl2, hl0⟩ := bnd hl0
 refine code_cut (σ := ((List Int)) × Option Addr × Nat) [5, 9, 18, 19, 20, 21, 22, 23, 24, 25, 26, 27, 28, 29] (fun (t2, t2_a0, t2_c0) => [(5, .slice t2_a0 t2.length t2_c0)]) (fun (t2, t2_a0, t2_c0) => [OwnL eN t2_a0 3 1 t2_c0 t2, F]) (fun zz K1 => match zz with | (t2, t2_a0, t2_c0) => (0 < t2.length → Has t2_a0) ∧ t2 = s2) ?_ ?_
 refine block_go rfl ?_
 refine loop_rule (σ := Nat × (List Int) × Option Addr × Nat) [5, 9, 18, 19, 20, 21, 22, 23, 24, 25, 26, 27, 28, 29] (fun (i2, y2_0, y2_a0, y2_c0) => [(18, .int .i64 (i2 : Int)), (5, .slice y2_a0 y2_0.length y2_c0)]) (fun (i2, y2_0, y2_a0, y2_c0) => [OwnL eN y2_a0 3 1 y2_c0 y2_0, F]) (fun zz K1 => match zz with | (i2, y2_0, y2_a0, y2_c0) => (0 < y2_0.length → Has y2_a0) ∧ JM e0 (b.drop i2) i2 y2_0 = some s2) (fun zz => b.length - zz.1) (0, y0_0, y0_a0, y0_c0) rfl ⟨rfl, rfl, trivial⟩ (ConvH.of (.cons r0 (.cons r0 .nil))) ⟨y0_h0, hl2⟩ ?_
 clear hl2
 rintro ⟨i2, y2_0, y2_a0, y2_c0⟩ Kb2 lk2 ⟨y2_h0, hl2⟩ j2
 refine cond_go rfl ?_
 refine cond_s (fun w2 => ?_) (fun w2 => ?_)
 obtain ⟨e2, hx2, hd2⟩ := ltx w2
 rw [hd2, JM.eq_2] at hl2
 refine block_go rfl ?_
 refine RStep.ofN (index_addr rfl rfl (hasK (hp1_0.mono (lk0.trans lk2)).rd hx2) (nn _) (lt_ofN hx2) (RStep.of (load_rd i2 0 _ _ (hp1_0.mono (lk0.trans lk2)).rd rfl (mp hx2) rfl rfl (eq_int ?_))))
 refine cs rfl rfl hl2 (fun w24 hl2 => ?_) fun w24 hl2 => ?_
 refine bsO (len := 1) (enc := eN) (l := [e0]) (cl := [.int .i64 e0]) elT150 rfl rfl (fun _ _ => rfl) rfl rfl rfl ?_ fun b27 => ?_
 · conv => whnf
   refine cond_T ?_
   first | done | rfl
 obtain ⟨h28, hl2⟩ := chkb hl2
 refine apE rfl r1 elT150 (src_own' rfl r0 rfl (fun _ => rfl) (fun _ => rfl)) h28 ?_
 intro a28 c28 o28
 refine int_in (cntz hx2 hk2) ?_
 refine RoundStep.mk (i2 + 1, (y2_0 ++ [e0]), a28, c28) ⟨rfl, rfl, trivial⟩ (by repeat (first | exact trivial | refine And.intro rfl ?_)) (ConvH.of (.cons r0 (.cons r1 .nil))) lk2 (ltm hx2) ⟨o28, hl2⟩
 refine int_in (cntz hx2 hk2) ?_
 refine RoundStep.mk (i2 + 1, y2_0, y2_a0, y2_c0) ⟨rfl, rfl, trivial⟩ (by repeat (first | exact trivial | refine And.intro rfl ?_)) (ConvH.of (.cons r0 (.cons r0 .nil))) lk2 (ltm hx2) ⟨y2_h0, hl2⟩
 rw [lty w2, JM.eq_1] at hl2
 refine cond_T ?_
 refine MeetStep.mk (y2_0, y2_a0, y2_c0) ⟨rfl, trivial⟩ (by repeat (first | exact trivial | refine And.intro rfl ?_)) (ConvH.of (.cons r0 (.cons r0 .nil))) lk2 ⟨y2_h0, (si hl2)⟩
 rintro ⟨t2, t2_a0, t2_c0⟩ Kt2 lt2 ⟨t2_h0, rfl⟩ j2
 refine int_in (cntz hx0 hk0) ?_
 refine RoundStep.mk (i0 + 1, t2, t2_a0, t2_c0) ⟨rfl, rfl, trivial⟩ (by repeat (first | exact trivial | refine And.intro rfl ?_)) (ConvH.of (.cons r0 (.cons r0 .nil))) (lk0.trans lt2) (ltm hx0) ⟨t2_h0, hl0⟩
 rw [lty w0, Jaq.eq_1] at hl0
 refine cond_T ?_
 refine MeetStep.mk (y0_0, y0_a0, y0_c0) ⟨rfl, trivial⟩ (by repeat (first | exact trivial | refine And.intro rfl ?_)) (ConvH.of (.cons r0 (.cons r0 .nil))) lk0 ⟨y0_h0, (si hl0)⟩
 rintro ⟨t0, t0_a0, t0_c0⟩ Kt0 lt0 ⟨t0_h0, rfl⟩ j0
 obtain rfl := si hm
 refine EndStep.mk _ lt0 ⟨t0_a0, t0_c0, rfl, t0_h0, rfl⟩ (ConvH.of (.cons r0 (.cons r0 .nil)))

noncomputable def JaS (b : (List Int)) : List Int → Nat → Option (Fl (Bool) (Unit))
  | [], _ => some (Fl.go ())
  | e0 :: xs0, i0 =>
    (ix b (i0 : Int)).bind fun x22 =>
    if decide (e0 ≠ x22) then
    some (Fl.ret false)
    else
    JaS b xs0 (i0 + 1)
noncomputable def JbB (a : (List Int)) (b : (List Int)) : Option (Bool) :=
  if decide ((a.length : Int) ≠ (b.length : Int)) then
  some false
  else
  (chk (a.length ≤ szMax)).bind fun _ =>
  (JaS b a 0).bind fun s0 => s0.el some fun t0 =>
  some true
set_option maxHeartbeats 8000000 in
theorem JcA {a : (List Int)} {b : (List Int)} {ap0_0 : Option Addr} {cp0_0 : Nat} {n0 : Nat} {ap1_0 : Option Addr} {cp1_0 : Nat} {n1 : Nat} {K : Hp} {r : Bool}
    (hm : JbB a b = some r) (hp0_0 : RdC eN K ap0_0 cp0_0 1 a) (en0 : n0 = a.length) (hp1_0 : RdC eN K ap1_0 cp1_0 1 b) (en1 : n1 = b.length) :
    Fn Tryz.prog 72 [.slice ap0_0 n0 cp0_0, .slice ap1_0 n1 cp1_0] K [] (fun v K' H' => v = .bool r ∧ H' = []) := by
 subst en0
 subst en1
 refine Fn.enter Tryz.func72 Tryz.call72 rfl fun F => ?_
 unfold JbB at hm
 refine RStep.of (len_slice rfl (RStep.of (len_slice rfl (neq_int ?_))))
 refine cs rfl rfl hm (fun w10 hm => ?_) fun w10 hm => ?_
 obtain rfl := si hm
 refine EndStep.mk _ (Hp.Le.refl _) ⟨rfl, rfl⟩ (ConvH.of (.cons r0 .nil))
 refine RStep.of (len_slice rfl ?_)
 obtain ⟨hk0, hm⟩ := chkb hm
 obtain ⟨s0, hl0, hm⟩ := bnd hm
 refine code_cut (σ := (Unit)) [4, 5, 13, 14, 15, 16, 17, 18, 19, 20, 21, 22, 23, 24, 25] (fun t0 => []) (fun t0 => [F]) (fun zz K1 => match zz with | t0 => s0 = Fl.go t0) ?_ ?_
 refine block_go rfl ?_
 refine loop_rule (σ := Nat) [4, 5, 13, 14, 15, 16, 17, 18, 19, 20, 21, 22, 23, 24, 25] (fun i0 => [(13, .int .i64 (i0 : Int))]) (fun i0 => [F]) (fun zz K1 => match zz with | i0 => JaS b (a.drop i0) i0 = some s0) (fun zz => a.length - zz) (0) rfl ⟨rfl, trivial⟩ (ConvH.of (.cons r0 .nil)) hl0 ?_
 clear hl0
 rintro i0 Kb0 lk0 hl0 j0
 conv at hl0 => whnf
 refine cond_go rfl ?_
 refine cond_s (fun w0 => ?_) (fun w0 => ?_)
 obtain ⟨e0, hx0, hd0⟩ := ltx w0
 rw [hd0, JaS.eq_2] at hl0
 refine block_go rfl ?_
 refine draw_go ⟨⟨[], false⟩, _, [], []⟩ (by kernel_rfl) ⟨Hp.Le.refl _, (ConvH.of .nil), ci0⟩ ?_
 refine index_addr rfl rfl (hasK (hp0_0.mono lk0).rd hx0) (nn _) (lt_ofN hx0) (load_rd_l i0 0 _ _ (hp0_0.mono lk0).rd rfl (mp hx0) rfl rfl ?_)
 obtain ⟨x22, l22, k22, hl0⟩ := ixb hl0
 refine index_addr rfl rfl (hasK (hp1_0.mono lk0).rd k22) l22 (lt_ofE rfl l22 k22) (load_rd_l (((i0 : Int)).toNat) 0 _ _ (hp1_0.mono lk0).rd rfl (mp k22) rfl rfl (neq_int ?_))
 refine cs rfl rfl hl0 (fun w24 hl0 => ?_) fun w24 hl0 => ?_
 obtain rfl := si hl0
 replace hm := elr hm
 obtain rfl := si hm
 refine EndStep.mk _ lk0 ⟨rfl, rfl⟩ (ConvH.of (.cons r0 .nil))
 refine int_in (cntz hx0 hk0) ?_
 refine RoundStep.mk (i0 + 1) ⟨rfl, trivial⟩ (by repeat (first | exact trivial | refine And.intro rfl ?_)) (ConvH.of (.cons r0 .nil)) lk0 (ltm hx0) hl0
 rw [lty w0, JaS.eq_1] at hl0
 refine cond_T ?_
 refine MeetStep.mk (()) trivial (by repeat (first | exact trivial | refine And.intro rfl ?_)) (ConvH.of (.cons r0 .nil)) lk0 (si hl0).symm
 rintro t0 Kt0 lt0 rfl j0
 replace hm := elg hm
 obtain rfl := si hm
 refine EndStep.mk _ lt0 ⟨rfl, rfl⟩ (ConvH.of (.cons r0 .nil))

noncomputable def JG (n' : Int) : List Int → Nat → (List Int) → Bool → Option ((List Int) × Bool)
  | [], _, y0_0, y0_1 => some (y0_0, y0_1)
  | e0 :: xs0, i0, y0_0, y0_1 =>
    if ((!y0_1) && decide (n' ≤ e0)) then
    (chk (y0_0.length + [n'].length ≤ lim)).bind fun _ =>
    if decide (e0 ≠ n') then
    (chk ((y0_0 ++ [n']).length + [e0].length ≤ lim)).bind fun _ =>
    JG n' xs0 (i0 + 1) ((y0_0 ++ [n']) ++ [e0]) true
    else
    JG n' xs0 (i0 + 1) (y0_0 ++ [n']) true
    else
    if decide (e0 ≠ n') then
    (chk (y0_0.length + [e0].length ≤ lim)).bind fun _ =>
    JG n' xs0 (i0 + 1) (y0_0 ++ [e0]) y0_1
    else
    JG n' xs0 (i0 + 1) y0_0 y0_1
noncomputable def Jbu (l : (List Int)) (n' : Int) : Option ((List Int)) :=
  (chk (l.length ≤ szMax)).bind fun _ =>
  (JG n' l 0 [] false).bind fun t0 =>
  if (!t0.2) then
  (chk (t0.1.length + [n'].length ≤ lim)).bind fun _ =>
  some (t0.1 ++ [n'])
  else
  some t0.1
set_option maxHeartbeats 8000000 in
theorem Jco {l : (List Int)} {n' : Int} {ap0_0 : Option Addr} {cp0_0 : Nat} {n0 : Nat} {K : Hp} {r : (List Int)}
    (hm : Jbu l n' = some r) (hp0_0 : RdC eN K ap0_0 cp0_0 1 l) (en0 : n0 = l.length) :
    Fn Tryz.prog 74 [.slice ap0_0 n0 cp0_0, .int .i64 n'] K [] (fun v K' H' => ∃ ar_0 : Option Addr, ∃ cr_0 : Nat, v = .slice ar_0 r.length cr_0 ∧ (0 < r.length → Has ar_0) ∧ H' = [OwnL eN ar_0 3 1 cr_0 r]) := by
 subst en0
 refine Fn.enter Tryz.func74 Tryz.call74 rfl fun F => ?_
 unfold Jbu at hm
 refine RStep.of (len_slice rfl ?_)
 obtain ⟨hk0, hm⟩ := chkb hm
 obtain ⟨s0, hl0, hm⟩ := bnd hm
 refine nilC eN 3 1 ?_
 refine code_cut (σ := ((List Int) × Bool) × Option Addr × Nat) [5, 6, 8, 11, 12, 13, 14, 15, 16, 17, 18, 19, 20, 21, 22, 23, 24, 25, 26, 27, 28, 29, 30, 31, 32, 33] (fun (t0, t0_a0, t0_c0) => [(5, .slice t0_a0 t0.1.length t0_c0), (6, .bool t0.2)]) (fun (t0, t0_a0, t0_c0) => [OwnL eN t0_a0 3 1 t0_c0 t0.1, F]) (fun zz K1 => match zz with | (t0, t0_a0, t0_c0) => (0 < t0.1.length → Has t0_a0) ∧ t0 = s0) ?_ ?_
 refine block_go rfl ?_
 refine loop_rule (σ := Nat × (List Int) × Bool × Option Addr × Nat) [5, 6, 8, 11, 12, 13, 14, 15, 16, 17, 18, 19, 20, 21, 22, 23, 24, 25, 26, 27, 28, 29, 30, 31, 32, 33] (fun (i0, y0_0, y0_1, y0_a0, y0_c0) => [(11, .int .i64 (i0 : Int)), (5, .slice y0_a0 y0_0.length y0_c0), (6, .bool y0_1)]) (fun (i0, y0_0, y0_1, y0_a0, y0_c0) => [OwnL eN y0_a0 3 1 y0_c0 y0_0, F]) (fun zz K1 => match zz with | (i0, y0_0, y0_1, y0_a0, y0_c0) => (0 < y0_0.length → Has y0_a0) ∧ JG n' (l.drop i0) i0 y0_0 y0_1 = some s0) (fun zz => l.length - zz.1) (0, [], false, none, 0) rfl ⟨rfl, rfl, rfl, trivial⟩ (ConvH.of (.cons r0 (.cons r0 .nil))) ⟨(fun h => by simp at h), hl0⟩ ?_
 clear hl0
 rintro ⟨i0, y0_0, y0_1, y0_a0, y0_c0⟩ Kb0 lk0 ⟨y0_h0, hl0⟩ j0
 refine cond_go rfl ?_
 refine cond_s (fun w0 => ?_) (fun w0 => ?_)
 obtain ⟨e0, hx0, hd0⟩ := ltx w0
 rw [hd0, JG.eq_2] at hl0
 refine block_go rfl ?_
 refine RStep.ofN (index_addr rfl rfl (hasK (hp0_0.mono lk0).rd hx0) (nn _) (lt_ofN hx0) (RStep.of (load_rd i0 0 _ _ (hp0_0.mono lk0).rd rfl (mp hx0) rfl rfl ?_)))
 refine code_cut (σ := Unit) [15, 16, 17, 18, 19, 20, 21] (fun _ => [(21, .bool ((!y0_1) && decide (n' ≤ e0)))]) (fun _ => [OwnL eN y0_a0 3 1 y0_c0 y0_0, F]) (fun t901 K1 => K1 = Kb0) ?_ ?_
 refine guard_go rfl ?_
 refine un_not ?_
 refine cond_s (fun g17_6 => ?_) (fun g17_6 => ?_)
 refine cond_t g17_6 (cond_t g17_6 (cond_t g17_6 ?_))
 refine MeetStep.mk (()) ⟨(by rw [← (and_e (b := decide (n' ≤ e0)) (not_t (ni_t g17_6)))] <;> rfl), trivial⟩ (by repeat (first | exact trivial | refine And.intro rfl ?_)) (ConvH.of (.cons r0 (.cons r0 .nil))) (Hp.Le.refl _) rfl
 refine cond_f g17_6 (cond_f g17_6 (cond_f g17_6 ?_))
 refine MeetStep.mk (()) ⟨(by rw [← ((and_f (not_f (ni_f g17_6)))).symm] <;> rfl), trivial⟩ (by repeat (first | exact trivial | refine And.intro rfl ?_)) (ConvH.of (.cons r0 (.cons r0 .nil))) (Hp.Le.refl _) rfl
 rintro _ _ _ rfl j901
 refine cs rfl rfl hl0 (fun w21 hl0 => ?_) fun w21 hl0 => ?_
 refine bsO (len := 1) (enc := eN) (l := [n']) (cl := [.int .i64 n']) elT150 rfl rfl (fun _ _ => rfl) rfl rfl rfl ?_ fun b24 => ?_
 · conv => whnf
   refine cond_T ?_
   first | done | rfl
 obtain ⟨h25, hl0⟩ := chkb hl0
 refine apE rfl r1 elT150 (src_own' rfl r0 rfl (fun _ => rfl) (fun _ => rfl)) h25 ?_
 intro a25 c25 o25
 refine neq_int ?_
 refine cs rfl rfl hl0 (fun w28 hl0 => ?_) fun w28 hl0 => ?_
 refine bsO (len := 1) (enc := eN) (l := [e0]) (cl := [.int .i64 e0]) elT150 rfl rfl (fun _ _ => rfl) rfl rfl rfl ?_ fun b31 => ?_
 · conv => whnf
   refine cond_T ?_
   first | done | rfl
 obtain ⟨h32, hl0⟩ := chkb hl0
 refine apE rfl r1 elT150 (src_own' rfl r0 rfl (fun _ => rfl) (fun _ => rfl)) h32 ?_
 intro a32 c32 o32
 refine int_in (cntz hx0 hk0) ?_
 refine RoundStep.mk (i0 + 1, ((y0_0 ++ [n']) ++ [e0]), true, a32, c32) ⟨rfl, rfl, rfl, trivial⟩ (by repeat (first | exact trivial | refine And.intro rfl ?_)) (ConvH.of (.cons r0 (.cons r2 .nil))) lk0 (ltm hx0) ⟨o32, hl0⟩
 refine int_in (cntz hx0 hk0) ?_
 refine RoundStep.mk (i0 + 1, (y0_0 ++ [n']), true, a25, c25) ⟨rfl, rfl, rfl, trivial⟩ (by repeat (first | exact trivial | refine And.intro rfl ?_)) (ConvH.of (.cons r0 (.cons r1 .nil))) lk0 (ltm hx0) ⟨o25, hl0⟩
 refine neq_int ?_
 refine cs rfl rfl hl0 (fun w28 hl0 => ?_) fun w28 hl0 => ?_
 refine bsO (len := 1) (enc := eN) (l := [e0]) (cl := [.int .i64 e0]) elT150 rfl rfl (fun _ _ => rfl) rfl rfl rfl ?_ fun b31 => ?_
 · conv => whnf
   refine cond_T ?_
   first | done | rfl
 obtain ⟨h32, hl0⟩ := chkb hl0
 refine apE rfl r1 elT150 (src_own' rfl r0 rfl (fun _ => rfl) (fun _ => rfl)) h32 ?_
 intro a32 c32 o32
 refine int_in (cntz hx0 hk0) ?_
 refine RoundStep.mk (i0 + 1, (y0_0 ++ [e0]), y0_1, a32, c32) ⟨rfl, rfl, rfl, trivial⟩ (by repeat (first | exact trivial | refine And.intro rfl ?_)) (ConvH.of (.cons r0 (.cons r1 .nil))) lk0 (ltm hx0) ⟨o32, hl0⟩
 refine int_in (cntz hx0 hk0) ?_
 refine RoundStep.mk (i0 + 1, y0_0, y0_1, y0_a0, y0_c0) ⟨rfl, rfl, rfl, trivial⟩ (by repeat (first | exact trivial | refine And.intro rfl ?_)) (ConvH.of (.cons r0 (.cons r0 .nil))) lk0 (ltm hx0) ⟨y0_h0, hl0⟩
 rw [lty w0, JG.eq_1] at hl0
 refine cond_T ?_
 refine MeetStep.mk ((y0_0, y0_1), y0_a0, y0_c0) ⟨rfl, rfl, trivial⟩ (by repeat (first | exact trivial | refine And.intro rfl ?_)) (ConvH.of (.cons r0 (.cons r0 .nil))) lk0 ⟨y0_h0, (si hl0)⟩
 rintro ⟨t0, t0_a0, t0_c0⟩ Kt0 lt0 ⟨t0_h0, rfl⟩ j0
 refine un_not (cond_go rfl ?_)
 refine cond_s (fun w35 => ?_) (fun w35 => ?_)
 replace hm := ift (not_t (ni_t w35)) hm
 refine bsO (len := 1) (enc := eN) (l := [n']) (cl := [.int .i64 n']) elT150 rfl rfl (fun _ _ => rfl) rfl rfl rfl ?_ fun b38 => ?_
 · conv => whnf
   refine cond_T ?_
   first | done | rfl
 obtain ⟨h39, hm⟩ := chkb hm
 refine apE rfl r1 elT150 (src_own' rfl r0 rfl (fun _ => rfl) (fun _ => rfl)) h39 ?_
 intro a39 c39 o39
 obtain rfl := si hm
 refine EndStep.mk _ lt0 ⟨a39, c39, rfl, o39, rfl⟩ (ConvH.of (.cons r0 (.cons r1 .nil)))
 replace hm := iff_ (not_f (ni_f w35)) hm
 obtain rfl := si hm
 refine EndStep.mk _ lt0 ⟨t0_a0, t0_c0, rfl, t0_h0, rfl⟩ (ConvH.of (.cons r0 (.cons r0 .nil)))

noncomputable def Jba (s : Jj) (depth : Int) (stored : (List Int)) : Option (Jj × Bool) :=
  if (!s.reached) then
  some ((⟨true, depth, stored⟩ : Jj), true)
  else
  (Jbk s.stored stored).bind fun x18 =>
  some ((⟨true, depth, x18⟩ : Jj), decide (s.depth = depth))
set_option maxHeartbeats 8000000 in
theorem Jbg {s : Jj} {depth : Int} {stored : (List Int)} {ap0_0 : Option Addr} {cp0_0 : Nat} {ap2_0 : Option Addr} {cp2_0 : Nat} {n2 : Nat} {K : Hp} {r : Jj × Bool}
    (hm : Jba s depth stored = some r) (hp0_0 : RdC eN K ap0_0 cp0_0 1 s.stored) (hp2_0 : RdC eN K ap2_0 cp2_0 1 stored) (en2 : n2 = stored.length) :
    Fn Tryz.prog 75 [.agg #[.bool s.reached, .int .i64 s.depth, .slice ap0_0 s.stored.length cp0_0], .int .i64 depth, .slice ap2_0 n2 cp2_0] K [] (fun v K' H' => ∃ ar_0 : Option Addr, ∃ cr_0 : Nat, v = .tuple #[.agg #[.bool r.1.reached, .int .i64 r.1.depth, .slice ar_0 r.1.stored.length cr_0], .bool r.2] ∧ RdC eN K' ar_0 cr_0 1 r.1.stored ∧ H' = []) := by
 subst en2
 refine Fn.enter Tryz.func75 Tryz.call75 rfl fun F => ?_
 unfold Jba at hm
 refine box_rule ?_
 intro b3
 refine alloc_rule rfl ?_
 intro b6
 refine Ja rfl (RStep.of (load1_s r1 rfl rfl (un_not (cond_go rfl ?_))))
 refine cond_s (fun w10 => ?_) (fun w10 => ?_)
 replace hm := ift (not_t (ni_t w10)) hm
 refine build_struct rfl rfl (cond_T (cond_T (cond_T ?_)))
 refine store_rule r0 rfl ?_
 refine ⟨rfl, rfl, (Nat.le_of_ble_eq_true rfl), ?_⟩
 obtain rfl := si hm
 refine RStep.of (loadn_s r0 rfl (Nat.le_of_ble_eq_true rfl) ?_)
 refine EndStep.mk _ (Hp.Le.refl _) ⟨ap2_0, cp2_0, rfl, hp2_0, rfl⟩ (ConvH.of (.cons r2 .nil))
 replace hm := iff_ (not_f (ni_f w10)) hm
 refine draw_go ⟨⟨[], false⟩, _, [(_, _)], []⟩ (by kernel_rfl) ⟨Hp.Le.refl _, (ConvH.of (.cons r1 .nil)), ci0⟩ ?_
 refine Ja rfl (load1_l m0 rfl rfl ?_)
 obtain ⟨x18, q18, hm⟩ := bnd hm
 refine call_fn (JbX q18 hp0_0 rfl hp2_0 rfl) .nil ?_
 rintro _ K18 _ l18 ⟨a18_0, c18_0, rfl, h18_0, rfl⟩
 refine ⟨⟨l18, (ConvH.of (.cons r2 .nil)), ci0⟩, ?_⟩
 refine build_struct rfl rfl (cond_T (cond_T (cond_T (Ja rfl (load1_l m0 rfl rfl ?_)))))
 refine eq_int ?_
 refine store_rule r1 rfl ?_
 refine ⟨rfl, rfl, (Nat.le_of_ble_eq_true rfl), ?_⟩
 refine ⟨⟨l18, (ConvH.of (.cons r2 .nil)), ci0⟩, ?_⟩
 obtain rfl := si hm
 refine RStep.of (loadn_s r0 rfl (Nat.le_of_ble_eq_true rfl) ?_)
 refine fE r1 fun Kz1 lz1 fz1 => ?_
 refine EndStep.mk _ (l18.trans lz1) ⟨a18_0, c18_0, rfl, fz1, rfl⟩ (ConvH.of (.cons r2 .nil))
