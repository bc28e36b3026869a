/- Functions of the program: mirrors, and that a call returns what the mirror says. Printed by gen.py. -/
import Derived.Test.YtmpdebfckeahmaaGreatDoorG2
set_option linter.unusedVariables false
set_option linter.unusedSimpArgs false
open Go Go.SL Go.Proofs
set_option maxRecDepth 1000000
noncomputable def JH (code : (List Je)) (inZ : Jt) : Nat → Int → Jb → Option (Fl (Jf × Err) (Int × Jb))
  | 0, _, _ => none
  | xs0 + 1, y0_0, y0_1 =>
    if decide (y0_0 ≥ 0) then
    (ix code y0_0).bind fun x33 =>
    (Jai (⟨inZ, y0_1.most, y0_1.result, y0_1.stack, y0_1.slots⟩ : Jb) y0_0 x33).bind fun x35 =>
    if x35.2.1.isSome then
    some (Fl.ret ((⟨([] : Str), ([] : Str), [], [], [], 0, 0, 0, false, false⟩ : Jf), x35.2.1))
    else
    JH code inZ xs0 x35.1 (⟨inZ, x35.2.2.most, x35.2.2.result, x35.2.2.stack, x35.2.2.slots⟩ : Jb)
    else
    some (Fl.go (y0_0, (⟨inZ, y0_1.most, y0_1.result, y0_1.stack, y0_1.slots⟩ : Jb)))
noncomputable def JaB (n : Nat) (code : (List Je)) (inZ : Jt) (most : Int) : Option (Jf × Err) :=
  (JaI code).bind fun x13 =>
  if x13.isSome then
  some ((⟨([] : Str), ([] : Str), [], [], [], 0, 0, 0, false, false⟩ : Jf), (some 2))
  else
  (JH code inZ n 0 (⟨inZ, most, (⟨inZ.Path, inZ.Query, [], [], [], (-1), 0, 0, false, false⟩ : Jf), [], (List.replicate 512 (⟨0, 0, ([] : Str), false⟩ : Jd))⟩ : Jb)).bind fun s0 => s0.el some fun t0 =>
  some (t0.2.result, none)
set_option maxHeartbeats 8000000 in
theorem JbW {n : Nat} {code : (List Je)} {inZ : Jt} {most : Int} {ap0_0 : Option Addr} {cp0_0 : Nat} {n0 : Nat} {ap1_0 : Option Addr} {cp1_0 : Nat} {K : Hp} {r : Jf × Err}
    (hm : JaB n code inZ most = some r) (hp0_0 : RdC Je.enc K ap0_0 cp0_0 3 code) (en0 : n0 = code.length) (hp1_0 : RdC Jg.enc K ap1_0 cp1_0 2 inZ.Fields) (hG0 : GlL eS 1 0 Jm K) (hG1 : GlL eS 1 1 Jr K) (hG2 : GlL eS 1 2 Jn K) (hG3 : GlN 3 K) (hG5 : GlA 5 (Go.Lib.pow10Tab.map fun z => Value.int .u64 z) K) :
    Fn Tryz.prog 13 [.slice ap0_0 n0 cp0_0, .agg #[str inZ.Method, str inZ.Host, str inZ.Path, str inZ.Query, .slice ap1_0 inZ.Fields.length cp1_0], .int .i64 most] K [] (fun v K' H' => ∃ ar_0 : Option Addr, ∃ cr_0 : Nat, ∃ ar_1 : Option Addr, ∃ cr_1 : Nat, ∃ ar_2 : Option Addr, ∃ cr_2 : Nat, v = .tuple #[.agg #[str r.1.Path, str r.1.Query, .slice ar_0 r.1.Headers.length cr_0, .slice ar_1 r.1.Vary.length cr_1, .slice ar_2 r.1.Tags.length cr_2, .int .i64 r.1.TTL, .int .i64 r.1.Deny, .int .i64 r.1.Steps, .bool r.1.Pass, .bool r.1.Token], errV 87 r.2] ∧ (0 < r.1.Headers.length → Has ar_0) ∧ (0 < r.1.Vary.length → Has ar_1) ∧ (0 < r.1.Tags.length → Has ar_2) ∧ H' = [OwnL Jg.enc ar_0 77 2 cr_0 r.1.Headers, OwnL eS ar_1 9 1 cr_1 r.1.Vary, OwnL eS ar_2 9 1 cr_2 r.1.Tags]) := by
 subst en0
 refine Fn.enter Tryz.func13 Tryz.call13 rfl fun F => ?_
 unfold JaB at hm
 refine box_rule ?_
 intro b4
 refine alloc_rule rfl ?_
 intro b6
 obtain ⟨x13, q13, hm⟩ := bnd hm
 refine call_fn (Jb2 q13 hp0_0 rfl hG0 hG1 hG2 hG3 hG5) .nil ?_
 rintro _ K13 _ l13 ⟨rfl, rfl⟩
 refine neq_err rfl ?_
 refine cs rfl rfl hm (fun w14 hm => ?_) fun w14 hm => ?_
 refine build_struct rfl rfl ?_
 refine mk_iface rfl ?_
 refine store_rule r0 rfl ?_
 refine ⟨rfl, rfl, (Nat.le_of_ble_eq_true rfl), ?_⟩
 obtain rfl := si hm
 refine RStep.of (loadn_s r0 rfl (Nat.le_of_ble_eq_true rfl) ?_)
 refine nilE Jg.enc 77 2 ?_
 refine nilE eS 9 1 ?_
 refine nilE eS 9 1 ?_
 refine EndStep.mk _ l13 ⟨none, 0, none, 0, none, 0, rfl, (fun h => by simp at h), (fun h => by simp at h), (fun h => by simp at h), rfl⟩ (ConvH.of (.cons r2 (.cons r1 (.cons r0 (.cons r2 .nil)))))
 refine RStep.of (loadn_s r1 rfl (Nat.le_of_ble_eq_true rfl) (Ja rfl (RStep.of (load1_s r1 rfl rfl (Ja rfl (RStep.of (load1_s r1 rfl rfl (build_struct rfl rfl ?_))))))))
 refine cond_T (cond_T (cond_T ?_))
 refine build_tail (enc := Jd.enc) [str ([] : Str), str ([] : Str), str ([] : Str), str ([] : Str), .slice none 0 0, .int .i64 0, str ([] : Str), str ([] : Str), .slice none 0 0, .slice none 0 0, .slice none 0 0, .int .i64 0, .int .i64 0, .int .i64 0, .bool false, .bool false, .slice none 0 0] (List.replicate 512 (⟨0, 0, ([] : Str), false⟩ : Jd)) (by kernel_rfl) rfl ?_
 refine cond_T (cond_T (cond_T ?_))
 refine box_tail ?_
 intro b25
 obtain ⟨s0, hl0, hm⟩ := bnd hm
 refine nilC Jg.enc 77 2 ?_
 refine nilC eS 9 1 ?_
 refine nilC eS 9 1 ?_
 refine nilC Jd.enc 95 4 ?_
 refine code_cut (σ := (Int × Jb) × Option Addr × Nat × Option Addr × Nat × Option Addr × Nat × Option Addr × Nat) [7, 9, 10, 11, 26, 27, 28, 29, 30, 31, 32, 33, 34, 35, 36, 37, 38, 39, 40, 41, 42] (fun (t0, at0_1_0, ct0_1_0, at0_1_1, ct0_1_1, at0_1_2, ct0_1_2, at0_1_3, ct0_1_3) => [(9, .int .i64 t0.1)]) (fun (t0, at0_1_0, ct0_1_0, at0_1_1, ct0_1_1, at0_1_2, ct0_1_2, at0_1_3, ct0_1_3) => [Cells b25 98 ((str inZ.Method) :: (str inZ.Host) :: (str inZ.Path) :: (str inZ.Query) :: (.slice ap1_0 inZ.Fields.length cp1_0) :: (.int .i64 t0.2.most) :: (str t0.2.result.Path) :: (str t0.2.result.Query) :: (.slice at0_1_0 t0.2.result.Headers.length ct0_1_0) :: (.slice at0_1_1 t0.2.result.Vary.length ct0_1_1) :: (.slice at0_1_2 t0.2.result.Tags.length ct0_1_2) :: (.int .i64 t0.2.result.TTL) :: (.int .i64 t0.2.result.Deny) :: (.int .i64 t0.2.result.Steps) :: (.bool t0.2.result.Pass) :: (.bool t0.2.result.Token) :: (.slice at0_1_3 t0.2.stack.length ct0_1_3) :: (t0.2.slots.map Jd.enc).flatten), OwnL Jg.enc at0_1_0 77 2 ct0_1_0 t0.2.result.Headers, OwnL eS at0_1_1 9 1 ct0_1_1 t0.2.result.Vary, OwnL eS at0_1_2 9 1 ct0_1_2 t0.2.result.Tags, OwnL Jd.enc at0_1_3 95 4 ct0_1_3 t0.2.stack, Cells b6 33 [str ([] : Str), str ([] : Str), .slice none 0 0, .slice none 0 0, .slice none 0 0, .int .i64 0, .int .i64 0, .int .i64 0, .bool false, .bool false], Cells b4 41 [str inZ.Method, str inZ.Host, str inZ.Path, str inZ.Query, .slice ap1_0 inZ.Fields.length cp1_0], F]) (fun zz K1 => match zz with | (t0, at0_1_0, ct0_1_0, at0_1_1, ct0_1_1, at0_1_2, ct0_1_2, at0_1_3, ct0_1_3) => (0 < t0.2.result.Headers.length → Has at0_1_0) ∧ (0 < t0.2.result.Vary.length → Has at0_1_1) ∧ (0 < t0.2.result.Tags.length → Has at0_1_2) ∧ (0 < t0.2.stack.length → Has at0_1_3) ∧ t0.2.slots.length = 512 ∧ s0 = Fl.go t0) ?_ ?_
 refine block_go rfl ?_
 refine loop_rule (σ := Nat × Int × Jb × Option Addr × Nat × Option Addr × Nat × Option Addr × Nat × Option Addr × Nat) [7, 9, 10, 11, 26, 27, 28, 29, 30, 31, 32, 33, 34, 35, 36, 37, 38, 39, 40, 41, 42] (fun (i0, y0_0, y0_1, ay0_1_0, cy0_1_0, ay0_1_1, cy0_1_1, ay0_1_2, cy0_1_2, ay0_1_3, cy0_1_3) => [(9, .int .i64 y0_0)]) (fun (i0, y0_0, y0_1, ay0_1_0, cy0_1_0, ay0_1_1, cy0_1_1, ay0_1_2, cy0_1_2, ay0_1_3, cy0_1_3) => [Cells b25 98 ((str inZ.Method) :: (str inZ.Host) :: (str inZ.Path) :: (str inZ.Query) :: (.slice ap1_0 inZ.Fields.length cp1_0) :: (.int .i64 y0_1.most) :: (str y0_1.result.Path) :: (str y0_1.result.Query) :: (.slice ay0_1_0 y0_1.result.Headers.length cy0_1_0) :: (.slice ay0_1_1 y0_1.result.Vary.length cy0_1_1) :: (.slice ay0_1_2 y0_1.result.Tags.length cy0_1_2) :: (.int .i64 y0_1.result.TTL) :: (.int .i64 y0_1.result.Deny) :: (.int .i64 y0_1.result.Steps) :: (.bool y0_1.result.Pass) :: (.bool y0_1.result.Token) :: (.slice ay0_1_3 y0_1.stack.length cy0_1_3) :: (y0_1.slots.map Jd.enc).flatten), OwnL Jg.enc ay0_1_0 77 2 cy0_1_0 y0_1.result.Headers, OwnL eS ay0_1_1 9 1 cy0_1_1 y0_1.result.Vary, OwnL eS ay0_1_2 9 1 cy0_1_2 y0_1.result.Tags, OwnL Jd.enc ay0_1_3 95 4 cy0_1_3 y0_1.stack, Cells b6 33 [str ([] : Str), str ([] : Str), .slice none 0 0, .slice none 0 0, .slice none 0 0, .int .i64 0, .int .i64 0, .int .i64 0, .bool false, .bool false], Cells b4 41 [str inZ.Method, str inZ.Host, str inZ.Path, str inZ.Query, .slice ap1_0 inZ.Fields.length cp1_0], F]) (fun zz K1 => match zz with | (i0, y0_0, y0_1, ay0_1_0, cy0_1_0, ay0_1_1, cy0_1_1, ay0_1_2, cy0_1_2, ay0_1_3, cy0_1_3) => (0 < y0_1.result.Headers.length → Has ay0_1_0) ∧ (0 < y0_1.result.Vary.length → Has ay0_1_1) ∧ (0 < y0_1.result.Tags.length → Has ay0_1_2) ∧ (0 < y0_1.stack.length → Has ay0_1_3) ∧ y0_1.slots.length = 512 ∧ JH code inZ i0 y0_0 y0_1 = some s0) (fun zz => zz.1) (n, 0, (⟨inZ, most, (⟨inZ.Path, inZ.Query, [], [], [], (-1), 0, 0, false, false⟩ : Jf), [], (List.replicate 512 (⟨0, 0, ([] : Str), false⟩ : Jd))⟩ : Jb), none, 0, none, 0, none, 0, none, 0) rfl ⟨rfl, trivial⟩ (ConvH.of (.cons r4 (.cons r3 (.cons r2 (.cons r1 (.cons r0 (.cons r0 (.cons r0 (.cons r0 .nil))))))))) ⟨(fun h => by simp at h), (fun h => by simp at h), (fun h => by simp at h), (fun h => by simp at h), List.length_replicate, hl0⟩ ?_
 clear hl0
 rintro ⟨i0, y0_0, y0_1, ay0_1_0, cy0_1_0, ay0_1_1, cy0_1_1, ay0_1_2, cy0_1_2, ay0_1_3, cy0_1_3⟩ Kb0 lk0 ⟨hy0_1_0, hy0_1_1, hy0_1_2, hy0_1_3, zy0_1_4, hl0⟩ j0
 cases i0 with
 | zero => rw [JH.eq_1] at hl0; cases hl0
 | succ i0 =>
  rw [JH.eq_2] at hl0
  refine cs rfl rfl hl0 (fun w27 hl0 => ?_) fun w27 hl0 => ?_
  refine block_go rfl ?_
  obtain ⟨x33, l33, k33, hl0⟩ := ixb hl0
  refine RStep.ofN (index_addr rfl rfl (hasK (hp0_0.mono (l13.trans lk0)).rd k33) l33 (lt_ofE rfl l33 k33) (RStep.of (load_rd_agg ((y0_0).toNat) _ (hp0_0.mono (l13.trans lk0)).rd rfl (mp k33) rfl ?_)))
  obtain ⟨x35, q35, hl0⟩ := bnd hl0
  refine call_fn (JbB (m := (⟨inZ, y0_1.most, y0_1.result, y0_1.stack, y0_1.slots⟩ : Jb)) (atZ := y0_0) (x := x33) q35 (hp1_0.mono (l13.trans lk0)) hy0_1_0 hy0_1_1 hy0_1_2 hy0_1_3 zy0_1_4 (hG0.mono (l13.trans lk0)) (hG1.mono (l13.trans lk0)) (hG2.mono (l13.trans lk0)) (hG3.mono (l13.trans lk0)) (hG5.mono (l13.trans lk0))) (.cons r0 (.cons r0 (.cons r0 (.cons r0 (.cons r0 .nil))))) ?_
  rintro _ K35 _ l35 ⟨a35_0, c35_0, a35_1, c35_1, a35_2, c35_2, a35_3, c35_3, rfl, h35_0, h35_1, h35_2, h35_3, z35_4, rfl⟩
  refine neq_err rfl ?_
  refine cs rfl rfl hl0 (fun w39 hl0 => ?_) fun w39 hl0 => ?_
  refine build_struct rfl rfl ?_
  refine store_rule r5 rfl ?_
  refine ⟨rfl, rfl, (Nat.le_of_ble_eq_true rfl), ?_⟩
  obtain rfl := si hl0
  replace hm := elr hm
  obtain rfl := si hm
  refine RStep.of (loadn_s r0 rfl (Nat.le_of_ble_eq_true rfl) ?_)
  refine nilE Jg.enc 77 2 ?_
  refine nilE eS 9 1 ?_
  refine nilE eS 9 1 ?_
  refine EndStep.mk _ ((l13.trans lk0).trans l35) ⟨none, 0, none, 0, none, 0, rfl, (fun h => by simp at h), (fun h => by simp at h), (fun h => by simp at h), rfl⟩ (ConvH.of (.cons r2 (.cons r1 (.cons r0 (.cons r7 .nil)))))
  refine RoundStep.mk (i0, x35.1, (⟨inZ, x35.2.2.most, x35.2.2.result, x35.2.2.stack, x35.2.2.slots⟩ : Jb), a35_0, c35_0, a35_1, c35_1, a35_2, c35_2, a35_3, c35_3) ⟨rfl, trivial⟩ (by repeat (first | exact trivial | refine And.intro rfl ?_)) (ConvH.of (.cons r0 (.cons r0 (.cons r0 (.cons r0 (.cons r0 (.cons r0 (.cons r0 (.cons r0 .nil))))))))) (lk0.trans l35) (Nat.lt_succ_self _) ⟨h35_0, h35_1, h35_2, h35_3, z35_4, hl0⟩
  refine cond_T ?_
  refine MeetStep.mk ((y0_0, (⟨inZ, y0_1.most, y0_1.result, y0_1.stack, y0_1.slots⟩ : Jb)), ay0_1_0, cy0_1_0, ay0_1_1, cy0_1_1, ay0_1_2, cy0_1_2, ay0_1_3, cy0_1_3) ⟨rfl, trivial⟩ (by repeat (first | exact trivial | refine And.intro rfl ?_)) (ConvH.of (.cons r0 (.cons r0 (.cons r0 (.cons r0 (.cons r0 (.cons r0 (.cons r0 (.cons r0 .nil))))))))) lk0 ⟨hy0_1_0, hy0_1_1, hy0_1_2, hy0_1_3, zy0_1_4, (si hl0).symm⟩
 rintro ⟨t0, at0_1_0, ct0_1_0, at0_1_1, ct0_1_1, at0_1_2, ct0_1_2, at0_1_3, ct0_1_3⟩ Kt0 lt0 ⟨ht0_1_0, ht0_1_1, ht0_1_2, ht0_1_3, zt0_1_4, rfl⟩ j0
 replace hm := elg hm
 refine nil_check (Ja rfl (RStep.of (loadn_s r0 rfl (Nat.le_of_ble_eq_true rfl) ?_)))
 refine store_rule r5 rfl ?_
 refine ⟨rfl, rfl, (Nat.le_of_ble_eq_true rfl), ?_⟩
 obtain rfl := si hm
 refine RStep.of (loadn_s r0 rfl (Nat.le_of_ble_eq_true rfl) ?_)
 refine EndStep.mk _ (l13.trans lt0) ⟨at0_1_0, ct0_1_0, at0_1_1, ct0_1_1, at0_1_2, ct0_1_2, rfl, ht0_1_0, ht0_1_1, ht0_1_2, rfl⟩ (ConvH.of (.cons r2 (.cons r2 (.cons r2 (.cons r4 .nil)))))

noncomputable def JaD (n : Nat) : Option (Bool) :=
  (JaB n ([(⟨2, 0, ([120] : Str)⟩ : Je), (⟨11, 0, ([116, 97, 103] : Str)⟩ : Je), (⟨12, 0, ([] : Str)⟩ : Je)]) (⟨([] : Str), ([] : Str), ([47] : Str), ([] : Str), []⟩ : Jt) 3).bind fun x9 =>
  (if (x9.2.isNone && decide ((x9.1.Tags.length : Int) = 1)) then (ix x9.1.Tags 0).bind fun x23 =>
  some (decide (x23 = ([120] : Str))) else some false).bind fun x26 =>
  some (((x26 && decide (x9.1.Steps = 3)) && decide (x9.1.TTL = (-1))) && decide (x9.1.Path = ([47] : Str)))
set_option maxHeartbeats 8000000 in
theorem Jcu {n : Nat}  {K : Hp} {r : Bool}
    (hm : JaD n = some r) (hG0 : GlL eS 1 0 Jm K) (hG1 : GlL eS 1 1 Jr K) (hG2 : GlL eS 1 2 Jn K) (hG3 : GlN 3 K) (hG5 : GlA 5 (Go.Lib.pow10Tab.map fun z => Value.int .u64 z) K) :
    Fn Tryz.prog 10 [] K [] (fun v K' H' => v = .bool r ∧ H' = []) := by
 refine Fn.enter Tryz.func10 Tryz.call10 rfl fun F => ?_
 unfold JaD at hm
 refine build_struct rfl rfl (cond_T (cond_T (build_struct rfl rfl (cond_T (cond_T ?_)))))
 refine build_struct rfl rfl (cond_T ?_)
 refine bsO (len := 3) (enc := Je.enc) (l := [(⟨2, 0, ([120] : Str)⟩ : Je), (⟨11, 0, ([116, 97, 103] : Str)⟩ : Je), (⟨12, 0, ([] : Str)⟩ : Je)]) (cl := [.int .i64 2, .int .i64 0, str ([120] : Str), .int .i64 11, .int .i64 0, str ([116, 97, 103] : Str), .int .i64 12, .int .i64 0, str ([] : Str)]) elT38 rfl rfl (fun _ _ => rfl) rfl rfl rfl ?_ fun b7 => ?_
 · conv => whnf
   refine cond_T (cond_T (cond_T ?_))
   first | done | rfl
 refine build_struct rfl rfl (cond_T ?_)
 obtain ⟨x9, q9, hm⟩ := bnd hm
 refine call_fn (Fn.lend Tryz.call13 (fun K9_0 l9_0 f9_0 => (JbW (inZ := (⟨([] : Str), ([] : Str), ([47] : Str), ([] : Str), []⟩ : Jt)) (most := 3) q9 f9_0 rfl RdC.nil (hG0.mono l9_0) (hG1.mono l9_0) (hG2.mono l9_0) (hG3.mono l9_0) (hG5.mono l9_0))) (by exact fun _ _ _ _ h => h)) (.cons r0 .nil) ?_
 rintro _ K9 _ l9 ⟨_, rfl, a9_0, c9_0, a9_1, c9_1, a9_2, c9_2, rfl, h9_0, h9_1, h9_2, rfl⟩
 refine alloc_rule rfl ?_
 intro b1
 refine store_rule r0 rfl ?_
 refine ⟨rfl, rfl, (Nat.le_of_ble_eq_true rfl), ?_⟩
 refine guard_go rfl ?_
 refine eq_err rfl ?_
 refine cond_s (fun g14_2 => ?_) (fun g14_2 => ?_)
 refine Ja rfl (cond_t g14_2 (RStep.of (load1_s r0 rfl rfl (cond_t g14_2 (RStep.of (len_slice rfl (cond_t g14_2 ?_)))))))
 refine eq_int (cond_t g14_2 ?_)
 obtain ⟨x26, e26, hm⟩ := bnd hm
 refine cond_s (fun g20_2 => ?_) (fun g20_2 => ?_)
 replace e26 := ift (and_t g14_2 g20_2) e26
 refine Ja rfl (cond_t g20_2 (RStep.of (load1_s r0 rfl rfl (cond_t g20_2 ?_))))
 obtain ⟨x23, l23, k23, e26⟩ := ixb e26
 refine RStep.ofN (index_addr rfl rfl (hasO h9_2 k23) l23 (lt_ofE rfl l23 k23) (cond_t g20_2 (RStep.of (ld_own (i := (0 : Int).toNat) (o := 0) r4 rfl k23 rfl rfl (cond_t g20_2 (eq_str (cond_t g20_2 ?_)))))))
 refine cond_s (fun g27_2 => ?_) (fun g27_2 => ?_)
 refine Ja rfl (cond_t g27_2 (RStep.of (load1_s r0 rfl rfl (cond_t g27_2 (eq_int (cond_t g27_2 ?_))))))
 refine cond_s (fun g32_2 => ?_) (fun g32_2 => ?_)
 refine Ja rfl (cond_t g32_2 (RStep.of (load1_s r0 rfl rfl (cond_t g32_2 (eq_int (cond_t g32_2 ?_))))))
 refine cond_s (fun g37_2 => ?_) (fun g37_2 => ?_)
 refine Ja rfl (cond_t g37_2 (RStep.of (load1_s r0 rfl rfl (cond_t g37_2 (eq_str (cond_t g37_2 ?_))))))
 obtain rfl := si hm
 refine EndStep.mk _ l9 ⟨(by rw [← (and_e (b := decide (x9.1.Path = ([47] : Str))) (and_t (and_t ((si e26).symm.trans g27_2) g32_2) g37_2))] <;> rfl), rfl⟩ (ConvH.of (.cons r5 .nil))
 refine cond_f g37_2 (cond_f g37_2 (cond_f g37_2 ?_))
 obtain rfl := si hm
 refine EndStep.mk _ l9 ⟨(by rw [← ((and_f (and_g (and_t ((si e26).symm.trans g27_2) g32_2) g37_2))).symm] <;> rfl), rfl⟩ (ConvH.of (.cons r5 .nil))
 refine cond_f g32_2 (cond_f g32_2 (cond_f g32_2 (cond_F (cond_F (cond_F ?_)))))
 refine cond_F ?_
 obtain rfl := si hm
 refine EndStep.mk _ l9 ⟨(by rw [← ((and_f (and_f (and_g ((si e26).symm.trans g27_2) g32_2)))).symm] <;> rfl), rfl⟩ (ConvH.of (.cons r5 .nil))
 refine cond_f g27_2 (cond_f g27_2 (cond_f g27_2 (cond_F (cond_F (cond_F ?_)))))
 refine cond_F (cond_F (cond_F (cond_F (cond_F ?_))))
 obtain rfl := si hm
 refine EndStep.mk _ l9 ⟨(by rw [← ((and_f (and_f (and_f ((si e26).symm.trans g27_2))))).symm] <;> rfl), rfl⟩ (ConvH.of (.cons r5 .nil))
 replace e26 := iff_ (and_g g14_2 g20_2) e26
 refine cond_f g20_2 (cond_f g20_2 (cond_f g20_2 (cond_f g20_2 (cond_f g20_2 (cond_F ?_)))))
 refine cond_F (cond_F (cond_F (cond_F (cond_F (cond_F ?_)))))
 refine cond_F (cond_F (cond_F (cond_F (cond_F ?_))))
 obtain rfl := si hm
 refine EndStep.mk _ l9 ⟨(by rw [← ((and_f (and_f (and_f (si e26).symm)))).symm] <;> rfl), rfl⟩ (ConvH.of (.cons r5 .nil))
 refine cond_f g14_2 (cond_f g14_2 (cond_f g14_2 (cond_f g14_2 ?_)))
 obtain ⟨x26, e26, hm⟩ := bnd hm
 replace e26 := iff_ (and_f g14_2) e26
 refine cond_F (cond_F (cond_F (cond_F (cond_F (cond_F ?_)))))
 refine cond_F (cond_F (cond_F (cond_F (cond_F (cond_F ?_)))))
 refine cond_F (cond_F (cond_F (cond_F (cond_F (cond_F ?_)))))
 obtain rfl := si hm
 refine EndStep.mk _ l9 ⟨(by rw [← ((and_f (and_f (and_f (si e26).symm)))).symm] <;> rfl), rfl⟩ (ConvH.of (.cons r5 .nil))

noncomputable def J1 (s : Str) : Option (Ji) :=
  some (⟨1, 0, s, false⟩ : Ji)
set_option maxHeartbeats 8000000 in
theorem Jax {s : Str} {K : Hp} {r : Ji}
    (hm : J1 s = some r)  :
    Fn Tryz.prog 39 [str s] K [] (fun v K' H' => v = .agg #[.int .i64 r.TypeZ, .int .i64 r.N, str r.S, .bool r.Is] ∧ H' = []) := by
 refine Fn.enter Tryz.func39 Tryz.call39 rfl fun F => ?_
 unfold J1 at hm
 refine alloc_rule rfl ?_
 intro b2
 refine build_struct rfl rfl (cond_T (cond_T ?_))
 refine store_rule r0 rfl ?_
 refine ⟨rfl, rfl, (Nat.le_of_ble_eq_true rfl), ?_⟩
 obtain rfl := si hm
 refine RStep.of (loadn_s r0 rfl (Nat.le_of_ble_eq_true rfl) ?_)
 refine EndStep.mk _ (Hp.Le.refl _) ⟨rfl, rfl⟩ (ConvH.of (.cons r1 .nil))

noncomputable def Jcm (n' : Int) (low : Int) (high : Int) : Option (Int) :=
  some (max low (min n' high))
set_option maxHeartbeats 8000000 in
theorem JcC {n' : Int} {low : Int} {high : Int} {K : Hp} {r : Int}
    (hm : Jcm n' low high = some r)  :
    Fn Tryz.prog 80 [.int .i64 n', .int .i64 low, .int .i64 high] K [] (fun v K' H' => v = .int .i64 r ∧ H' = []) := by
 refine Fn.enter Tryz.func80 Tryz.call80 rfl fun F => ?_
 unfold Jcm at hm
 refine RStep.of (min_int (RStep.of (max_int ?_)))
 obtain rfl := si hm
 refine EndStep.mk _ (Hp.Le.refl _) ⟨rfl, rfl⟩ (ConvH.of (.cons r0 .nil))

noncomputable def JaE (n' : Int) : Option (Ji) :=
  (Jcm n' (-1099511627776) 1099511627776).bind fun x4 =>
  some (⟨2, x4, ([] : Str), false⟩ : Ji)
set_option maxHeartbeats 8000000 in
theorem JaF {n' : Int} {K : Hp} {r : Ji}
    (hm : JaE n' = some r)  :
    Fn Tryz.prog 40 [.int .i64 n'] K [] (fun v K' H' => v = .agg #[.int .i64 r.TypeZ, .int .i64 r.N, str r.S, .bool r.Is] ∧ H' = []) := by
 refine Fn.enter Tryz.func40 Tryz.call40 rfl fun F => ?_
 unfold JaE at hm
 refine alloc_rule rfl ?_
 intro b2
 obtain ⟨x4, q4, hm⟩ := bnd hm
 refine call_fn (JcC (n' := n') (low := (-1099511627776)) (high := 1099511627776) q4) .nil ?_
 rintro _ K4 _ l4 ⟨rfl, rfl⟩
 refine build_struct rfl rfl (cond_T (cond_T ?_))
 refine store_rule r0 rfl ?_
 refine ⟨rfl, rfl, (Nat.le_of_ble_eq_true rfl), ?_⟩
 obtain rfl := si hm
 refine RStep.of (loadn_s r0 rfl (Nat.le_of_ble_eq_true rfl) ?_)
 refine EndStep.mk _ l4 ⟨rfl, rfl⟩ (ConvH.of (.cons r1 .nil))

noncomputable def JaW (a : Int) (b : Int) : Option (Ji) :=
  ((if decide (a ≠ 0) then
  (chk (InI (-a))).bind fun _ =>
  (chk ((max a (-a)) ≠ 0 ∧ InI (Int.tdiv 2199023255552 (max a (-a))))).bind fun _ =>
  (if decide (b > (Int.tdiv 2199023255552 (max a (-a)))) then some true else (chk (InI (-a))).bind fun _ =>
  (chk ((max a (-a)) ≠ 0 ∧ InI (Int.tdiv 2199023255552 (max a (-a))))).bind fun _ =>
  (chk (InI (-(Int.tdiv 2199023255552 (max a (-a)))))).bind fun _ =>
  some (decide (b < (-(Int.tdiv 2199023255552 (max a (-a))))))).bind fun x24 =>
  some x24
  else
  some false) : Option (Bool)).bind fun t901 =>
  if t901 then
  if ((decide (a > 0)) == (decide (b > 0))) then
  (JaE 1099511627776).bind fun x31 =>
  some x31
  else
  (JaE (-1099511627776)).bind fun x32 =>
  some x32
  else
  (chk (InI (a * b))).bind fun _ =>
  (JaE (a * b)).bind fun x36 =>
  some x36
set_option maxHeartbeats 8000000 in
theorem Jci {a : Int} {b : Int} {K : Hp} {r : Ji}
    (hm : JaW a b = some r)  :
    Fn Tryz.prog 41 [.int .i64 a, .int .i64 b] K [] (fun v K' H' => v = .agg #[.int .i64 r.TypeZ, .int .i64 r.N, str r.S, .bool r.Is] ∧ H' = []) := by
 refine Fn.enter Tryz.func41 Tryz.call41 rfl fun F => ?_
 unfold JaW at hm
 refine alloc_rule rfl ?_
 intro b4
 obtain ⟨s901, hl901, hm⟩ := bnd hm
 refine code_cut (σ := Bool) [5, 6, 7, 8, 9, 10, 11, 12, 13, 14, 15, 16, 17, 18, 19, 20, 21, 22, 23, 24, 25] (fun t901 => [(25, .bool t901)]) (fun _ => [Cells b4 56 [.int .i64 0, .int .i64 0, str ([] : Str), .bool false], F]) (fun t901 K1 => K1 = K ∧ t901 = s901) ?_ ?_
 refine guard_go rfl ?_
 refine neq_int ?_
 refine cond_s (fun g7_1 => ?_) (fun g7_1 => ?_)
 replace hl901 := ift g7_1 hl901
 refine cond_t g7_1 (cond_t g7_1 (cond_t g7_1 ?_))
 obtain ⟨h11, hl901⟩ := chkb hl901
 refine un_neg h11 ?_
 refine cond_t g7_1 (RStep.of (max_int (cond_t g7_1 ?_)))
 obtain ⟨h13, hl901⟩ := chkb hl901
 refine quo_t h13.1 h13.2 (cond_t g7_1 (cond_t g7_1 ?_))
 obtain ⟨x24, e24, hl901⟩ := bnd hl901
 refine cond_s (fun g15_1 => ?_) (fun g15_1 => ?_)
 replace e24 := ift g15_1 e24
 refine cond_t g15_1 (cond_t g15_1 (cond_t g15_1 (cond_t g15_1 (cond_t g15_1 (cond_t g15_1 ?_)))))
 refine cond_t g15_1 (cond_t g7_1 (cond_t g15_1 (cond_t g7_1 ?_)))
 refine MeetStep.mk (x24) ⟨(by rw [← ((si e24).symm).symm] <;> rfl), trivial⟩ (by repeat (first | exact trivial | refine And.intro rfl ?_)) (ConvH.of (.cons r0 (.cons r0 .nil))) (Hp.Le.refl _) ⟨rfl, (si hl901)⟩
 replace e24 := iff_ g15_1 e24
 refine cond_f g15_1 (cond_f g15_1 (cond_f g15_1 ?_))
 obtain ⟨h19, e24⟩ := chkb e24
 refine un_neg h19 ?_
 refine cond_f g15_1 (RStep.of (max_int (cond_f g15_1 ?_)))
 obtain ⟨h21, e24⟩ := chkb e24
 refine quo_t h21.1 h21.2 (cond_f g15_1 ?_)
 obtain ⟨h22, e24⟩ := chkb e24
 refine un_neg h22 ?_
 refine cond_f g15_1 (cond_t g7_1 (cond_f g15_1 (cond_t g7_1 ?_)))
 refine MeetStep.mk (x24) ⟨(by rw [← (si e24)] <;> rfl), trivial⟩ (by repeat (first | exact trivial | refine And.intro rfl ?_)) (ConvH.of (.cons r0 (.cons r0 .nil))) (Hp.Le.refl _) ⟨rfl, (si hl901)⟩
 replace hl901 := iff_ g7_1 hl901
 refine cond_f g7_1 (cond_f g7_1 (cond_f g7_1 (cond_f g7_1 (cond_f g7_1 (cond_f g7_1 ?_)))))
 refine cond_f g7_1 (cond_f g7_1 (cond_f g7_1 ?_))
 refine MeetStep.mk (false) ⟨rfl, trivial⟩ (by repeat (first | exact trivial | refine And.intro rfl ?_)) (ConvH.of (.cons r0 (.cons r0 .nil))) (Hp.Le.refl _) ⟨rfl, (si hl901)⟩
 rintro t901 _ _ ⟨rfl, rfl⟩ j901
 refine cs rfl rfl hm (fun w25 hm => ?_) fun w25 hm => ?_
 refine eq_bool rfl ?_
 refine cs rfl rfl hm (fun w30 hm => ?_) fun w30 hm => ?_
 obtain ⟨x31, q31, hm⟩ := bnd hm
 refine call_fn (JaF (n' := 1099511627776) q31) .nil ?_
 rintro _ K31 _ l31 ⟨rfl, rfl⟩
 refine store_rule r0 rfl ?_
 refine ⟨rfl, rfl, (Nat.le_of_ble_eq_true rfl), ?_⟩
 obtain rfl := si hm
 refine RStep.of (loadn_s r0 rfl (Nat.le_of_ble_eq_true rfl) ?_)
 refine EndStep.mk _ l31 ⟨rfl, rfl⟩ (ConvH.of (.cons r1 .nil))
 obtain ⟨x32, q32, hm⟩ := bnd hm
 refine call_fn (JaF (n' := (-1099511627776)) q32) .nil ?_
 rintro _ K32 _ l32 ⟨rfl, rfl⟩
 refine store_rule r0 rfl ?_
 refine ⟨rfl, rfl, (Nat.le_of_ble_eq_true rfl), ?_⟩
 obtain rfl := si hm
 refine RStep.of (loadn_s r0 rfl (Nat.le_of_ble_eq_true rfl) ?_)
 refine EndStep.mk _ l32 ⟨rfl, rfl⟩ (ConvH.of (.cons r1 .nil))
 obtain ⟨h35, hm⟩ := chkb hm
 refine int_in h35 ?_
 obtain ⟨x36, q36, hm⟩ := bnd hm
 refine call_fn (JaF (n' := (a * b)) q36) .nil ?_
 rintro _ K36 _ l36 ⟨rfl, rfl⟩
 refine store_rule r0 rfl ?_
 refine ⟨rfl, rfl, (Nat.le_of_ble_eq_true rfl), ?_⟩
 obtain rfl := si hm
 refine RStep.of (loadn_s r0 rfl (Nat.le_of_ble_eq_true rfl) ?_)
 refine EndStep.mk _ l36 ⟨rfl, rfl⟩ (ConvH.of (.cons r1 .nil))

noncomputable def Jab (isZ : Bool) : Option (Ji) :=
  some (⟨3, 0, ([] : Str), isZ⟩ : Ji)
set_option maxHeartbeats 8000000 in
theorem JP {isZ : Bool} {K : Hp} {r : Ji}
    (hm : Jab isZ = some r)  :
    Fn Tryz.prog 42 [.bool isZ] K [] (fun v K' H' => v = .agg #[.int .i64 r.TypeZ, .int .i64 r.N, str r.S, .bool r.Is] ∧ H' = []) := by
 refine Fn.enter Tryz.func42 Tryz.call42 rfl fun F => ?_
 unfold Jab at hm
 refine alloc_rule rfl ?_
 intro b2
 refine build_struct rfl rfl (cond_T (cond_T ?_))
 refine store_rule r0 rfl ?_
 refine ⟨rfl, rfl, (Nat.le_of_ble_eq_true rfl), ?_⟩
 obtain rfl := si hm
 refine RStep.of (loadn_s r0 rfl (Nat.le_of_ble_eq_true rfl) ?_)
 refine EndStep.mk _ (Hp.Le.refl _) ⟨rfl, rfl⟩ (ConvH.of (.cons r1 .nil))

noncomputable def J2 (t : Str) (s : Str) : Nat → Int → Option (Fl (Bool) (Int))
  | 0, _ => none
  | xs0 + 1, y0_0 =>
    (chk (InI (y0_0 + (t.length : Int)))).bind fun _ =>
    if decide ((y0_0 + (t.length : Int)) ≤ (s.length : Int)) then
    (chk (InI (y0_0 + (t.length : Int)))).bind fun _ =>
    (chk (0 ≤ y0_0 ∧ y0_0 ≤ (y0_0 + (t.length : Int)) ∧ (y0_0 + (t.length : Int)) ≤ (s.length : Int))).bind fun _ =>
    if decide ((subL s y0_0 (y0_0 + (t.length : Int))) = t) then
    some (Fl.ret true)
    else
    (chk (InI (y0_0 + 1))).bind fun _ =>
    J2 t s xs0 (y0_0 + 1)
    else
    some (Fl.go y0_0)
noncomputable def JaL (n : Nat) (s : Str) (t : Str) : Option (Bool) :=
  (J2 t s n 0).bind fun s0 => s0.el some fun t0 =>
  some false
set_option maxHeartbeats 8000000 in
theorem Jb5 {n : Nat} {s : Str} {t : Str} {K : Hp} {r : Bool}
    (hm : JaL n s t = some r)  :
    Fn Tryz.prog 43 [str s, str t] K [] (fun v K' H' => v = .bool r ∧ H' = []) := by
 refine Fn.enter Tryz.func43 Tryz.call43 rfl fun F => ?_
 unfold JaL at hm
 obtain ⟨s0, hl0, hm⟩ := bnd hm
 refine code_cut (σ := (Int)) [4, 5, 6, 7, 8, 9, 10, 11, 12, 13, 14, 15, 16, 17, 18, 19, 20, 21, 22, 23] (fun t0 => [(5, .int .i64 t0)]) (fun t0 => [F]) (fun zz K1 => match zz with | t0 => s0 = Fl.go t0) ?_ ?_
 refine block_go rfl ?_
 refine loop_rule (σ := Nat × Int) [4, 5, 6, 7, 8, 9, 10, 11, 12, 13, 14, 15, 16, 17, 18, 19, 20, 21, 22, 23] (fun (i0, y0_0) => [(5, .int .i64 y0_0)]) (fun (i0, y0_0) => [F]) (fun zz K1 => match zz with | (i0, y0_0) => J2 t s i0 y0_0 = some s0) (fun zz => zz.1) (n, 0) rfl ⟨rfl, trivial⟩ (ConvH.of (.cons r0 .nil)) hl0 ?_
 clear hl0
 rintro ⟨i0, y0_0⟩ Kb0 lk0 hl0 j0
 conv at hl0 => whnf
 cases i0 with
 | zero => rw [J2.eq_1] at hl0; cases hl0
 | succ i0 =>
  rw [J2.eq_2] at hl0
  refine RStep.of (len_str rfl ?_)
  obtain ⟨h9, hl0⟩ := chkb hl0
  refine int_in h9 (RStep.of (len_str rfl ?_))
  refine cs rfl rfl hl0 (fun w12 hl0 => ?_) fun w12 hl0 => ?_
  refine block_go rfl ?_
  refine RStep.of (len_str rfl ?_)
  obtain ⟨h20, hl0⟩ := chkb hl0
  refine int_in h20 ?_
  obtain ⟨h21, hl0⟩ := chkb hl0
  refine RStep.ofN (sl_str (lo := (some y0_0)) (hi := (some (y0_0 + (t.length : Int)))) rfl h21 (eq_str ?_))
  refine cs rfl rfl hl0 (fun w23 hl0 => ?_) fun w23 hl0 => ?_
  obtain rfl := si hl0
  replace hm := elr hm
  obtain rfl := si hm
  refine EndStep.mk _ lk0 ⟨rfl, rfl⟩ (ConvH.of (.cons r0 .nil))
  obtain ⟨h14, hl0⟩ := chkb hl0
  refine int_in h14 ?_
  refine RoundStep.mk (i0, (y0_0 + 1)) ⟨rfl, trivial⟩ (by repeat (first | exact trivial | refine And.intro rfl ?_)) (ConvH.of (.cons r0 .nil)) lk0 (Nat.lt_succ_self _) hl0
  refine cond_T ?_
  refine MeetStep.mk (y0_0) ⟨rfl, trivial⟩ (by repeat (first | exact trivial | refine And.intro rfl ?_)) (ConvH.of (.cons r0 .nil)) lk0 (si hl0).symm
 rintro t0 Kt0 lt0 rfl j0
 replace hm := elg hm
 obtain rfl := si hm
 refine EndStep.mk _ lt0 ⟨rfl, rfl⟩ (ConvH.of (.cons r0 .nil))

noncomputable def Js (n : Nat) (op : Str) (a : Ji) (b : Ji) : Option (Ji × Bool) :=
  if decide (op = ([43] : Str)) then
  if (decide (a.TypeZ = 1) && decide (b.TypeZ = 1)) then
  (chk (a.S.length + b.S.length ≤ lim)).bind fun _ =>
  (J1 (a.S ++ b.S)).bind fun x35 =>
  some (x35, true)
  else
  (chk (InI (a.N + b.N))).bind fun _ =>
  (JaE (a.N + b.N)).bind fun x41 =>
  some (x41, (decide (a.TypeZ = 2) && decide (b.TypeZ = 2)))
  else
  if decide (op = ([45] : Str)) then
  (chk (InI (a.N - b.N))).bind fun _ =>
  (JaE (a.N - b.N)).bind fun x50 =>
  some (x50, (decide (a.TypeZ = 2) && decide (b.TypeZ = 2)))
  else
  if decide (op = ([42] : Str)) then
  (JaW a.N b.N).bind fun x58 =>
  some (x58, (decide (a.TypeZ = 2) && decide (b.TypeZ = 2)))
  else
  if decide (op = ([61, 61] : Str)) then
  (Jab (decide (a.TypeZ = b.TypeZ) && (decide (a.N = b.N) && (decide (a.S = b.S) && (a.Is == b.Is))))).bind fun x65 =>
  some (x65, decide (a.TypeZ = b.TypeZ))
  else
  if decide (op = ([33, 61] : Str)) then
  (Jab (!(decide (a.TypeZ = b.TypeZ) && (decide (a.N = b.N) && (decide (a.S = b.S) && (a.Is == b.Is)))))).bind fun x76 =>
  some (x76, decide (a.TypeZ = b.TypeZ))
  else
  if decide (op = ([60] : Str)) then
  (Jab (decide (a.N < b.N))).bind fun x89 =>
  some (x89, (decide (a.TypeZ = 2) && decide (b.TypeZ = 2)))
  else
  if decide (op = ([60, 61] : Str)) then
  (Jab (decide (a.N ≤ b.N))).bind fun x98 =>
  some (x98, (decide (a.TypeZ = 2) && decide (b.TypeZ = 2)))
  else
  if decide (op = ([115, 116, 97, 114, 116, 115] : Str)) then
  (if decide ((a.S.length : Int) ≥ (b.S.length : Int)) then (chk (0 ≤ (0 : Int) ∧ (0 : Int) ≤ (min (a.S.length : Int) (b.S.length : Int)) ∧ (min (a.S.length : Int) (b.S.length : Int)) ≤ (a.S.length : Int))).bind fun _ =>
  some (decide ((subL a.S (0 : Int) (min (a.S.length : Int) (b.S.length : Int))) = b.S)) else some false).bind fun x123 =>
  (Jab x123).bind fun x124 =>
  some (x124, (decide (a.TypeZ = 1) && decide (b.TypeZ = 1)))
  else
  if decide (op = ([101, 110, 100, 115] : Str)) then
  (if decide ((a.S.length : Int) ≥ (b.S.length : Int)) then (chk (InI ((a.S.length : Int) - (b.S.length : Int)))).bind fun _ =>
  (chk (0 ≤ (max 0 ((a.S.length : Int) - (b.S.length : Int))) ∧ (max 0 ((a.S.length : Int) - (b.S.length : Int))) ≤ (a.S.length : Int) ∧ (a.S.length : Int) ≤ (a.S.length : Int))).bind fun _ =>
  some (decide ((subL a.S (max 0 ((a.S.length : Int) - (b.S.length : Int))) (a.S.length : Int)) = b.S)) else some false).bind fun x150 =>
  (Jab x150).bind fun x151 =>
  some (x151, (decide (a.TypeZ = 1) && decide (b.TypeZ = 1)))
  else
  (JaL n a.S b.S).bind fun x157 =>
  (Jab x157).bind fun x158 =>
  some (x158, (decide (a.TypeZ = 1) && decide (b.TypeZ = 1)))
set_option maxHeartbeats 8000000 in
theorem Jba {n : Nat} {op : Str} {a : Ji} {b : Ji} {K : Hp} {r : Ji × Bool}
    (hm : Js n op a b = some r)  :
    Fn Tryz.prog 19 [str op, .agg #[.int .i64 a.TypeZ, .int .i64 a.N, str a.S, .bool a.Is], .agg #[.int .i64 b.TypeZ, .int .i64 b.N, str b.S, .bool b.Is]] K [] (fun v K' H' => v = .tuple #[.agg #[.int .i64 r.1.TypeZ, .int .i64 r.1.N, str r.1.S, .bool r.1.Is], .bool r.2] ∧ H' = []) := by
 refine Fn.enter Tryz.func19 Tryz.call19 rfl fun F => ?_
 unfold Js at hm
 refine box_rule ?_
 intro b4
 refine box_rule ?_
 intro b5
 refine alloc_rule rfl ?_
 intro b6
 refine draw_cut (σ := Unit) [8, 9, 10, 11, 12, 13, 14, 15, 16, 17, 18, 19, 20, 21, 22, 23, 24, 25] (fun _ => [(8, .bool (decide (a.TypeZ = 1) && decide (b.TypeZ = 1))), (9, .bool (decide (a.TypeZ = 2) && decide (b.TypeZ = 2)))]) (fun _ => [Cells b6 56 [.int .i64 0, .int .i64 0, str ([] : Str), .bool false], Cells b5 56 [.int .i64 b.TypeZ, .int .i64 b.N, str b.S, .bool b.Is], Cells b4 56 [.int .i64 a.TypeZ, .int .i64 a.N, str a.S, .bool a.Is], F]) (fun t901 K1 => K1 = K) ?_ ?_
 refine draw_go ⟨⟨[], false⟩, _, [(_, _), (_, _)], []⟩ (by kernel_rfl) ⟨Hp.Le.refl _, (ConvH.of (.cons r2 (.cons r1 .nil))), ci0⟩ ?_
 refine Ja rfl (load1_l m0 rfl rfl (eq_int ?_))
 refine cond_s (fun g13_1 => ?_) (fun g13_1 => ?_)
 refine Ja rfl (cond_t g13_1 (load1_l m1 rfl rfl (cond_t g13_1 (eq_int (cond_t g13_1 ?_)))))
 refine Ja rfl (load1_l m0 rfl rfl (eq_int ?_))
 refine cond_s (fun g21_1 => ?_) (fun g21_1 => ?_)
 refine Ja rfl (cond_t g21_1 (load1_l m1 rfl rfl (cond_t g21_1 (eq_int (cond_t g21_1 ?_)))))
 refine MeetStep.mk (()) ⟨(by rw [← (and_e (b := decide (b.TypeZ = 1)) g13_1)] <;> rfl), (by rw [← (and_e (b := decide (b.TypeZ = 2)) g21_1)] <;> rfl), trivial⟩ (by repeat (first | exact trivial | refine And.intro rfl ?_)) (ConvH.of (.cons r0 (.cons r0 (.cons r0 (.cons r0 .nil))))) (Hp.Le.refl _) rfl
 refine cond_f g21_1 (cond_f g21_1 (cond_f g21_1 ?_))
 refine MeetStep.mk (()) ⟨(by rw [← (and_e (b := decide (b.TypeZ = 1)) g13_1)] <;> rfl), (by rw [← ((and_f g21_1)).symm] <;> rfl), trivial⟩ (by repeat (first | exact trivial | refine And.intro rfl ?_)) (ConvH.of (.cons r0 (.cons r0 (.cons r0 (.cons r0 .nil))))) (Hp.Le.refl _) rfl
 refine cond_f g13_1 (cond_f g13_1 (cond_f g13_1 (Ja rfl (load1_l m0 rfl rfl (eq_int ?_)))))
 refine cond_s (fun g21_1 => ?_) (fun g21_1 => ?_)
 refine Ja rfl (cond_t g21_1 (load1_l m1 rfl rfl (cond_t g21_1 (eq_int (cond_t g21_1 ?_)))))
 refine MeetStep.mk (()) ⟨(by rw [← ((and_f g13_1)).symm] <;> rfl), (by rw [← (and_e (b := decide (b.TypeZ = 2)) g21_1)] <;> rfl), trivial⟩ (by repeat (first | exact trivial | refine And.intro rfl ?_)) (ConvH.of (.cons r0 (.cons r0 (.cons r0 (.cons r0 .nil))))) (Hp.Le.refl _) rfl
 refine cond_f g21_1 (cond_f g21_1 (cond_f g21_1 ?_))
 refine MeetStep.mk (()) ⟨(by rw [← ((and_f g13_1)).symm] <;> rfl), (by rw [← ((and_f g21_1)).symm] <;> rfl), trivial⟩ (by repeat (first | exact trivial | refine And.intro rfl ?_)) (ConvH.of (.cons r0 (.cons r0 (.cons r0 (.cons r0 .nil))))) (Hp.Le.refl _) rfl
 rintro _ _ _ rfl j901
 refine block_go rfl ?_
 refine eq_str ?_
 refine cs rfl rfl hm (fun w27 hm => ?_) fun w27 hm => ?_
 refine cs rfl rfl hm (fun w29 hm => ?_) fun w29 hm => ?_
 refine Ja rfl (RStep.of (load1_s r2 rfl rfl (Ja rfl (RStep.of (load1_s r1 rfl rfl ?_)))))
 obtain ⟨h34, hm⟩ := chkb hm
 refine cat_str h34 ?_
 obtain ⟨x35, q35, hm⟩ := bnd hm
 refine call_fn (Jax (s := (a.S ++ b.S)) q35) .nil ?_
 rintro _ K35 _ l35 ⟨rfl, rfl⟩
 refine store_rule r0 rfl ?_
 refine ⟨rfl, rfl, (Nat.le_of_ble_eq_true rfl), ?_⟩
 obtain rfl := si hm
 refine RStep.of (loadn_s r0 rfl (Nat.le_of_ble_eq_true rfl) ?_)
 refine EndStep.mk _ l35 ⟨rfl, rfl⟩ (ConvH.of (.cons r3 .nil))
 refine Ja rfl (RStep.of (load1_s r2 rfl rfl (Ja rfl (RStep.of (load1_s r1 rfl rfl ?_)))))
 obtain ⟨h40, hm⟩ := chkb hm
 refine int_in h40 ?_
 obtain ⟨x41, q41, hm⟩ := bnd hm
 refine call_fn (JaF (n' := (a.N + b.N)) q41) .nil ?_
 rintro _ K41 _ l41 ⟨rfl, rfl⟩
 refine store_rule r0 rfl ?_
 refine ⟨rfl, rfl, (Nat.le_of_ble_eq_true rfl), ?_⟩
 obtain rfl := si hm
 refine RStep.of (loadn_s r0 rfl (Nat.le_of_ble_eq_true rfl) ?_)
 refine EndStep.mk _ l41 ⟨rfl, rfl⟩ (ConvH.of (.cons r3 .nil))
 refine eq_str ?_
 refine cs rfl rfl hm (fun w43 hm => ?_) fun w43 hm => ?_
 refine Ja rfl (RStep.of (load1_s r2 rfl rfl (Ja rfl (RStep.of (load1_s r1 rfl rfl ?_)))))
 obtain ⟨h49, hm⟩ := chkb hm
 refine int_in h49 ?_
 obtain ⟨x50, q50, hm⟩ := bnd hm
 refine call_fn (JaF (n' := (a.N - b.N)) q50) .nil ?_
 rintro _ K50 _ l50 ⟨rfl, rfl⟩
 refine store_rule r0 rfl ?_
 refine ⟨rfl, rfl, (Nat.le_of_ble_eq_true rfl), ?_⟩
 obtain rfl := si hm
 refine RStep.of (loadn_s r0 rfl (Nat.le_of_ble_eq_true rfl) ?_)
 refine EndStep.mk _ l50 ⟨rfl, rfl⟩ (ConvH.of (.cons r3 .nil))
 refine eq_str ?_
 refine cs rfl rfl hm (fun w52 hm => ?_) fun w52 hm => ?_
 refine Ja rfl (RStep.of (load1_s r2 rfl rfl (Ja rfl (RStep.of (load1_s r1 rfl rfl ?_)))))
 obtain ⟨x58, q58, hm⟩ := bnd hm
 refine call_fn (Jci (a := a.N) (b := b.N) q58) .nil ?_
 rintro _ K58 _ l58 ⟨rfl, rfl⟩
 refine store_rule r0 rfl ?_
 refine ⟨rfl, rfl, (Nat.le_of_ble_eq_true rfl), ?_⟩
 obtain rfl := si hm
 refine RStep.of (loadn_s r0 rfl (Nat.le_of_ble_eq_true rfl) ?_)
 refine EndStep.mk _ l58 ⟨rfl, rfl⟩ (ConvH.of (.cons r3 .nil))
 refine eq_str ?_
 refine cs rfl rfl hm (fun w60 hm => ?_) fun w60 hm => ?_
 refine draw_go ⟨⟨[], false⟩, _, [(_, _), (_, _)], []⟩ (by kernel_rfl) ⟨Hp.Le.refl _, (ConvH.of (.cons r2 (.cons r1 .nil))), ci0⟩ ?_
 refine loadn_l m0 rfl (Nat.le_of_ble_eq_true rfl) (loadn_l m1 rfl (Nat.le_of_ble_eq_true rfl) ?_)
 refine eq_agg (b := (decide (a.TypeZ = b.TypeZ) && (decide (a.N = b.N) && (decide (a.S = b.S) && (a.Is == b.Is))))) rfl (by kernel_rfl) (by kernel_rfl) (by kernel_rfl) rfl ?_
 obtain ⟨x65, q65, hm⟩ := bnd hm
 refine call_fn (JP (isZ := (decide (a.TypeZ = b.TypeZ) && (decide (a.N = b.N) && (decide (a.S = b.S) && (a.Is == b.Is))))) q65) .nil ?_
 rintro _ K65 _ l65 ⟨rfl, rfl⟩
 refine ⟨⟨l65, (ConvH.of (.cons r2 (.cons r1 .nil))), ci0⟩, ?_⟩
 refine Ja rfl (load1_l m0 rfl rfl (Ja rfl (load1_l m1 rfl rfl (eq_int ?_))))
 refine store_rule r0 rfl ?_
 refine ⟨rfl, rfl, (Nat.le_of_ble_eq_true rfl), ?_⟩
 refine ⟨⟨l65, (ConvH.of (.cons r2 (.cons r1 .nil))), ci0⟩, ?_⟩
 obtain rfl := si hm
 refine RStep.of (loadn_s r0 rfl (Nat.le_of_ble_eq_true rfl) ?_)
 refine EndStep.mk _ l65 ⟨rfl, rfl⟩ (ConvH.of (.cons r3 .nil))
 refine eq_str ?_
 refine cs rfl rfl hm (fun w71 hm => ?_) fun w71 hm => ?_
 refine draw_go ⟨⟨[], false⟩, _, [(_, _), (_, _)], []⟩ (by kernel_rfl) ⟨Hp.Le.refl _, (ConvH.of (.cons r2 (.cons r1 .nil))), ci0⟩ ?_
 refine loadn_l m0 rfl (Nat.le_of_ble_eq_true rfl) (loadn_l m1 rfl (Nat.le_of_ble_eq_true rfl) ?_)
 refine neq_agg (b := (decide (a.TypeZ = b.TypeZ) && (decide (a.N = b.N) && (decide (a.S = b.S) && (a.Is == b.Is))))) rfl (by kernel_rfl) (by kernel_rfl) (by kernel_rfl) rfl ?_
 obtain ⟨x76, q76, hm⟩ := bnd hm
 refine call_fn (JP (isZ := (!(decide (a.TypeZ = b.TypeZ) && (decide (a.N = b.N) && (decide (a.S = b.S) && (a.Is == b.Is)))))) q76) .nil ?_
 rintro _ K76 _ l76 ⟨rfl, rfl⟩
 refine ⟨⟨l76, (ConvH.of (.cons r2 (.cons r1 .nil))), ci0⟩, ?_⟩
 refine Ja rfl (load1_l m0 rfl rfl (Ja rfl (load1_l m1 rfl rfl (eq_int ?_))))
 refine store_rule r0 rfl ?_
 refine ⟨rfl, rfl, (Nat.le_of_ble_eq_true rfl), ?_⟩
 refine ⟨⟨l76, (ConvH.of (.cons r2 (.cons r1 .nil))), ci0⟩, ?_⟩
 obtain rfl := si hm
 refine RStep.of (loadn_s r0 rfl (Nat.le_of_ble_eq_true rfl) ?_)
 refine EndStep.mk _ l76 ⟨rfl, rfl⟩ (ConvH.of (.cons r3 .nil))
 refine eq_str ?_
 refine cs rfl rfl hm (fun w82 hm => ?_) fun w82 hm => ?_
 refine Ja rfl (RStep.of (load1_s r2 rfl rfl (Ja rfl (RStep.of (load1_s r1 rfl rfl ?_)))))
 obtain ⟨x89, q89, hm⟩ := bnd hm
 refine call_fn (JP (isZ := (decide (a.N < b.N))) q89) .nil ?_
 rintro _ K89 _ l89 ⟨rfl, rfl⟩
 refine store_rule r0 rfl ?_
 refine ⟨rfl, rfl, (Nat.le_of_ble_eq_true rfl), ?_⟩
 obtain rfl := si hm
 refine RStep.of (loadn_s r0 rfl (Nat.le_of_ble_eq_true rfl) ?_)
 refine EndStep.mk _ l89 ⟨rfl, rfl⟩ (ConvH.of (.cons r3 .nil))
 refine eq_str ?_
 refine cs rfl rfl hm (fun w91 hm => ?_) fun w91 hm => ?_
 refine Ja rfl (RStep.of (load1_s r2 rfl rfl (Ja rfl (RStep.of (load1_s r1 rfl rfl ?_)))))
 obtain ⟨x98, q98, hm⟩ := bnd hm
 refine call_fn (JP (isZ := (decide (a.N ≤ b.N))) q98) .nil ?_
 rintro _ K98 _ l98 ⟨rfl, rfl⟩
 refine store_rule r0 rfl ?_
 refine ⟨rfl, rfl, (Nat.le_of_ble_eq_true rfl), ?_⟩
 obtain rfl := si hm
 refine RStep.of (loadn_s r0 rfl (Nat.le_of_ble_eq_true rfl) ?_)
 refine EndStep.mk _ l98 ⟨rfl, rfl⟩ (ConvH.of (.cons r3 .nil))
 refine eq_str ?_
 refine cs rfl rfl hm (fun w100 hm => ?_) fun w100 hm => ?_
 refine draw_go ⟨⟨[], false⟩, _, [(_, _), (_, _)], []⟩ (by kernel_rfl) ⟨Hp.Le.refl _, (ConvH.of (.cons r2 (.cons r1 .nil))), ci0⟩ ?_
 refine Ja rfl (load1_l m0 rfl rfl (len_strN rfl (Ja rfl (load1_l m1 rfl rfl (len_strN rfl ?_)))))
 obtain ⟨x123, e123, hm⟩ := bnd hm
 refine cond_s (fun g109_20 => ?_) (fun g109_20 => ?_)
 replace e123 := ift g109_20 e123
 refine Ja rfl (cond_t g109_20 (load1_l m0 rfl rfl (cond_t g109_20 (Ja rfl (cond_t g109_20 ?_)))))
 refine load1_l m0 rfl rfl (cond_t g109_20 (len_strN rfl (cond_t g109_20 (Ja rfl (cond_t g109_20 ?_)))))
 refine load1_l m1 rfl rfl (cond_t g109_20 (len_strN rfl (cond_t g109_20 (min_intN (cond_t g109_20 ?_)))))
 obtain ⟨h119, e123⟩ := chkb e123
 refine sl_str (lo := none) (hi := (some (min (a.S.length : Int) (b.S.length : Int)))) rfl h119 (cond_t g109_20 (Ja rfl (cond_t g109_20 (load1_l m1 rfl rfl (cond_t g109_20 ?_)))))
 refine eq_str (cond_t g109_20 ?_)
 obtain ⟨x124, q124, hm⟩ := bnd hm
 rw [← (si e123)] at q124
 refine call_fn (JP q124) .nil ?_
 rintro _ K124 _ l124 ⟨rfl, rfl⟩
 refine ⟨⟨l124, (ConvH.of (.cons r2 (.cons r1 .nil))), ci0⟩, ?_⟩
 refine store_rule r0 rfl ?_
 refine ⟨rfl, rfl, (Nat.le_of_ble_eq_true rfl), ?_⟩
 refine ⟨⟨l124, (ConvH.of (.cons r2 (.cons r1 .nil))), ci0⟩, ?_⟩
 obtain rfl := si hm
 refine RStep.of (loadn_s r0 rfl (Nat.le_of_ble_eq_true rfl) ?_)
 refine EndStep.mk _ l124 ⟨rfl, rfl⟩ (ConvH.of (.cons r3 .nil))
 replace e123 := iff_ g109_20 e123
 refine cond_f g109_20 (cond_f g109_20 (cond_f g109_20 (cond_f g109_20 (cond_f g109_20 (cond_f g109_20 ?_)))))
 refine cond_f g109_20 (cond_f g109_20 (cond_f g109_20 (cond_f g109_20 (cond_f g109_20 (cond_f g109_20 ?_)))))
 refine cond_f g109_20 ?_
 obtain ⟨x124, q124, hm⟩ := bnd hm
 rw [← ((si e123).symm).symm] at q124
 refine call_fn (JP q124) .nil ?_
 rintro _ K124 _ l124 ⟨rfl, rfl⟩
 refine ⟨⟨l124, (ConvH.of (.cons r2 (.cons r1 .nil))), ci0⟩, ?_⟩
 refine store_rule r0 rfl ?_
 refine ⟨rfl, rfl, (Nat.le_of_ble_eq_true rfl), ?_⟩
 refine ⟨⟨l124, (ConvH.of (.cons r2 (.cons r1 .nil))), ci0⟩, ?_⟩
 obtain rfl := si hm
 refine RStep.of (loadn_s r0 rfl (Nat.le_of_ble_eq_true rfl) ?_)
 refine EndStep.mk _ l124 ⟨rfl, rfl⟩ (ConvH.of (.cons r3 .nil))
 refine eq_str ?_
 refine cs rfl rfl hm (fun w126 hm => ?_) fun w126 hm => ?_
 refine draw_go ⟨⟨[], false⟩, _, [(_, _), (_, _)], []⟩ (by kernel_rfl) ⟨Hp.Le.refl _, (ConvH.of (.cons r2 (.cons r1 .nil))), ci0⟩ ?_
 refine Ja rfl (load1_l m0 rfl rfl (len_strN rfl (Ja rfl (load1_l m1 rfl rfl (len_strN rfl ?_)))))
 obtain ⟨x150, e150, hm⟩ := bnd hm
 refine cond_s (fun g135_22 => ?_) (fun g135_22 => ?_)
 replace e150 := ift g135_22 e150
 refine Ja rfl (cond_t g135_22 (load1_l m0 rfl rfl (cond_t g135_22 (Ja rfl (cond_t g135_22 ?_)))))
 refine load1_l m0 rfl rfl (cond_t g135_22 (len_strN rfl (cond_t g135_22 (Ja rfl (cond_t g135_22 ?_)))))
 refine load1_l m1 rfl rfl (cond_t g135_22 (len_strN rfl (cond_t g135_22 ?_)))
 obtain ⟨h144, e150⟩ := chkb e150
 refine int_in h144 (cond_t g135_22 (max_intN (cond_t g135_22 ?_)))
 obtain ⟨h146, e150⟩ := chkb e150
 refine sl_str (lo := (some (max 0 ((a.S.length : Int) - (b.S.length : Int))))) (hi := none) rfl h146 (cond_t g135_22 (Ja rfl (cond_t g135_22 (load1_l m1 rfl rfl (cond_t g135_22 ?_)))))
 refine eq_str (cond_t g135_22 ?_)
 obtain ⟨x151, q151, hm⟩ := bnd hm
 rw [← (si e150)] at q151
 refine call_fn (JP q151) .nil ?_
 rintro _ K151 _ l151 ⟨rfl, rfl⟩
 refine ⟨⟨l151, (ConvH.of (.cons r2 (.cons r1 .nil))), ci0⟩, ?_⟩
 refine store_rule r0 rfl ?_
 refine ⟨rfl, rfl, (Nat.le_of_ble_eq_true rfl), ?_⟩
 refine ⟨⟨l151, (ConvH.of (.cons r2 (.cons r1 .nil))), ci0⟩, ?_⟩
 obtain rfl := si hm
 refine RStep.of (loadn_s r0 rfl (Nat.le_of_ble_eq_true rfl) ?_)
 refine EndStep.mk _ l151 ⟨rfl, rfl⟩ (ConvH.of (.cons r3 .nil))
 replace e150 := iff_ g135_22 e150
 refine cond_f g135_22 (cond_f g135_22 (cond_f g135_22 (cond_f g135_22 (cond_f g135_22 (cond_f g135_22 ?_)))))
 refine cond_f g135_22 (cond_f g135_22 (cond_f g135_22 (cond_f g135_22 (cond_f g135_22 (cond_f g135_22 ?_)))))
 refine cond_f g135_22 (cond_f g135_22 ?_)
 obtain ⟨x151, q151, hm⟩ := bnd hm
 rw [← ((si e150).symm).symm] at q151
 refine call_fn (JP q151) .nil ?_
 rintro _ K151 _ l151 ⟨rfl, rfl⟩
 refine ⟨⟨l151, (ConvH.of (.cons r2 (.cons r1 .nil))), ci0⟩, ?_⟩
 refine store_rule r0 rfl ?_
 refine ⟨rfl, rfl, (Nat.le_of_ble_eq_true rfl), ?_⟩
 refine ⟨⟨l151, (ConvH.of (.cons r2 (.cons r1 .nil))), ci0⟩, ?_⟩
 obtain rfl := si hm
 refine RStep.of (loadn_s r0 rfl (Nat.le_of_ble_eq_true rfl) ?_)
 refine EndStep.mk _ l151 ⟨rfl, rfl⟩ (ConvH.of (.cons r3 .nil))
 refine Ja rfl (RStep.of (load1_s r2 rfl rfl (Ja rfl (RStep.of (load1_s r1 rfl rfl ?_)))))
 obtain ⟨x157, q157, hm⟩ := bnd hm
 refine call_fn (Jb5 (s := a.S) (t := b.S) q157) .nil ?_
 rintro _ K157 _ l157 ⟨rfl, rfl⟩
 obtain ⟨x158, q158, hm⟩ := bnd hm
 refine call_fn (JP (isZ := x157) q158) .nil ?_
 rintro _ K158 _ l158 ⟨rfl, rfl⟩
 refine store_rule r0 rfl ?_
 refine ⟨rfl, rfl, (Nat.le_of_ble_eq_true rfl), ?_⟩
 obtain rfl := si hm
 refine RStep.of (loadn_s r0 rfl (Nat.le_of_ble_eq_true rfl) ?_)
 refine EndStep.mk _ (l157.trans l158) ⟨rfl, rfl⟩ (ConvH.of (.cons r3 .nil))

noncomputable def Jam (byZ : UInt8) (s : Str) : List UInt8 → Nat → (List Str) → Int → Option ((List Str) × Int)
  | [], _, y0_0, y0_1 => some (y0_0, y0_1)
  | e0 :: xs0, i0, y0_0, y0_1 =>
    if decide ((e0.toNat : Int) = (byZ.toNat : Int)) then
    (chk (0 ≤ y0_1 ∧ y0_1 ≤ (i0 : Int) ∧ (i0 : Int) ≤ (s.length : Int))).bind fun _ =>
    (chk (y0_0.length + [(subL s y0_1 (i0 : Int))].length ≤ lim)).bind fun _ =>
    Jam byZ s xs0 (i0 + 1) (y0_0 ++ [(subL s y0_1 (i0 : Int))]) ((i0 : Int) + 1)
    else
    Jam byZ s xs0 (i0 + 1) y0_0 y0_1
noncomputable def Jbr (s : Str) (byZ : UInt8) : Option ((List Str)) :=
  (chk (s.length ≤ szMax)).bind fun _ =>
  (Jam byZ s s 0 [] 0).bind fun t0 =>
  (chk (0 ≤ t0.2 ∧ t0.2 ≤ (s.length : Int) ∧ (s.length : Int) ≤ (s.length : Int))).bind fun _ =>
  (chk (t0.1.length + [(subL s t0.2 (s.length : Int))].length ≤ lim)).bind fun _ =>
  some (t0.1 ++ [(subL s t0.2 (s.length : Int))])
set_option maxHeartbeats 8000000 in
theorem Jca {s : Str} {byZ : UInt8} {K : Hp} {r : (List Str)}
    (hm : Jbr s byZ = some r)  :
    Fn Tryz.prog 81 [str s, .int .u8 (byZ.toNat : Int)] K [] (fun v K' H' => ∃ ar_0 : Option Addr, ∃ cr_0 : Nat, v = .slice ar_0 r.length cr_0 ∧ (0 < r.length → Has ar_0) ∧ H' = [OwnL eS ar_0 9 1 cr_0 r]) := by
 refine Fn.enter Tryz.func81 Tryz.call81 rfl fun F => ?_
 unfold Jbr at hm
 refine RStep.of (len_str rfl ?_)
 obtain ⟨hk0, hm⟩ := chkb hm
 obtain ⟨s0, hl0, hm⟩ := bnd hm
 refine nilC eS 9 1 ?_
 refine code_cut (σ := ((List Str) × Int) × Option Addr × Nat) [5, 6, 7, 10, 11, 12, 13, 14, 15, 16, 17, 18, 19, 20, 21, 22, 23, 24, 25, 26, 27] (fun (t0, t0_a0, t0_c0) => [(5, .slice t0_a0 t0.1.length t0_c0), (6, .int .i64 t0.2)]) (fun (t0, t0_a0, t0_c0) => [OwnL eS t0_a0 9 1 t0_c0 t0.1, F]) (fun zz K1 => match zz with | (t0, t0_a0, t0_c0) => (0 < t0.1.length → Has t0_a0) ∧ t0 = s0) ?_ ?_
 refine block_go rfl ?_
 refine loop_rule (σ := Nat × (List Str) × Int × Option Addr × Nat) [5, 6, 7, 10, 11, 12, 13, 14, 15, 16, 17, 18, 19, 20, 21, 22, 23, 24, 25, 26, 27] (fun (i0, y0_0, y0_1, y0_a0, y0_c0) => [(10, .int .i64 (i0 : Int)), (5, .slice y0_a0 y0_0.length y0_c0), (6, .int .i64 y0_1)]) (fun (i0, y0_0, y0_1, y0_a0, y0_c0) => [OwnL eS y0_a0 9 1 y0_c0 y0_0, F]) (fun zz K1 => match zz with | (i0, y0_0, y0_1, y0_a0, y0_c0) => (0 < y0_0.length → Has y0_a0) ∧ Jam byZ s (s.drop i0) i0 y0_0 y0_1 = some s0) (fun zz => s.length - zz.1) (0, [], 0, none, 0) rfl ⟨rfl, rfl, rfl, trivial⟩ (ConvH.of (.cons r0 (.cons r0 .nil))) ⟨(fun h => by simp at h), hl0⟩ ?_
 clear hl0
 rintro ⟨i0, y0_0, y0_1, y0_a0, y0_c0⟩ Kb0 lk0 ⟨y0_h0, hl0⟩ j0
 refine cond_go rfl ?_
 refine cond_s (fun w0 => ?_) (fun w0 => ?_)
 obtain ⟨e0, hx0, hd0⟩ := ltx w0
 rw [hd0, Jam.eq_2] at hl0
 refine block_go rfl ?_
 refine idx_str rfl (nn _) hx0 (eq_int ?_)
 refine CStep.ownLe r0 fun hc1 => ?_
 refine cs rfl rfl hl0 (fun w17 hl0 => ?_) fun w17 hl0 => ?_
 obtain ⟨h22, hl0⟩ := chkb hl0
 refine RStep.ofN (sl_str (lo := (some y0_1)) (hi := (some (i0 : Int))) rfl h22 ?_)
 refine bsO (len := 1) (enc := eS) (l := [(subL s y0_1 (i0 : Int))]) (cl := [str (subL s y0_1 (i0 : Int))]) elT31 rfl rfl (fun _ _ => rfl) rfl rfl rfl ?_ fun b23 => ?_
 · conv => whnf
   refine cond_T ?_
   first | done | rfl
 obtain ⟨h24, hl0⟩ := chkb hl0
 refine apE rfl r1 elT31 (src_own' rfl r0 rfl (fun _ => rfl) (fun _ => rfl)) h24 ?_
 intro a24 c24 o24
 refine int_in (cntz hx0 hk0) (int_in (cntz hx0 hk0) ?_)
 refine RoundStep.mk (i0 + 1, (y0_0 ++ [(subL s y0_1 (i0 : Int))]), ((i0 : Int) + 1), a24, c24) ⟨rfl, rfl, rfl, trivial⟩ (by repeat (first | exact trivial | refine And.intro rfl ?_)) (ConvH.of (.cons r0 (.cons r1 .nil))) lk0 (ltm hx0) ⟨o24, hl0⟩
 refine int_in (cntz hx0 hk0) ?_
 refine RoundStep.mk (i0 + 1, y0_0, y0_1, y0_a0, y0_c0) ⟨rfl, rfl, rfl, trivial⟩ (by repeat (first | exact trivial | refine And.intro rfl ?_)) (ConvH.of (.cons r0 (.cons r0 .nil))) lk0 (ltm hx0) ⟨y0_h0, hl0⟩
 rw [lty w0, Jam.eq_1] at hl0
 refine cond_T ?_
 refine MeetStep.mk ((y0_0, y0_1), y0_a0, y0_c0) ⟨rfl, rfl, trivial⟩ (by repeat (first | exact trivial | refine And.intro rfl ?_)) (ConvH.of (.cons r0 (.cons r0 .nil))) lk0 ⟨y0_h0, (si hl0)⟩
 rintro ⟨t0, t0_a0, t0_c0⟩ Kt0 lt0 ⟨t0_h0, rfl⟩ j0
 obtain ⟨h31, hm⟩ := chkb hm
 refine RStep.ofN (sl_str (lo := (some t0.2)) (hi := none) rfl h31 ?_)
 refine bsO (len := 1) (enc := eS) (l := [(subL s t0.2 (s.length : Int))]) (cl := [str (subL s t0.2 (s.length : Int))]) elT31 rfl rfl (fun _ _ => rfl) rfl rfl rfl ?_ fun b32 => ?_
 · conv => whnf
   refine cond_T ?_
   first | done | rfl
 obtain ⟨h33, hm⟩ := chkb hm
 refine apE rfl r1 elT31 (src_own' rfl r0 rfl (fun _ => rfl) (fun _ => rfl)) h33 ?_
 intro a33 c33 o33
 obtain rfl := si hm
 refine EndStep.mk _ lt0 ⟨a33, c33, rfl, o33, rfl⟩ (ConvH.of (.cons r0 (.cons r1 .nil)))

noncomputable def JaM (path : Str) : Option ((List Str)) :=
  (Jbr path (47 : UInt8)).bind fun x5 =>
  (chk (0 ≤ (1 : Int) ∧ (1 : Int) ≤ (x5.length : Int) ∧ (x5.length : Int) ≤ (x5.length : Int))).bind fun _ =>
  some (subL x5 (1 : Int) (x5.length : Int))
set_option maxHeartbeats 8000000 in
theorem Jb6 {path : Str} {K : Hp} {r : (List Str)}
    (hm : JaM path = some r)  :
    Fn Tryz.prog 44 [str path] K [] (fun v K' H' => ∃ ar_0 : Option Addr, ∃ cr_0 : Nat, v = .slice ar_0 r.length cr_0 ∧ RdC eS K' ar_0 cr_0 1 r ∧ H' = []) := by
 refine Fn.enter Tryz.func44 Tryz.call44 rfl fun F => ?_
 unfold JaM at hm
 obtain ⟨x5, q5, hm⟩ := bnd hm
 refine call_fn (Jca (s := path) (byZ := (47 : UInt8)) q5) .nil ?_
 rintro _ K5 _ l5 ⟨a5_0, c5_0, rfl, h5_0, rfl⟩
 obtain ⟨h7, hm⟩ := chkb hm
 refine ownPart (l := x5) (lo := (some 1)) (hi := none) rfl r0 (by simp) rfl rfl h7 ?_
 obtain rfl := si hm
 refine fE r0 fun Kz1 lz1 fz1 => ?_
 have pz1 := fz1.subC h7
 refine EndStep.mk _ (l5.trans lz1) ⟨(subA a5_0 c5_0 (Int.toNat (1 : Int)) 1), (c5_0 - (Int.toNat (1 : Int))), rfl, pz1, rfl⟩ (ConvH.of (.cons r0 .nil))

noncomputable def JU : Nat → Int → Option (Str)
  | 0, _ => none
  | n + 1, n' =>
    if decide (n' < 0) then
    (chk (InI (-n'))).bind fun _ =>
    ((JU n) (-n')).bind fun x8 =>
    (chk (([45] : Str).length + x8.length ≤ lim)).bind fun _ =>
    some (([45] : Str) ++ x8)
    else
    (chk (InI (48 + (Int.tmod n' 10)))).bind fun _ =>
    if decide (n' < 10) then
    some ([(u8of (48 + (Int.tmod n' 10)))] : Str)
    else
    (chk ((10 : Int) ≠ 0 ∧ InI (Int.tdiv n' 10))).bind fun _ =>
    ((JU n) (Int.tdiv n' 10)).bind fun x21 =>
    (chk (x21.length + ([(u8of (48 + (Int.tmod n' 10)))] : Str).length ≤ lim)).bind fun _ =>
    some (x21 ++ ([(u8of (48 + (Int.tmod n' 10)))] : Str))
set_option maxHeartbeats 8000000 in
theorem Jcj : ∀ {n : Nat} {n' : Int} {K : Hp} {r : Str}
    (hm : JU n n' = some r) ,
    Fn Tryz.prog 45 [.int .i64 n'] K [] (fun v K' H' => v = str r ∧ H' = []) := by
 intro n
 induction n with
 | zero =>
   intro n' K r hm
   rw [JU.eq_1] at hm; cases hm
 | succ n ih =>
   intro n' K r hm
   refine Fn.enter Tryz.func45 Tryz.call45 rfl fun F => ?_
   rw [JU.eq_2] at hm
   refine cs rfl rfl hm (fun w5 hm => ?_) fun w5 hm => ?_
   obtain ⟨h7, hm⟩ := chkb hm
   refine un_neg h7 ?_
   obtain ⟨x8, q8, hm⟩ := bnd hm
   refine call_fn (ih (n' := (-n')) q8) .nil ?_
   rintro _ K8 _ l8 ⟨rfl, rfl⟩
   obtain ⟨h9, hm⟩ := chkb hm
   refine cat_str h9 ?_
   obtain rfl := si hm
   refine EndStep.mk _ l8 ⟨rfl, rfl⟩ (ConvH.of (.cons r0 .nil))
   refine rem_t (by decide) ?_
   obtain ⟨h12, hm⟩ := chkb hm
   refine int_in h12 ?_
   refine conv_u8 rfl rfl ?_
   refine bsO (len := 1) (enc := eU) (l := ([(u8of (48 + (Int.tmod n' 10)))] : Str)) (cl := [.int .u8 ((u8of (48 + (Int.tmod n' 10))).toNat : Int)]) elT130 rfl rfl (fun _ _ => rfl) rfl rfl rfl ?_ fun b14 => ?_
   · conv => whnf
     refine cond_T ?_
     first | done | rfl
   refine RStep.of (cv_ownE rfl r0 rfl rfl rfl ?_)
   refine cs rfl rfl hm (fun w17 hm => ?_) fun w17 hm => ?_
   obtain rfl := si hm
   refine EndStep.mk _ (Hp.Le.refl _) ⟨rfl, rfl⟩ (ConvH.of (.cons r1 .nil))
   obtain ⟨h20, hm⟩ := chkb hm
   refine quo_t h20.1 h20.2 ?_
   obtain ⟨x21, q21, hm⟩ := bnd hm
   refine call_fn (ih (n' := (Int.tdiv n' 10)) q21) .nil ?_
   rintro _ K21 _ l21 ⟨rfl, rfl⟩
   obtain ⟨h23, hm⟩ := chkb hm
   refine cat_str h23 ?_
   obtain rfl := si hm
   refine EndStep.mk _ l21 ⟨rfl, rfl⟩ (ConvH.of (.cons r1 .nil))

noncomputable def J5 : List UInt8 → Nat → Str → Option (Str)
  | [], _, y0_0 => some y0_0
  | e0 :: xs0, i0, y0_0 =>
    if (decide ((e0.toNat : Int) ≥ 65) && decide ((e0.toNat : Int) ≤ 90)) then
    (chk (y0_0.length + ([(e0 + (32 : UInt8))] : Str).length ≤ lim)).bind fun _ =>
    J5 xs0 (i0 + 1) (y0_0 ++ ([(e0 + (32 : UInt8))] : Str))
    else
    (chk (y0_0.length + ([e0] : Str).length ≤ lim)).bind fun _ =>
    J5 xs0 (i0 + 1) (y0_0 ++ ([e0] : Str))
noncomputable def Jay (s : Str) : Option (Str) :=
  (chk (s.length ≤ szMax)).bind fun _ =>
  (J5 s 0 ([] : Str)).bind fun t0 =>
  some t0
set_option maxHeartbeats 8000000 in
theorem Jbm {s : Str} {K : Hp} {r : Str}
    (hm : Jay s = some r)  :
    Fn Tryz.prog 48 [str s] K [] (fun v K' H' => v = str r ∧ H' = []) := by
 refine Fn.enter Tryz.func48 Tryz.call48 rfl fun F => ?_
 unfold Jay at hm
 refine RStep.of (len_str rfl ?_)
 obtain ⟨hk0, hm⟩ := chkb hm
 obtain ⟨s0, hl0, hm⟩ := bnd hm
 refine code_cut (σ := (Str)) [3, 4, 5, 8, 9, 10, 11, 12, 13, 14, 15, 16, 17, 18, 19, 20, 21, 22, 23, 24, 25, 26, 27] (fun t0 => [(3, str t0)]) (fun t0 => [F]) (fun zz K1 => match zz with | t0 => t0 = s0) ?_ ?_
 refine block_go rfl ?_
 refine loop_rule (σ := Nat × Str) [3, 4, 5, 8, 9, 10, 11, 12, 13, 14, 15, 16, 17, 18, 19, 20, 21, 22, 23, 24, 25, 26, 27] (fun (i0, y0_0) => [(8, .int .i64 (i0 : Int)), (3, str y0_0)]) (fun (i0, y0_0) => [F]) (fun zz K1 => match zz with | (i0, y0_0) => J5 (s.drop i0) i0 y0_0 = some s0) (fun zz => s.length - zz.1) (0, ([] : Str)) rfl ⟨rfl, rfl, trivial⟩ (ConvH.of (.cons r0 .nil)) hl0 ?_
 clear hl0
 rintro ⟨i0, y0_0⟩ Kb0 lk0 hl0 j0
 conv at hl0 => whnf
 refine cond_go rfl ?_
 refine cond_s (fun w0 => ?_) (fun w0 => ?_)
 obtain ⟨e0, hx0, hd0⟩ := ltx w0
 rw [hd0, J5.eq_2] at hl0
 refine block_go rfl ?_
 refine idx_str rfl (nn _) hx0 ?_
 refine guard_go rfl ?_
 refine cond_s (fun g16_6 => ?_) (fun g16_6 => ?_)
 refine cond_t g16_6 (cond_t g16_6 (cond_go rfl ?_))
 refine cond_s (fun w19 => ?_) (fun w19 => ?_)
 replace hl0 := ift (and_t g16_6 w19) hl0
 refine u8_addS (x := e0) (y := (32 : UInt8)) rfl rfl ?_
 refine bsO (len := 1) (enc := eU) (l := ([(e0 + (32 : UInt8))] : Str)) (cl := [.int .u8 ((e0 + (32 : UInt8)).toNat : Int)]) elT130 rfl rfl (fun _ _ => rfl) rfl rfl rfl ?_ fun b24 => ?_
 · conv => whnf
   refine cond_T ?_
   first | done | rfl
 refine RStep.of (cv_ownE rfl r0 rfl rfl rfl ?_)
 obtain ⟨h26, hl0⟩ := chkb hl0
 refine cat_str h26 ?_
 refine int_in (cntz hx0 hk0) ?_
 refine RoundStep.mk (i0 + 1, (y0_0 ++ ([(e0 + (32 : UInt8))] : Str))) ⟨rfl, rfl, trivial⟩ (by repeat (first | exact trivial | refine And.intro rfl ?_)) (ConvH.of (.cons r1 .nil)) lk0 (ltm hx0) hl0
 replace hl0 := iff_ (and_g g16_6 w19) hl0
 refine bsO (len := 1) (enc := eU) (l := ([e0] : Str)) (cl := [.int .u8 (e0.toNat : Int)]) elT130 rfl rfl (fun _ _ => rfl) rfl rfl rfl ?_ fun b24 => ?_
 · conv => whnf
   refine cond_T ?_
   first | done | rfl
 refine RStep.of (cv_ownE rfl r0 rfl rfl rfl ?_)
 obtain ⟨h26, hl0⟩ := chkb hl0
 refine cat_str h26 ?_
 refine int_in (cntz hx0 hk0) ?_
 refine RoundStep.mk (i0 + 1, (y0_0 ++ ([e0] : Str))) ⟨rfl, rfl, trivial⟩ (by repeat (first | exact trivial | refine And.intro rfl ?_)) (ConvH.of (.cons r1 .nil)) lk0 (ltm hx0) hl0
 refine cond_f g16_6 (cond_f g16_6 (cond_go rfl (cond_F ?_)))
 replace hl0 := iff_ (and_f g16_6) hl0
 refine bsO (len := 1) (enc := eU) (l := ([e0] : Str)) (cl := [.int .u8 (e0.toNat : Int)]) elT130 rfl rfl (fun _ _ => rfl) rfl rfl rfl ?_ fun b24 => ?_
 · conv => whnf
   refine cond_T ?_
   first | done | rfl
 refine RStep.of (cv_ownE rfl r0 rfl rfl rfl ?_)
 obtain ⟨h26, hl0⟩ := chkb hl0
 refine cat_str h26 ?_
 refine int_in (cntz hx0 hk0) ?_
 refine RoundStep.mk (i0 + 1, (y0_0 ++ ([e0] : Str))) ⟨rfl, rfl, trivial⟩ (by repeat (first | exact trivial | refine And.intro rfl ?_)) (ConvH.of (.cons r1 .nil)) lk0 (ltm hx0) hl0
 rw [lty w0, J5.eq_1] at hl0
 refine cond_T ?_
 refine MeetStep.mk (y0_0) ⟨rfl, trivial⟩ (by repeat (first | exact trivial | refine And.intro rfl ?_)) (ConvH.of (.cons r0 .nil)) lk0 (si hl0)
 rintro t0 Kt0 lt0 rfl j0
 obtain rfl := si hm
 refine EndStep.mk _ lt0 ⟨rfl, rfl⟩ (ConvH.of (.cons r0 .nil))

noncomputable def Jbi (f : Jj) (name : Str) : Option (Bool) :=
  (Jay f.Name).bind fun x7 =>
  (Jay name).bind fun x9 =>
  some (decide (x7 = x9))
set_option maxHeartbeats 8000000 in
theorem JcG {f : Jj} {name : Str} {K : Hp} {r : Bool}
    (hm : Jbi f name = some r)  :
    Fn Tryz.prog 123 [.agg #[str f.Name, str f.Value], str name] K [] (fun v K' H' => v = .bool r ∧ H' = []) := by
 refine Fn.enter Tryz.func123 Tryz.call123 rfl fun F => ?_
 unfold Jbi at hm
 refine box_rule ?_
 intro b2
 refine Ja rfl (RStep.of (load1_s r0 rfl rfl ?_))
 obtain ⟨x7, q7, hm⟩ := bnd hm
 refine call_fn (Jbm (s := f.Name) q7) .nil ?_
 rintro _ K7 _ l7 ⟨rfl, rfl⟩
 obtain ⟨x9, q9, hm⟩ := bnd hm
 refine call_fn (Jbm (s := name) q9) .nil ?_
 rintro _ K9 _ l9 ⟨rfl, rfl⟩
 refine eq_str ?_
 obtain rfl := si hm
 refine EndStep.mk _ (l7.trans l9) ⟨rfl, rfl⟩ (ConvH.of (.cons r1 .nil))

noncomputable def Jan (name : Str) : List Jj → Nat → (List Str) → Option ((List Str))
  | [], _, y0_0 => some y0_0
  | e0 :: xs0, i0, y0_0 =>
    (Jbi e0 name).bind fun x17 =>
    if x17 then
    (chk (y0_0.length + [e0.Value].length ≤ lim)).bind fun _ =>
    Jan name xs0 (i0 + 1) (y0_0 ++ [e0.Value])
    else
    Jan name xs0 (i0 + 1) y0_0
noncomputable def JbH (f : (List Jj)) (name : Str) : Option ((List Str)) :=
  (chk (f.length ≤ szMax)).bind fun _ =>
  (Jan name f 0 []).bind fun t0 =>
  some t0
set_option maxHeartbeats 8000000 in
theorem JcD {f : (List Jj)} {name : Str} {ap0_0 : Option Addr} {cp0_0 : Nat} {n0 : Nat} {K : Hp} {r : (List Str)}
    (hm : JbH f name = some r) (hp0_0 : RdC Jj.enc K ap0_0 cp0_0 2 f) (en0 : n0 = f.length) :
    Fn Tryz.prog 82 [.slice ap0_0 n0 cp0_0, str name] K [] (fun v K' H' => ∃ ar_0 : Option Addr, ∃ cr_0 : Nat, v = .slice ar_0 r.length cr_0 ∧ (0 < r.length → Has ar_0) ∧ H' = [OwnL eS ar_0 9 1 cr_0 r]) := by
 subst en0
 refine Fn.enter Tryz.func82 Tryz.call82 rfl fun F => ?_
 unfold JbH at hm
 refine RStep.of (len_slice rfl ?_)
 obtain ⟨hk0, hm⟩ := chkb hm
 obtain ⟨s0, hl0, hm⟩ := bnd hm
 refine nilC eS 9 1 ?_
 refine code_cut (σ := ((List Str)) × Option Addr × Nat) [5, 6, 9, 10, 11, 12, 13, 14, 15, 16, 17, 18, 19, 20, 21, 22, 23, 24, 25, 26] (fun (t0, t0_a0, t0_c0) => [(5, .slice t0_a0 t0.length t0_c0)]) (fun (t0, t0_a0, t0_c0) => [OwnL eS t0_a0 9 1 t0_c0 t0, F]) (fun zz K1 => match zz with | (t0, t0_a0, t0_c0) => (0 < t0.length → Has t0_a0) ∧ t0 = s0) ?_ ?_
 refine block_go rfl ?_
 refine loop_rule (σ := Nat × (List Str) × Option Addr × Nat) [5, 6, 9, 10, 11, 12, 13, 14, 15, 16, 17, 18, 19, 20, 21, 22, 23, 24, 25, 26] (fun (i0, y0_0, y0_a0, y0_c0) => [(9, .int .i64 (i0 : Int)), (5, .slice y0_a0 y0_0.length y0_c0)]) (fun (i0, y0_0, y0_a0, y0_c0) => [OwnL eS y0_a0 9 1 y0_c0 y0_0, F]) (fun zz K1 => match zz with | (i0, y0_0, y0_a0, y0_c0) => (0 < y0_0.length → Has y0_a0) ∧ Jan name (f.drop i0) i0 y0_0 = some s0) (fun zz => f.length - zz.1) (0, [], none, 0) rfl ⟨rfl, rfl, trivial⟩ (ConvH.of (.cons r0 (.cons r0 .nil))) ⟨(fun h => by simp at h), hl0⟩ ?_
 clear hl0
 rintro ⟨i0, y0_0, y0_a0, y0_c0⟩ Kb0 lk0 ⟨y0_h0, hl0⟩ j0
 refine cond_go rfl ?_
 refine cond_s (fun w0 => ?_) (fun w0 => ?_)
 obtain ⟨e0, hx0, hd0⟩ := ltx w0
 rw [hd0, Jan.eq_2] at hl0
 refine block_go rfl ?_
 refine RStep.ofN (index_addr rfl rfl (hasK (hp0_0.mono lk0).rd hx0) (nn _) (lt_ofN hx0) (RStep.of (load_rd_agg i0 _ (hp0_0.mono lk0).rd rfl (mp hx0) rfl ?_)))
 obtain ⟨x17, q17, hl0⟩ := bnd hl0
 refine call_fn (JcG (f := e0) (name := name) q17) .nil ?_
 rintro _ K17 _ l17 ⟨rfl, rfl⟩
 refine cs rfl rfl hl0 (fun w17 hl0 => ?_) fun w17 hl0 => ?_
 refine RStep.ofN (index_addr rfl rfl (hasK (hp0_0.mono (lk0.trans l17)).rd hx0) (nn _) (lt_ofN hx0) (eptr_field rfl (hasK (hp0_0.mono (lk0.trans l17)).rd hx0) (RStep.of (load_rd i0 1 _ _ (hp0_0.mono (lk0.trans l17)).rd rfl (mp hx0) rfl rfl ?_))))
 refine bsO (len := 1) (enc := eS) (l := [e0.Value]) (cl := [str e0.Value]) elT31 rfl rfl (fun _ _ => rfl) rfl rfl rfl ?_ fun b24 => ?_
 · conv => whnf
   refine cond_T ?_
   first | done | rfl
 obtain ⟨h25, hl0⟩ := chkb hl0
 refine apE rfl r1 elT31 (src_own' rfl r0 rfl (fun _ => rfl) (fun _ => rfl)) h25 ?_
 intro a25 c25 o25
 refine int_in (cntz hx0 hk0) ?_
 refine RoundStep.mk (i0 + 1, (y0_0 ++ [e0.Value]), a25, c25) ⟨rfl, rfl, trivial⟩ (by repeat (first | exact trivial | refine And.intro rfl ?_)) (ConvH.of (.cons r0 (.cons r1 .nil))) (lk0.trans l17) (ltm hx0) ⟨o25, hl0⟩
 refine int_in (cntz hx0 hk0) ?_
 refine RoundStep.mk (i0 + 1, y0_0, y0_a0, y0_c0) ⟨rfl, rfl, trivial⟩ (by repeat (first | exact trivial | refine And.intro rfl ?_)) (ConvH.of (.cons r0 (.cons r0 .nil))) (lk0.trans l17) (ltm hx0) ⟨y0_h0, hl0⟩
 rw [lty w0, Jan.eq_1] at hl0
 refine cond_T ?_
 refine MeetStep.mk (y0_0, y0_a0, y0_c0) ⟨rfl, trivial⟩ (by repeat (first | exact trivial | refine And.intro rfl ?_)) (ConvH.of (.cons r0 (.cons r0 .nil))) lk0 ⟨y0_h0, (si hl0)⟩
 rintro ⟨t0, t0_a0, t0_c0⟩ Kt0 lt0 ⟨t0_h0, rfl⟩ j0
 obtain rfl := si hm
 refine EndStep.mk _ lt0 ⟨t0_a0, t0_c0, rfl, t0_h0, rfl⟩ (ConvH.of (.cons r0 (.cons r0 .nil)))

noncomputable def Jaf : List Str → Nat → Str → Option (Str)
  | [], _, y0_0 => some y0_0
  | e0 :: xs0, i0, y0_0 =>
    if decide ((i0 : Int) > 0) then
    (chk (y0_0.length + ([44, 32] : Str).length ≤ lim)).bind fun _ =>
    (chk ((y0_0 ++ ([44, 32] : Str)).length + e0.length ≤ lim)).bind fun _ =>
    Jaf xs0 (i0 + 1) ((y0_0 ++ ([44, 32] : Str)) ++ e0)
    else
    (chk (y0_0.length + e0.length ≤ lim)).bind fun _ =>
    Jaf xs0 (i0 + 1) (y0_0 ++ e0)
noncomputable def Jbs (f : (List Jj)) (name : Str) : Option (Str × Bool) :=
  (JbH f name).bind fun x11 =>
  (chk (x11.length ≤ szMax)).bind fun _ =>
  (Jaf x11 0 ([] : Str)).bind fun t0 =>
  some (t0, decide ((x11.length : Int) > 0))
set_option maxHeartbeats 8000000 in
theorem Jcb {f : (List Jj)} {name : Str} {ap0_0 : Option Addr} {cp0_0 : Nat} {n0 : Nat} {K : Hp} {r : Str × Bool}
    (hm : Jbs f name = some r) (hp0_0 : RdC Jj.enc K ap0_0 cp0_0 2 f) (en0 : n0 = f.length) :
    Fn Tryz.prog 46 [.slice ap0_0 n0 cp0_0, str name] K [] (fun v K' H' => v = .tuple #[str r.1, .bool r.2] ∧ H' = []) := by
 subst en0
 refine Fn.enter Tryz.func46 Tryz.call46 rfl fun F => ?_
 unfold Jbs at hm
 obtain ⟨x11, q11, hm⟩ := bnd hm
 refine call_fn (JcD (name := name) q11 hp0_0 rfl) .nil ?_
 rintro _ K11 _ l11 ⟨a11_0, c11_0, rfl, h11_0, rfl⟩
 refine RStep.of (len_slice rfl ?_)
 obtain ⟨hk0, hm⟩ := chkb hm
 obtain ⟨s0, hl0, hm⟩ := bnd hm
 refine code_cut (σ := (Str)) [7, 8, 14, 15, 16, 17, 18, 19, 20, 21, 22, 23, 24, 25, 26, 27] (fun t0 => [(7, str t0)]) (fun t0 => [OwnL eS a11_0 9 1 c11_0 x11, F]) (fun zz K1 => match zz with | t0 => t0 = s0) ?_ ?_
 refine block_go rfl ?_
 refine loop_rule (σ := Nat × Str) [7, 8, 14, 15, 16, 17, 18, 19, 20, 21, 22, 23, 24, 25, 26, 27] (fun (i0, y0_0) => [(14, .int .i64 (i0 : Int)), (7, str y0_0)]) (fun (i0, y0_0) => [OwnL eS a11_0 9 1 c11_0 x11, F]) (fun zz K1 => match zz with | (i0, y0_0) => Jaf (x11.drop i0) i0 y0_0 = some s0) (fun zz => x11.length - zz.1) (0, ([] : Str)) rfl ⟨rfl, rfl, trivial⟩ (ConvH.of (.cons r0 (.cons r0 .nil))) hl0 ?_
 clear hl0
 rintro ⟨i0, y0_0⟩ Kb0 lk0 hl0 j0
 conv at hl0 => whnf
 refine cond_go rfl ?_
 refine cond_s (fun w0 => ?_) (fun w0 => ?_)
 obtain ⟨e0, hx0, hd0⟩ := ltx w0
 rw [hd0, Jaf.eq_2] at hl0
 refine block_go rfl ?_
 refine cs rfl rfl hl0 (fun w18 hl0 => ?_) fun w18 hl0 => ?_
 obtain ⟨h20, hl0⟩ := chkb hl0
 refine cat_str h20 ?_
 refine RStep.ofN (index_addr rfl rfl (hasO h11_0 hx0) (nn _) (lt_ofNE rfl hx0) (RStep.of (ld_own (i := i0) (o := 0) r0 rfl hx0 rfl rfl ?_)))
 obtain ⟨h26, hl0⟩ := chkb hl0
 refine cat_str h26 ?_
 refine int_in (cntz hx0 hk0) ?_
 refine RoundStep.mk (i0 + 1, ((y0_0 ++ ([44, 32] : Str)) ++ e0)) ⟨rfl, rfl, trivial⟩ (by repeat (first | exact trivial | refine And.intro rfl ?_)) (ConvH.of (.cons r0 (.cons r0 .nil))) lk0 (ltm hx0) hl0
 refine RStep.ofN (index_addr rfl rfl (hasO h11_0 hx0) (nn _) (lt_ofNE rfl hx0) (RStep.of (ld_own (i := i0) (o := 0) r0 rfl hx0 rfl rfl ?_)))
 obtain ⟨h26, hl0⟩ := chkb hl0
 refine cat_str h26 ?_
 refine int_in (cntz hx0 hk0) ?_
 refine RoundStep.mk (i0 + 1, (y0_0 ++ e0)) ⟨rfl, rfl, trivial⟩ (by repeat (first | exact trivial | refine And.intro rfl ?_)) (ConvH.of (.cons r0 (.cons r0 .nil))) lk0 (ltm hx0) hl0
 rw [lty w0, Jaf.eq_1] at hl0
 refine cond_T ?_
 refine MeetStep.mk (y0_0) ⟨rfl, trivial⟩ (by repeat (first | exact trivial | refine And.intro rfl ?_)) (ConvH.of (.cons r0 (.cons r0 .nil))) lk0 (si hl0)
 rintro t0 Kt0 lt0 rfl j0
 refine RStep.of (len_slice rfl ?_)
 obtain rfl := si hm
 refine EndStep.mk _ (l11.trans lt0) ⟨rfl, rfl⟩ (ConvH.of (.cons r1 .nil))

noncomputable def JaG (name : Str) : List Str → Nat → Option (Fl (Str × Bool) (Unit))
  | [], _ => some (Fl.go ())
  | e0 :: xs0, i0 =>
    (((if decide ((e0.length : Int) > (name.length : Int)) then (chk (0 ≤ (0 : Int) ∧ (0 : Int) ≤ (name.length : Int) ∧ (name.length : Int) ≤ (e0.length : Int))).bind fun _ =>
    some (decide ((subL e0 (0 : Int) (name.length : Int)) = name)) else some false).bind fun x37 =>
    (if x37 then (ix e0 (name.length : Int)).bind fun x45 =>
    some (decide ((x45.toNat : Int) = 61)) else some false).bind fun x47 =>
    some x47) : Option (Bool)).bind fun t902 =>
    if t902 then
    (chk (InI ((name.length : Int) + 1))).bind fun _ =>
    (chk (0 ≤ ((name.length : Int) + 1) ∧ ((name.length : Int) + 1) ≤ (e0.length : Int) ∧ (e0.length : Int) ≤ (e0.length : Int))).bind fun _ =>
    some (Fl.ret ((subL e0 ((name.length : Int) + 1) (e0.length : Int)), true))
    else
    JaG name xs0 (i0 + 1)
noncomputable def JbI (a : Jar) (name : Str) : Option (Str × Bool) :=
  if (!a.HasQuery) then
  some (([] : Str), false)
  else
  (Jbr a.Query (38 : UInt8)).bind fun x13 =>
  (chk (x13.length ≤ szMax)).bind fun _ =>
  (JaG name x13 0).bind fun s0 => s0.el some fun t0 =>
  some (([] : Str), false)
set_option maxHeartbeats 8000000 in
theorem JcE {a : Jar} {name : Str} {K : Hp} {r : Str × Bool}
    (hm : JbI a name = some r)  :
    Fn Tryz.prog 47 [.agg #[str a.Host, str a.Path, str a.Query, .bool a.HasQuery], str name] K [] (fun v K' H' => v = .tuple #[str r.1, .bool r.2] ∧ H' = []) := by
 refine Fn.enter Tryz.func47 Tryz.call47 rfl fun F => ?_
 unfold JbI at hm
 refine box_rule ?_
 intro b2
 refine Ja rfl (RStep.of (load1_s r0 rfl rfl (un_not (cond_go rfl ?_))))
 refine cond_s (fun w10 => ?_) (fun w10 => ?_)
 replace hm := ift (not_t (ni_t w10)) hm
 obtain rfl := si hm
 refine EndStep.mk _ (Hp.Le.refl _) ⟨rfl, rfl⟩ (ConvH.of (.cons r1 .nil))
 replace hm := iff_ (not_f (ni_f w10)) hm
 refine Ja rfl (RStep.of (load1_s r0 rfl rfl ?_))
 obtain ⟨x13, q13, hm⟩ := bnd hm
 refine call_fn (Jca (s := a.Query) (byZ := (38 : UInt8)) q13) .nil ?_
 rintro _ K13 _ l13 ⟨a13_0, c13_0, rfl, h13_0, rfl⟩
 refine RStep.of (len_slice rfl ?_)
 obtain ⟨hk0, hm⟩ := chkb hm
 obtain ⟨s0, hl0, hm⟩ := bnd hm
 refine code_cut (σ := (Unit)) [4, 5, 7, 16, 17, 18, 19, 20, 21, 22, 23, 24, 25, 26, 27, 28, 29, 30, 31, 32, 33, 34, 35, 36, 37, 38, 39, 40, 41, 42, 43, 44, 45, 46, 47, 48, 49, 50, 51, 52, 53, 54, 55, 56] (fun t0 => []) (fun t0 => [OwnL eS a13_0 9 1 c13_0 x13, Cells b2 120 [str a.Host, str a.Path, str a.Query, .bool a.HasQuery], F]) (fun zz K1 => match zz with | t0 => s0 = Fl.go t0) ?_ ?_
 refine block_go rfl ?_
 refine loop_rule (σ := Nat) [4, 5, 7, 16, 17, 18, 19, 20, 21, 22, 23, 24, 25, 26, 27, 28, 29, 30, 31, 32, 33, 34, 35, 36, 37, 38, 39, 40, 41, 42, 43, 44, 45, 46, 47, 48, 49, 50, 51, 52, 53, 54, 55, 56] (fun i0 => [(16, .int .i64 (i0 : Int))]) (fun i0 => [OwnL eS a13_0 9 1 c13_0 x13, Cells b2 120 [str a.Host, str a.Path, str a.Query, .bool a.HasQuery], F]) (fun zz K1 => match zz with | i0 => JaG name (x13.drop i0) i0 = some s0) (fun zz => x13.length - zz) (0) rfl ⟨rfl, trivial⟩ (ConvH.of (.cons r0 (.cons r0 (.cons r0 .nil)))) hl0 ?_
 clear hl0
 rintro i0 Kb0 lk0 hl0 j0
 conv at hl0 => whnf
 refine cond_go rfl ?_
 refine cond_s (fun w0 => ?_) (fun w0 => ?_)
 obtain ⟨e0, hx0, hd0⟩ := ltx w0
 rw [hd0, JaG.eq_2] at hl0
 refine block_go rfl ?_
 obtain ⟨s902, hl902, hl0⟩ := bnd hl0
 refine code_cut (σ := Bool) [19, 20, 21, 22, 23, 24, 25, 26, 27, 28, 29, 30, 31, 32, 33, 34, 35, 36, 37, 38, 39, 40, 41, 42, 43, 44, 45, 46, 47] (fun t902 => [(47, .bool t902)]) (fun _ => [OwnL eS a13_0 9 1 c13_0 x13, Cells b2 120 [str a.Host, str a.Path, str a.Query, .bool a.HasQuery], F]) (fun t902 K1 => K1 = Kb0 ∧ t902 = s902) ?_ ?_
 refine guard_go rfl ?_
 refine RStep.ofN (index_addr rfl rfl (hasO h13_0 hx0) (nn _) (lt_ofNE rfl hx0) (RStep.of (ld_own (i := i0) (o := 0) r0 rfl hx0 rfl rfl (RStep.of (len_str rfl (RStep.of (len_str rfl ?_)))))))
 obtain ⟨x37, e37, hl902⟩ := bnd hl902
 refine cond_s (fun g27_7 => ?_) (fun g27_7 => ?_)
 replace e37 := ift g27_7 e37
 refine cond_t g27_7 (cond_t g27_7 (RStep.ofN (index_addr rfl rfl (hasO h13_0 hx0) (nn _) (lt_ofNE rfl hx0) (cond_t g27_7 (RStep.of (ld_own (i := i0) (o := 0) r0 rfl hx0 rfl rfl (cond_t g27_7 ?_)))))))
 refine cond_t g27_7 (RStep.of (len_str rfl (cond_t g27_7 ?_)))
 obtain ⟨h34, e37⟩ := chkb e37
 refine RStep.ofN (sl_str (lo := none) (hi := (some (name.length : Int))) rfl h34 (cond_t g27_7 (cond_t g27_7 (eq_str (cond_t g27_7 ?_)))))
 obtain ⟨x47, e47, hl902⟩ := bnd hl902
 refine cond_s (fun g38_7 => ?_) (fun g38_7 => ?_)
 replace e47 := ift ((si e37).symm.trans g38_7) e47
 refine cond_t g38_7 (cond_t g38_7 (RStep.ofN (index_addr rfl rfl (hasO h13_0 hx0) (nn _) (lt_ofNE rfl hx0) (cond_t g38_7 (RStep.of (ld_own (i := i0) (o := 0) r0 rfl hx0 rfl rfl (cond_t g38_7 ?_)))))))
 refine cond_t g38_7 (RStep.of (len_str rfl (cond_t g38_7 ?_)))
 obtain ⟨x45, l45, k45, e47⟩ := ixb e47
 refine idx_str rfl l45 k45 (cond_t g38_7 (eq_int (cond_t g38_7 ?_)))
 refine MeetStep.mk (x47) ⟨(by rw [← (si e47)] <;> rfl), trivial⟩ (by repeat (first | exact trivial | refine And.intro rfl ?_)) (ConvH.of (.cons r0 (.cons r0 (.cons r0 .nil)))) (Hp.Le.refl _) ⟨rfl, (si hl902)⟩
 replace e47 := iff_ ((si e37).symm.trans g38_7) e47
 refine cond_f g38_7 (cond_f g38_7 (cond_f g38_7 (cond_f g38_7 (cond_f g38_7 (cond_f g38_7 ?_)))))
 refine cond_f g38_7 (cond_f g38_7 ?_)
 refine MeetStep.mk (x47) ⟨(by rw [← ((si e47).symm).symm] <;> rfl), trivial⟩ (by repeat (first | exact trivial | refine And.intro rfl ?_)) (ConvH.of (.cons r0 (.cons r0 (.cons r0 .nil)))) (Hp.Le.refl _) ⟨rfl, (si hl902)⟩
 replace e37 := iff_ g27_7 e37
 refine cond_f g27_7 (cond_f g27_7 (cond_f g27_7 (cond_f g27_7 (cond_f g27_7 (cond_f g27_7 ?_)))))
 refine cond_f g27_7 (cond_f g27_7 (cond_f g27_7 ?_))
 obtain ⟨x47, e47, hl902⟩ := bnd hl902
 replace e47 := iff_ (si e37).symm e47
 refine cond_F (cond_F (cond_F (cond_F (cond_F (cond_F ?_)))))
 refine cond_F (cond_F (cond_F ?_))
 refine MeetStep.mk (x47) ⟨(by rw [← ((si e47).symm).symm] <;> rfl), trivial⟩ (by repeat (first | exact trivial | refine And.intro rfl ?_)) (ConvH.of (.cons r0 (.cons r0 (.cons r0 .nil)))) (Hp.Le.refl _) ⟨rfl, (si hl902)⟩
 rintro t902 _ _ ⟨rfl, rfl⟩ j902
 refine CStep.ownLe r0 fun hc3 => ?_
 refine cs rfl rfl hl0 (fun w47 hl0 => ?_) fun w47 hl0 => ?_
 refine RStep.ofN (index_addr rfl rfl (hasO h13_0 hx0) (nn _) (lt_ofNE rfl hx0) (RStep.of (ld_own (i := i0) (o := 0) r0 rfl hx0 rfl rfl (RStep.of (len_str rfl ?_)))))
 obtain ⟨h54, hl0⟩ := chkb hl0
 refine int_in h54 ?_
 obtain ⟨h55, hl0⟩ := chkb hl0
 refine RStep.ofN (sl_str (lo := (some ((name.length : Int) + 1))) (hi := none) rfl h55 ?_)
 obtain rfl := si hl0
 replace hm := elr hm
 obtain rfl := si hm
 refine EndStep.mk _ (l13.trans lk0) ⟨rfl, rfl⟩ (ConvH.of (.cons r2 .nil))
 refine int_in (cntz hx0 hk0) ?_
 refine RoundStep.mk (i0 + 1) ⟨rfl, trivial⟩ (by repeat (first | exact trivial | refine And.intro rfl ?_)) (ConvH.of (.cons r0 (.cons r0 (.cons r0 .nil)))) lk0 (ltm hx0) hl0
 rw [lty w0, JaG.eq_1] at hl0
 refine cond_T ?_
 refine MeetStep.mk (()) trivial (by repeat (first | exact trivial | refine And.intro rfl ?_)) (ConvH.of (.cons r0 (.cons r0 (.cons r0 .nil)))) lk0 (si hl0).symm
 rintro t0 Kt0 lt0 rfl j0
 replace hm := elg hm
 obtain rfl := si hm
 refine EndStep.mk _ (l13.trans lt0) ⟨rfl, rfl⟩ (ConvH.of (.cons r2 .nil))

noncomputable def Jaj (s : Str) : Nat → Int → Int → Option (Fl (Int) (Int × Int))
  | 0, _, _ => none
  | xs0 + 1, y0_0, y0_1 =>
    if decide (y0_1 < (s.length : Int)) then
    (((ix s y0_1).bind fun x13 =>
    (if decide ((x13.toNat : Int) < 48) then some true else (ix s y0_1).bind fun x18 =>
    some (decide ((x18.toNat : Int) > 57))).bind fun x20 =>
    some (x20 || decide (y0_1 = 15))) : Option (Bool)).bind fun t902 =>
    if t902 then
    some (Fl.ret 0)
    else
    (chk (InI (10 * y0_0))).bind fun _ =>
    (ix s y0_1).bind fun x29 =>
    (chk (InI ((10 * y0_0) + ((x29 - (48 : UInt8)).toNat : Int)))).bind fun _ =>
    (chk (InI (y0_1 + 1))).bind fun _ =>
    Jaj s xs0 ((10 * y0_0) + ((x29 - (48 : UInt8)).toNat : Int)) (y0_1 + 1)
    else
    some (Fl.go (y0_0, y0_1))
noncomputable def Ja5 (n : Nat) (s : Str) : Option (Int) :=
  (Jaj s n 0 0).bind fun s0 => s0.el some fun t0 =>
  some t0.1
set_option maxHeartbeats 8000000 in
theorem Jcn {n : Nat} {s : Str} {K : Hp} {r : Int}
    (hm : Ja5 n s = some r)  :
    Fn Tryz.prog 49 [str s] K [] (fun v K' H' => v = .int .i64 r ∧ H' = []) := by
 refine Fn.enter Tryz.func49 Tryz.call49 rfl fun F => ?_
 unfold Ja5 at hm
 obtain ⟨s0, hl0, hm⟩ := bnd hm
 refine code_cut (σ := (Int × Int)) [2, 3, 4, 5, 6, 7, 8, 9, 10, 11, 12, 13, 14, 15, 16, 17, 18, 19, 20, 21, 22, 23, 24, 25, 26, 27, 28, 29, 30, 31, 32] (fun t0 => [(3, .int .i64 t0.1), (4, .int .i64 t0.2)]) (fun t0 => [F]) (fun zz K1 => match zz with | t0 => s0 = Fl.go t0) ?_ ?_
 refine block_go rfl ?_
 refine loop_rule (σ := Nat × Int × Int) [2, 3, 4, 5, 6, 7, 8, 9, 10, 11, 12, 13, 14, 15, 16, 17, 18, 19, 20, 21, 22, 23, 24, 25, 26, 27, 28, 29, 30, 31, 32] (fun (i0, y0_0, y0_1) => [(3, .int .i64 y0_0), (4, .int .i64 y0_1)]) (fun (i0, y0_0, y0_1) => [F]) (fun zz K1 => match zz with | (i0, y0_0, y0_1) => Jaj s i0 y0_0 y0_1 = some s0) (fun zz => zz.1) (n, 0, 0) rfl ⟨rfl, rfl, trivial⟩ (ConvH.of (.cons r0 .nil)) hl0 ?_
 clear hl0
 rintro ⟨i0, y0_0, y0_1⟩ Kb0 lk0 hl0 j0
 conv at hl0 => whnf
 cases i0 with
 | zero => rw [Jaj.eq_1] at hl0; cases hl0
 | succ i0 =>
  rw [Jaj.eq_2] at hl0
  refine RStep.of (len_str rfl ?_)
  refine cs rfl rfl hl0 (fun w8 hl0 => ?_) fun w8 hl0 => ?_
  refine block_go rfl ?_
  obtain ⟨s902, hl902, hl0⟩ := bnd hl0
  refine code_cut (σ := Bool) [11, 12, 13, 14, 15, 16, 17, 18, 19, 20, 21, 22, 23, 24] (fun t902 => [(24, .bool t902)]) (fun _ => [F]) (fun t902 K1 => K1 = Kb0 ∧ t902 = s902) ?_ ?_
  refine guard_go rfl ?_
  obtain ⟨x13, l13, k13, hl902⟩ := ixb hl902
  refine idx_str rfl l13 k13 ?_
  obtain ⟨x20, e20, hl902⟩ := bnd hl902
  refine cond_s (fun g15_5 => ?_) (fun g15_5 => ?_)
  replace e20 := ift g15_5 e20
  refine cond_t g15_5 (cond_t g15_5 (cond_t g15_5 (cond_t g15_5 (cond_T (cond_T ?_)))))
  refine cond_T ?_
  refine MeetStep.mk (_) ⟨(by rw [← ((or_t (si e20).symm)).symm] <;> rfl), trivial⟩ (by repeat (first | exact trivial | refine And.intro rfl ?_)) (ConvH.of (.cons r0 .nil)) (Hp.Le.refl _) ⟨rfl, (si hl902)⟩
  replace e20 := iff_ g15_5 e20
  refine cond_f g15_5 (cond_f g15_5 ?_)
  obtain ⟨x18, l18, k18, e20⟩ := ixb e20
  refine idx_str rfl l18 k18 (cond_f g15_5 (cond_f g15_5 ?_))
  refine cond_s (fun g21_5 => ?_) (fun g21_5 => ?_)
  refine cond_t g21_5 (cond_t g21_5 ?_)
  refine MeetStep.mk (_) ⟨(by rw [← ((or_t ((si e20).symm.trans g21_5))).symm] <;> rfl), trivial⟩ (by repeat (first | exact trivial | refine And.intro rfl ?_)) (ConvH.of (.cons r0 .nil)) (Hp.Le.refl _) ⟨rfl, (si hl902)⟩
  refine cond_f g21_5 (eq_int (cond_f g21_5 ?_))
  refine MeetStep.mk ((x20 || decide (y0_1 = 15))) ⟨(by rw [← (or_e (b := decide (y0_1 = 15)) ((si e20).symm.trans g21_5))] <;> rfl), trivial⟩ (by repeat (first | exact trivial | refine And.intro rfl ?_)) (ConvH.of (.cons r0 .nil)) (Hp.Le.refl _) ⟨rfl, (si hl902)⟩
  rintro t902 _ _ ⟨rfl, rfl⟩ j902
  refine cs rfl rfl hl0 (fun w24 hl0 => ?_) fun w24 hl0 => ?_
  obtain rfl := si hl0
  replace hm := elr hm
  obtain rfl := si hm
  refine EndStep.mk _ lk0 ⟨rfl, rfl⟩ (ConvH.of (.cons r0 .nil))
  obtain ⟨h26, hl0⟩ := chkb hl0
  refine int_in h26 ?_
  obtain ⟨x29, l29, k29, hl0⟩ := ixb hl0
  refine idx_str rfl l29 k29 (u8_subS (x := x29) (y := (48 : UInt8)) rfl rfl (conv_int rfl rfl (u8in (x29 - (48 : UInt8))) ?_))
  obtain ⟨h32, hl0⟩ := chkb hl0
  refine int_in h32 ?_
  obtain ⟨h10, hl0⟩ := chkb hl0
  refine int_in h10 ?_
  refine RoundStep.mk (i0, ((10 * y0_0) + ((x29 - (48 : UInt8)).toNat : Int)), (y0_1 + 1)) ⟨rfl, rfl, trivial⟩ (by repeat (first | exact trivial | refine And.intro rfl ?_)) (ConvH.of (.cons r0 .nil)) lk0 (Nat.lt_succ_self _) hl0
  refine cond_T ?_
  refine MeetStep.mk ((y0_0, y0_1)) ⟨rfl, rfl, trivial⟩ (by repeat (first | exact trivial | refine And.intro rfl ?_)) (ConvH.of (.cons r0 .nil)) lk0 (si hl0).symm
 rintro t0 Kt0 lt0 rfl j0
 replace hm := elg hm
 obtain rfl := si hm
 refine EndStep.mk _ lt0 ⟨rfl, rfl⟩ (ConvH.of (.cons r0 .nil))

noncomputable def JV (n : Nat) (name : Str) (x : Ji) (inZ : Ju) : Option (Ji × Bool) :=
  if decide (name = ([112, 97, 114, 116] : Str)) then
  (JaM inZ.Path).bind fun x20 =>
  if ((decide (x.TypeZ = 2) && decide (x.N ≥ 0)) && decide (x.N < (x20.length : Int))) then
  (ix x20 x.N).bind fun x39 =>
  (J1 x39).bind fun x41 =>
  some (x41, true)
  else
  (J1 ([] : Str)).bind fun x42 =>
  some (x42, decide (x.TypeZ = 2))
  else
  if decide (name = ([116, 101, 120, 116] : Str)) then
  (JU n x.N).bind fun x50 =>
  (J1 x50).bind fun x51 =>
  some (x51, decide (x.TypeZ = 2))
  else
  if decide (name = ([104, 101, 97, 100, 101, 114] : Str)) then
  (Jbs inZ.Fields x.S).bind fun x62 =>
  (J1 x62.1).bind fun x66 =>
  some (x66, decide (x.TypeZ = 1))
  else
  if decide (name = ([104, 97, 115] : Str)) then
  (Jbs inZ.Fields x.S).bind fun x77 =>
  (Jab x77.2).bind fun x81 =>
  some (x81, decide (x.TypeZ = 1))
  else
  if decide (name = ([97, 114, 103] : Str)) then
  (JbI (⟨([] : Str), ([] : Str), inZ.Query, true⟩ : Jar) x.S).bind fun x93 =>
  (J1 x93.1).bind fun x97 =>
  some (x97, decide (x.TypeZ = 1))
  else
  if decide (name = ([108, 101, 110] : Str)) then
  (JaE (x.S.length : Int)).bind fun x106 =>
  some (x106, decide (x.TypeZ = 1))
  else
  if decide (name = ([108, 111, 119, 101, 114] : Str)) then
  (Jay x.S).bind fun x114 =>
  (J1 x114).bind fun x115 =>
  some (x115, decide (x.TypeZ = 1))
  else
  (Ja5 n x.S).bind fun x121 =>
  (JaE x121).bind fun x122 =>
  some (x122, decide (x.TypeZ = 1))
set_option maxHeartbeats 8000000 in
theorem Jcx {n : Nat} {name : Str} {x : Ji} {inZ : Ju} {ap2_0 : Option Addr} {cp2_0 : Nat} {K : Hp} {r : Ji × Bool}
    (hm : JV n name x inZ = some r) (hp2_0 : RdC Jj.enc K ap2_0 cp2_0 2 inZ.Fields) :
    Fn Tryz.prog 20 [str name, .agg #[.int .i64 x.TypeZ, .int .i64 x.N, str x.S, .bool x.Is], .agg #[str inZ.Method, str inZ.Host, str inZ.Path, str inZ.Query, .slice ap2_0 inZ.Fields.length cp2_0]] K [] (fun v K' H' => v = .tuple #[.agg #[.int .i64 r.1.TypeZ, .int .i64 r.1.N, str r.1.S, .bool r.1.Is], .bool r.2] ∧ H' = []) := by
 refine Fn.enter Tryz.func20 Tryz.call20 rfl fun F => ?_
 unfold JV at hm
 refine box_rule ?_
 intro b4
 refine box_rule ?_
 intro b5
 refine alloc_rule rfl ?_
 intro b6
 refine block_go rfl ?_
 refine eq_str ?_
 refine cs rfl rfl hm (fun w16 hm => ?_) fun w16 hm => ?_
 refine Ja rfl (RStep.of (load1_s r1 rfl rfl ?_))
 obtain ⟨x20, q20, hm⟩ := bnd hm
 refine call_fn (Jb6 (path := inZ.Path) q20) .nil ?_
 rintro _ K20 _ l20 ⟨a20_0, c20_0, rfl, h20_0, rfl⟩
 refine code_cut (σ := Unit) [21, 22, 23, 24, 25, 26, 27, 28, 29, 30, 31, 32, 33, 34, 35] (fun _ => [(35, .bool ((decide (x.TypeZ = 2) && decide (x.N ≥ 0)) && decide (x.N < (x20.length : Int))))]) (fun _ => [Cells b6 56 [.int .i64 0, .int .i64 0, str ([] : Str), .bool false], Cells b5 25 [str inZ.Method, str inZ.Host, str inZ.Path, str inZ.Query, .slice ap2_0 inZ.Fields.length cp2_0], Cells b4 56 [.int .i64 x.TypeZ, .int .i64 x.N, str x.S, .bool x.Is], F]) (fun t902 K1 => K1 = K20) ?_ ?_
 refine guard_go rfl ?_
 refine Ja rfl (RStep.of (load1_s r2 rfl rfl (eq_int ?_)))
 refine cond_s (fun g24_4 => ?_) (fun g24_4 => ?_)
 refine Ja rfl (cond_t g24_4 (RStep.of (load1_s r2 rfl rfl (cond_t g24_4 (cond_t g24_4 ?_)))))
 refine cond_s (fun g29_4 => ?_) (fun g29_4 => ?_)
 refine Ja rfl (cond_t g29_4 (RStep.of (load1_s r2 rfl rfl (cond_t g29_4 (cond_t g29_4 (RStep.of (len_slice rfl ?_)))))))
 refine cond_t g29_4 (cond_t g29_4 ?_)
 refine MeetStep.mk (()) ⟨(by rw [← (and_e (b := decide (x.N < (x20.length : Int))) (and_t g24_4 g29_4))] <;> rfl), trivial⟩ (by repeat (first | exact trivial | refine And.intro rfl ?_)) (ConvH.of (.cons r0 (.cons r0 (.cons r0 (.cons r0 .nil))))) (Hp.Le.refl _) rfl
 refine cond_f g29_4 (cond_f g29_4 (cond_f g29_4 (cond_f g29_4 (cond_f g29_4 ?_))))
 refine MeetStep.mk (()) ⟨(by rw [← ((and_f (and_g g24_4 g29_4))).symm] <;> rfl), trivial⟩ (by repeat (first | exact trivial | refine And.intro rfl ?_)) (ConvH.of (.cons r0 (.cons r0 (.cons r0 (.cons r0 .nil))))) (Hp.Le.refl _) rfl
 refine cond_f g24_4 (cond_f g24_4 (cond_f g24_4 (cond_F (cond_F (cond_F ?_)))))
 refine cond_F (cond_F (cond_F ?_))
 refine MeetStep.mk (()) ⟨(by rw [← ((and_f (and_f g24_4))).symm] <;> rfl), trivial⟩ (by repeat (first | exact trivial | refine And.intro rfl ?_)) (ConvH.of (.cons r0 (.cons r0 (.cons r0 (.cons r0 .nil))))) (Hp.Le.refl _) rfl
 rintro _ _ _ rfl j902
 refine cs rfl rfl hm (fun w35 hm => ?_) fun w35 hm => ?_
 refine Ja rfl (RStep.of (load1_s r2 rfl rfl ?_))
 obtain ⟨x39, l39, k39, hm⟩ := ixb hm
 refine RStep.ofN (index_addr rfl rfl (hasK h20_0.rd k39) l39 (lt_ofE rfl l39 k39) (RStep.of (load_rd ((x.N).toNat) 0 _ _ h20_0.rd rfl (mp k39) rfl rfl ?_)))
 obtain ⟨x41, q41, hm⟩ := bnd hm
 refine call_fn (Jax (s := x39) q41) .nil ?_
 rintro _ K41 _ l41 ⟨rfl, rfl⟩
 refine store_rule r0 rfl ?_
 refine ⟨rfl, rfl, (Nat.le_of_ble_eq_true rfl), ?_⟩
 obtain rfl := si hm
 refine RStep.of (loadn_s r0 rfl (Nat.le_of_ble_eq_true rfl) ?_)
 refine EndStep.mk _ (l20.trans l41) ⟨rfl, rfl⟩ (ConvH.of (.cons r3 .nil))
 refine draw_go ⟨⟨[], false⟩, _, [(_, _)], []⟩ (by kernel_rfl) ⟨Hp.Le.refl _, (ConvH.of (.cons r2 .nil)), ci0⟩ ?_
 obtain ⟨x42, q42, hm⟩ := bnd hm
 refine call_fn (Jax (s := ([] : Str)) q42) .nil ?_
 rintro _ K42 _ l42 ⟨rfl, rfl⟩
 refine ⟨⟨l42, (ConvH.of (.cons r2 .nil)), ci0⟩, ?_⟩
 refine Ja rfl (load1_l m0 rfl rfl (eq_int ?_))
 refine store_rule r0 rfl ?_
 refine ⟨rfl, rfl, (Nat.le_of_ble_eq_true rfl), ?_⟩
 refine ⟨⟨l42, (ConvH.of (.cons r2 .nil)), ci0⟩, ?_⟩
 obtain rfl := si hm
 refine RStep.of (loadn_s r0 rfl (Nat.le_of_ble_eq_true rfl) ?_)
 refine EndStep.mk _ (l20.trans l42) ⟨rfl, rfl⟩ (ConvH.of (.cons r3 .nil))
 refine eq_str ?_
 refine cs rfl rfl hm (fun w46 hm => ?_) fun w46 hm => ?_
 refine draw_go ⟨⟨[], false⟩, _, [(_, _)], []⟩ (by kernel_rfl) ⟨Hp.Le.refl _, (ConvH.of (.cons r2 .nil)), ci0⟩ ?_
 refine Ja rfl (load1_l m0 rfl rfl ?_)
 obtain ⟨x50, q50, hm⟩ := bnd hm
 refine call_fn (Jcj (n' := x.N) q50) .nil ?_
 rintro _ K50 _ l50 ⟨rfl, rfl⟩
 refine ⟨⟨l50, (ConvH.of (.cons r2 .nil)), ci0⟩, ?_⟩
 obtain ⟨x51, q51, hm⟩ := bnd hm
 refine call_fn (Jax (s := x50) q51) .nil ?_
 rintro _ K51 _ l51 ⟨rfl, rfl⟩
 refine ⟨⟨(l50.trans l51), (ConvH.of (.cons r2 .nil)), ci0⟩, ?_⟩
 refine Ja rfl (load1_l m0 rfl rfl (eq_int ?_))
 refine store_rule r0 rfl ?_
 refine ⟨rfl, rfl, (Nat.le_of_ble_eq_true rfl), ?_⟩
 refine ⟨⟨(l50.trans l51), (ConvH.of (.cons r2 .nil)), ci0⟩, ?_⟩
 obtain rfl := si hm
 refine RStep.of (loadn_s r0 rfl (Nat.le_of_ble_eq_true rfl) ?_)
 refine EndStep.mk _ (l50.trans l51) ⟨rfl, rfl⟩ (ConvH.of (.cons r3 .nil))
 refine eq_str ?_
 refine cs rfl rfl hm (fun w55 hm => ?_) fun w55 hm => ?_
 refine Ja rfl (RStep.of (load1_s r1 rfl rfl (Ja rfl (RStep.of (load1_s r2 rfl rfl ?_)))))
 obtain ⟨x62, q62, hm⟩ := bnd hm
 refine call_fn (Jcb (name := x.S) q62 hp2_0 rfl) .nil ?_
 rintro _ K62 _ l62 ⟨rfl, rfl⟩
 refine draw_go ⟨⟨[], false⟩, _, [(_, _)], []⟩ (by kernel_rfl) ⟨Hp.Le.refl _, (ConvH.of (.cons r2 .nil)), ci0⟩ ?_
 obtain ⟨x66, q66, hm⟩ := bnd hm
 refine call_fn (Jax (s := x62.1) q66) .nil ?_
 rintro _ K66 _ l66 ⟨rfl, rfl⟩
 refine ⟨⟨l66, (ConvH.of (.cons r2 .nil)), ci0⟩, ?_⟩
 refine Ja rfl (load1_l m0 rfl rfl (eq_int ?_))
 refine store_rule r0 rfl ?_
 refine ⟨rfl, rfl, (Nat.le_of_ble_eq_true rfl), ?_⟩
 refine ⟨⟨l66, (ConvH.of (.cons r2 .nil)), ci0⟩, ?_⟩
 obtain rfl := si hm
 refine RStep.of (loadn_s r0 rfl (Nat.le_of_ble_eq_true rfl) ?_)
 refine EndStep.mk _ (l62.trans l66) ⟨rfl, rfl⟩ (ConvH.of (.cons r3 .nil))
 refine eq_str ?_
 refine cs rfl rfl hm (fun w70 hm => ?_) fun w70 hm => ?_
 refine Ja rfl (RStep.of (load1_s r1 rfl rfl (Ja rfl (RStep.of (load1_s r2 rfl rfl ?_)))))
 obtain ⟨x77, q77, hm⟩ := bnd hm
 refine call_fn (Jcb (name := x.S) q77 hp2_0 rfl) .nil ?_
 rintro _ K77 _ l77 ⟨rfl, rfl⟩
 refine draw_go ⟨⟨[], false⟩, _, [(_, _)], []⟩ (by kernel_rfl) ⟨Hp.Le.refl _, (ConvH.of (.cons r2 .nil)), ci0⟩ ?_
 obtain ⟨x81, q81, hm⟩ := bnd hm
 refine call_fn (JP (isZ := x77.2) q81) .nil ?_
 rintro _ K81 _ l81 ⟨rfl, rfl⟩
 refine ⟨⟨l81, (ConvH.of (.cons r2 .nil)), ci0⟩, ?_⟩
 refine Ja rfl (load1_l m0 rfl rfl (eq_int ?_))
 refine store_rule r0 rfl ?_
 refine ⟨rfl, rfl, (Nat.le_of_ble_eq_true rfl), ?_⟩
 refine ⟨⟨l81, (ConvH.of (.cons r2 .nil)), ci0⟩, ?_⟩
 obtain rfl := si hm
 refine RStep.of (loadn_s r0 rfl (Nat.le_of_ble_eq_true rfl) ?_)
 refine EndStep.mk _ (l77.trans l81) ⟨rfl, rfl⟩ (ConvH.of (.cons r3 .nil))
 refine eq_str ?_
 refine cs rfl rfl hm (fun w85 hm => ?_) fun w85 hm => ?_
 refine Ja rfl (RStep.of (load1_s r1 rfl rfl (build_struct rfl rfl (cond_T (cond_T (Ja rfl ?_))))))
 refine RStep.of (load1_s r2 rfl rfl ?_)
 obtain ⟨x93, q93, hm⟩ := bnd hm
 refine call_fn (JcE (a := (⟨([] : Str), ([] : Str), inZ.Query, true⟩ : Jar)) (name := x.S) q93) .nil ?_
 rintro _ K93 _ l93 ⟨rfl, rfl⟩
 refine draw_go ⟨⟨[], false⟩, _, [(_, _)], []⟩ (by kernel_rfl) ⟨Hp.Le.refl _, (ConvH.of (.cons r2 .nil)), ci0⟩ ?_
 obtain ⟨x97, q97, hm⟩ := bnd hm
 refine call_fn (Jax (s := x93.1) q97) .nil ?_
 rintro _ K97 _ l97 ⟨rfl, rfl⟩
 refine ⟨⟨l97, (ConvH.of (.cons r2 .nil)), ci0⟩, ?_⟩
 refine Ja rfl (load1_l m0 rfl rfl (eq_int ?_))
 refine store_rule r0 rfl ?_
 refine ⟨rfl, rfl, (Nat.le_of_ble_eq_true rfl), ?_⟩
 refine ⟨⟨l97, (ConvH.of (.cons r2 .nil)), ci0⟩, ?_⟩
 obtain rfl := si hm
 refine RStep.of (loadn_s r0 rfl (Nat.le_of_ble_eq_true rfl) ?_)
 refine EndStep.mk _ (l93.trans l97) ⟨rfl, rfl⟩ (ConvH.of (.cons r3 .nil))
 refine eq_str ?_
 refine cs rfl rfl hm (fun w101 hm => ?_) fun w101 hm => ?_
 refine draw_go ⟨⟨[], false⟩, _, [(_, _)], []⟩ (by kernel_rfl) ⟨Hp.Le.refl _, (ConvH.of (.cons r2 .nil)), ci0⟩ ?_
 refine Ja rfl (load1_l m0 rfl rfl (len_strN rfl ?_))
 obtain ⟨x106, q106, hm⟩ := bnd hm
 refine call_fn (JaF (n' := (x.S.length : Int)) q106) .nil ?_
 rintro _ K106 _ l106 ⟨rfl, rfl⟩
 refine ⟨⟨l106, (ConvH.of (.cons r2 .nil)), ci0⟩, ?_⟩
 refine Ja rfl (load1_l m0 rfl rfl (eq_int ?_))
 refine store_rule r0 rfl ?_
 refine ⟨rfl, rfl, (Nat.le_of_ble_eq_true rfl), ?_⟩
 refine ⟨⟨l106, (ConvH.of (.cons r2 .nil)), ci0⟩, ?_⟩
 obtain rfl := si hm
 refine RStep.of (loadn_s r0 rfl (Nat.le_of_ble_eq_true rfl) ?_)
 refine EndStep.mk _ l106 ⟨rfl, rfl⟩ (ConvH.of (.cons r3 .nil))
 refine eq_str ?_
 refine cs rfl rfl hm (fun w110 hm => ?_) fun w110 hm => ?_
 refine draw_go ⟨⟨[], false⟩, _, [(_, _)], []⟩ (by kernel_rfl) ⟨Hp.Le.refl _, (ConvH.of (.cons r2 .nil)), ci0⟩ ?_
 refine Ja rfl (load1_l m0 rfl rfl ?_)
 obtain ⟨x114, q114, hm⟩ := bnd hm
 refine call_fn (Jbm (s := x.S) q114) .nil ?_
 rintro _ K114 _ l114 ⟨rfl, rfl⟩
 refine ⟨⟨l114, (ConvH.of (.cons r2 .nil)), ci0⟩, ?_⟩
 obtain ⟨x115, q115, hm⟩ := bnd hm
 refine call_fn (Jax (s := x114) q115) .nil ?_
 rintro _ K115 _ l115 ⟨rfl, rfl⟩
 refine ⟨⟨(l114.trans l115), (ConvH.of (.cons r2 .nil)), ci0⟩, ?_⟩
 refine Ja rfl (load1_l m0 rfl rfl (eq_int ?_))
 refine store_rule r0 rfl ?_
 refine ⟨rfl, rfl, (Nat.le_of_ble_eq_true rfl), ?_⟩
 refine ⟨⟨(l114.trans l115), (ConvH.of (.cons r2 .nil)), ci0⟩, ?_⟩
 obtain rfl := si hm
 refine RStep.of (loadn_s r0 rfl (Nat.le_of_ble_eq_true rfl) ?_)
 refine EndStep.mk _ (l114.trans l115) ⟨rfl, rfl⟩ (ConvH.of (.cons r3 .nil))
 refine draw_go ⟨⟨[], false⟩, _, [(_, _)], []⟩ (by kernel_rfl) ⟨Hp.Le.refl _, (ConvH.of (.cons r2 .nil)), ci0⟩ ?_
 refine Ja rfl (load1_l m0 rfl rfl ?_)
 obtain ⟨x121, q121, hm⟩ := bnd hm
 refine call_fn (Jcn (s := x.S) q121) .nil ?_
 rintro _ K121 _ l121 ⟨rfl, rfl⟩
 refine ⟨⟨l121, (ConvH.of (.cons r2 .nil)), ci0⟩, ?_⟩
 obtain ⟨x122, q122, hm⟩ := bnd hm
 refine call_fn (JaF (n' := x121) q122) .nil ?_
 rintro _ K122 _ l122 ⟨rfl, rfl⟩
 refine ⟨⟨(l121.trans l122), (ConvH.of (.cons r2 .nil)), ci0⟩, ?_⟩
 refine Ja rfl (load1_l m0 rfl rfl (eq_int ?_))
 refine store_rule r0 rfl ?_
 refine ⟨rfl, rfl, (Nat.le_of_ble_eq_true rfl), ?_⟩
 refine ⟨⟨(l121.trans l122), (ConvH.of (.cons r2 .nil)), ci0⟩, ?_⟩
 obtain rfl := si hm
 refine RStep.of (loadn_s r0 rfl (Nat.le_of_ble_eq_true rfl) ?_)
 refine EndStep.mk _ (l121.trans l122) ⟨rfl, rfl⟩ (ConvH.of (.cons r3 .nil))

noncomputable def JA (a : JD) (b : JD) : Nat → Nat → (List Je) → Option ((List Je))
  | 0, _, y0_0 => some y0_0
  | xs0 + 1, i0, y0_0 =>
    (ix [a, b] (i0 : Int)).bind fun x34 =>
    (chk (InI (Int.tmod x34.f0 999999999))).bind fun _ =>
    (chk (InI (Int.tmod x34.f1 999999999))).bind fun _ =>
    (chk (y0_0.length + ([(⟨1, (Int.tmod x34.f0 999999999), ([] : Str)⟩ : Je), (⟨1, (Int.tmod x34.f1 999999999), ([] : Str)⟩ : Je), (⟨7, 0, ([42] : Str)⟩ : Je)]).length ≤ lim)).bind fun _ =>
    JA a b xs0 (i0 + 1) (y0_0 ++ [(⟨1, (Int.tmod x34.f0 999999999), ([] : Str)⟩ : Je), (⟨1, (Int.tmod x34.f1 999999999), ([] : Str)⟩ : Je), (⟨7, 0, ([42] : Str)⟩ : Je)])
noncomputable def JaO (n : Nat) (a : JD) (b : JD) (op : UInt8) : Option (Bool) :=
  (JaD n).bind fun x21 =>
  if (!x21) then
  some false
  else
  (ix ([([43] : Str), ([45] : Str), ([42] : Str)]) ((op % (3 : UInt8)).toNat : Int)).bind fun x26 =>
  (chk (InI (2 : Int))).bind fun _ =>
  (JA a b (2 : Int).toNat 0 []).bind fun t0 =>
  (chk (t0.length + ([(⟨7, 0, x26⟩ : Je), (⟨6, 0, ([116, 101, 120, 116] : Str)⟩ : Je), (⟨11, 0, ([116, 97, 103] : Str)⟩ : Je), (⟨12, 0, ([] : Str)⟩ : Je)]).length ≤ lim)).bind fun _ =>
  (JaB n (t0 ++ [(⟨7, 0, x26⟩ : Je), (⟨6, 0, ([116, 101, 120, 116] : Str)⟩ : Je), (⟨11, 0, ([116, 97, 103] : Str)⟩ : Je), (⟨12, 0, ([] : Str)⟩ : Je)]) (⟨([] : Str), ([] : Str), ([] : Str), ([] : Str), []⟩ : Jt) 1073741824).bind fun x62 =>
  (chk (InI (Int.tmod a.f0 999999999))).bind fun _ =>
  (chk (InI (Int.tmod a.f1 999999999))).bind fun _ =>
  (Js n ([42] : Str) (⟨2, (Int.tmod a.f0 999999999), ([] : Str), false⟩ : Ji) (⟨2, (Int.tmod a.f1 999999999), ([] : Str), false⟩ : Ji)).bind fun x76 =>
  (chk (InI (Int.tmod b.f0 999999999))).bind fun _ =>
  (chk (InI (Int.tmod b.f1 999999999))).bind fun _ =>
  (Js n ([42] : Str) (⟨2, (Int.tmod b.f0 999999999), ([] : Str), false⟩ : Ji) (⟨2, (Int.tmod b.f1 999999999), ([] : Str), false⟩ : Ji)).bind fun x90 =>
  (Js n x26 x76.1 x90.1).bind fun x97 =>
  (JV n ([116, 101, 120, 116] : Str) x97.1 (⟨([] : Str), ([] : Str), ([] : Str), ([] : Str), []⟩ : Ju)).bind fun x103 =>
  (if (x62.2.isNone && decide ((x62.1.Tags.length : Int) = 1)) then (ix x62.1.Tags 0).bind fun x117 =>
  some (decide (x117 = x103.1.S)) else some false).bind fun x122 =>
  some ((x122 && decide (x97.1.N ≤ 1099511627776)) && decide (x97.1.N ≥ (-1099511627776)))
set_option maxHeartbeats 8000000 in
theorem JbQ {n : Nat} {a : JD} {b : JD} {op : UInt8} {K : Hp} {r : Bool}
    (hm : JaO n a b op = some r) (hG0 : GlL eS 1 0 Jm K) (hG1 : GlL eS 1 1 Jr K) (hG2 : GlL eS 1 2 Jn K) (hG3 : GlN 3 K) (hG5 : GlA 5 (Go.Lib.pow10Tab.map fun z => Value.int .u64 z) K) :
    Fn Tryz.prog 4 [.agg #[.int .u32 a.f0, .int .u32 a.f1], .agg #[.int .u32 b.f0, .int .u32 b.f1], .int .u8 (op.toNat : Int)] K [] (fun v K' H' => v = .bool r ∧ H' = []) := by
 refine Fn.enter Tryz.func4 Tryz.call4 rfl fun F => ?_
 unfold JaO at hm
 refine box_rule ?_
 intro b3
 refine box_rule ?_
 intro b4
 obtain ⟨x21, q21, hm⟩ := bnd hm
 refine call_fn (Jcu q21 hG0 hG1 hG2 hG3 hG5) .nil ?_
 rintro _ K21 _ l21 ⟨rfl, rfl⟩
 refine un_not (cond_go rfl ?_)
 refine cond_s (fun w22 => ?_) (fun w22 => ?_)
 replace hm := ift (not_t (ni_t w22)) hm
 obtain rfl := si hm
 refine EndStep.mk _ l21 ⟨rfl, rfl⟩ (ConvH.of (.cons r2 .nil))
 replace hm := iff_ (not_f (ni_f w22)) hm
 refine bsO (len := 3) (enc := eS) (l := [([43] : Str), ([45] : Str), ([42] : Str)]) (cl := [str ([43] : Str), str ([45] : Str), str ([42] : Str)]) elT31 rfl rfl (fun _ _ => rfl) rfl rfl rfl ?_ fun b23 => ?_
 · conv => whnf
   refine cond_T (cond_T (cond_T ?_))
   first | done | rfl
 refine u8_rem (x := op) (y := (3 : UInt8)) rfl rfl (by decide) ?_
 obtain ⟨x26, l26, k26, hm⟩ := ixb hm
 refine RStep.ofN (index_addr rfl rfl (hasO (fun _ => ⟨_, _, rfl⟩) k26) l26 (lt_ofE rfl l26 k26) (RStep.of (ld_own (i := (((op % (3 : UInt8)).toNat : Int)).toNat) (o := 0) r0 rfl k26 rfl rfl (RStep.of (loadn_s r2 rfl (Nat.le_of_ble_eq_true rfl) (RStep.of (loadn_s r1 rfl (Nat.le_of_ble_eq_true rfl) ?_)))))))
 refine bsO (len := 2) (enc := JD.enc) (l := [a, b]) (cl := [.int .u32 a.f0, .int .u32 a.f1, .int .u32 b.f0, .int .u32 b.f1]) elT52 rfl rfl (fun _ _ => rfl) rfl rfl rfl ?_ fun b30 => ?_
 · conv => whnf
   refine cond_T (cond_T ?_)
   first | done | rfl
 refine RStep.of (len_slice rfl ?_)
 obtain ⟨hk0, hm⟩ := chkb hm
 obtain ⟨s0, hl0, hm⟩ := bnd hm
 refine nilC Je.enc 54 3 ?_
 refine code_cut (σ := ((List Je)) × Option Addr × Nat) [8, 10, 32, 33, 34, 35, 36, 37, 38, 39, 40, 41, 42, 43, 44, 45, 46, 47, 48, 49, 50] (fun (t0, t0_a0, t0_c0) => [(8, .slice t0_a0 t0.length t0_c0)]) (fun (t0, t0_a0, t0_c0) => [OwnL Je.enc t0_a0 54 3 t0_c0 t0, OwnL JD.enc (some ⟨b30, 0, none⟩) 51 2 2 [a, b], OwnL eS (some ⟨b23, 0, none⟩) 9 1 3 ([([43] : Str), ([45] : Str), ([42] : Str)]), Cells b4 51 [.int .u32 b.f0, .int .u32 b.f1], Cells b3 51 [.int .u32 a.f0, .int .u32 a.f1], F]) (fun zz K1 => match zz with | (t0, t0_a0, t0_c0) => (0 < t0.length → Has t0_a0) ∧ t0 = s0) ?_ ?_
 refine block_go rfl ?_
 refine loop_rule (σ := Nat × (List Je) × Option Addr × Nat) [8, 10, 32, 33, 34, 35, 36, 37, 38, 39, 40, 41, 42, 43, 44, 45, 46, 47, 48, 49, 50] (fun (i0, y0_0, y0_a0, y0_c0) => [(32, .int .i64 (i0 : Int)), (8, .slice y0_a0 y0_0.length y0_c0)]) (fun (i0, y0_0, y0_a0, y0_c0) => [OwnL Je.enc y0_a0 54 3 y0_c0 y0_0, OwnL JD.enc (some ⟨b30, 0, none⟩) 51 2 2 [a, b], OwnL eS (some ⟨b23, 0, none⟩) 9 1 3 ([([43] : Str), ([45] : Str), ([42] : Str)]), Cells b4 51 [.int .u32 b.f0, .int .u32 b.f1], Cells b3 51 [.int .u32 a.f0, .int .u32 a.f1], F]) (fun zz K1 => match zz with | (i0, y0_0, y0_a0, y0_c0) => (0 < y0_0.length → Has y0_a0) ∧ JA a b ((2 : Int).toNat - i0) i0 y0_0 = some s0) (fun zz => (2 : Int).toNat - zz.1) (0, [], none, 0) rfl ⟨rfl, rfl, trivial⟩ (ConvH.of (.cons r0 (.cons r0 (.cons r0 (.cons r0 (.cons r0 (.cons r0 .nil))))))) ⟨(fun h => by simp at h), hl0⟩ ?_
 clear hl0
 rintro ⟨i0, y0_0, y0_a0, y0_c0⟩ Kb0 lk0 ⟨y0_h0, hl0⟩ j0
 refine cond_go rfl ?_
 refine cond_s (fun w0 => ?_) (fun w0 => ?_)
 rw [ltn (n := (2 : Int)) w0, JA.eq_2] at hl0
 refine block_go rfl ?_
 obtain ⟨x34, l34, k34, hl0⟩ := ixb hl0
 refine RStep.ofN (index_addr rfl rfl (hasO (fun _ => ⟨_, _, rfl⟩) k34) l34 (lt_ofE rfl l34 k34) (RStep.of (ldn_own (i := ((i0 : Int)).toNat) r1 rfl k34 rfl rfl ?_)))
 refine alloc_rule rfl ?_
 intro b10
 refine store_rule r0 rfl ?_
 refine ⟨rfl, rfl, (Nat.le_of_ble_eq_true rfl), ?_⟩
 refine RStep.ofN (arr_addr 0 rfl rfl rfl rfl (RStep.of (load1_s r0 rfl rfl (rem_t (by decide) ?_))))
 obtain ⟨h40, hl0⟩ := chkb hl0
 refine conv_int rfl rfl h40 (build_struct rfl rfl (cond_T (cond_T (RStep.ofN (arr_addr 1 rfl rfl rfl rfl (RStep.of (load1_s r0 rfl rfl ?_)))))))
 refine rem_t (by decide) ?_
 obtain ⟨h45, hl0⟩ := chkb hl0
 refine conv_int rfl rfl h45 (build_struct rfl rfl (cond_T (cond_T (build_struct rfl rfl (cond_T ?_)))))
 refine cond_T ?_
 refine bsO (len := 3) (enc := Je.enc) (l := [(⟨1, (Int.tmod x34.f0 999999999), ([] : Str)⟩ : Je), (⟨1, (Int.tmod x34.f1 999999999), ([] : Str)⟩ : Je), (⟨7, 0, ([42] : Str)⟩ : Je)]) (cl := [.int .i64 1, .int .i64 (Int.tmod x34.f0 999999999), str ([] : Str), .int .i64 1, .int .i64 (Int.tmod x34.f1 999999999), str ([] : Str), .int .i64 7, .int .i64 0, str ([42] : Str)]) elT38 rfl rfl (fun _ _ => rfl) rfl rfl rfl ?_ fun b48 => ?_
 · conv => whnf
   refine cond_T (cond_T (cond_T ?_))
   first | done | rfl
 obtain ⟨h49, hl0⟩ := chkb hl0
 refine apE rfl r2 elT38 (src_own' rfl r0 rfl (fun _ => rfl) (fun _ => rfl)) h49 ?_
 intro a49 c49 o49
 refine int_in (cntn w0 hk0) ?_
 refine RoundStep.mk (i0 + 1, (y0_0 ++ [(⟨1, (Int.tmod x34.f0 999999999), ([] : Str)⟩ : Je), (⟨1, (Int.tmod x34.f1 999999999), ([] : Str)⟩ : Je), (⟨7, 0, ([42] : Str)⟩ : Je)]), a49, c49) ⟨rfl, rfl, trivial⟩ (by repeat (first | exact trivial | refine And.intro rfl ?_)) (ConvH.of (.cons r0 (.cons r2 (.cons r2 (.cons r2 (.cons r2 (.cons r2 .nil))))))) lk0 (ltnm w0) ⟨o49, hl0⟩
 rw [lto (n := (2 : Int)) w0, JA.eq_1] at hl0
 refine cond_T ?_
 refine MeetStep.mk (y0_0, y0_a0, y0_c0) ⟨rfl, trivial⟩ (by repeat (first | exact trivial | refine And.intro rfl ?_)) (ConvH.of (.cons r0 (.cons r0 (.cons r0 (.cons r0 (.cons r0 (.cons r0 .nil))))))) lk0 ⟨y0_h0, (si hl0)⟩
 rintro ⟨t0, t0_a0, t0_c0⟩ Kt0 lt0 ⟨t0_h0, rfl⟩ j0
 refine build_struct rfl rfl (cond_T (cond_T (build_struct rfl rfl (cond_T (cond_T ?_)))))
 refine build_struct rfl rfl (cond_T (cond_T (build_struct rfl rfl (cond_T ?_))))
 refine bsO (len := 4) (enc := Je.enc) (l := [(⟨7, 0, x26⟩ : Je), (⟨6, 0, ([116, 101, 120, 116] : Str)⟩ : Je), (⟨11, 0, ([116, 97, 103] : Str)⟩ : Je), (⟨12, 0, ([] : Str)⟩ : Je)]) (cl := [.int .i64 7, .int .i64 0, str x26, .int .i64 6, .int .i64 0, str ([116, 101, 120, 116] : Str), .int .i64 11, .int .i64 0, str ([116, 97, 103] : Str), .int .i64 12, .int .i64 0, str ([] : Str)]) elT38 rfl rfl (fun _ _ => rfl) rfl rfl rfl ?_ fun b57 => ?_
 · conv => whnf
   refine cond_T (cond_T (cond_T (cond_T ?_)))
   first | done | rfl
 obtain ⟨h58, hm⟩ := chkb hm
 refine apE rfl r1 elT38 (src_own' rfl r0 rfl (fun _ => rfl) (fun _ => rfl)) h58 ?_
 intro a58 c58 o58
 refine build_struct rfl rfl ?_
 obtain ⟨x62, q62, hm⟩ := bnd hm
 refine call_fn (Fn.lend Tryz.call13 (fun K62_0 l62_0 f62_0 => (JbW (inZ := (⟨([] : Str), ([] : Str), ([] : Str), ([] : Str), []⟩ : Jt)) (most := 1073741824) q62 f62_0 rfl RdC.nil (hG0.mono ((l21.trans lt0).trans l62_0)) (hG1.mono ((l21.trans lt0).trans l62_0)) (hG2.mono ((l21.trans lt0).trans l62_0)) (hG3.mono ((l21.trans lt0).trans l62_0)) (hG5.mono ((l21.trans lt0).trans l62_0)))) (by exact fun _ _ _ _ h => h)) (.cons r0 .nil) ?_
 rintro _ K62 _ l62 ⟨_, rfl, a62_0, c62_0, a62_1, c62_1, a62_2, c62_2, rfl, h62_0, h62_1, h62_2, rfl⟩
 refine alloc_rule rfl ?_
 intro b11
 refine store_rule r0 rfl ?_
 refine ⟨rfl, rfl, (Nat.le_of_ble_eq_true rfl), ?_⟩
 refine RStep.ofN (arr_addr 0 rfl rfl rfl rfl (RStep.of (load1_s r9 rfl rfl (rem_t (by decide) ?_))))
 obtain ⟨h69, hm⟩ := chkb hm
 refine conv_int rfl rfl h69 (build_struct rfl rfl (cond_T (cond_T (RStep.ofN (arr_addr 1 rfl rfl rfl rfl (RStep.of (load1_s r9 rfl rfl ?_)))))))
 refine rem_t (by decide) ?_
 obtain ⟨h74, hm⟩ := chkb hm
 refine conv_int rfl rfl h74 (build_struct rfl rfl (cond_T (cond_T ?_)))
 obtain ⟨x76, q76, hm⟩ := bnd hm
 refine call_fn (Jba (op := ([42] : Str)) (a := (⟨2, (Int.tmod a.f0 999999999), ([] : Str), false⟩ : Ji)) (b := (⟨2, (Int.tmod a.f1 999999999), ([] : Str), false⟩ : Ji)) q76) .nil ?_
 rintro _ K76 _ l76 ⟨rfl, rfl⟩
 refine alloc_rule rfl ?_
 intro b13
 refine store_rule r0 rfl ?_
 refine ⟨rfl, rfl, (Nat.le_of_ble_eq_true rfl), ?_⟩
 refine RStep.ofN (arr_addr 0 rfl rfl rfl rfl (RStep.of (load1_s r9 rfl rfl (rem_t (by decide) ?_))))
 obtain ⟨h83, hm⟩ := chkb hm
 refine conv_int rfl rfl h83 (build_struct rfl rfl (cond_T (cond_T (RStep.ofN (arr_addr 1 rfl rfl rfl rfl (RStep.of (load1_s r9 rfl rfl ?_)))))))
 refine rem_t (by decide) ?_
 obtain ⟨h88, hm⟩ := chkb hm
 refine conv_int rfl rfl h88 (build_struct rfl rfl (cond_T (cond_T ?_)))
 obtain ⟨x90, q90, hm⟩ := bnd hm
 refine call_fn (Jba (op := ([42] : Str)) (a := (⟨2, (Int.tmod b.f0 999999999), ([] : Str), false⟩ : Ji)) (b := (⟨2, (Int.tmod b.f1 999999999), ([] : Str), false⟩ : Ji)) q90) .nil ?_
 rintro _ K90 _ l90 ⟨rfl, rfl⟩
 refine alloc_rule rfl ?_
 intro b15
 refine store_rule r0 rfl ?_
 refine ⟨rfl, rfl, (Nat.le_of_ble_eq_true rfl), ?_⟩
 refine RStep.of (loadn_s r1 rfl (Nat.le_of_ble_eq_true rfl) (RStep.of (loadn_s r0 rfl (Nat.le_of_ble_eq_true rfl) ?_)))
 obtain ⟨x97, q97, hm⟩ := bnd hm
 refine call_fn (Jba (op := x26) (a := x76.1) (b := x90.1) q97) .nil ?_
 rintro _ K97 _ l97 ⟨rfl, rfl⟩
 refine alloc_rule rfl ?_
 intro b17
 refine store_rule r0 rfl ?_
 refine ⟨rfl, rfl, (Nat.le_of_ble_eq_true rfl), ?_⟩
 refine RStep.of (loadn_s r0 rfl (Nat.le_of_ble_eq_true rfl) (build_struct rfl rfl ?_))
 obtain ⟨x103, q103, hm⟩ := bnd hm
 refine call_fn (Jcx (name := ([116, 101, 120, 116] : Str)) (x := x97.1) (inZ := (⟨([] : Str), ([] : Str), ([] : Str), ([] : Str), []⟩ : Ju)) q103 RdC.nil) .nil ?_
 rintro _ K103 _ l103 ⟨rfl, rfl⟩
 refine alloc_rule rfl ?_
 intro b19
 refine store_rule r0 rfl ?_
 refine ⟨rfl, rfl, (Nat.le_of_ble_eq_true rfl), ?_⟩
 refine draw_go ⟨⟨[], true⟩, _, [], []⟩ (by kernel_rfl) ⟨Hp.Le.refl _, (ConvH.of .nil), ci0⟩ ?_
 refine eq_err rfl ?_
 refine cond_s (fun g108_16 => ?_) (fun g108_16 => ?_)
 refine Ja rfl (cond_t g108_16 ?_)
 refine load1_s r4 rfl rfl ?_
 refine cond_t g108_16 (len_sliceN rfl (cond_t g108_16 (eq_int (cond_t g108_16 ?_))))
 obtain ⟨x122, e122, hm⟩ := bnd hm
 refine cond_s (fun g114_16 => ?_) (fun g114_16 => ?_)
 replace e122 := ift (and_t g108_16 g114_16) e122
 refine Ja rfl (cond_t g114_16 ?_)
 refine load1_s r4 rfl rfl ?_
 refine cond_t g114_16 ?_
 obtain ⟨x117, l117, k117, e122⟩ := ixb e122
 refine index_addr rfl rfl (hasO h62_2 k117) l117 (lt_ofE rfl l117 k117) (cond_t g114_16 ?_)
 refine ld_own (i := (0 : Int).toNat) (o := 0) r8 rfl k117 rfl rfl ?_
 refine cond_t g114_16 (Ja rfl (cond_t g114_16 ?_))
 refine load1_s r0 rfl rfl ?_
 refine cond_t g114_16 (eq_str (cond_t g114_16 ?_))
 refine cond_s (fun g123_16 => ?_) (fun g123_16 => ?_)
 refine Ja rfl (cond_t g123_16 ?_)
 refine load1_s r1 rfl rfl ?_
 refine cond_t g123_16 (cond_t g123_16 ?_)
 refine cond_s (fun g128_16 => ?_) (fun g128_16 => ?_)
 refine Ja rfl (cond_t g128_16 ?_)
 refine load1_s r1 rfl rfl ?_
 refine cond_t g128_16 (cond_t g128_16 ?_)
 obtain rfl := si hm
 refine EndStep.mk _ ((((((l21.trans lt0).trans l62).trans l76).trans l90).trans l97).trans l103) ⟨(by rw [← (and_e (b := decide (x97.1.N ≥ (-1099511627776))) (and_t ((si e122).symm.trans g123_16) g128_16))] <;> rfl), rfl⟩ (ConvH.of (.cons r14 .nil))
 refine cond_f g128_16 (cond_f g128_16 (cond_f g128_16 ?_))
 obtain rfl := si hm
 refine EndStep.mk _ ((((((l21.trans lt0).trans l62).trans l76).trans l90).trans l97).trans l103) ⟨(by rw [← ((and_f (and_g ((si e122).symm.trans g123_16) g128_16))).symm] <;> rfl), rfl⟩ (ConvH.of (.cons r14 .nil))
 refine cond_f g123_16 (cond_f g123_16 (cond_f g123_16 (cond_F (cond_F (cond_F ?_)))))
 refine cond_F ?_
 obtain rfl := si hm
 refine EndStep.mk _ ((((((l21.trans lt0).trans l62).trans l76).trans l90).trans l97).trans l103) ⟨(by rw [← ((and_f (and_f ((si e122).symm.trans g123_16)))).symm] <;> rfl), rfl⟩ (ConvH.of (.cons r14 .nil))
 replace e122 := iff_ (and_g g108_16 g114_16) e122
 refine cond_f g114_16 (cond_f g114_16 (cond_f g114_16 (cond_f g114_16 (cond_f g114_16 (cond_f g114_16 ?_)))))
 refine cond_f g114_16 (cond_F (cond_F (cond_F (cond_F (cond_F ?_)))))
 refine cond_F (cond_F (cond_F ?_))
 obtain rfl := si hm
 refine EndStep.mk _ ((((((l21.trans lt0).trans l62).trans l76).trans l90).trans l97).trans l103) ⟨(by rw [← ((and_f (and_f (si e122).symm))).symm] <;> rfl), rfl⟩ (ConvH.of (.cons r14 .nil))
 refine cond_f g108_16 (cond_f g108_16 (cond_f g108_16 (cond_f g108_16 ?_)))
 obtain ⟨x122, e122, hm⟩ := bnd hm
 replace e122 := iff_ (and_f g108_16) e122
 refine cond_F (cond_F (cond_F (cond_F (cond_F (cond_F ?_)))))
 refine cond_F (cond_F (cond_F (cond_F (cond_F (cond_F ?_)))))
 refine cond_F (cond_F (cond_F (cond_F ?_)))
 obtain rfl := si hm
 refine EndStep.mk _ ((((((l21.trans lt0).trans l62).trans l76).trans l90).trans l97).trans l103) ⟨(by rw [← ((and_f (and_f (si e122).symm))).symm] <;> rfl), rfl⟩ (ConvH.of (.cons r14 .nil))
