/- Functions of the program: mirrors, and that a call returns what the mirror says. Printed by gen.py. -/
import Derived.Test.YtpmdpondlmkojaaSL18
import Derived.KernelRfl
import Derived.Test.YtpmdpondlmkojaaProg
set_option linter.unusedVariables false
set_option linter.unusedSimpArgs false
open Go Go.SL Go.Proofs
set_option maxRecDepth 30000
structure S_fanout_Stream where
  limit : Int
  state : Int
  data : Str
  offsets : (List (Int × Int))
theorem elT22 : ElT Try.prog 22 5 1 := ElT.mk' rfl rfl rfl rfl rfl
noncomputable def fanout_New (limit : Int) : Option (Option S_fanout_Stream × Err) :=
  if (decide (limit < 1) || decide (limit > 65536)) then
  some (none, (some 1))
  else
  some ((some (⟨limit, 1, [], []⟩ : S_fanout_Stream)), none)
set_option maxHeartbeats 8000000 in
theorem fanout_New_ok {limit : Int} {K : Hp} {r : Option S_fanout_Stream × Err}
    (hm : fanout_New limit = some r)  :
    Fn Try.prog 11 [.int .i64 limit] K [] (fun v K' H' => match r.1 with | none => (v = .tuple #[.pointer none, errV 44 r.2] ∧ H' = []) | some ro => (∃ br_0 : Nat, ∃ ar_1 : Option Addr, ∃ cr_1 : Nat, ∃ mr_2 : Nat, v = .tuple #[.pointer (some ⟨br_0, 0, none⟩), errV 44 r.2] ∧ (0 < ro.data.length → Has ar_1) ∧ H' = [Cells br_0 77 [.int .i64 ro.limit, .int .i64 ro.state, .slice ar_1 ro.data.length cr_1, .map (some mr_2)], OwnL eU ar_1 5 1 cr_1 ro.data, MapE intK (fun x => .int .i64 x) mr_2 ro.offsets])) := by
  refine Fn.enter Try.func11 Try.call11 rfl fun F => ?_
  unfold fanout_New at hm
  conv => whnf
  refine cond_s (fun g6_1 => ?_) (fun g6_1 => ?_)
  · conv => whnf
    refine cond_t g6_1 ?_
    conv => whnf
    refine cond_t g6_1 ?_
    conv => whnf
    refine cond_go rfl ?_
    conv => whnf
    refine cond_T ?_
    replace hm := ift (or_t g6_1) hm
    conv => whnf
    refine mk_iface rfl ?_
    obtain rfl := si hm
    conv => whnf
    refine EndStep.mk _ (Hp.Le.refl _) ⟨rfl, rfl⟩ (ConvH.of (.cons r0 .nil))
  · conv => whnf
    refine cond_f g6_1 ?_
    conv => whnf
    refine cond_f g6_1 ?_
    conv => whnf
    refine cond_go rfl ?_
    conv => whnf
    refine cond_s (fun w9 => ?_) (fun w9 => ?_)
    · replace hm := ift (or_u g6_1 w9) hm
      conv => whnf
      refine mk_iface rfl ?_
      obtain rfl := si hm
      conv => whnf
      refine EndStep.mk _ (Hp.Le.refl _) ⟨rfl, rfl⟩ (ConvH.of (.cons r0 .nil))
    · replace hm := iff_ (or_f g6_1 w9) hm
      conv => whnf
      refine makeMap_rule intK (fun x => .int .i64 x) fun b12 => ?_
      conv => whnf
      refine build_struct rfl rfl ?_
      conv => whnf
      refine cond_T ?_
      conv => whnf
      refine cond_T ?_
      conv => whnf
      refine cond_T ?_
      conv => whnf
      refine box_rule ?_
      intro b14
      obtain rfl := si hm
      conv => whnf
      refine nilE eU 5 1 ?_
      refine EndStep.mk _ (Hp.Le.refl _) ⟨b14, none, 0, b12, rfl, (fun h => by simp at h), rfl⟩ (ConvH.of (.cons r1 (.cons r0 (.cons r0 (.cons r0 .nil)))))

noncomputable def fanout_Stream_open (s : S_fanout_Stream) : Option (Err) :=
  if decide (s.state ≠ 1) then
  some (some 6)
  else
  some none
set_option maxHeartbeats 8000000 in
theorem fanout_Stream_open_ok {s : S_fanout_Stream} {b0 : Nat} {ap0_0 : Option Addr} {cp0_0 : Nat} {mp0_1 : Nat} {K : Hp} {r : Err}
    (hm : fanout_Stream_open s = some r) (hp0_0 : (0 < s.data.length → Has ap0_0)) :
    Fn Try.prog 36 [.pointer (some ⟨b0, 0, none⟩)] K [Cells b0 77 [.int .i64 s.limit, .int .i64 s.state, .slice ap0_0 s.data.length cp0_0, .map (some mp0_1)], OwnL eU ap0_0 5 1 cp0_0 s.data, MapE intK (fun x => .int .i64 x) mp0_1 s.offsets] (fun v K' H' => v = errV 44 r ∧ H' = [Cells b0 77 [.int .i64 s.limit, .int .i64 s.state, .slice ap0_0 s.data.length cp0_0, .map (some mp0_1)], OwnL eU ap0_0 5 1 cp0_0 s.data, MapE intK (fun x => .int .i64 x) mp0_1 s.offsets]) := by
  refine Fn.enter Try.func36 Try.call36 rfl fun F => ?_
  unfold fanout_Stream_open at hm
  conv => whnf
  refine block_go rfl ?_
  conv => whnf
  refine eq_ptr_nil rfl ?_
  conv => whnf
  refine cond_go rfl ?_
  conv => whnf
  refine cond_F ?_
  conv => whnf
  refine nil_check ?_
  conv => whnf
  refine field_addr rfl ?_
  conv => whnf
  refine RStep.of (load1_s r0 rfl rfl ?_)
  conv => whnf
  refine neq_int ?_
  conv => whnf
  refine cond_go rfl ?_
  conv => whnf
  refine cond_s (fun w7 => ?_) (fun w7 => ?_)
  · replace hm := ift w7 hm
    conv => whnf
    refine mk_iface rfl ?_
    obtain rfl := si hm
    conv => whnf
    refine EndStep.mk _ (Hp.Le.refl _) ⟨rfl, rfl⟩ (ConvH.of (.cons r0 (.cons r0 (.cons r0 (.cons r0 .nil)))))
  · replace hm := iff_ w7 hm
    obtain rfl := si hm
    conv => whnf
    refine EndStep.mk _ (Hp.Le.refl _) ⟨rfl, rfl⟩ (ConvH.of (.cons r0 (.cons r0 (.cons r0 (.cons r0 .nil)))))

noncomputable def fanout_Stream_Write (s : S_fanout_Stream) (b : Str) : Option (Err × S_fanout_Stream) :=
  (fanout_Stream_open s).bind fun x7 =>
  if x7.isSome then
  some (x7, s)
  else
  (chk (InI ((s.data.length : Int) + (b.length : Int)))).bind fun _ =>
  if decide (((s.data.length : Int) + (b.length : Int)) > s.limit) then
  some ((some 5), s)
  else
  (chk (s.data.length + b.length ≤ lim)).bind fun _ =>
  some (none, (⟨s.limit, s.state, (s.data ++ b), s.offsets⟩ : S_fanout_Stream))
set_option maxHeartbeats 8000000 in
theorem fanout_Stream_Write_ok {s : S_fanout_Stream} {b : Str} {b0 : Nat} {ap0_0 : Option Addr} {cp0_0 : Nat} {mp0_1 : Nat} {ap1_0 : Option Addr} {cp1_0 : Nat} {n1 : Nat} {K : Hp} {r : Err × S_fanout_Stream}
    (hm : fanout_Stream_Write s b = some r) (hp0_0 : (0 < s.data.length → Has ap0_0)) (hp1_0 : RdC eU K ap1_0 cp1_0 1 b) (en1 : n1 = b.length) :
    Fn Try.prog 12 [.pointer (some ⟨b0, 0, none⟩), .slice ap1_0 n1 cp1_0] K [Cells b0 77 [.int .i64 s.limit, .int .i64 s.state, .slice ap0_0 s.data.length cp0_0, .map (some mp0_1)], OwnL eU ap0_0 5 1 cp0_0 s.data, MapE intK (fun x => .int .i64 x) mp0_1 s.offsets] (fun v K' H' => ∃ ar_0 : Option Addr, ∃ cr_0 : Nat, ∃ mr_1 : Nat, v = errV 44 r.1 ∧ (0 < r.2.data.length → Has ar_0) ∧ H' = [Cells b0 77 [.int .i64 r.2.limit, .int .i64 r.2.state, .slice ar_0 r.2.data.length cr_0, .map (some mr_1)], OwnL eU ar_0 5 1 cr_0 r.2.data, MapE intK (fun x => .int .i64 x) mr_1 r.2.offsets]) := by
  subst en1
  refine Fn.enter Try.func12 Try.call12 rfl fun F => ?_
  unfold fanout_Stream_Write at hm
  obtain ⟨x7, q7, hm⟩ := bnd hm
  conv => whnf
  refine call_fn (fanout_Stream_open_ok q7 hp0_0) (.cons r0 (.cons r0 (.cons r0 .nil))) ?_
  rintro _ K7 _ l7 ⟨rfl, rfl⟩
  conv => whnf
  refine neq_err rfl ?_
  conv => whnf
  refine cond_go rfl ?_
  conv => whnf
  refine cond_s (fun w9 => ?_) (fun w9 => ?_)
  · replace hm := ift w9 hm
    obtain rfl := si hm
    conv => whnf
    refine EndStep.mk _ l7 ⟨ap0_0, cp0_0, mp0_1, rfl, hp0_0, rfl⟩ (ConvH.of (.cons r0 (.cons r0 (.cons r0 (.cons r0 .nil)))))
  · replace hm := iff_ w9 hm
    conv => whnf
    refine ⟨⟨⟨[], false⟩, _, [(_, _)]⟩, by kernel_rfl, ⟨Hp.Le.refl _, (ConvH.of (.cons r0 .nil))⟩, ?_⟩
    conv => whnf
    refine nil_check ?_
    conv => whnf
    refine field_addr rfl ?_
    conv => whnf
    refine load1_l m0 rfl rfl ?_
    conv => whnf
    refine len_slice rfl ?_
    conv => whnf
    refine len_slice rfl ?_
    obtain ⟨h18, hm⟩ := chkb hm
    conv => whnf
    refine int_in h18 ?_
    conv => whnf
    refine nil_check ?_
    conv => whnf
    refine field_addr rfl ?_
    conv => whnf
    refine load1_l m0 rfl rfl ?_
    conv => whnf
    refine cond_go rfl ?_
    conv => whnf
    refine cond_s (fun w23 => ?_) (fun w23 => ?_)
    · replace hm := ift w23 hm
      conv => whnf
      refine mk_iface rfl ?_
      obtain rfl := si hm
      conv => whnf
      refine EndStep.mk _ l7 ⟨ap0_0, cp0_0, mp0_1, rfl, hp0_0, rfl⟩ (ConvH.of (.cons r0 (.cons r0 (.cons r0 (.cons r0 .nil)))))
    · replace hm := iff_ w23 hm
      conv => whnf
      refine nil_check ?_
      conv => whnf
      refine field_addr rfl ?_
      conv => whnf
      refine RStep.of (load1_s r0 rfl rfl ?_)
      obtain ⟨h31, hm⟩ := chkb hm
      conv => whnf
      refine apE rfl r1 elT22 (src_k rfl (hp1_0.mono l7).rd rfl) h31 ?_
      intro a31 c31 o31
      conv => whnf
      refine nil_check ?_
      conv => whnf
      refine field_addr rfl ?_
      conv => whnf
      refine store_rule r1 rfl ?_
      conv => whnf
      refine ⟨rfl, rfl, (Nat.le_of_ble_eq_true rfl), ?_⟩
      obtain rfl := si hm
      conv => whnf
      refine EndStep.mk _ l7 ⟨a31, c31, mp0_1, rfl, o31, rfl⟩ (ConvH.of (.cons r0 (.cons r0 (.cons r0 (.cons r0 .nil)))))

noncomputable def fanout_Stream_open_nil : Option (Err) :=
  some (some 3)
set_option maxHeartbeats 8000000 in
theorem fanout_Stream_open_nil_ok  {K : Hp} {r : Err}
    (hm : fanout_Stream_open_nil = some r)  :
    Fn Try.prog 36 [.pointer none] K [] (fun v K' H' => v = errV 44 r ∧ H' = []) := by
  refine Fn.enter Try.func36 Try.call36 rfl fun F => ?_
  unfold fanout_Stream_open_nil at hm
  conv => whnf
  refine block_go rfl ?_
  conv => whnf
  refine eq_nil_nil rfl ?_
  conv => whnf
  refine cond_go rfl ?_
  conv => whnf
  refine cond_T ?_
  conv => whnf
  refine mk_iface rfl ?_
  obtain rfl := si hm
  conv => whnf
  refine EndStep.mk _ (Hp.Le.refl _) ⟨rfl, rfl⟩ (ConvH.of (.cons r0 .nil))

noncomputable def fanout_Stream_Write_nil (b : Str) : Option (Err) :=
  (fanout_Stream_open_nil).bind fun x7 =>
  if x7.isSome then
  some x7
  else
  none
set_option maxHeartbeats 8000000 in
theorem fanout_Stream_Write_nil_ok {b : Str} {ap1_0 : Option Addr} {cp1_0 : Nat} {n1 : Nat} {K : Hp} {r : Err}
    (hm : fanout_Stream_Write_nil b = some r) (hp1_0 : RdC eU K ap1_0 cp1_0 1 b) (en1 : n1 = b.length) :
    Fn Try.prog 12 [.pointer none, .slice ap1_0 n1 cp1_0] K [] (fun v K' H' => v = errV 44 r ∧ H' = []) := by
  subst en1
  refine Fn.enter Try.func12 Try.call12 rfl fun F => ?_
  unfold fanout_Stream_Write_nil at hm
  obtain ⟨x7, q7, hm⟩ := bnd hm
  conv => whnf
  refine call_fn (fanout_Stream_open_nil_ok q7) .nil ?_
  rintro _ K7 _ l7 ⟨rfl, rfl⟩
  conv => whnf
  refine neq_err rfl ?_
  conv => whnf
  refine cond_go rfl ?_
  conv => whnf
  refine cond_s (fun w9 => ?_) (fun w9 => ?_)
  · replace hm := ift w9 hm
    obtain rfl := si hm
    conv => whnf
    refine EndStep.mk _ l7 ⟨rfl, rfl⟩ (ConvH.of (.cons r0 .nil))
  · replace hm := iff_ w9 hm
    conv => whnf
    refine ⟨⟨⟨[], false⟩, _, []⟩, by kernel_rfl, ⟨Hp.Le.refl _, (ConvH.of .nil)⟩, ?_⟩
    cases hm

noncomputable def fanout_Stream_Attach (s : S_fanout_Stream) (id : Int) (fromZ : Int) : Option (Err × S_fanout_Stream) :=
  if (mget s.offsets id).isSome then
  some ((some 4), s)
  else
  if (decide (fromZ < 0) || decide (fromZ > (s.data.length : Int))) then
  some ((some 1), s)
  else
  some (none, (⟨s.limit, s.state, s.data, (mset s.offsets id fromZ)⟩ : S_fanout_Stream))
set_option maxHeartbeats 8000000 in
theorem fanout_Stream_Attach_ok {s : S_fanout_Stream} {id : Int} {fromZ : Int} {b0 : Nat} {ap0_0 : Option Addr} {cp0_0 : Nat} {mp0_1 : Nat} {K : Hp} {r : Err × S_fanout_Stream}
    (hm : fanout_Stream_Attach s id fromZ = some r) (hp0_0 : (0 < s.data.length → Has ap0_0)) :
    Fn Try.prog 13 [.pointer (some ⟨b0, 0, none⟩), .int .i64 id, .int .i64 fromZ] K [Cells b0 77 [.int .i64 s.limit, .int .i64 s.state, .slice ap0_0 s.data.length cp0_0, .map (some mp0_1)], OwnL eU ap0_0 5 1 cp0_0 s.data, MapE intK (fun x => .int .i64 x) mp0_1 s.offsets] (fun v K' H' => ∃ ar_0 : Option Addr, ∃ cr_0 : Nat, ∃ mr_1 : Nat, v = errV 44 r.1 ∧ (0 < r.2.data.length → Has ar_0) ∧ H' = [Cells b0 77 [.int .i64 r.2.limit, .int .i64 r.2.state, .slice ar_0 r.2.data.length cr_0, .map (some mr_1)], OwnL eU ar_0 5 1 cr_0 r.2.data, MapE intK (fun x => .int .i64 x) mr_1 r.2.offsets]) := by
  refine Fn.enter Try.func13 Try.call13 rfl fun F => ?_
  unfold fanout_Stream_Attach at hm
  conv => whnf
  refine eq_ptr_nil rfl ?_
  conv => whnf
  refine cond_go rfl ?_
  conv => whnf
  refine cond_F ?_
  conv => whnf
  refine nil_check ?_
  conv => whnf
  refine field_addr rfl ?_
  conv => whnf
  refine RStep.of (load1_s r0 rfl rfl ?_)
  conv => whnf
  refine RStep.of (lookup_ok (kenc := intK) (venc := (fun x => .int .i64 x)) (z := 0) r2 rfl rfl (key_int rfl) ?_)
  conv => whnf
  refine cond_go rfl ?_
  conv => whnf
  refine cond_s (fun w21 => ?_) (fun w21 => ?_)
  · replace hm := ift w21 hm
    conv => whnf
    refine mk_iface rfl ?_
    obtain rfl := si hm
    conv => whnf
    refine EndStep.mk _ (Hp.Le.refl _) ⟨ap0_0, cp0_0, mp0_1, rfl, hp0_0, rfl⟩ (ConvH.of (.cons r0 (.cons r0 (.cons r0 (.cons r0 .nil)))))
  · replace hm := iff_ w21 hm
    conv => whnf
    refine cond_s (fun g25_6 => ?_) (fun g25_6 => ?_)
    · conv => whnf
      refine cond_t g25_6 ?_
      conv => whnf
      refine cond_t g25_6 ?_
      conv => whnf
      refine cond_t g25_6 ?_
      conv => whnf
      refine cond_t g25_6 ?_
      conv => whnf
      refine cond_t g25_6 ?_
      conv => whnf
      refine cond_t g25_6 ?_
      conv => whnf
      refine cond_t g25_6 ?_
      conv => whnf
      refine cond_go rfl ?_
      conv => whnf
      refine cond_T ?_
      replace hm := ift (or_t g25_6) hm
      conv => whnf
      refine mk_iface rfl ?_
      obtain rfl := si hm
      conv => whnf
      refine EndStep.mk _ (Hp.Le.refl _) ⟨ap0_0, cp0_0, mp0_1, rfl, hp0_0, rfl⟩ (ConvH.of (.cons r0 (.cons r0 (.cons r0 (.cons r0 .nil)))))
    · conv => whnf
      refine cond_f g25_6 ?_
      conv => whnf
      refine cond_f g25_6 ?_
      conv => whnf
      refine nil_check ?_
      conv => whnf
      refine cond_f g25_6 ?_
      conv => whnf
      refine field_addr rfl ?_
      conv => whnf
      refine cond_f g25_6 ?_
      conv => whnf
      refine RStep.of (load1_s r0 rfl rfl ?_)
      conv => whnf
      refine cond_f g25_6 ?_
      conv => whnf
      refine RStep.of (len_slice rfl ?_)
      conv => whnf
      refine cond_f g25_6 ?_
      conv => whnf
      refine cond_f g25_6 ?_
      conv => whnf
      refine cond_go rfl ?_
      conv => whnf
      refine cond_s (fun w33 => ?_) (fun w33 => ?_)
      · replace hm := ift (or_u g25_6 w33) hm
        conv => whnf
        refine mk_iface rfl ?_
        obtain rfl := si hm
        conv => whnf
        refine EndStep.mk _ (Hp.Le.refl _) ⟨ap0_0, cp0_0, mp0_1, rfl, hp0_0, rfl⟩ (ConvH.of (.cons r0 (.cons r0 (.cons r0 (.cons r0 .nil)))))
      · replace hm := iff_ (or_f g25_6 w33) hm
        conv => whnf
        refine nil_check ?_
        conv => whnf
        refine field_addr rfl ?_
        conv => whnf
        refine RStep.of (load1_s r0 rfl rfl ?_)
        conv => whnf
        refine update_rule (kenc := intK) (venc := (fun x => .int .i64 x)) fromZ rfl r2 rfl (key_int rfl) ?_
        obtain rfl := si hm
        conv => whnf
        refine EndStep.mk _ (Hp.Le.refl _) ⟨ap0_0, cp0_0, mp0_1, rfl, hp0_0, rfl⟩ (ConvH.of (.cons r1 (.cons r1 (.cons r0 (.cons r0 .nil)))))

noncomputable def fanout_Stream_Attach_nil (id : Int) (fromZ : Int) : Option (Err) :=
  some (some 3)
set_option maxHeartbeats 8000000 in
theorem fanout_Stream_Attach_nil_ok {id : Int} {fromZ : Int} {K : Hp} {r : Err}
    (hm : fanout_Stream_Attach_nil id fromZ = some r)  :
    Fn Try.prog 13 [.pointer none, .int .i64 id, .int .i64 fromZ] K [] (fun v K' H' => v = errV 44 r ∧ H' = []) := by
  refine Fn.enter Try.func13 Try.call13 rfl fun F => ?_
  unfold fanout_Stream_Attach_nil at hm
  conv => whnf
  refine eq_nil_nil rfl ?_
  conv => whnf
  refine cond_go rfl ?_
  conv => whnf
  refine cond_T ?_
  conv => whnf
  refine mk_iface rfl ?_
  obtain rfl := si hm
  conv => whnf
  refine EndStep.mk _ (Hp.Le.refl _) ⟨rfl, rfl⟩ (ConvH.of (.cons r0 .nil))

noncomputable def fanout_Stream_Read_nil (id : Int) (max : Int) : Option (Str × Int × Err) :=
  some ([], 0, (some 3))
set_option maxHeartbeats 8000000 in
theorem fanout_Stream_Read_nil_ok {id : Int} {max : Int} {K : Hp} {r : Str × Int × Err}
    (hm : fanout_Stream_Read_nil id max = some r)  :
    Fn Try.prog 14 [.pointer none, .int .i64 id, .int .i64 max] K [] (fun v K' H' => ∃ ar_0 : Option Addr, ∃ cr_0 : Nat, v = .tuple #[.slice ar_0 r.1.length cr_0, .int .i64 r.2.1, errV 44 r.2.2] ∧ (0 < r.1.length → Has ar_0) ∧ H' = [OwnL eU ar_0 5 1 cr_0 r.1]) := by
  refine Fn.enter Try.func14 Try.call14 rfl fun F => ?_
  unfold fanout_Stream_Read_nil at hm
  conv => whnf
  refine eq_nil_nil rfl ?_
  conv => whnf
  refine cond_go rfl ?_
  conv => whnf
  refine cond_T ?_
  conv => whnf
  refine mk_iface rfl ?_
  obtain rfl := si hm
  conv => whnf
  refine nilE eU 5 1 ?_
  refine EndStep.mk _ (Hp.Le.refl _) ⟨none, 0, rfl, (fun h => by simp at h), rfl⟩ (ConvH.of (.cons r0 (.cons r0 .nil)))

noncomputable def fanout_Stream_Read (s : S_fanout_Stream) (id : Int) (max : Int) : Option (Str × Int × Err × S_fanout_Stream) :=
  if (!(mget s.offsets id).isSome) then
  some ([], 0, (some 3), s)
  else
  if decide (s.state = 3) then
  some ([], 3, none, s)
  else
  if decide (max > 0) then
  (chk (InI ((s.data.length : Int) - ((mget s.offsets id).getD 0)))).bind fun _ =>
  (chk (InI (((mget s.offsets id).getD 0) + (min max ((s.data.length : Int) - ((mget s.offsets id).getD 0)))))).bind fun _ =>
  (chk (0 ≤ ((mget s.offsets id).getD 0) ∧ ((mget s.offsets id).getD 0) ≤ (((mget s.offsets id).getD 0) + (min max ((s.data.length : Int) - ((mget s.offsets id).getD 0)))) ∧ (((mget s.offsets id).getD 0) + (min max ((s.data.length : Int) - ((mget s.offsets id).getD 0)))) ≤ (s.data.length : Int))).bind fun _ =>
  (chk ((subL s.data ((mget s.offsets id).getD 0) (((mget s.offsets id).getD 0) + (min max ((s.data.length : Int) - ((mget s.offsets id).getD 0))))).length ≤ lim)).bind fun _ =>
  (chk (InI (((mget s.offsets id).getD 0) + (((subL s.data ((mget s.offsets id).getD 0) (((mget s.offsets id).getD 0) + (min max ((s.data.length : Int) - ((mget s.offsets id).getD 0))))).length) : Int)))).bind fun _ =>
  if (decide (s.state = 2) && decide ((((mget s.offsets id).getD 0) + (((subL s.data ((mget s.offsets id).getD 0) (((mget s.offsets id).getD 0) + (min max ((s.data.length : Int) - ((mget s.offsets id).getD 0))))).length) : Int)) = (s.data.length : Int))) then
  some ((subL s.data ((mget s.offsets id).getD 0) (((mget s.offsets id).getD 0) + (min max ((s.data.length : Int) - ((mget s.offsets id).getD 0))))), 2, none, (⟨s.limit, s.state, s.data, (mset s.offsets id (((mget s.offsets id).getD 0) + (((subL s.data ((mget s.offsets id).getD 0) (((mget s.offsets id).getD 0) + (min max ((s.data.length : Int) - ((mget s.offsets id).getD 0))))).length) : Int)))⟩ : S_fanout_Stream))
  else
  some ((subL s.data ((mget s.offsets id).getD 0) (((mget s.offsets id).getD 0) + (min max ((s.data.length : Int) - ((mget s.offsets id).getD 0))))), 1, none, (⟨s.limit, s.state, s.data, (mset s.offsets id (((mget s.offsets id).getD 0) + (((subL s.data ((mget s.offsets id).getD 0) (((mget s.offsets id).getD 0) + (min max ((s.data.length : Int) - ((mget s.offsets id).getD 0))))).length) : Int)))⟩ : S_fanout_Stream))
  else
  (chk (InI (((mget s.offsets id).getD 0) + 0))).bind fun _ =>
  if (decide (s.state = 2) && decide ((((mget s.offsets id).getD 0) + 0) = (s.data.length : Int))) then
  some ([], 2, none, (⟨s.limit, s.state, s.data, (mset s.offsets id (((mget s.offsets id).getD 0) + 0))⟩ : S_fanout_Stream))
  else
  some ([], 1, none, (⟨s.limit, s.state, s.data, (mset s.offsets id (((mget s.offsets id).getD 0) + 0))⟩ : S_fanout_Stream))
set_option maxHeartbeats 8000000 in
theorem fanout_Stream_Read_ok {s : S_fanout_Stream} {id : Int} {max : Int} {b0 : Nat} {ap0_0 : Option Addr} {cp0_0 : Nat} {mp0_1 : Nat} {K : Hp} {r : Str × Int × Err × S_fanout_Stream}
    (hm : fanout_Stream_Read s id max = some r) (hp0_0 : (0 < s.data.length → Has ap0_0)) :
    Fn Try.prog 14 [.pointer (some ⟨b0, 0, none⟩), .int .i64 id, .int .i64 max] K [Cells b0 77 [.int .i64 s.limit, .int .i64 s.state, .slice ap0_0 s.data.length cp0_0, .map (some mp0_1)], OwnL eU ap0_0 5 1 cp0_0 s.data, MapE intK (fun x => .int .i64 x) mp0_1 s.offsets] (fun v K' H' => ∃ ar_0 : Option Addr, ∃ cr_0 : Nat, ∃ ar_1 : Option Addr, ∃ cr_1 : Nat, ∃ mr_2 : Nat, v = .tuple #[.slice ar_0 r.1.length cr_0, .int .i64 r.2.1, errV 44 r.2.2.1] ∧ (0 < r.1.length → Has ar_0) ∧ (0 < r.2.2.2.data.length → Has ar_1) ∧ H' = [OwnL eU ar_0 5 1 cr_0 r.1, Cells b0 77 [.int .i64 r.2.2.2.limit, .int .i64 r.2.2.2.state, .slice ar_1 r.2.2.2.data.length cr_1, .map (some mr_2)], OwnL eU ar_1 5 1 cr_1 r.2.2.2.data, MapE intK (fun x => .int .i64 x) mr_2 r.2.2.2.offsets]) := by
  refine Fn.enter Try.func14 Try.call14 rfl fun F => ?_
  unfold fanout_Stream_Read at hm
  conv => whnf
  refine eq_ptr_nil rfl ?_
  conv => whnf
  refine cond_go rfl ?_
  conv => whnf
  refine cond_F ?_
  conv => whnf
  refine nil_check ?_
  conv => whnf
  refine field_addr rfl ?_
  conv => whnf
  refine RStep.of (load1_s r0 rfl rfl ?_)
  conv => whnf
  refine RStep.of (lookup_ok (kenc := intK) (venc := (fun x => .int .i64 x)) (z := 0) r2 rfl rfl (key_int rfl) ?_)
  conv => whnf
  refine un_not ?_
  conv => whnf
  refine cond_go rfl ?_
  conv => whnf
  refine cond_s (fun w25 => ?_) (fun w25 => ?_)
  · replace hm := ift (not_t (ni_t w25)) hm
    conv => whnf
    refine mk_iface rfl ?_
    obtain rfl := si hm
    conv => whnf
    refine nilE eU 5 1 ?_
    refine EndStep.mk _ (Hp.Le.refl _) ⟨none, 0, ap0_0, cp0_0, mp0_1, rfl, (fun h => by simp at h), hp0_0, rfl⟩ (ConvH.of (.cons r0 (.cons r0 (.cons r0 (.cons r0 (.cons r0 .nil))))))
  · replace hm := iff_ (not_f (ni_f w25)) hm
    conv => whnf
    refine nil_check ?_
    conv => whnf
    refine field_addr rfl ?_
    conv => whnf
    refine RStep.of (load1_s r0 rfl rfl ?_)
    conv => whnf
    refine eq_int ?_
    conv => whnf
    refine cond_go rfl ?_
    conv => whnf
    refine cond_s (fun w31 => ?_) (fun w31 => ?_)
    · replace hm := ift w31 hm
      obtain rfl := si hm
      conv => whnf
      refine nilE eU 5 1 ?_
      refine EndStep.mk _ (Hp.Le.refl _) ⟨none, 0, ap0_0, cp0_0, mp0_1, rfl, (fun h => by simp at h), hp0_0, rfl⟩ (ConvH.of (.cons r0 (.cons r0 (.cons r0 (.cons r0 (.cons r0 .nil))))))
    · replace hm := iff_ w31 hm
      conv => whnf
      refine CStep.ownLe r1 fun hc3 => ?_
      conv => whnf
      refine cond_go rfl ?_
      conv => whnf
      refine cond_s (fun w33 => ?_) (fun w33 => ?_)
      · replace hm := ift w33 hm
        conv => whnf
        refine ⟨⟨⟨[], false⟩, _, [(_, _)]⟩, by kernel_rfl, ⟨Hp.Le.refl _, (ConvH.of (.cons r0 .nil))⟩, ?_⟩
        conv => whnf
        refine nil_check ?_
        conv => whnf
        refine field_addr rfl ?_
        conv => whnf
        refine load1_l m0 rfl rfl ?_
        conv => whnf
        refine nil_check ?_
        conv => whnf
        refine field_addr rfl ?_
        conv => whnf
        refine load1_l m0 rfl rfl ?_
        conv => whnf
        refine len_slice rfl ?_
        obtain ⟨h48, hm⟩ := chkb hm
        conv => whnf
        refine int_in h48 ?_
        conv => whnf
        refine min_int ?_
        obtain ⟨h50, hm⟩ := chkb hm
        conv => whnf
        refine int_in h50 ?_
        obtain ⟨h51, hm⟩ := chkb hm
        conv => whnf
        refine sl_part (l := s.data) (lo := (some ((mget s.offsets id).getD 0))) (hi := (some (((mget s.offsets id).getD 0) + (min max ((s.data.length : Int) - ((mget s.offsets id).getD 0)))))) rfl rfl rfl hc3 h51 ?_
        obtain ⟨h52, hm⟩ := chkb hm
        conv => whnf
        refine apn (enc := eU) elT22 (src_part rfl r1 h51 rfl (fun _ => rfl) (fun _ => rfl)) h52 ?_
        intro a52 c52 o52
        conv => whnf
        refine ⟨⟨(Hp.Le.refl _), (ConvH.of (.cons r1 .nil))⟩, ?_⟩
        conv => whnf
        refine RStep.of (len_slice rfl ?_)
        obtain ⟨h56, hm⟩ := chkb hm
        conv => whnf
        refine int_in h56 ?_
        conv => whnf
        refine nil_check ?_
        conv => whnf
        refine field_addr rfl ?_
        conv => whnf
        refine RStep.of (load1_s r1 rfl rfl ?_)
        conv => whnf
        refine update_rule (kenc := intK) (venc := (fun x => .int .i64 x)) (((mget s.offsets id).getD 0) + (((subL s.data ((mget s.offsets id).getD 0) (((mget s.offsets id).getD 0) + (min max ((s.data.length : Int) - ((mget s.offsets id).getD 0))))).length) : Int)) rfl r3 rfl (key_int rfl) ?_
        conv => whnf
        refine nil_check ?_
        conv => whnf
        refine field_addr rfl ?_
        conv => whnf
        refine RStep.of (load1_s r2 rfl rfl ?_)
        conv => whnf
        refine eq_int ?_
        conv => whnf
        refine cond_s (fun g68_13 => ?_) (fun g68_13 => ?_)
        · conv => whnf
          refine cond_t g68_13 ?_
          conv => whnf
          refine cond_t g68_13 ?_
          conv => whnf
          refine nil_check ?_
          conv => whnf
          refine cond_t g68_13 ?_
          conv => whnf
          refine field_addr rfl ?_
          conv => whnf
          refine cond_t g68_13 ?_
          conv => whnf
          refine RStep.of (load1_s r2 rfl rfl ?_)
          conv => whnf
          refine cond_t g68_13 ?_
          conv => whnf
          refine RStep.of (len_slice rfl ?_)
          conv => whnf
          refine cond_t g68_13 ?_
          conv => whnf
          refine eq_int ?_
          conv => whnf
          refine cond_t g68_13 ?_
          conv => whnf
          refine cond_go rfl ?_
          conv => whnf
          refine cond_s (fun w76 => ?_) (fun w76 => ?_)
          · replace hm := ift (and_t g68_13 w76) hm
            obtain rfl := si hm
            conv => whnf
            refine EndStep.mk _ (Hp.Le.refl _) ⟨a52, c52, ap0_0, cp0_0, mp0_1, rfl, o52, hp0_0, rfl⟩ (ConvH.of (.cons r1 (.cons r1 (.cons r1 (.cons r0 (.cons r0 .nil))))))
          · replace hm := iff_ (and_g g68_13 w76) hm
            obtain rfl := si hm
            conv => whnf
            refine EndStep.mk _ (Hp.Le.refl _) ⟨a52, c52, ap0_0, cp0_0, mp0_1, rfl, o52, hp0_0, rfl⟩ (ConvH.of (.cons r1 (.cons r1 (.cons r1 (.cons r0 (.cons r0 .nil))))))
        · conv => whnf
          refine cond_f g68_13 ?_
          conv => whnf
          refine cond_f g68_13 ?_
          conv => whnf
          refine cond_f g68_13 ?_
          conv => whnf
          refine cond_f g68_13 ?_
          conv => whnf
          refine cond_f g68_13 ?_
          conv => whnf
          refine cond_f g68_13 ?_
          conv => whnf
          refine cond_f g68_13 ?_
          conv => whnf
          refine cond_go rfl ?_
          conv => whnf
          refine cond_F ?_
          replace hm := iff_ (and_f g68_13) hm
          obtain rfl := si hm
          conv => whnf
          refine EndStep.mk _ (Hp.Le.refl _) ⟨a52, c52, ap0_0, cp0_0, mp0_1, rfl, o52, hp0_0, rfl⟩ (ConvH.of (.cons r1 (.cons r1 (.cons r1 (.cons r0 (.cons r0 .nil))))))
      · replace hm := iff_ w33 hm
        conv => whnf
        refine RStep.of (len_slice rfl ?_)
        obtain ⟨h56, hm⟩ := chkb hm
        conv => whnf
        refine int_in h56 ?_
        conv => whnf
        refine nil_check ?_
        conv => whnf
        refine field_addr rfl ?_
        conv => whnf
        refine RStep.of (load1_s r0 rfl rfl ?_)
        conv => whnf
        refine update_rule (kenc := intK) (venc := (fun x => .int .i64 x)) (((mget s.offsets id).getD 0) + 0) rfl r2 rfl (key_int rfl) ?_
        conv => whnf
        refine nil_check ?_
        conv => whnf
        refine field_addr rfl ?_
        conv => whnf
        refine RStep.of (load1_s r1 rfl rfl ?_)
        conv => whnf
        refine eq_int ?_
        conv => whnf
        refine cond_s (fun g68_13 => ?_) (fun g68_13 => ?_)
        · conv => whnf
          refine cond_t g68_13 ?_
          conv => whnf
          refine cond_t g68_13 ?_
          conv => whnf
          refine nil_check ?_
          conv => whnf
          refine cond_t g68_13 ?_
          conv => whnf
          refine field_addr rfl ?_
          conv => whnf
          refine cond_t g68_13 ?_
          conv => whnf
          refine RStep.of (load1_s r1 rfl rfl ?_)
          conv => whnf
          refine cond_t g68_13 ?_
          conv => whnf
          refine RStep.of (len_slice rfl ?_)
          conv => whnf
          refine cond_t g68_13 ?_
          conv => whnf
          refine eq_int ?_
          conv => whnf
          refine cond_t g68_13 ?_
          conv => whnf
          refine cond_go rfl ?_
          conv => whnf
          refine cond_s (fun w76 => ?_) (fun w76 => ?_)
          · replace hm := ift (and_t g68_13 w76) hm
            obtain rfl := si hm
            conv => whnf
            refine nilE eU 5 1 ?_
            refine EndStep.mk _ (Hp.Le.refl _) ⟨none, 0, ap0_0, cp0_0, mp0_1, rfl, (fun h => by simp at h), hp0_0, rfl⟩ (ConvH.of (.cons r0 (.cons r1 (.cons r1 (.cons r0 (.cons r0 .nil))))))
          · replace hm := iff_ (and_g g68_13 w76) hm
            obtain rfl := si hm
            conv => whnf
            refine nilE eU 5 1 ?_
            refine EndStep.mk _ (Hp.Le.refl _) ⟨none, 0, ap0_0, cp0_0, mp0_1, rfl, (fun h => by simp at h), hp0_0, rfl⟩ (ConvH.of (.cons r0 (.cons r1 (.cons r1 (.cons r0 (.cons r0 .nil))))))
        · conv => whnf
          refine cond_f g68_13 ?_
          conv => whnf
          refine cond_f g68_13 ?_
          conv => whnf
          refine cond_f g68_13 ?_
          conv => whnf
          refine cond_f g68_13 ?_
          conv => whnf
          refine cond_f g68_13 ?_
          conv => whnf
          refine cond_f g68_13 ?_
          conv => whnf
          refine cond_f g68_13 ?_
          conv => whnf
          refine cond_go rfl ?_
          conv => whnf
          refine cond_F ?_
          replace hm := iff_ (and_f g68_13) hm
          obtain rfl := si hm
          conv => whnf
          refine nilE eU 5 1 ?_
          refine EndStep.mk _ (Hp.Le.refl _) ⟨none, 0, ap0_0, cp0_0, mp0_1, rfl, (fun h => by simp at h), hp0_0, rfl⟩ (ConvH.of (.cons r0 (.cons r1 (.cons r1 (.cons r0 (.cons r0 .nil))))))

noncomputable def law28_awake : Option (Bool) :=
  (fanout_New 10).bind fun x6 =>
  Option.elim x6.1 (
  if x6.2.isSome then
  some false
  else
  (fanout_Stream_Write_nil ([(97 : UInt8), (98 : UInt8), (99 : UInt8)] : Str)).bind fun x15 =>
  if x15.isSome then
  some false
  else
  (fanout_Stream_Attach_nil 1 1).bind fun x20 =>
  if x20.isSome then
  some false
  else
  (fanout_Stream_Read_nil 1 9).bind fun x25 =>
  (if x25.2.2.isNone then some (decide (x25.1 = ([98, 99] : Str))) else some false).bind fun x35 =>
  some (x35 && decide (x25.2.1 = 1)))
   fun o6 =>
  if x6.2.isSome then
  some false
  else
  (fanout_Stream_Write o6 ([(97 : UInt8), (98 : UInt8), (99 : UInt8)] : Str)).bind fun x15 =>
  if x15.1.isSome then
  some false
  else
  (fanout_Stream_Attach x15.2 1 1).bind fun x20 =>
  if x20.1.isSome then
  some false
  else
  (fanout_Stream_Read x20.2 1 9).bind fun x25 =>
  (if x25.2.2.1.isNone then some (decide (x25.1 = ([98, 99] : Str))) else some false).bind fun x35 =>
  some (x35 && decide (x25.2.1 = 1))
set_option maxHeartbeats 8000000 in
theorem law28_awake_ok  {K : Hp} {r : Bool}
    (hm : law28_awake = some r)  :
    Fn Try.prog 10 [] K [] (fun v K' H' => v = .bool r ∧ H' = []) := by
  refine Fn.enter Try.func10 Try.call10 rfl fun F => ?_
  unfold law28_awake at hm
  obtain ⟨x6, q6, hm⟩ := bnd hm
  conv => whnf
  refine call_fn (fanout_New_ok q6) .nil ?_
  rintro v6 K6 H6 l6 p6
  rcases hq6 : x6.1 with _ | o6
  · rw [hq6] at p6 hm
    obtain ⟨rfl, rfl⟩ := p6
    replace hm := oe_n hm
    conv => whnf
    refine neq_err rfl ?_
    conv => whnf
    refine cond_s (fun g11_2 => ?_) (fun g11_2 => ?_)
    · replace hm := ift g11_2 hm
      conv => whnf
      refine cond_t g11_2 ?_
      conv => whnf
      refine cond_t g11_2 ?_
      conv => whnf
      refine cond_t g11_2 ?_
      conv => whnf
      refine cond_t g11_2 ?_
      conv => whnf
      refine cond_t g11_2 ?_
      conv => whnf
      refine cond_T ?_
      conv => whnf
      refine cond_T ?_
      conv => whnf
      refine cond_T ?_
      conv => whnf
      refine cond_T ?_
      conv => whnf
      refine cond_go rfl ?_
      conv => whnf
      refine cond_T ?_
      obtain rfl := si hm
      conv => whnf
      refine EndStep.mk _ l6 ⟨rfl, rfl⟩ (ConvH.of (.cons r0 .nil))
    · replace hm := iff_ g11_2 hm
      conv => whnf
      refine cond_f g11_2 ?_
      conv => whnf
      refine bsO (len := 3) (enc := eU) (l := ([(97 : UInt8), (98 : UInt8), (99 : UInt8)] : Str)) (cl := [.int .u8 97, .int .u8 98, .int .u8 99]) elT22 rfl rfl (fun _ _ => rfl) rfl rfl rfl ?_ fun b13 => ?_
      · conv => whnf
        refine cond_T ?_
        conv => whnf
        refine cond_T ?_
        conv => whnf
        refine cond_T ?_
        conv => whnf
      conv => whnf
      refine cond_f g11_2 ?_
      conv => whnf
      refine cv_mark rfl rfl r0 ?_
      conv => whnf
      refine cond_f g11_2 ?_
      obtain ⟨x15, q15, hm⟩ := bnd hm
      conv => whnf
      refine call_fn (Fn.lend Try.call12 (fun K15_1 l15_1 f15_1 => (fanout_Stream_Write_nil_ok q15 f15_1 rfl)) (by exact fun _ _ _ _ h => h)) (.cons r0 .nil) ?_
      rintro _ K15 _ l15 ⟨_, rfl, rfl, rfl⟩
      conv => whnf
      refine cond_f g11_2 ?_
      conv => whnf
      refine neq_err rfl ?_
      conv => whnf
      refine cond_f g11_2 ?_
      conv => whnf
      refine cond_s (fun g18_2 => ?_) (fun g18_2 => ?_)
      · replace hm := ift g18_2 hm
        conv => whnf
        refine cond_t g18_2 ?_
        conv => whnf
        refine cond_t g18_2 ?_
        conv => whnf
        refine cond_t g18_2 ?_
        conv => whnf
        refine cond_go rfl ?_
        conv => whnf
        refine cond_T ?_
        obtain rfl := si hm
        conv => whnf
        refine EndStep.mk _ (l6.trans l15) ⟨rfl, rfl⟩ (ConvH.of (.cons r1 .nil))
      · replace hm := iff_ g18_2 hm
        conv => whnf
        refine cond_f g18_2 ?_
        obtain ⟨x20, q20, hm⟩ := bnd hm
        conv => whnf
        refine call_fn (fanout_Stream_Attach_nil_ok q20) .nil ?_
        rintro _ K20 _ l20 ⟨rfl, rfl⟩
        conv => whnf
        refine cond_f g18_2 ?_
        conv => whnf
        refine neq_err rfl ?_
        conv => whnf
        refine cond_f g18_2 ?_
        conv => whnf
        refine cond_go rfl ?_
        conv => whnf
        refine cond_s (fun w22 => ?_) (fun w22 => ?_)
        · replace hm := ift w22 hm
          obtain rfl := si hm
          conv => whnf
          refine EndStep.mk _ ((l6.trans l15).trans l20) ⟨rfl, rfl⟩ (ConvH.of (.cons r1 .nil))
        · replace hm := iff_ w22 hm
          obtain ⟨x25, q25, hm⟩ := bnd hm
          conv => whnf
          refine call_fn (fanout_Stream_Read_nil_ok q25) .nil ?_
          rintro _ K25 _ l25 ⟨a25_0, c25_0, rfl, h25_0, rfl⟩
          conv => whnf
          refine eq_err rfl ?_
          obtain ⟨x35, e35, hm⟩ := bnd hm
          conv => whnf
          refine cond_s (fun g31_5 => ?_) (fun g31_5 => ?_)
          · replace e35 := ift g31_5 e35
            conv => whnf
            refine cond_t g31_5 ?_
            conv => whnf
            refine RStep.of (cv_ownE rfl r0 rfl rfl rfl ?_)
            conv => whnf
            refine cond_t g31_5 ?_
            conv => whnf
            refine eq_str ?_
            conv => whnf
            refine cond_t g31_5 ?_
            conv => whnf
            refine cond_s (fun g36_5 => ?_) (fun g36_5 => ?_)
            · conv => whnf
              refine cond_t g36_5 ?_
              conv => whnf
              refine eq_int ?_
              conv => whnf
              refine cond_t g36_5 ?_
              obtain rfl := si hm
              conv => whnf
              refine EndStep.mk _ (((l6.trans l15).trans l20).trans l25) ⟨(by rw [← (and_e (b := decide (x25.2.1 = 1)) ((si e35).symm.trans g36_5))] <;> rfl), rfl⟩ (ConvH.of (.cons r2 .nil))
            · conv => whnf
              refine cond_f g36_5 ?_
              conv => whnf
              refine cond_f g36_5 ?_
              obtain rfl := si hm
              conv => whnf
              refine EndStep.mk _ (((l6.trans l15).trans l20).trans l25) ⟨(by rw [← ((and_f ((si e35).symm.trans g36_5))).symm] <;> rfl), rfl⟩ (ConvH.of (.cons r2 .nil))
          · replace e35 := iff_ g31_5 e35
            conv => whnf
            refine cond_f g31_5 ?_
            conv => whnf
            refine cond_f g31_5 ?_
            conv => whnf
            refine cond_f g31_5 ?_
            conv => whnf
            refine cond_F ?_
            conv => whnf
            refine cond_F ?_
            conv => whnf
            refine cond_F ?_
            obtain rfl := si hm
            conv => whnf
            refine EndStep.mk _ (((l6.trans l15).trans l20).trans l25) ⟨(by rw [← ((and_f (si e35).symm)).symm] <;> rfl), rfl⟩ (ConvH.of (.cons r2 .nil))
  · rw [hq6] at p6 hm
    obtain ⟨b6_0, a6_1, c6_1, m6_2, rfl, h6_1, rfl⟩ := p6
    replace hm := oe_s hm
    conv => whnf
    refine neq_err rfl ?_
    conv => whnf
    refine cond_s (fun g11_2 => ?_) (fun g11_2 => ?_)
    · replace hm := ift g11_2 hm
      conv => whnf
      refine cond_t g11_2 ?_
      conv => whnf
      refine cond_t g11_2 ?_
      conv => whnf
      refine cond_t g11_2 ?_
      conv => whnf
      refine cond_t g11_2 ?_
      conv => whnf
      refine cond_t g11_2 ?_
      conv => whnf
      refine cond_T ?_
      conv => whnf
      refine cond_T ?_
      conv => whnf
      refine cond_T ?_
      conv => whnf
      refine cond_T ?_
      conv => whnf
      refine cond_go rfl ?_
      conv => whnf
      refine cond_T ?_
      obtain rfl := si hm
      conv => whnf
      refine EndStep.mk _ l6 ⟨rfl, rfl⟩ (ConvH.of (.cons r3 .nil))
    · replace hm := iff_ g11_2 hm
      conv => whnf
      refine cond_f g11_2 ?_
      conv => whnf
      refine bsO (len := 3) (enc := eU) (l := ([(97 : UInt8), (98 : UInt8), (99 : UInt8)] : Str)) (cl := [.int .u8 97, .int .u8 98, .int .u8 99]) elT22 rfl rfl (fun _ _ => rfl) rfl rfl rfl ?_ fun b13 => ?_
      · conv => whnf
        refine cond_T ?_
        conv => whnf
        refine cond_T ?_
        conv => whnf
        refine cond_T ?_
        conv => whnf
      conv => whnf
      refine cond_f g11_2 ?_
      conv => whnf
      refine cv_mark rfl rfl r0 ?_
      conv => whnf
      refine cond_f g11_2 ?_
      obtain ⟨x15, q15, hm⟩ := bnd hm
      conv => whnf
      refine call_fn (Fn.lend Try.call12 (fun K15_1 l15_1 f15_1 => (fanout_Stream_Write_ok q15 h6_1 f15_1 rfl)) (by exact fun _ _ _ _ h => h)) (.cons r0 (.cons r0 (.cons r0 (.cons r0 .nil)))) ?_
      rintro _ K15 _ l15 ⟨_, rfl, a15_0, c15_0, m15_1, rfl, h15_0, rfl⟩
      conv => whnf
      refine cond_f g11_2 ?_
      conv => whnf
      refine neq_err rfl ?_
      conv => whnf
      refine cond_f g11_2 ?_
      conv => whnf
      refine cond_s (fun g18_2 => ?_) (fun g18_2 => ?_)
      · replace hm := ift g18_2 hm
        conv => whnf
        refine cond_t g18_2 ?_
        conv => whnf
        refine cond_t g18_2 ?_
        conv => whnf
        refine cond_t g18_2 ?_
        conv => whnf
        refine cond_go rfl ?_
        conv => whnf
        refine cond_T ?_
        obtain rfl := si hm
        conv => whnf
        refine EndStep.mk _ (l6.trans l15) ⟨rfl, rfl⟩ (ConvH.of (.cons r4 .nil))
      · replace hm := iff_ g18_2 hm
        conv => whnf
        refine cond_f g18_2 ?_
        obtain ⟨x20, q20, hm⟩ := bnd hm
        conv => whnf
        refine call_fn (fanout_Stream_Attach_ok q20 h15_0) (.cons r1 (.cons r1 (.cons r1 .nil))) ?_
        rintro _ K20 _ l20 ⟨a20_0, c20_0, m20_1, rfl, h20_0, rfl⟩
        conv => whnf
        refine cond_f g18_2 ?_
        conv => whnf
        refine neq_err rfl ?_
        conv => whnf
        refine cond_f g18_2 ?_
        conv => whnf
        refine cond_go rfl ?_
        conv => whnf
        refine cond_s (fun w22 => ?_) (fun w22 => ?_)
        · replace hm := ift w22 hm
          obtain rfl := si hm
          conv => whnf
          refine EndStep.mk _ ((l6.trans l15).trans l20) ⟨rfl, rfl⟩ (ConvH.of (.cons r4 .nil))
        · replace hm := iff_ w22 hm
          obtain ⟨x25, q25, hm⟩ := bnd hm
          conv => whnf
          refine call_fn (fanout_Stream_Read_ok q25 h20_0) (.cons r0 (.cons r0 (.cons r0 .nil))) ?_
          rintro _ K25 _ l25 ⟨a25_0, c25_0, a25_1, c25_1, m25_2, rfl, h25_0, h25_1, rfl⟩
          conv => whnf
          refine eq_err rfl ?_
          obtain ⟨x35, e35, hm⟩ := bnd hm
          conv => whnf
          refine cond_s (fun g31_5 => ?_) (fun g31_5 => ?_)
          · replace e35 := ift g31_5 e35
            conv => whnf
            refine cond_t g31_5 ?_
            conv => whnf
            refine RStep.of (cv_ownE rfl r0 rfl rfl rfl ?_)
            conv => whnf
            refine cond_t g31_5 ?_
            conv => whnf
            refine eq_str ?_
            conv => whnf
            refine cond_t g31_5 ?_
            conv => whnf
            refine cond_s (fun g36_5 => ?_) (fun g36_5 => ?_)
            · conv => whnf
              refine cond_t g36_5 ?_
              conv => whnf
              refine eq_int ?_
              conv => whnf
              refine cond_t g36_5 ?_
              obtain rfl := si hm
              conv => whnf
              refine EndStep.mk _ (((l6.trans l15).trans l20).trans l25) ⟨(by rw [← (and_e (b := decide (x25.2.1 = 1)) ((si e35).symm.trans g36_5))] <;> rfl), rfl⟩ (ConvH.of (.cons r5 .nil))
            · conv => whnf
              refine cond_f g36_5 ?_
              conv => whnf
              refine cond_f g36_5 ?_
              obtain rfl := si hm
              conv => whnf
              refine EndStep.mk _ (((l6.trans l15).trans l20).trans l25) ⟨(by rw [← ((and_f ((si e35).symm.trans g36_5))).symm] <;> rfl), rfl⟩ (ConvH.of (.cons r5 .nil))
          · replace e35 := iff_ g31_5 e35
            conv => whnf
            refine cond_f g31_5 ?_
            conv => whnf
            refine cond_f g31_5 ?_
            conv => whnf
            refine cond_f g31_5 ?_
            conv => whnf
            refine cond_F ?_
            conv => whnf
            refine cond_F ?_
            conv => whnf
            refine cond_F ?_
            obtain rfl := si hm
            conv => whnf
            refine EndStep.mk _ (((l6.trans l15).trans l20).trans l25) ⟨(by rw [← ((and_f (si e35).symm)).symm] <;> rfl), rfl⟩ (ConvH.of (.cons r5 .nil))

noncomputable def base_Num (e : Err) : Option (Int) :=
  if e.isNone then
  some 0
  else
  if (!e.isSome) then
  some (-1)
  else
  some (e.getD 0)
set_option maxHeartbeats 8000000 in
theorem base_Num_ok {e : Err} {K : Hp} {r : Int}
    (hm : base_Num e = some r)  :
    Fn Try.prog 23 [errV 44 e] K [] (fun v K' H' => v = .int .i64 r ∧ H' = []) := by
  refine Fn.enter Try.func23 Try.call23 rfl fun F => ?_
  unfold base_Num at hm
  conv => whnf
  refine eq_err rfl ?_
  conv => whnf
  refine cond_go rfl ?_
  conv => whnf
  refine cond_s (fun w6 => ?_) (fun w6 => ?_)
  · replace hm := ift w6 hm
    obtain rfl := si hm
    conv => whnf
    refine EndStep.mk _ (Hp.Le.refl _) ⟨rfl, rfl⟩ (ConvH.of (.cons r0 .nil))
  · replace hm := iff_ w6 hm
    conv => whnf
    refine asrt rfl rfl rfl ?_
    conv => whnf
    refine un_not ?_
    conv => whnf
    refine cond_go rfl ?_
    conv => whnf
    refine cond_s (fun w13 => ?_) (fun w13 => ?_)
    · replace hm := ift (not_t (ni_t w13)) hm
      obtain rfl := si hm
      conv => whnf
      refine EndStep.mk _ (Hp.Le.refl _) ⟨rfl, rfl⟩ (ConvH.of (.cons r0 .nil))
    · replace hm := iff_ (not_f (ni_f w13)) hm
      obtain rfl := si hm
      conv => whnf
      refine EndStep.mk _ (Hp.Le.refl _) ⟨rfl, rfl⟩ (ConvH.of (.cons r0 .nil))

noncomputable def base_Is (e : Err) (want : Int) : Option (Bool) :=
  (base_Num e).bind fun x6 =>
  some (decide (x6 = want) && decide (want ≠ 0))
set_option maxHeartbeats 8000000 in
theorem base_Is_ok {e : Err} {want : Int} {K : Hp} {r : Bool}
    (hm : base_Is e want = some r)  :
    Fn Try.prog 18 [errV 44 e, .int .i64 want] K [] (fun v K' H' => v = .bool r ∧ H' = []) := by
  refine Fn.enter Try.func18 Try.call18 rfl fun F => ?_
  unfold base_Is at hm
  obtain ⟨x6, q6, hm⟩ := bnd hm
  conv => whnf
  refine call_fn (base_Num_ok q6) .nil ?_
  rintro _ K6 _ l6 ⟨rfl, rfl⟩
  conv => whnf
  refine eq_int ?_
  conv => whnf
  refine cond_s (fun g9_1 => ?_) (fun g9_1 => ?_)
  · conv => whnf
    refine cond_t g9_1 ?_
    conv => whnf
    refine neq_int ?_
    conv => whnf
    refine cond_t g9_1 ?_
    obtain rfl := si hm
    conv => whnf
    refine EndStep.mk _ l6 ⟨(by rw [← (and_e (b := decide (want ≠ 0)) g9_1)] <;> rfl), rfl⟩ (ConvH.of (.cons r0 .nil))
  · conv => whnf
    refine cond_f g9_1 ?_
    conv => whnf
    refine cond_f g9_1 ?_
    obtain rfl := si hm
    conv => whnf
    refine EndStep.mk _ l6 ⟨(by rw [← ((and_f g9_1)).symm] <;> rfl), rfl⟩ (ConvH.of (.cons r0 .nil))

noncomputable def fanout_Stream_Written_nil : Option (Int) :=
  some 0
set_option maxHeartbeats 8000000 in
theorem fanout_Stream_Written_nil_ok  {K : Hp} {r : Int}
    (hm : fanout_Stream_Written_nil = some r)  :
    Fn Try.prog 19 [.pointer none] K [] (fun v K' H' => v = .int .i64 r ∧ H' = []) := by
  refine Fn.enter Try.func19 Try.call19 rfl fun F => ?_
  unfold fanout_Stream_Written_nil at hm
  conv => whnf
  refine eq_nil_nil rfl ?_
  conv => whnf
  refine cond_go rfl ?_
  conv => whnf
  refine cond_T ?_
  obtain rfl := si hm
  conv => whnf
  refine EndStep.mk _ (Hp.Le.refl _) ⟨rfl, rfl⟩ (ConvH.of (.cons r0 .nil))

noncomputable def fanout_Stream_Least_L0 (e0 : (Int × Int)) (y0_0 : Int) : Option (Int) :=
  some (min y0_0 e0.2)
noncomputable def fanout_Stream_Least (s : S_fanout_Stream) : Option (Int) :=
  perms s.offsets fun pl0 =>
  (mfold (fun e0 ss0 => fanout_Stream_Least_L0 e0 ss0) pl0 (s.data.length : Int)).bind fun t0 =>
  some t0
set_option maxHeartbeats 8000000 in
theorem fanout_Stream_Least_ok {s : S_fanout_Stream} {b0 : Nat} {ap0_0 : Option Addr} {cp0_0 : Nat} {mp0_1 : Nat} {K : Hp} {r : Int}
    (hm : fanout_Stream_Least s = some r) (hp0_0 : (0 < s.data.length → Has ap0_0)) :
    Fn Try.prog 20 [.pointer (some ⟨b0, 0, none⟩)] K [Cells b0 77 [.int .i64 s.limit, .int .i64 s.state, .slice ap0_0 s.data.length cp0_0, .map (some mp0_1)], OwnL eU ap0_0 5 1 cp0_0 s.data, MapE intK (fun x => .int .i64 x) mp0_1 s.offsets] (fun v K' H' => v = .int .i64 r ∧ H' = [Cells b0 77 [.int .i64 s.limit, .int .i64 s.state, .slice ap0_0 s.data.length cp0_0, .map (some mp0_1)], OwnL eU ap0_0 5 1 cp0_0 s.data, MapE intK (fun x => .int .i64 x) mp0_1 s.offsets]) := by
  refine Fn.enter Try.func20 Try.call20 rfl fun F => ?_
  unfold fanout_Stream_Least at hm
  conv => whnf
  refine eq_ptr_nil rfl ?_
  conv => whnf
  refine cond_go rfl ?_
  conv => whnf
  refine cond_F ?_
  conv => whnf
  refine nil_check ?_
  conv => whnf
  refine field_addr rfl ?_
  conv => whnf
  refine RStep.of (load1_s r0 rfl rfl ?_)
  conv => whnf
  refine RStep.of (len_slice rfl ?_)
  conv => whnf
  refine nil_check ?_
  conv => whnf
  refine field_addr rfl ?_
  conv => whnf
  refine RStep.of (load1_s r0 rfl rfl ?_)
  conv => whnf
  refine range_rule r2 rfl fun rb17 => ?_
  have hP0 := perms_all hm
  conv => whnf
  refine code_cut (σ := (Int)) [3, 5, 18, 19, 20, 21, 22, 23, 24] (fun t0 => [(3, .int .i64 t0)]) (fun t0 => [MapE intK (fun x => .int .i64 x) mp0_1 s.offsets, Cells b0 77 [.int .i64 s.limit, .int .i64 s.state, .slice ap0_0 s.data.length cp0_0, .map (some mp0_1)], OwnL eU ap0_0 5 1 cp0_0 s.data, F]) (fun zz K1 => match zz with | t0 => ∃ pl, pl.Perm s.offsets ∧ mfold (fun e0 ss0 => fanout_Stream_Least_L0 e0 ss0) pl (s.data.length : Int) = some t0) ?_ ?_
  · refine block_go rfl ?_
    conv => whnf
    refine loop_rule (σ := (List (Int × Int)) × Int) [3, 5, 18, 19, 20, 21, 22, 23, 24] (fun (vis0, y0_0) => [(3, .int .i64 y0_0)]) (fun (vis0, y0_0) => [MapIt intK (fun x => .int .i64 x) rb17 mp0_1 s.offsets vis0, Cells b0 77 [.int .i64 s.limit, .int .i64 s.state, .slice ap0_0 s.data.length cp0_0, .map (some mp0_1)], OwnL eU ap0_0 5 1 cp0_0 s.data, F]) (fun zz K1 => match zz with | (vis0, y0_0) => mfold (fun e0 ss0 => fanout_Stream_Least_L0 e0 ss0) vis0 (s.data.length : Int) = some y0_0) (fun zz => s.offsets.length - zz.1.length) ([], (s.data.length : Int)) rfl ⟨rfl, trivial⟩ (ConvH.of (.cons r0 (.cons r0 (.cons r0 (.cons r0 .nil))))) rfl ?_
    rintro ⟨vis0, y0_0⟩ Kb0 lk0 hv0 j0
    conv => whnf
    refine next_rule r0 (fun hp0 => ?_) (fun e0 rs0 hp0 => ?_)
    · conv => whnf
      refine cond_go rfl ?_
      conv => whnf
      refine cond_F ?_
      conv => whnf
      refine cond_T ?_
      conv => whnf
      refine MeetStep.mk (y0_0) ⟨rfl, trivial⟩ (by repeat (first | exact trivial | refine And.intro rfl ?_)) (ConvH.of (.cons r0 (.cons r0 (.cons r0 (.cons r0 .nil))))) lk0 ⟨_, hp0, hv0⟩
    · obtain ⟨z0, hB0⟩ := mnext hP0 hv0 hp0
      have hl0 : fanout_Stream_Least_L0 e0 y0_0 = some z0 := hB0
      unfold fanout_Stream_Least_L0 at hl0
      conv => whnf
      refine cond_go rfl ?_
      conv => whnf
      refine cond_T ?_
      conv => whnf
      refine block_go rfl ?_
      conv => whnf
      refine RStep.of (entry_rule r0 ?_)
      conv => whnf
      refine RStep.of (min_int ?_)
      conv => whnf
      refine RoundStep.mk (vis0 ++ [e0], (min y0_0 e0.2)) ⟨rfl, trivial⟩ (by repeat (first | exact trivial | refine And.intro rfl ?_)) (ConvH.of (.cons r0 (.cons r0 (.cons r0 (.cons r0 .nil))))) lk0 (ltmap hp0) ((mfold_snoc hv0).trans (hB0.trans hl0.symm))
  · rintro t0 Kt0 lt0 hx0 j0
    replace hm := mlast hP0 hx0
    obtain rfl := si hm
    conv => whnf
    refine EndStep.mk _ lt0 ⟨rfl, rfl⟩ (ConvH.of (.cons r1 (.cons r1 (.cons r0 (.cons r0 .nil)))))

noncomputable def fanout_Stream_Least_nil : Option (Int) :=
  some 0
set_option maxHeartbeats 8000000 in
theorem fanout_Stream_Least_nil_ok  {K : Hp} {r : Int}
    (hm : fanout_Stream_Least_nil = some r)  :
    Fn Try.prog 20 [.pointer none] K [] (fun v K' H' => v = .int .i64 r ∧ H' = []) := by
  refine Fn.enter Try.func20 Try.call20 rfl fun F => ?_
  unfold fanout_Stream_Least_nil at hm
  conv => whnf
  refine eq_nil_nil rfl ?_
  conv => whnf
  refine cond_go rfl ?_
  conv => whnf
  refine cond_T ?_
  obtain rfl := si hm
  conv => whnf
  refine EndStep.mk _ (Hp.Le.refl _) ⟨rfl, rfl⟩ (ConvH.of (.cons r0 .nil))

noncomputable def fanout_Stream_Written (s : S_fanout_Stream) : Option (Int) :=
  some (s.data.length : Int)
set_option maxHeartbeats 8000000 in
theorem fanout_Stream_Written_ok {s : S_fanout_Stream} {b0 : Nat} {ap0_0 : Option Addr} {cp0_0 : Nat} {mp0_1 : Nat} {K : Hp} {r : Int}
    (hm : fanout_Stream_Written s = some r) (hp0_0 : (0 < s.data.length → Has ap0_0)) :
    Fn Try.prog 19 [.pointer (some ⟨b0, 0, none⟩)] K [Cells b0 77 [.int .i64 s.limit, .int .i64 s.state, .slice ap0_0 s.data.length cp0_0, .map (some mp0_1)], OwnL eU ap0_0 5 1 cp0_0 s.data, MapE intK (fun x => .int .i64 x) mp0_1 s.offsets] (fun v K' H' => v = .int .i64 r ∧ H' = [Cells b0 77 [.int .i64 s.limit, .int .i64 s.state, .slice ap0_0 s.data.length cp0_0, .map (some mp0_1)], OwnL eU ap0_0 5 1 cp0_0 s.data, MapE intK (fun x => .int .i64 x) mp0_1 s.offsets]) := by
  refine Fn.enter Try.func19 Try.call19 rfl fun F => ?_
  unfold fanout_Stream_Written at hm
  conv => whnf
  refine eq_ptr_nil rfl ?_
  conv => whnf
  refine cond_go rfl ?_
  conv => whnf
  refine cond_F ?_
  conv => whnf
  refine nil_check ?_
  conv => whnf
  refine field_addr rfl ?_
  conv => whnf
  refine RStep.of (load1_s r0 rfl rfl ?_)
  conv => whnf
  refine RStep.of (len_slice rfl ?_)
  obtain rfl := si hm
  conv => whnf
  refine EndStep.mk _ (Hp.Le.refl _) ⟨rfl, rfl⟩ (ConvH.of (.cons r0 (.cons r0 (.cons r0 (.cons r0 .nil)))))

noncomputable def fanout_Stream_End (s : S_fanout_Stream) : Option (Err × S_fanout_Stream) :=
  (fanout_Stream_open s).bind fun x5 =>
  if x5.isSome then
  some (x5, s)
  else
  some (none, (⟨s.limit, 2, s.data, s.offsets⟩ : S_fanout_Stream))
set_option maxHeartbeats 8000000 in
theorem fanout_Stream_End_ok {s : S_fanout_Stream} {b0 : Nat} {ap0_0 : Option Addr} {cp0_0 : Nat} {mp0_1 : Nat} {K : Hp} {r : Err × S_fanout_Stream}
    (hm : fanout_Stream_End s = some r) (hp0_0 : (0 < s.data.length → Has ap0_0)) :
    Fn Try.prog 16 [.pointer (some ⟨b0, 0, none⟩)] K [Cells b0 77 [.int .i64 s.limit, .int .i64 s.state, .slice ap0_0 s.data.length cp0_0, .map (some mp0_1)], OwnL eU ap0_0 5 1 cp0_0 s.data, MapE intK (fun x => .int .i64 x) mp0_1 s.offsets] (fun v K' H' => ∃ ar_0 : Option Addr, ∃ cr_0 : Nat, ∃ mr_1 : Nat, v = errV 44 r.1 ∧ (0 < r.2.data.length → Has ar_0) ∧ H' = [Cells b0 77 [.int .i64 r.2.limit, .int .i64 r.2.state, .slice ar_0 r.2.data.length cr_0, .map (some mr_1)], OwnL eU ar_0 5 1 cr_0 r.2.data, MapE intK (fun x => .int .i64 x) mr_1 r.2.offsets]) := by
  refine Fn.enter Try.func16 Try.call16 rfl fun F => ?_
  unfold fanout_Stream_End at hm
  obtain ⟨x5, q5, hm⟩ := bnd hm
  conv => whnf
  refine call_fn (fanout_Stream_open_ok q5 hp0_0) (.cons r0 (.cons r0 (.cons r0 .nil))) ?_
  rintro _ K5 _ l5 ⟨rfl, rfl⟩
  conv => whnf
  refine neq_err rfl ?_
  conv => whnf
  refine cond_go rfl ?_
  conv => whnf
  refine cond_s (fun w7 => ?_) (fun w7 => ?_)
  · replace hm := ift w7 hm
    obtain rfl := si hm
    conv => whnf
    refine EndStep.mk _ l5 ⟨ap0_0, cp0_0, mp0_1, rfl, hp0_0, rfl⟩ (ConvH.of (.cons r0 (.cons r0 (.cons r0 (.cons r0 .nil)))))
  · replace hm := iff_ w7 hm
    conv => whnf
    refine nil_check ?_
    conv => whnf
    refine field_addr rfl ?_
    conv => whnf
    refine store_rule r0 rfl ?_
    conv => whnf
    refine ⟨rfl, rfl, (Nat.le_of_ble_eq_true rfl), ?_⟩
    obtain rfl := si hm
    conv => whnf
    refine EndStep.mk _ l5 ⟨ap0_0, cp0_0, mp0_1, rfl, hp0_0, rfl⟩ (ConvH.of (.cons r0 (.cons r0 (.cons r0 (.cons r0 .nil)))))

noncomputable def fanout_Stream_End_nil : Option (Err) :=
  (fanout_Stream_open_nil).bind fun x5 =>
  if x5.isSome then
  some x5
  else
  none
set_option maxHeartbeats 8000000 in
theorem fanout_Stream_End_nil_ok  {K : Hp} {r : Err}
    (hm : fanout_Stream_End_nil = some r)  :
    Fn Try.prog 16 [.pointer none] K [] (fun v K' H' => v = errV 44 r ∧ H' = []) := by
  refine Fn.enter Try.func16 Try.call16 rfl fun F => ?_
  unfold fanout_Stream_End_nil at hm
  obtain ⟨x5, q5, hm⟩ := bnd hm
  conv => whnf
  refine call_fn (fanout_Stream_open_nil_ok q5) .nil ?_
  rintro _ K5 _ l5 ⟨rfl, rfl⟩
  conv => whnf
  refine neq_err rfl ?_
  conv => whnf
  refine cond_go rfl ?_
  conv => whnf
  refine cond_s (fun w7 => ?_) (fun w7 => ?_)
  · replace hm := ift w7 hm
    obtain rfl := si hm
    conv => whnf
    refine EndStep.mk _ l5 ⟨rfl, rfl⟩ (ConvH.of (.cons r0 .nil))
  · replace hm := iff_ w7 hm
    cases hm

noncomputable def law28_FanoutLimits_L0 (limit : Int) : List Int → Nat → Int → Option (Fl (Bool) (Int))
  | [], _, y0_0 => some (Fl.go y0_0)
  | e0 :: xs0, i0, y0_0 =>
    (chk (InI e0)).bind fun _ =>
    (chk (0 ≤ e0 ∧ e0 ≤ (lim : Int))).bind fun _ =>
    (fanout_Stream_Write_nil ((List.replicate (Int.toNat e0) ((0 : UInt8) : UInt8)) : Str)).bind fun x44 =>
    (chk (InI (y0_0 + e0))).bind fun _ =>
    if decide ((y0_0 + e0) > (1 + limit)) then
    (base_Is x44 5).bind fun x51 =>
    if (!x51) then
    some (Fl.ret false)
    else
    (fanout_Stream_Written_nil).bind fun x59 =>
    (if decide (x59 ≠ y0_0) then some true else (fanout_Stream_Least_nil).bind fun x64 =>
    some (decide (x64 ≠ y0_0))).bind fun x67 =>
    if x67 then
    some (Fl.ret false)
    else
    law28_FanoutLimits_L0 limit xs0 (i0 + 1) y0_0
    else
    if x44.isSome then
    some (Fl.ret false)
    else
    (chk (InI (y0_0 + e0))).bind fun _ =>
    (fanout_Stream_Written_nil).bind fun x59 =>
    (if decide (x59 ≠ (y0_0 + e0)) then some true else (fanout_Stream_Least_nil).bind fun x64 =>
    some (decide (x64 ≠ (y0_0 + e0)))).bind fun x67 =>
    if x67 then
    some (Fl.ret false)
    else
    law28_FanoutLimits_L0 limit xs0 (i0 + 1) (y0_0 + e0)
noncomputable def law28_FanoutLimits_L0b (limit : Int) : List Int → Nat → Int → S_fanout_Stream → Option (Fl (Bool) (Int × S_fanout_Stream))
  | [], _, y0_0, y0_1 => some (Fl.go (y0_0, y0_1))
  | e0 :: xs0, i0, y0_0, y0_1 =>
    (chk (InI e0)).bind fun _ =>
    (chk (0 ≤ e0 ∧ e0 ≤ (lim : Int))).bind fun _ =>
    (fanout_Stream_Write y0_1 ((List.replicate (Int.toNat e0) ((0 : UInt8) : UInt8)) : Str)).bind fun x44 =>
    (chk (InI (y0_0 + e0))).bind fun _ =>
    if decide ((y0_0 + e0) > (1 + limit)) then
    (base_Is x44.1 5).bind fun x51 =>
    if (!x51) then
    some (Fl.ret false)
    else
    (fanout_Stream_Written x44.2).bind fun x59 =>
    (if decide (x59 ≠ y0_0) then some true else (fanout_Stream_Least x44.2).bind fun x64 =>
    some (decide (x64 ≠ y0_0))).bind fun x67 =>
    if x67 then
    some (Fl.ret false)
    else
    law28_FanoutLimits_L0b limit xs0 (i0 + 1) y0_0 x44.2
    else
    if x44.1.isSome then
    some (Fl.ret false)
    else
    (chk (InI (y0_0 + e0))).bind fun _ =>
    (fanout_Stream_Written x44.2).bind fun x59 =>
    (if decide (x59 ≠ (y0_0 + e0)) then some true else (fanout_Stream_Least x44.2).bind fun x64 =>
    some (decide (x64 ≠ (y0_0 + e0)))).bind fun x67 =>
    if x67 then
    some (Fl.ret false)
    else
    law28_FanoutLimits_L0b limit xs0 (i0 + 1) (y0_0 + e0) x44.2
noncomputable def law28_FanoutLimits (limit : Int) (parts : (List Int)) : Option (Bool) :=
  (if decide ((parts.length : Int) > 30) then some true else (law28_awake).bind fun x17 =>
  some (!x17)).bind fun x19 =>
  if x19 then
  some (decide ((parts.length : Int) > 30))
  else
  (chk (InI limit)).bind fun _ =>
  (chk (InI (1 + limit))).bind fun _ =>
  (fanout_New (1 + limit)).bind fun x28 =>
  Option.elim x28.1 (
  if x28.2.isSome then
  some false
  else
  (chk (parts.length ≤ lim)).bind fun _ =>
  (law28_FanoutLimits_L0 limit parts 0 0).bind fun s0 => s0.el some fun t0 =>
  (chk (InI ((1 + limit) - t0))).bind fun _ =>
  (chk (0 ≤ ((1 + limit) - t0) ∧ ((1 + limit) - t0) ≤ (lim : Int))).bind fun _ =>
  (fanout_Stream_Write_nil ((List.replicate (Int.toNat ((1 + limit) - t0)) ((0 : UInt8) : UInt8)) : Str)).bind fun x74 =>
  (if x74.isSome then some true else (fanout_Stream_Written_nil).bind fun x78 =>
  some (decide (x78 ≠ (1 + limit)))).bind fun x81 =>
  if x81 then
  some false
  else
  (fanout_Stream_Write_nil []).bind fun x84 =>
  if x84.isSome then
  some false
  else
  (fanout_Stream_Write_nil ([(1 : UInt8)] : Str)).bind fun x89 =>
  (base_Is x89 5).bind fun x90 =>
  if x90 then
  (fanout_Stream_End_nil).bind fun x93 =>
  some x93.isNone
  else
  some false)
   fun o28 =>
  if x28.2.isSome then
  some false
  else
  (chk (parts.length ≤ lim)).bind fun _ =>
  (law28_FanoutLimits_L0b limit parts 0 0 o28).bind fun s0 => s0.el some fun t0 =>
  (chk (InI ((1 + limit) - t0.1))).bind fun _ =>
  (chk (0 ≤ ((1 + limit) - t0.1) ∧ ((1 + limit) - t0.1) ≤ (lim : Int))).bind fun _ =>
  (fanout_Stream_Write t0.2 ((List.replicate (Int.toNat ((1 + limit) - t0.1)) ((0 : UInt8) : UInt8)) : Str)).bind fun x74 =>
  (if x74.1.isSome then some true else (fanout_Stream_Written x74.2).bind fun x78 =>
  some (decide (x78 ≠ (1 + limit)))).bind fun x81 =>
  if x81 then
  some false
  else
  (fanout_Stream_Write x74.2 []).bind fun x84 =>
  if x84.1.isSome then
  some false
  else
  (fanout_Stream_Write x84.2 ([(1 : UInt8)] : Str)).bind fun x89 =>
  (base_Is x89.1 5).bind fun x90 =>
  if x90 then
  (fanout_Stream_End x89.2).bind fun x93 =>
  some x93.1.isNone
  else
  some false
set_option maxHeartbeats 8000000 in
theorem law28_FanoutLimits_ok {limit : Int} {parts : (List Int)} {ap1_0 : Option Addr} {cp1_0 : Nat} {n1 : Nat} {K : Hp} {r : Bool}
    (hm : law28_FanoutLimits limit parts = some r) (hp1_0 : RdC (eI .u16) K ap1_0 cp1_0 1 parts) (en1 : n1 = parts.length) :
    Fn Try.prog 5 [.int .u16 limit, .slice ap1_0 n1 cp1_0] K [] (fun v K' H' => v = .bool r ∧ H' = []) := by
  subst en1
  refine Fn.enter Try.func5 Try.call5 rfl fun F => ?_
  unfold law28_FanoutLimits at hm
  conv => whnf
  refine RStep.of (len_slice rfl ?_)
  obtain ⟨x19, e19, hm⟩ := bnd hm
  conv => whnf
  refine cond_s (fun g16_1 => ?_) (fun g16_1 => ?_)
  · replace e19 := ift g16_1 e19
    conv => whnf
    refine cond_t g16_1 ?_
    conv => whnf
    refine cond_t g16_1 ?_
    conv => whnf
    refine cond_go rfl ?_
    conv => whnf
    refine cond_T ?_
    replace hm := ift (si e19).symm hm
    conv => whnf
    refine RStep.of (len_slice rfl ?_)
    obtain rfl := si hm
    conv => whnf
    refine EndStep.mk _ (Hp.Le.refl _) ⟨rfl, rfl⟩ (ConvH.of (.cons r0 .nil))
  · replace e19 := iff_ g16_1 e19
    obtain ⟨x17, q17, e19⟩ := bnd e19
    conv => whnf
    refine call_fn (law28_awake_ok q17) .nil ?_
    rintro _ K17 _ l17 ⟨rfl, rfl⟩
    conv => whnf
    refine cond_f g16_1 ?_
    conv => whnf
    refine un_not ?_
    conv => whnf
    refine cond_f g16_1 ?_
    conv => whnf
    refine cond_go rfl ?_
    conv => whnf
    refine cond_s (fun w19 => ?_) (fun w19 => ?_)
    · replace hm := ift ((si e19).symm.trans (not_t (ni_t w19))) hm
      conv => whnf
      refine RStep.of (len_slice rfl ?_)
      obtain rfl := si hm
      conv => whnf
      refine EndStep.mk _ l17 ⟨rfl, rfl⟩ (ConvH.of (.cons r0 .nil))
    · replace hm := iff_ ((si e19).symm.trans (not_f (ni_f w19))) hm
      obtain ⟨h24, hm⟩ := chkb hm
      conv => whnf
      refine conv_int rfl rfl h24 ?_
      obtain ⟨h25, hm⟩ := chkb hm
      conv => whnf
      refine int_in h25 ?_
      obtain ⟨x28, q28, hm⟩ := bnd hm
      conv => whnf
      refine call_fn (fanout_New_ok q28) .nil ?_
      rintro v28 K28 H28 l28 p28
      rcases hq28 : x28.1 with _ | o28
      · rw [hq28] at p28 hm
        obtain ⟨rfl, rfl⟩ := p28
        replace hm := oe_n hm
        conv => whnf
        refine neq_err rfl ?_
        conv => whnf
        refine cond_go rfl ?_
        conv => whnf
        refine cond_s (fun w32 => ?_) (fun w32 => ?_)
        · replace hm := ift w32 hm
          obtain rfl := si hm
          conv => whnf
          refine EndStep.mk _ (l17.trans l28) ⟨rfl, rfl⟩ (ConvH.of (.cons r0 .nil))
        · replace hm := iff_ w32 hm
          conv => whnf
          refine RStep.of (len_slice rfl ?_)
          obtain ⟨hk0, hm⟩ := chkb hm
          obtain ⟨s0, hl0, hm⟩ := bnd hm
          conv => whnf
          refine code_cut (σ := (Int)) [4, 8, 10, 11, 12, 35, 36, 37, 38, 39, 40, 41, 42, 43, 44, 45, 46, 47, 48, 49, 50, 51, 52, 53, 54, 55, 56, 57, 58, 59, 60, 61, 62, 63, 64, 65, 66, 67, 68] (fun t0 => [(8, .int .i64 t0)]) (fun t0 => [F]) (fun zz K1 => match zz with | t0 => s0 = Fl.go t0) ?_ ?_
          · refine block_go rfl ?_
            conv => whnf
            refine loop_rule (σ := Nat × Int) [4, 8, 10, 11, 12, 35, 36, 37, 38, 39, 40, 41, 42, 43, 44, 45, 46, 47, 48, 49, 50, 51, 52, 53, 54, 55, 56, 57, 58, 59, 60, 61, 62, 63, 64, 65, 66, 67, 68] (fun (i0, y0_0) => [(35, .int .i64 (i0 : Int)), (8, .int .i64 y0_0)]) (fun (i0, y0_0) => [F]) (fun zz K1 => match zz with | (i0, y0_0) => law28_FanoutLimits_L0 limit (parts.drop i0) i0 y0_0 = some s0) (fun zz => parts.length - zz.1) (0, 0) rfl ⟨rfl, rfl, trivial⟩ (ConvH.of (.cons r0 .nil)) hl0 ?_
            clear hl0
            rintro ⟨i0, y0_0⟩ Kb0 lk0 hl0 j0
            conv at hl0 => whnf
            conv => whnf
            refine cond_go rfl ?_
            conv => whnf
            refine cond_s (fun w0 => ?_) (fun w0 => ?_)
            · obtain ⟨e0, hx0, hd0⟩ := ltx w0
              rw [hd0, law28_FanoutLimits_L0.eq_2] at hl0
              conv => whnf
              refine block_go rfl ?_
              conv => whnf
              refine RStep.ofN (index_addr rfl rfl (hasK (hp1_0.mono ((l17.trans l28).trans lk0)).rd hx0) (nn _) (lt_ofN hx0) ?_)
              conv => whnf
              refine RStep.of (load_rd i0 0 _ _ (hp1_0.mono ((l17.trans l28).trans lk0)).rd rfl (mp hx0) rfl rfl ?_)
              obtain ⟨h40, hl0⟩ := chkb hl0
              conv => whnf
              refine conv_int rfl rfl h40 ?_
              obtain ⟨h43, hl0⟩ := chkb hl0
              conv => whnf
              refine mk_slice (enc := eU) ((0 : UInt8) : UInt8) elT22 rfl rfl rfl h43 fun b43 => ?_
              obtain ⟨x44, q44, hl0⟩ := bnd hl0
              conv => whnf
              refine call_fn (Fn.lend Try.call12 (fun K44_1 l44_1 f44_1 => (fanout_Stream_Write_nil_ok q44 f44_1 List.length_replicate.symm)) (by exact fun _ _ _ _ h => h)) (.cons r0 .nil) ?_
              rintro _ K44 _ l44 ⟨_, rfl, rfl, rfl⟩
              obtain ⟨h47, hl0⟩ := chkb hl0
              conv => whnf
              refine int_in h47 ?_
              conv => whnf
              refine cond_go rfl ?_
              conv => whnf
              refine cond_s (fun w49 => ?_) (fun w49 => ?_)
              · replace hl0 := ift w49 hl0
                obtain ⟨x51, q51, hl0⟩ := bnd hl0
                conv => whnf
                refine call_fn (base_Is_ok q51) .nil ?_
                rintro _ K51 _ l51 ⟨rfl, rfl⟩
                conv => whnf
                refine un_not ?_
                conv => whnf
                refine cond_go rfl ?_
                conv => whnf
                refine cond_s (fun w52 => ?_) (fun w52 => ?_)
                · replace hl0 := ift (not_t (ni_t w52)) hl0
                  obtain rfl := si hl0
                  replace hm := elr hm
                  obtain rfl := si hm
                  conv => whnf
                  refine EndStep.mk _ ((((l17.trans l28).trans lk0).trans l44).trans l51) ⟨rfl, rfl⟩ (ConvH.of (.cons r1 .nil))
                · replace hl0 := iff_ (not_f (ni_f w52)) hl0
                  obtain ⟨x59, q59, hl0⟩ := bnd hl0
                  conv => whnf
                  refine call_fn (fanout_Stream_Written_nil_ok q59) .nil ?_
                  rintro _ K59 _ l59 ⟨rfl, rfl⟩
                  conv => whnf
                  refine neq_int ?_
                  obtain ⟨x67, e67, hl0⟩ := bnd hl0
                  conv => whnf
                  refine cond_s (fun g62_19 => ?_) (fun g62_19 => ?_)
                  · replace e67 := ift g62_19 e67
                    conv => whnf
                    refine cond_t g62_19 ?_
                    conv => whnf
                    refine cond_t g62_19 ?_
                    conv => whnf
                    refine cond_t g62_19 ?_
                    conv => whnf
                    refine cond_t g62_19 ?_
                    conv => whnf
                    refine cond_go rfl ?_
                    conv => whnf
                    refine cond_T ?_
                    replace hl0 := ift (si e67).symm hl0
                    obtain rfl := si hl0
                    replace hm := elr hm
                    obtain rfl := si hm
                    conv => whnf
                    refine EndStep.mk _ (((((l17.trans l28).trans lk0).trans l44).trans l51).trans l59) ⟨rfl, rfl⟩ (ConvH.of (.cons r1 .nil))
                  · replace e67 := iff_ g62_19 e67
                    conv => whnf
                    refine cond_f g62_19 ?_
                    obtain ⟨x64, q64, e67⟩ := bnd e67
                    conv => whnf
                    refine call_fn (fanout_Stream_Least_nil_ok q64) .nil ?_
                    rintro _ K64 _ l64 ⟨rfl, rfl⟩
                    conv => whnf
                    refine cond_f g62_19 ?_
                    conv => whnf
                    refine cond_f g62_19 ?_
                    conv => whnf
                    refine neq_int ?_
                    conv => whnf
                    refine cond_f g62_19 ?_
                    conv => whnf
                    refine cond_go rfl ?_
                    conv => whnf
                    refine cond_s (fun w67 => ?_) (fun w67 => ?_)
                    · replace hl0 := ift ((si e67).symm.trans w67) hl0
                      obtain rfl := si hl0
                      replace hm := elr hm
                      obtain rfl := si hm
                      conv => whnf
                      refine EndStep.mk _ ((((((l17.trans l28).trans lk0).trans l44).trans l51).trans l59).trans l64) ⟨rfl, rfl⟩ (ConvH.of (.cons r1 .nil))
                    · replace hl0 := iff_ ((si e67).symm.trans w67) hl0
                      conv => whnf
                      refine int_in (cnt hx0 hk0) ?_
                      conv => whnf
                      refine RoundStep.mk (i0 + 1, y0_0) ⟨rfl, rfl, trivial⟩ (by repeat (first | exact trivial | refine And.intro rfl ?_)) (ConvH.of (.cons r1 .nil)) ((((lk0.trans l44).trans l51).trans l59).trans l64) (ltm hx0) hl0
              · replace hl0 := iff_ w49 hl0
                conv => whnf
                refine neq_err rfl ?_
                conv => whnf
                refine cond_go rfl ?_
                conv => whnf
                refine cond_s (fun w54 => ?_) (fun w54 => ?_)
                · replace hl0 := ift w54 hl0
                  obtain rfl := si hl0
                  replace hm := elr hm
                  obtain rfl := si hm
                  conv => whnf
                  refine EndStep.mk _ (((l17.trans l28).trans lk0).trans l44) ⟨rfl, rfl⟩ (ConvH.of (.cons r1 .nil))
                · replace hl0 := iff_ w54 hl0
                  obtain ⟨h57, hl0⟩ := chkb hl0
                  conv => whnf
                  refine int_in h57 ?_
                  obtain ⟨x59, q59, hl0⟩ := bnd hl0
                  conv => whnf
                  refine call_fn (fanout_Stream_Written_nil_ok q59) .nil ?_
                  rintro _ K59 _ l59 ⟨rfl, rfl⟩
                  conv => whnf
                  refine neq_int ?_
                  obtain ⟨x67, e67, hl0⟩ := bnd hl0
                  conv => whnf
                  refine cond_s (fun g62_19 => ?_) (fun g62_19 => ?_)
                  · replace e67 := ift g62_19 e67
                    conv => whnf
                    refine cond_t g62_19 ?_
                    conv => whnf
                    refine cond_t g62_19 ?_
                    conv => whnf
                    refine cond_t g62_19 ?_
                    conv => whnf
                    refine cond_t g62_19 ?_
                    conv => whnf
                    refine cond_go rfl ?_
                    conv => whnf
                    refine cond_T ?_
                    replace hl0 := ift (si e67).symm hl0
                    obtain rfl := si hl0
                    replace hm := elr hm
                    obtain rfl := si hm
                    conv => whnf
                    refine EndStep.mk _ ((((l17.trans l28).trans lk0).trans l44).trans l59) ⟨rfl, rfl⟩ (ConvH.of (.cons r1 .nil))
                  · replace e67 := iff_ g62_19 e67
                    conv => whnf
                    refine cond_f g62_19 ?_
                    obtain ⟨x64, q64, e67⟩ := bnd e67
                    conv => whnf
                    refine call_fn (fanout_Stream_Least_nil_ok q64) .nil ?_
                    rintro _ K64 _ l64 ⟨rfl, rfl⟩
                    conv => whnf
                    refine cond_f g62_19 ?_
                    conv => whnf
                    refine cond_f g62_19 ?_
                    conv => whnf
                    refine neq_int ?_
                    conv => whnf
                    refine cond_f g62_19 ?_
                    conv => whnf
                    refine cond_go rfl ?_
                    conv => whnf
                    refine cond_s (fun w67 => ?_) (fun w67 => ?_)
                    · replace hl0 := ift ((si e67).symm.trans w67) hl0
                      obtain rfl := si hl0
                      replace hm := elr hm
                      obtain rfl := si hm
                      conv => whnf
                      refine EndStep.mk _ (((((l17.trans l28).trans lk0).trans l44).trans l59).trans l64) ⟨rfl, rfl⟩ (ConvH.of (.cons r1 .nil))
                    · replace hl0 := iff_ ((si e67).symm.trans w67) hl0
                      conv => whnf
                      refine int_in (cnt hx0 hk0) ?_
                      conv => whnf
                      refine RoundStep.mk (i0 + 1, (y0_0 + e0)) ⟨rfl, rfl, trivial⟩ (by repeat (first | exact trivial | refine And.intro rfl ?_)) (ConvH.of (.cons r1 .nil)) (((lk0.trans l44).trans l59).trans l64) (ltm hx0) hl0
            · rw [lty w0, law28_FanoutLimits_L0.eq_1] at hl0
              conv => whnf
              refine cond_T ?_
              conv => whnf
              refine MeetStep.mk (y0_0) ⟨rfl, trivial⟩ (by repeat (first | exact trivial | refine And.intro rfl ?_)) (ConvH.of (.cons r0 .nil)) lk0 (si hl0).symm
          · rintro t0 Kt0 lt0 rfl j0
            replace hm := elg hm
            obtain ⟨h72, hm⟩ := chkb hm
            conv => whnf
            refine int_in h72 ?_
            obtain ⟨h73, hm⟩ := chkb hm
            conv => whnf
            refine mk_slice (enc := eU) ((0 : UInt8) : UInt8) elT22 rfl rfl rfl h73 fun b73 => ?_
            obtain ⟨x74, q74, hm⟩ := bnd hm
            conv => whnf
            refine call_fn (Fn.lend Try.call12 (fun K74_1 l74_1 f74_1 => (fanout_Stream_Write_nil_ok q74 f74_1 List.length_replicate.symm)) (by exact fun _ _ _ _ h => h)) (.cons r0 .nil) ?_
            rintro _ K74 _ l74 ⟨_, rfl, rfl, rfl⟩
            conv => whnf
            refine neq_err rfl ?_
            obtain ⟨x81, e81, hm⟩ := bnd hm
            conv => whnf
            refine cond_s (fun g76_22 => ?_) (fun g76_22 => ?_)
            · replace e81 := ift g76_22 e81
              conv => whnf
              refine cond_t g76_22 ?_
              conv => whnf
              refine cond_t g76_22 ?_
              conv => whnf
              refine cond_t g76_22 ?_
              conv => whnf
              refine cond_t g76_22 ?_
              replace hm := ift (si e81).symm hm
              conv => whnf
              refine cond_T ?_
              conv => whnf
              refine cond_T ?_
              conv => whnf
              refine cond_T ?_
              conv => whnf
              refine cond_T ?_
              conv => whnf
              refine cond_go rfl ?_
              conv => whnf
              refine cond_T ?_
              obtain rfl := si hm
              conv => whnf
              refine EndStep.mk _ (((l17.trans l28).trans lt0).trans l74) ⟨rfl, rfl⟩ (ConvH.of (.cons r1 .nil))
            · replace e81 := iff_ g76_22 e81
              conv => whnf
              refine cond_f g76_22 ?_
              obtain ⟨x78, q78, e81⟩ := bnd e81
              conv => whnf
              refine call_fn (fanout_Stream_Written_nil_ok q78) .nil ?_
              rintro _ K78 _ l78 ⟨rfl, rfl⟩
              conv => whnf
              refine cond_f g76_22 ?_
              conv => whnf
              refine cond_f g76_22 ?_
              conv => whnf
              refine neq_int ?_
              conv => whnf
              refine cond_f g76_22 ?_
              conv => whnf
              refine cond_s (fun g82_22 => ?_) (fun g82_22 => ?_)
              · replace hm := ift ((si e81).symm.trans g82_22) hm
                conv => whnf
                refine cond_t g82_22 ?_
                conv => whnf
                refine cond_t g82_22 ?_
                conv => whnf
                refine cond_t g82_22 ?_
                conv => whnf
                refine cond_go rfl ?_
                conv => whnf
                refine cond_T ?_
                obtain rfl := si hm
                conv => whnf
                refine EndStep.mk _ ((((l17.trans l28).trans lt0).trans l74).trans l78) ⟨rfl, rfl⟩ (ConvH.of (.cons r1 .nil))
              · replace hm := iff_ ((si e81).symm.trans g82_22) hm
                conv => whnf
                refine cond_f g82_22 ?_
                obtain ⟨x84, q84, hm⟩ := bnd hm
                conv => whnf
                refine call_fn (fanout_Stream_Write_nil_ok q84 RdC.nil rfl) .nil ?_
                rintro _ K84 _ l84 ⟨rfl, rfl⟩
                conv => whnf
                refine cond_f g82_22 ?_
                conv => whnf
                refine neq_err rfl ?_
                conv => whnf
                refine cond_f g82_22 ?_
                conv => whnf
                refine cond_go rfl ?_
                conv => whnf
                refine cond_s (fun w86 => ?_) (fun w86 => ?_)
                · replace hm := ift w86 hm
                  obtain rfl := si hm
                  conv => whnf
                  refine EndStep.mk _ (((((l17.trans l28).trans lt0).trans l74).trans l78).trans l84) ⟨rfl, rfl⟩ (ConvH.of (.cons r1 .nil))
                · replace hm := iff_ w86 hm
                  conv => whnf
                  refine bsO (len := 1) (enc := eU) (l := ([(1 : UInt8)] : Str)) (cl := [.int .u8 1]) elT22 rfl rfl (fun _ _ => rfl) rfl rfl rfl ?_ fun b88 => ?_
                  · conv => whnf
                    refine cond_T ?_
                    conv => whnf
                  obtain ⟨x89, q89, hm⟩ := bnd hm
                  conv => whnf
                  refine call_fn (Fn.lend Try.call12 (fun K89_1 l89_1 f89_1 => (fanout_Stream_Write_nil_ok q89 f89_1 rfl)) (by exact fun _ _ _ _ h => h)) (.cons r0 .nil) ?_
                  rintro _ K89 _ l89 ⟨_, rfl, rfl, rfl⟩
                  obtain ⟨x90, q90, hm⟩ := bnd hm
                  conv => whnf
                  refine call_fn (base_Is_ok q90) .nil ?_
                  rintro _ K90 _ l90 ⟨rfl, rfl⟩
                  conv => whnf
                  refine cond_s (fun g91_24 => ?_) (fun g91_24 => ?_)
                  · replace hm := ift g91_24 hm
                    conv => whnf
                    refine cond_t g91_24 ?_
                    obtain ⟨x93, q93, hm⟩ := bnd hm
                    conv => whnf
                    refine call_fn (fanout_Stream_End_nil_ok q93) .nil ?_
                    rintro _ K93 _ l93 ⟨rfl, rfl⟩
                    conv => whnf
                    refine cond_t g91_24 ?_
                    conv => whnf
                    refine eq_err rfl ?_
                    conv => whnf
                    refine cond_t g91_24 ?_
                    obtain rfl := si hm
                    conv => whnf
                    refine EndStep.mk _ ((((((((l17.trans l28).trans lt0).trans l74).trans l78).trans l84).trans l89).trans l90).trans l93) ⟨rfl, rfl⟩ (ConvH.of (.cons r2 .nil))
                  · replace hm := iff_ g91_24 hm
                    conv => whnf
                    refine cond_f g91_24 ?_
                    conv => whnf
                    refine cond_f g91_24 ?_
                    conv => whnf
                    refine cond_f g91_24 ?_
                    obtain rfl := si hm
                    conv => whnf
                    refine EndStep.mk _ (((((((l17.trans l28).trans lt0).trans l74).trans l78).trans l84).trans l89).trans l90) ⟨rfl, rfl⟩ (ConvH.of (.cons r2 .nil))
      · rw [hq28] at p28 hm
        obtain ⟨b28_0, a28_1, c28_1, m28_2, rfl, h28_1, rfl⟩ := p28
        replace hm := oe_s hm
        conv => whnf
        refine neq_err rfl ?_
        conv => whnf
        refine cond_go rfl ?_
        conv => whnf
        refine cond_s (fun w32 => ?_) (fun w32 => ?_)
        · replace hm := ift w32 hm
          obtain rfl := si hm
          conv => whnf
          refine EndStep.mk _ (l17.trans l28) ⟨rfl, rfl⟩ (ConvH.of (.cons r3 .nil))
        · replace hm := iff_ w32 hm
          conv => whnf
          refine RStep.of (len_slice rfl ?_)
          obtain ⟨hk0, hm⟩ := chkb hm
          obtain ⟨s0, hl0, hm⟩ := bnd hm
          conv => whnf
          refine code_cut (σ := (Int × S_fanout_Stream) × Option Addr × Nat × Nat) [4, 8, 10, 11, 12, 35, 36, 37, 38, 39, 40, 41, 42, 43, 44, 45, 46, 47, 48, 49, 50, 51, 52, 53, 54, 55, 56, 57, 58, 59, 60, 61, 62, 63, 64, 65, 66, 67, 68] (fun (t0, at0_1_0, ct0_1_0, mt0_1_1) => [(8, .int .i64 t0.1)]) (fun (t0, at0_1_0, ct0_1_0, mt0_1_1) => [Cells b28_0 77 [.int .i64 t0.2.limit, .int .i64 t0.2.state, .slice at0_1_0 t0.2.data.length ct0_1_0, .map (some mt0_1_1)], OwnL eU at0_1_0 5 1 ct0_1_0 t0.2.data, MapE intK (fun x => .int .i64 x) mt0_1_1 t0.2.offsets, F]) (fun zz K1 => match zz with | (t0, at0_1_0, ct0_1_0, mt0_1_1) => (0 < t0.2.data.length → Has at0_1_0) ∧ s0 = Fl.go t0) ?_ ?_
          · refine block_go rfl ?_
            conv => whnf
            refine loop_rule (σ := Nat × Int × S_fanout_Stream × Option Addr × Nat × Nat) [4, 8, 10, 11, 12, 35, 36, 37, 38, 39, 40, 41, 42, 43, 44, 45, 46, 47, 48, 49, 50, 51, 52, 53, 54, 55, 56, 57, 58, 59, 60, 61, 62, 63, 64, 65, 66, 67, 68] (fun (i0, y0_0, y0_1, ay0_1_0, cy0_1_0, my0_1_1) => [(35, .int .i64 (i0 : Int)), (8, .int .i64 y0_0)]) (fun (i0, y0_0, y0_1, ay0_1_0, cy0_1_0, my0_1_1) => [Cells b28_0 77 [.int .i64 y0_1.limit, .int .i64 y0_1.state, .slice ay0_1_0 y0_1.data.length cy0_1_0, .map (some my0_1_1)], OwnL eU ay0_1_0 5 1 cy0_1_0 y0_1.data, MapE intK (fun x => .int .i64 x) my0_1_1 y0_1.offsets, F]) (fun zz K1 => match zz with | (i0, y0_0, y0_1, ay0_1_0, cy0_1_0, my0_1_1) => (0 < y0_1.data.length → Has ay0_1_0) ∧ law28_FanoutLimits_L0b limit (parts.drop i0) i0 y0_0 y0_1 = some s0) (fun zz => parts.length - zz.1) (0, 0, o28, a28_1, c28_1, m28_2) rfl ⟨rfl, rfl, trivial⟩ (ConvH.of (.cons r0 (.cons r0 (.cons r0 (.cons r0 .nil))))) ⟨h28_1, hl0⟩ ?_
            clear hl0
            rintro ⟨i0, y0_0, y0_1, ay0_1_0, cy0_1_0, my0_1_1⟩ Kb0 lk0 ⟨hy0_1_0, hl0⟩ j0
            conv => whnf
            refine cond_go rfl ?_
            conv => whnf
            refine cond_s (fun w0 => ?_) (fun w0 => ?_)
            · obtain ⟨e0, hx0, hd0⟩ := ltx w0
              rw [hd0, law28_FanoutLimits_L0b.eq_2] at hl0
              conv => whnf
              refine block_go rfl ?_
              conv => whnf
              refine RStep.ofN (index_addr rfl rfl (hasK (hp1_0.mono ((l17.trans l28).trans lk0)).rd hx0) (nn _) (lt_ofN hx0) ?_)
              conv => whnf
              refine RStep.of (load_rd i0 0 _ _ (hp1_0.mono ((l17.trans l28).trans lk0)).rd rfl (mp hx0) rfl rfl ?_)
              obtain ⟨h40, hl0⟩ := chkb hl0
              conv => whnf
              refine conv_int rfl rfl h40 ?_
              obtain ⟨h43, hl0⟩ := chkb hl0
              conv => whnf
              refine mk_slice (enc := eU) ((0 : UInt8) : UInt8) elT22 rfl rfl rfl h43 fun b43 => ?_
              obtain ⟨x44, q44, hl0⟩ := bnd hl0
              conv => whnf
              refine call_fn (Fn.lend Try.call12 (fun K44_1 l44_1 f44_1 => (fanout_Stream_Write_ok q44 hy0_1_0 f44_1 List.length_replicate.symm)) (by exact fun _ _ _ _ h => h)) (.cons r0 (.cons r0 (.cons r0 (.cons r0 .nil)))) ?_
              rintro _ K44 _ l44 ⟨_, rfl, a44_0, c44_0, m44_1, rfl, h44_0, rfl⟩
              obtain ⟨h47, hl0⟩ := chkb hl0
              conv => whnf
              refine int_in h47 ?_
              conv => whnf
              refine cond_go rfl ?_
              conv => whnf
              refine cond_s (fun w49 => ?_) (fun w49 => ?_)
              · replace hl0 := ift w49 hl0
                obtain ⟨x51, q51, hl0⟩ := bnd hl0
                conv => whnf
                refine call_fn (base_Is_ok q51) .nil ?_
                rintro _ K51 _ l51 ⟨rfl, rfl⟩
                conv => whnf
                refine un_not ?_
                conv => whnf
                refine cond_go rfl ?_
                conv => whnf
                refine cond_s (fun w52 => ?_) (fun w52 => ?_)
                · replace hl0 := ift (not_t (ni_t w52)) hl0
                  obtain rfl := si hl0
                  replace hm := elr hm
                  obtain rfl := si hm
                  conv => whnf
                  refine EndStep.mk _ ((((l17.trans l28).trans lk0).trans l44).trans l51) ⟨rfl, rfl⟩ (ConvH.of (.cons r4 .nil))
                · replace hl0 := iff_ (not_f (ni_f w52)) hl0
                  obtain ⟨x59, q59, hl0⟩ := bnd hl0
                  conv => whnf
                  refine call_fn (fanout_Stream_Written_ok q59 h44_0) (.cons r1 (.cons r1 (.cons r1 .nil))) ?_
                  rintro _ K59 _ l59 ⟨rfl, rfl⟩
                  conv => whnf
                  refine neq_int ?_
                  obtain ⟨x67, e67, hl0⟩ := bnd hl0
                  conv => whnf
                  refine cond_s (fun g62_19 => ?_) (fun g62_19 => ?_)
                  · replace e67 := ift g62_19 e67
                    conv => whnf
                    refine cond_t g62_19 ?_
                    conv => whnf
                    refine cond_t g62_19 ?_
                    conv => whnf
                    refine cond_t g62_19 ?_
                    conv => whnf
                    refine cond_t g62_19 ?_
                    conv => whnf
                    refine cond_go rfl ?_
                    conv => whnf
                    refine cond_T ?_
                    replace hl0 := ift (si e67).symm hl0
                    obtain rfl := si hl0
                    replace hm := elr hm
                    obtain rfl := si hm
                    conv => whnf
                    refine EndStep.mk _ (((((l17.trans l28).trans lk0).trans l44).trans l51).trans l59) ⟨rfl, rfl⟩ (ConvH.of (.cons r4 .nil))
                  · replace e67 := iff_ g62_19 e67
                    conv => whnf
                    refine cond_f g62_19 ?_
                    obtain ⟨x64, q64, e67⟩ := bnd e67
                    conv => whnf
                    refine call_fn (fanout_Stream_Least_ok q64 h44_0) (.cons r0 (.cons r0 (.cons r0 .nil))) ?_
                    rintro _ K64 _ l64 ⟨rfl, rfl⟩
                    conv => whnf
                    refine cond_f g62_19 ?_
                    conv => whnf
                    refine cond_f g62_19 ?_
                    conv => whnf
                    refine neq_int ?_
                    conv => whnf
                    refine cond_f g62_19 ?_
                    conv => whnf
                    refine cond_go rfl ?_
                    conv => whnf
                    refine cond_s (fun w67 => ?_) (fun w67 => ?_)
                    · replace hl0 := ift ((si e67).symm.trans w67) hl0
                      obtain rfl := si hl0
                      replace hm := elr hm
                      obtain rfl := si hm
                      conv => whnf
                      refine EndStep.mk _ ((((((l17.trans l28).trans lk0).trans l44).trans l51).trans l59).trans l64) ⟨rfl, rfl⟩ (ConvH.of (.cons r4 .nil))
                    · replace hl0 := iff_ ((si e67).symm.trans w67) hl0
                      conv => whnf
                      refine int_in (cnt hx0 hk0) ?_
                      conv => whnf
                      refine RoundStep.mk (i0 + 1, y0_0, x44.2, a44_0, c44_0, m44_1) ⟨rfl, rfl, trivial⟩ (by repeat (first | exact trivial | refine And.intro rfl ?_)) (ConvH.of (.cons r0 (.cons r0 (.cons r0 (.cons r1 .nil))))) ((((lk0.trans l44).trans l51).trans l59).trans l64) (ltm hx0) ⟨h44_0, hl0⟩
              · replace hl0 := iff_ w49 hl0
                conv => whnf
                refine neq_err rfl ?_
                conv => whnf
                refine cond_go rfl ?_
                conv => whnf
                refine cond_s (fun w54 => ?_) (fun w54 => ?_)
                · replace hl0 := ift w54 hl0
                  obtain rfl := si hl0
                  replace hm := elr hm
                  obtain rfl := si hm
                  conv => whnf
                  refine EndStep.mk _ (((l17.trans l28).trans lk0).trans l44) ⟨rfl, rfl⟩ (ConvH.of (.cons r4 .nil))
                · replace hl0 := iff_ w54 hl0
                  obtain ⟨h57, hl0⟩ := chkb hl0
                  conv => whnf
                  refine int_in h57 ?_
                  obtain ⟨x59, q59, hl0⟩ := bnd hl0
                  conv => whnf
                  refine call_fn (fanout_Stream_Written_ok q59 h44_0) (.cons r1 (.cons r1 (.cons r1 .nil))) ?_
                  rintro _ K59 _ l59 ⟨rfl, rfl⟩
                  conv => whnf
                  refine neq_int ?_
                  obtain ⟨x67, e67, hl0⟩ := bnd hl0
                  conv => whnf
                  refine cond_s (fun g62_19 => ?_) (fun g62_19 => ?_)
                  · replace e67 := ift g62_19 e67
                    conv => whnf
                    refine cond_t g62_19 ?_
                    conv => whnf
                    refine cond_t g62_19 ?_
                    conv => whnf
                    refine cond_t g62_19 ?_
                    conv => whnf
                    refine cond_t g62_19 ?_
                    conv => whnf
                    refine cond_go rfl ?_
                    conv => whnf
                    refine cond_T ?_
                    replace hl0 := ift (si e67).symm hl0
                    obtain rfl := si hl0
                    replace hm := elr hm
                    obtain rfl := si hm
                    conv => whnf
                    refine EndStep.mk _ ((((l17.trans l28).trans lk0).trans l44).trans l59) ⟨rfl, rfl⟩ (ConvH.of (.cons r4 .nil))
                  · replace e67 := iff_ g62_19 e67
                    conv => whnf
                    refine cond_f g62_19 ?_
                    obtain ⟨x64, q64, e67⟩ := bnd e67
                    conv => whnf
                    refine call_fn (fanout_Stream_Least_ok q64 h44_0) (.cons r0 (.cons r0 (.cons r0 .nil))) ?_
                    rintro _ K64 _ l64 ⟨rfl, rfl⟩
                    conv => whnf
                    refine cond_f g62_19 ?_
                    conv => whnf
                    refine cond_f g62_19 ?_
                    conv => whnf
                    refine neq_int ?_
                    conv => whnf
                    refine cond_f g62_19 ?_
                    conv => whnf
                    refine cond_go rfl ?_
                    conv => whnf
                    refine cond_s (fun w67 => ?_) (fun w67 => ?_)
                    · replace hl0 := ift ((si e67).symm.trans w67) hl0
                      obtain rfl := si hl0
                      replace hm := elr hm
                      obtain rfl := si hm
                      conv => whnf
                      refine EndStep.mk _ (((((l17.trans l28).trans lk0).trans l44).trans l59).trans l64) ⟨rfl, rfl⟩ (ConvH.of (.cons r4 .nil))
                    · replace hl0 := iff_ ((si e67).symm.trans w67) hl0
                      conv => whnf
                      refine int_in (cnt hx0 hk0) ?_
                      conv => whnf
                      refine RoundStep.mk (i0 + 1, (y0_0 + e0), x44.2, a44_0, c44_0, m44_1) ⟨rfl, rfl, trivial⟩ (by repeat (first | exact trivial | refine And.intro rfl ?_)) (ConvH.of (.cons r0 (.cons r0 (.cons r0 (.cons r1 .nil))))) (((lk0.trans l44).trans l59).trans l64) (ltm hx0) ⟨h44_0, hl0⟩
            · rw [lty w0, law28_FanoutLimits_L0b.eq_1] at hl0
              conv => whnf
              refine cond_T ?_
              conv => whnf
              refine MeetStep.mk ((y0_0, y0_1), ay0_1_0, cy0_1_0, my0_1_1) ⟨rfl, trivial⟩ (by repeat (first | exact trivial | refine And.intro rfl ?_)) (ConvH.of (.cons r0 (.cons r0 (.cons r0 (.cons r0 .nil))))) lk0 ⟨hy0_1_0, (si hl0).symm⟩
          · rintro ⟨t0, at0_1_0, ct0_1_0, mt0_1_1⟩ Kt0 lt0 ⟨ht0_1_0, rfl⟩ j0
            replace hm := elg hm
            obtain ⟨h72, hm⟩ := chkb hm
            conv => whnf
            refine int_in h72 ?_
            obtain ⟨h73, hm⟩ := chkb hm
            conv => whnf
            refine mk_slice (enc := eU) ((0 : UInt8) : UInt8) elT22 rfl rfl rfl h73 fun b73 => ?_
            obtain ⟨x74, q74, hm⟩ := bnd hm
            conv => whnf
            refine call_fn (Fn.lend Try.call12 (fun K74_1 l74_1 f74_1 => (fanout_Stream_Write_ok q74 ht0_1_0 f74_1 List.length_replicate.symm)) (by exact fun _ _ _ _ h => h)) (.cons r0 (.cons r0 (.cons r0 (.cons r0 .nil)))) ?_
            rintro _ K74 _ l74 ⟨_, rfl, a74_0, c74_0, m74_1, rfl, h74_0, rfl⟩
            conv => whnf
            refine neq_err rfl ?_
            obtain ⟨x81, e81, hm⟩ := bnd hm
            conv => whnf
            refine cond_s (fun g76_22 => ?_) (fun g76_22 => ?_)
            · replace e81 := ift g76_22 e81
              conv => whnf
              refine cond_t g76_22 ?_
              conv => whnf
              refine cond_t g76_22 ?_
              conv => whnf
              refine cond_t g76_22 ?_
              conv => whnf
              refine cond_t g76_22 ?_
              replace hm := ift (si e81).symm hm
              conv => whnf
              refine cond_T ?_
              conv => whnf
              refine cond_T ?_
              conv => whnf
              refine cond_T ?_
              conv => whnf
              refine cond_T ?_
              conv => whnf
              refine cond_go rfl ?_
              conv => whnf
              refine cond_T ?_
              obtain rfl := si hm
              conv => whnf
              refine EndStep.mk _ (((l17.trans l28).trans lt0).trans l74) ⟨rfl, rfl⟩ (ConvH.of (.cons r4 .nil))
            · replace e81 := iff_ g76_22 e81
              conv => whnf
              refine cond_f g76_22 ?_
              obtain ⟨x78, q78, e81⟩ := bnd e81
              conv => whnf
              refine call_fn (fanout_Stream_Written_ok q78 h74_0) (.cons r1 (.cons r1 (.cons r1 .nil))) ?_
              rintro _ K78 _ l78 ⟨rfl, rfl⟩
              conv => whnf
              refine cond_f g76_22 ?_
              conv => whnf
              refine cond_f g76_22 ?_
              conv => whnf
              refine neq_int ?_
              conv => whnf
              refine cond_f g76_22 ?_
              conv => whnf
              refine cond_s (fun g82_22 => ?_) (fun g82_22 => ?_)
              · replace hm := ift ((si e81).symm.trans g82_22) hm
                conv => whnf
                refine cond_t g82_22 ?_
                conv => whnf
                refine cond_t g82_22 ?_
                conv => whnf
                refine cond_t g82_22 ?_
                conv => whnf
                refine cond_go rfl ?_
                conv => whnf
                refine cond_T ?_
                obtain rfl := si hm
                conv => whnf
                refine EndStep.mk _ ((((l17.trans l28).trans lt0).trans l74).trans l78) ⟨rfl, rfl⟩ (ConvH.of (.cons r4 .nil))
              · replace hm := iff_ ((si e81).symm.trans g82_22) hm
                conv => whnf
                refine cond_f g82_22 ?_
                obtain ⟨x84, q84, hm⟩ := bnd hm
                conv => whnf
                refine call_fn (fanout_Stream_Write_ok q84 h74_0 RdC.nil rfl) (.cons r0 (.cons r0 (.cons r0 .nil))) ?_
                rintro _ K84 _ l84 ⟨a84_0, c84_0, m84_1, rfl, h84_0, rfl⟩
                conv => whnf
                refine cond_f g82_22 ?_
                conv => whnf
                refine neq_err rfl ?_
                conv => whnf
                refine cond_f g82_22 ?_
                conv => whnf
                refine cond_go rfl ?_
                conv => whnf
                refine cond_s (fun w86 => ?_) (fun w86 => ?_)
                · replace hm := ift w86 hm
                  obtain rfl := si hm
                  conv => whnf
                  refine EndStep.mk _ (((((l17.trans l28).trans lt0).trans l74).trans l78).trans l84) ⟨rfl, rfl⟩ (ConvH.of (.cons r4 .nil))
                · replace hm := iff_ w86 hm
                  conv => whnf
                  refine bsO (len := 1) (enc := eU) (l := ([(1 : UInt8)] : Str)) (cl := [.int .u8 1]) elT22 rfl rfl (fun _ _ => rfl) rfl rfl rfl ?_ fun b88 => ?_
                  · conv => whnf
                    refine cond_T ?_
                    conv => whnf
                  obtain ⟨x89, q89, hm⟩ := bnd hm
                  conv => whnf
                  refine call_fn (Fn.lend Try.call12 (fun K89_1 l89_1 f89_1 => (fanout_Stream_Write_ok q89 h84_0 f89_1 rfl)) (by exact fun _ _ _ _ h => h)) (.cons r0 (.cons r0 (.cons r0 (.cons r0 .nil)))) ?_
                  rintro _ K89 _ l89 ⟨_, rfl, a89_0, c89_0, m89_1, rfl, h89_0, rfl⟩
                  obtain ⟨x90, q90, hm⟩ := bnd hm
                  conv => whnf
                  refine call_fn (base_Is_ok q90) .nil ?_
                  rintro _ K90 _ l90 ⟨rfl, rfl⟩
                  conv => whnf
                  refine cond_s (fun g91_24 => ?_) (fun g91_24 => ?_)
                  · replace hm := ift g91_24 hm
                    conv => whnf
                    refine cond_t g91_24 ?_
                    obtain ⟨x93, q93, hm⟩ := bnd hm
                    conv => whnf
                    refine call_fn (fanout_Stream_End_ok q93 h89_0) (.cons r1 (.cons r1 (.cons r1 .nil))) ?_
                    rintro _ K93 _ l93 ⟨a93_0, c93_0, m93_1, rfl, h93_0, rfl⟩
                    conv => whnf
                    refine cond_t g91_24 ?_
                    conv => whnf
                    refine eq_err rfl ?_
                    conv => whnf
                    refine cond_t g91_24 ?_
                    obtain rfl := si hm
                    conv => whnf
                    refine EndStep.mk _ ((((((((l17.trans l28).trans lt0).trans l74).trans l78).trans l84).trans l89).trans l90).trans l93) ⟨rfl, rfl⟩ (ConvH.of (.cons r5 .nil))
                  · replace hm := iff_ g91_24 hm
                    conv => whnf
                    refine cond_f g91_24 ?_
                    conv => whnf
                    refine cond_f g91_24 ?_
                    conv => whnf
                    refine cond_f g91_24 ?_
                    obtain rfl := si hm
                    conv => whnf
                    refine EndStep.mk _ (((((((l17.trans l28).trans lt0).trans l74).trans l78).trans l84).trans l89).trans l90) ⟨rfl, rfl⟩ (ConvH.of (.cons r5 .nil))
