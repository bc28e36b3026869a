/- Functions of the program: mirrors, and that a call returns what the mirror says. Printed by gen.py. -/
import Derived.Test.YtpmdpondlmkojaaShelf
import Derived.Test.YtpmdpondlmkojaaSL19
import Derived.KernelRfl
import Derived.Test.YtpmdpondlmkojaaProg
set_option linter.unusedVariables false
set_option linter.unusedSimpArgs false
open Go Go.SL Go.Proofs
set_option maxRecDepth 30000
structure S_law28_Step where
  What : UInt8
  ID : Int
  N : Int
  Data : Str
def S_law28_Step.R : Rp S_law28_Step := fun K cs x => ∃ a_0 : Option Addr, ∃ c_0 : Nat, cs = [.int .u8 (x.What.toNat : Int), .int .i64 x.ID, .int .i64 x.N, .slice a_0 x.Data.length c_0] ∧ RdC eU K a_0 c_0 1 x.Data
theorem S_law28_Step.R_ok : RpOK 4 S_law28_Step.R :=
  ⟨fun hk ⟨a_0, c_0, e, h_0⟩ => ⟨a_0, c_0, e, (h_0.mono hk)⟩, fun ⟨a_0, c_0, e, h_0⟩ => by simp [e], fun ⟨a_0, c_0, e, h_0⟩ v hv => by rw [e] at hv; simp at hv; rcases hv with rfl | rfl | rfl | rfl <;> rfl⟩
structure S_fanout_Stream where
  limit : Int
  state : Int
  data : Str
  offsets : (List (Int × Int))
theorem elT22 : ElT Try.prog 22 5 1 := ElT.mk' rfl rfl rfl rfl rfl
theorem elT36 : ElT Try.prog 36 3 1 := ElT.mk' rfl rfl rfl rfl rfl
noncomputable def fanout_New (limit : Int) : Option (Option S_fanout_Stream × Err) :=
  if (decide (limit < 1) || decide (limit > 65536)) then
  some (none, (some 1))
  else
  some ((some (⟨limit, 1, [], []⟩ : S_fanout_Stream)), none)
set_option maxHeartbeats 8000000 in
theorem fanout_New_ok {limit : Int} {K : Hp} {r : Option S_fanout_Stream × Err}
    (hm : fanout_New limit = some r)  :
    Fn Try.prog 11 [.int .i64 limit] K [] (fun v K' H' => match r.1 with | none => (v = .tuple #[.pointer none, errV 44 r.2] ∧ H' = []) | some ro => (∃ br_0 : Nat, ∃ ar_1 : Option Addr, ∃ cr_1 : Nat, ∃ mr_2 : Nat, v = .tuple #[.pointer (some ⟨br_0, 0, none⟩), errV 44 r.2] ∧ (0 < ro.data.length → Has ar_1) ∧ H' = [Cells br_0 77 [.int .i64 ro.limit, .int .i64 ro.state, .slice ar_1 ro.data.length cr_1, .map (some mr_2)], OwnL eU ar_1 5 1 cr_1 ro.data, MapE intK (fun x => .int .i64 x) mr_2 ro.offsets])) := by
  refine Fn.enter Try.func11 Try.call11 rfl fun F => ?_
  unfold fanout_New at hm
  conv => whnf
  refine cond_s (fun g6_1 => ?_) (fun g6_1 => ?_)
  · conv => whnf
    refine cond_t g6_1 ?_
    conv => whnf
    refine cond_t g6_1 ?_
    conv => whnf
    refine cond_go rfl ?_
    conv => whnf
    refine cond_T ?_
    replace hm := ift (or_t g6_1) hm
    conv => whnf
    refine mk_iface rfl ?_
    obtain rfl := si hm
    conv => whnf
    refine EndStep.mk _ (Hp.Le.refl _) ⟨rfl, rfl⟩ (ConvH.of (.cons r0 .nil))
  · conv => whnf
    refine cond_f g6_1 ?_
    conv => whnf
    refine cond_f g6_1 ?_
    conv => whnf
    refine cond_go rfl ?_
    conv => whnf
    refine cond_s (fun w9 => ?_) (fun w9 => ?_)
    · replace hm := ift (or_u g6_1 w9) hm
      conv => whnf
      refine mk_iface rfl ?_
      obtain rfl := si hm
      conv => whnf
      refine EndStep.mk _ (Hp.Le.refl _) ⟨rfl, rfl⟩ (ConvH.of (.cons r0 .nil))
    · replace hm := iff_ (or_f g6_1 w9) hm
      conv => whnf
      refine makeMap_rule intK (fun x => .int .i64 x) fun b12 => ?_
      conv => whnf
      refine build_struct rfl rfl ?_
      conv => whnf
      refine cond_T ?_
      conv => whnf
      refine cond_T ?_
      conv => whnf
      refine cond_T ?_
      conv => whnf
      refine box_rule ?_
      intro b14
      obtain rfl := si hm
      conv => whnf
      refine nilE eU 5 1 ?_
      refine EndStep.mk _ (Hp.Le.refl _) ⟨b14, none, 0, b12, rfl, (fun h => by simp at h), rfl⟩ (ConvH.of (.cons r1 (.cons r0 (.cons r0 (.cons r0 .nil)))))

noncomputable def fanout_Stream_open (s : S_fanout_Stream) : Option (Err) :=
  if decide (s.state ≠ 1) then
  some (some 6)
  else
  some none
set_option maxHeartbeats 8000000 in
theorem fanout_Stream_open_ok {s : S_fanout_Stream} {b0 : Nat} {ap0_0 : Option Addr} {cp0_0 : Nat} {mp0_1 : Nat} {K : Hp} {r : Err}
    (hm : fanout_Stream_open s = some r) (hp0_0 : (0 < s.data.length → Has ap0_0)) :
    Fn Try.prog 36 [.pointer (some ⟨b0, 0, none⟩)] K [Cells b0 77 [.int .i64 s.limit, .int .i64 s.state, .slice ap0_0 s.data.length cp0_0, .map (some mp0_1)], OwnL eU ap0_0 5 1 cp0_0 s.data, MapE intK (fun x => .int .i64 x) mp0_1 s.offsets] (fun v K' H' => v = errV 44 r ∧ H' = [Cells b0 77 [.int .i64 s.limit, .int .i64 s.state, .slice ap0_0 s.data.length cp0_0, .map (some mp0_1)], OwnL eU ap0_0 5 1 cp0_0 s.data, MapE intK (fun x => .int .i64 x) mp0_1 s.offsets]) := by
  refine Fn.enter Try.func36 Try.call36 rfl fun F => ?_
  unfold fanout_Stream_open at hm
  conv => whnf
  refine block_go rfl ?_
  conv => whnf
  refine eq_ptr_nil rfl ?_
  conv => whnf
  refine cond_go rfl ?_
  conv => whnf
  refine cond_F ?_
  conv => whnf
  refine nil_check ?_
  conv => whnf
  refine field_addr rfl ?_
  conv => whnf
  refine RStep.of (load1_s r0 rfl rfl ?_)
  conv => whnf
  refine neq_int ?_
  conv => whnf
  refine cond_go rfl ?_
  conv => whnf
  refine cond_s (fun w7 => ?_) (fun w7 => ?_)
  · replace hm := ift w7 hm
    conv => whnf
    refine mk_iface rfl ?_
    obtain rfl := si hm
    conv => whnf
    refine EndStep.mk _ (Hp.Le.refl _) ⟨rfl, rfl⟩ (ConvH.of (.cons r0 (.cons r0 (.cons r0 (.cons r0 .nil)))))
  · replace hm := iff_ w7 hm
    obtain rfl := si hm
    conv => whnf
    refine EndStep.mk _ (Hp.Le.refl _) ⟨rfl, rfl⟩ (ConvH.of (.cons r0 (.cons r0 (.cons r0 (.cons r0 .nil)))))

noncomputable def fanout_Stream_Write (s : S_fanout_Stream) (b : Str) : Option (Err × S_fanout_Stream) :=
  (fanout_Stream_open s).bind fun x7 =>
  if x7.isSome then
  some (x7, s)
  else
  (chk (InI ((s.data.length : Int) + (b.length : Int)))).bind fun _ =>
  if decide (((s.data.length : Int) + (b.length : Int)) > s.limit) then
  some ((some 5), s)
  else
  (chk (s.data.length + b.length ≤ lim)).bind fun _ =>
  some (none, (⟨s.limit, s.state, (s.data ++ b), s.offsets⟩ : S_fanout_Stream))
set_option maxHeartbeats 8000000 in
theorem fanout_Stream_Write_ok {s : S_fanout_Stream} {b : Str} {b0 : Nat} {ap0_0 : Option Addr} {cp0_0 : Nat} {mp0_1 : Nat} {ap1_0 : Option Addr} {cp1_0 : Nat} {n1 : Nat} {K : Hp} {r : Err × S_fanout_Stream}
    (hm : fanout_Stream_Write s b = some r) (hp0_0 : (0 < s.data.length → Has ap0_0)) (hp1_0 : RdC eU K ap1_0 cp1_0 1 b) (en1 : n1 = b.length) :
    Fn Try.prog 12 [.pointer (some ⟨b0, 0, none⟩), .slice ap1_0 n1 cp1_0] K [Cells b0 77 [.int .i64 s.limit, .int .i64 s.state, .slice ap0_0 s.data.length cp0_0, .map (some mp0_1)], OwnL eU ap0_0 5 1 cp0_0 s.data, MapE intK (fun x => .int .i64 x) mp0_1 s.offsets] (fun v K' H' => ∃ ar_0 : Option Addr, ∃ cr_0 : Nat, ∃ mr_1 : Nat, v = errV 44 r.1 ∧ (0 < r.2.data.length → Has ar_0) ∧ H' = [Cells b0 77 [.int .i64 r.2.limit, .int .i64 r.2.state, .slice ar_0 r.2.data.length cr_0, .map (some mr_1)], OwnL eU ar_0 5 1 cr_0 r.2.data, MapE intK (fun x => .int .i64 x) mr_1 r.2.offsets]) := by
  subst en1
  refine Fn.enter Try.func12 Try.call12 rfl fun F => ?_
  unfold fanout_Stream_Write at hm
  obtain ⟨x7, q7, hm⟩ := bnd hm
  conv => whnf
  refine call_fn (fanout_Stream_open_ok q7 hp0_0) (.cons r0 (.cons r0 (.cons r0 .nil))) ?_
  rintro _ K7 _ l7 ⟨rfl, rfl⟩
  conv => whnf
  refine neq_err rfl ?_
  conv => whnf
  refine cond_go rfl ?_
  conv => whnf
  refine cond_s (fun w9 => ?_) (fun w9 => ?_)
  · replace hm := ift w9 hm
    obtain rfl := si hm
    conv => whnf
    refine EndStep.mk _ l7 ⟨ap0_0, cp0_0, mp0_1, rfl, hp0_0, rfl⟩ (ConvH.of (.cons r0 (.cons r0 (.cons r0 (.cons r0 .nil)))))
  · replace hm := iff_ w9 hm
    conv => whnf
    refine draw_go ⟨⟨[], false⟩, _, [(_, _)]⟩ (by kernel_rfl) ⟨Hp.Le.refl _, (ConvH.of (.cons r0 .nil))⟩ ?_
    conv => whnf
    refine nil_check ?_
    conv => whnf
    refine field_addr rfl ?_
    conv => whnf
    refine load1_l m0 rfl rfl ?_
    conv => whnf
    refine len_slice rfl ?_
    conv => whnf
    refine len_slice rfl ?_
    obtain ⟨h18, hm⟩ := chkb hm
    conv => whnf
    refine int_in h18 ?_
    conv => whnf
    refine nil_check ?_
    conv => whnf
    refine field_addr rfl ?_
    conv => whnf
    refine load1_l m0 rfl rfl ?_
    conv => whnf
    refine cond_go rfl ?_
    conv => whnf
    refine cond_s (fun w23 => ?_) (fun w23 => ?_)
    · replace hm := ift w23 hm
      conv => whnf
      refine mk_iface rfl ?_
      obtain rfl := si hm
      conv => whnf
      refine EndStep.mk _ l7 ⟨ap0_0, cp0_0, mp0_1, rfl, hp0_0, rfl⟩ (ConvH.of (.cons r0 (.cons r0 (.cons r0 (.cons r0 .nil)))))
    · replace hm := iff_ w23 hm
      conv => whnf
      refine nil_check ?_
      conv => whnf
      refine field_addr rfl ?_
      conv => whnf
      refine RStep.of (load1_s r0 rfl rfl ?_)
      obtain ⟨h31, hm⟩ := chkb hm
      conv => whnf
      refine apE rfl r1 elT22 (src_k rfl (hp1_0.mono l7).rd rfl) h31 ?_
      intro a31 c31 o31
      conv => whnf
      refine nil_check ?_
      conv => whnf
      refine field_addr rfl ?_
      conv => whnf
      refine store_rule r1 rfl ?_
      conv => whnf
      refine ⟨rfl, rfl, (Nat.le_of_ble_eq_true rfl), ?_⟩
      obtain rfl := si hm
      conv => whnf
      refine EndStep.mk _ l7 ⟨a31, c31, mp0_1, rfl, o31, rfl⟩ (ConvH.of (.cons r0 (.cons r0 (.cons r0 (.cons r0 .nil)))))

noncomputable def fanout_Stream_open_nil : Option (Err) :=
  some (some 3)
set_option maxHeartbeats 8000000 in
theorem fanout_Stream_open_nil_ok  {K : Hp} {r : Err}
    (hm : fanout_Stream_open_nil = some r)  :
    Fn Try.prog 36 [.pointer none] K [] (fun v K' H' => v = errV 44 r ∧ H' = []) := by
  refine Fn.enter Try.func36 Try.call36 rfl fun F => ?_
  unfold fanout_Stream_open_nil at hm
  conv => whnf
  refine block_go rfl ?_
  conv => whnf
  refine eq_nil_nil rfl ?_
  conv => whnf
  refine cond_go rfl ?_
  conv => whnf
  refine cond_T ?_
  conv => whnf
  refine mk_iface rfl ?_
  obtain rfl := si hm
  conv => whnf
  refine EndStep.mk _ (Hp.Le.refl _) ⟨rfl, rfl⟩ (ConvH.of (.cons r0 .nil))

noncomputable def fanout_Stream_Write_nil (b : Str) : Option (Err) :=
  (fanout_Stream_open_nil).bind fun x7 =>
  if x7.isSome then
  some x7
  else
  none
set_option maxHeartbeats 8000000 in
theorem fanout_Stream_Write_nil_ok {b : Str} {ap1_0 : Option Addr} {cp1_0 : Nat} {n1 : Nat} {K : Hp} {r : Err}
    (hm : fanout_Stream_Write_nil b = some r) (hp1_0 : RdC eU K ap1_0 cp1_0 1 b) (en1 : n1 = b.length) :
    Fn Try.prog 12 [.pointer none, .slice ap1_0 n1 cp1_0] K [] (fun v K' H' => v = errV 44 r ∧ H' = []) := by
  subst en1
  refine Fn.enter Try.func12 Try.call12 rfl fun F => ?_
  unfold fanout_Stream_Write_nil at hm
  obtain ⟨x7, q7, hm⟩ := bnd hm
  conv => whnf
  refine call_fn (fanout_Stream_open_nil_ok q7) .nil ?_
  rintro _ K7 _ l7 ⟨rfl, rfl⟩
  conv => whnf
  refine neq_err rfl ?_
  conv => whnf
  refine cond_go rfl ?_
  conv => whnf
  refine cond_s (fun w9 => ?_) (fun w9 => ?_)
  · replace hm := ift w9 hm
    obtain rfl := si hm
    conv => whnf
    refine EndStep.mk _ l7 ⟨rfl, rfl⟩ (ConvH.of (.cons r0 .nil))
  · replace hm := iff_ w9 hm
    conv => whnf
    refine draw_go ⟨⟨[], false⟩, _, []⟩ (by kernel_rfl) ⟨Hp.Le.refl _, (ConvH.of .nil)⟩ ?_
    cases hm

noncomputable def fanout_Stream_Attach (s : S_fanout_Stream) (id : Int) (fromZ : Int) : Option (Err × S_fanout_Stream) :=
  if (mget s.offsets id).isSome then
  some ((some 4), s)
  else
  if (decide (fromZ < 0) || decide (fromZ > (s.data.length : Int))) then
  some ((some 1), s)
  else
  some (none, (⟨s.limit, s.state, s.data, (mset s.offsets id fromZ)⟩ : S_fanout_Stream))
set_option maxHeartbeats 8000000 in
theorem fanout_Stream_Attach_ok {s : S_fanout_Stream} {id : Int} {fromZ : Int} {b0 : Nat} {ap0_0 : Option Addr} {cp0_0 : Nat} {mp0_1 : Nat} {K : Hp} {r : Err × S_fanout_Stream}
    (hm : fanout_Stream_Attach s id fromZ = some r) (hp0_0 : (0 < s.data.length → Has ap0_0)) :
    Fn Try.prog 13 [.pointer (some ⟨b0, 0, none⟩), .int .i64 id, .int .i64 fromZ] K [Cells b0 77 [.int .i64 s.limit, .int .i64 s.state, .slice ap0_0 s.data.length cp0_0, .map (some mp0_1)], OwnL eU ap0_0 5 1 cp0_0 s.data, MapE intK (fun x => .int .i64 x) mp0_1 s.offsets] (fun v K' H' => ∃ ar_0 : Option Addr, ∃ cr_0 : Nat, ∃ mr_1 : Nat, v = errV 44 r.1 ∧ (0 < r.2.data.length → Has ar_0) ∧ H' = [Cells b0 77 [.int .i64 r.2.limit, .int .i64 r.2.state, .slice ar_0 r.2.data.length cr_0, .map (some mr_1)], OwnL eU ar_0 5 1 cr_0 r.2.data, MapE intK (fun x => .int .i64 x) mr_1 r.2.offsets]) := by
  refine Fn.enter Try.func13 Try.call13 rfl fun F => ?_
  unfold fanout_Stream_Attach at hm
  conv => whnf
  refine eq_ptr_nil rfl ?_
  conv => whnf
  refine cond_go rfl ?_
  conv => whnf
  refine cond_F ?_
  conv => whnf
  refine nil_check ?_
  conv => whnf
  refine field_addr rfl ?_
  conv => whnf
  refine RStep.of (load1_s r0 rfl rfl ?_)
  conv => whnf
  refine RStep.of (lookup_ok (kenc := intK) (venc := (fun x => .int .i64 x)) (z := 0) r2 rfl rfl (key_int rfl) ?_)
  conv => whnf
  refine cond_go rfl ?_
  conv => whnf
  refine cond_s (fun w21 => ?_) (fun w21 => ?_)
  · replace hm := ift w21 hm
    conv => whnf
    refine mk_iface rfl ?_
    obtain rfl := si hm
    conv => whnf
    refine EndStep.mk _ (Hp.Le.refl _) ⟨ap0_0, cp0_0, mp0_1, rfl, hp0_0, rfl⟩ (ConvH.of (.cons r0 (.cons r0 (.cons r0 (.cons r0 .nil)))))
  · replace hm := iff_ w21 hm
    conv => whnf
    refine cond_s (fun g25_6 => ?_) (fun g25_6 => ?_)
    · conv => whnf
      refine cond_t g25_6 ?_
      conv => whnf
      refine cond_t g25_6 ?_
      conv => whnf
      refine cond_t g25_6 ?_
      conv => whnf
      refine cond_t g25_6 ?_
      conv => whnf
      refine cond_t g25_6 ?_
      conv => whnf
      refine cond_t g25_6 ?_
      conv => whnf
      refine cond_t g25_6 ?_
      conv => whnf
      refine cond_go rfl ?_
      conv => whnf
      refine cond_T ?_
      replace hm := ift (or_t g25_6) hm
      conv => whnf
      refine mk_iface rfl ?_
      obtain rfl := si hm
      conv => whnf
      refine EndStep.mk _ (Hp.Le.refl _) ⟨ap0_0, cp0_0, mp0_1, rfl, hp0_0, rfl⟩ (ConvH.of (.cons r0 (.cons r0 (.cons r0 (.cons r0 .nil)))))
    · conv => whnf
      refine cond_f g25_6 ?_
      conv => whnf
      refine cond_f g25_6 ?_
      conv => whnf
      refine nil_check ?_
      conv => whnf
      refine cond_f g25_6 ?_
      conv => whnf
      refine field_addr rfl ?_
      conv => whnf
      refine cond_f g25_6 ?_
      conv => whnf
      refine RStep.of (load1_s r0 rfl rfl ?_)
      conv => whnf
      refine cond_f g25_6 ?_
      conv => whnf
      refine RStep.of (len_slice rfl ?_)
      conv => whnf
      refine cond_f g25_6 ?_
      conv => whnf
      refine cond_f g25_6 ?_
      conv => whnf
      refine cond_go rfl ?_
      conv => whnf
      refine cond_s (fun w33 => ?_) (fun w33 => ?_)
      · replace hm := ift (or_u g25_6 w33) hm
        conv => whnf
        refine mk_iface rfl ?_
        obtain rfl := si hm
        conv => whnf
        refine EndStep.mk _ (Hp.Le.refl _) ⟨ap0_0, cp0_0, mp0_1, rfl, hp0_0, rfl⟩ (ConvH.of (.cons r0 (.cons r0 (.cons r0 (.cons r0 .nil)))))
      · replace hm := iff_ (or_f g25_6 w33) hm
        conv => whnf
        refine nil_check ?_
        conv => whnf
        refine field_addr rfl ?_
        conv => whnf
        refine RStep.of (load1_s r0 rfl rfl ?_)
        conv => whnf
        refine update_rule (kenc := intK) (venc := (fun x => .int .i64 x)) fromZ rfl r2 rfl (key_int rfl) ?_
        obtain rfl := si hm
        conv => whnf
        refine EndStep.mk _ (Hp.Le.refl _) ⟨ap0_0, cp0_0, mp0_1, rfl, hp0_0, rfl⟩ (ConvH.of (.cons r1 (.cons r1 (.cons r0 (.cons r0 .nil)))))

noncomputable def fanout_Stream_Attach_nil (id : Int) (fromZ : Int) : Option (Err) :=
  some (some 3)
set_option maxHeartbeats 8000000 in
theorem fanout_Stream_Attach_nil_ok {id : Int} {fromZ : Int} {K : Hp} {r : Err}
    (hm : fanout_Stream_Attach_nil id fromZ = some r)  :
    Fn Try.prog 13 [.pointer none, .int .i64 id, .int .i64 fromZ] K [] (fun v K' H' => v = errV 44 r ∧ H' = []) := by
  refine Fn.enter Try.func13 Try.call13 rfl fun F => ?_
  unfold fanout_Stream_Attach_nil at hm
  conv => whnf
  refine eq_nil_nil rfl ?_
  conv => whnf
  refine cond_go rfl ?_
  conv => whnf
  refine cond_T ?_
  conv => whnf
  refine mk_iface rfl ?_
  obtain rfl := si hm
  conv => whnf
  refine EndStep.mk _ (Hp.Le.refl _) ⟨rfl, rfl⟩ (ConvH.of (.cons r0 .nil))

noncomputable def fanout_Stream_Read_nil (id : Int) (max : Int) : Option (Str × Int × Err) :=
  some ([], 0, (some 3))
set_option maxHeartbeats 8000000 in
theorem fanout_Stream_Read_nil_ok {id : Int} {max : Int} {K : Hp} {r : Str × Int × Err}
    (hm : fanout_Stream_Read_nil id max = some r)  :
    Fn Try.prog 14 [.pointer none, .int .i64 id, .int .i64 max] K [] (fun v K' H' => ∃ ar_0 : Option Addr, ∃ cr_0 : Nat, v = .tuple #[.slice ar_0 r.1.length cr_0, .int .i64 r.2.1, errV 44 r.2.2] ∧ (0 < r.1.length → Has ar_0) ∧ H' = [OwnL eU ar_0 5 1 cr_0 r.1]) := by
  refine Fn.enter Try.func14 Try.call14 rfl fun F => ?_
  unfold fanout_Stream_Read_nil at hm
  conv => whnf
  refine eq_nil_nil rfl ?_
  conv => whnf
  refine cond_go rfl ?_
  conv => whnf
  refine cond_T ?_
  conv => whnf
  refine mk_iface rfl ?_
  obtain rfl := si hm
  conv => whnf
  refine nilE eU 5 1 ?_
  refine EndStep.mk _ (Hp.Le.refl _) ⟨none, 0, rfl, (fun h => by simp at h), rfl⟩ (ConvH.of (.cons r0 (.cons r0 .nil)))

noncomputable def fanout_Stream_Read (s : S_fanout_Stream) (id : Int) (max : Int) : Option (Str × Int × Err × S_fanout_Stream) :=
  if (!(mget s.offsets id).isSome) then
  some ([], 0, (some 3), s)
  else
  if decide (s.state = 3) then
  some ([], 3, none, s)
  else
  if decide (max > 0) then
  (chk (InI ((s.data.length : Int) - ((mget s.offsets id).getD 0)))).bind fun _ =>
  (chk (InI (((mget s.offsets id).getD 0) + (min max ((s.data.length : Int) - ((mget s.offsets id).getD 0)))))).bind fun _ =>
  (chk (0 ≤ ((mget s.offsets id).getD 0) ∧ ((mget s.offsets id).getD 0) ≤ (((mget s.offsets id).getD 0) + (min max ((s.data.length : Int) - ((mget s.offsets id).getD 0)))) ∧ (((mget s.offsets id).getD 0) + (min max ((s.data.length : Int) - ((mget s.offsets id).getD 0)))) ≤ (s.data.length : Int))).bind fun _ =>
  (chk ((subL s.data ((mget s.offsets id).getD 0) (((mget s.offsets id).getD 0) + (min max ((s.data.length : Int) - ((mget s.offsets id).getD 0))))).length ≤ lim)).bind fun _ =>
  (chk (InI (((mget s.offsets id).getD 0) + (((subL s.data ((mget s.offsets id).getD 0) (((mget s.offsets id).getD 0) + (min max ((s.data.length : Int) - ((mget s.offsets id).getD 0))))).length) : Int)))).bind fun _ =>
  if (decide (s.state = 2) && decide ((((mget s.offsets id).getD 0) + (((subL s.data ((mget s.offsets id).getD 0) (((mget s.offsets id).getD 0) + (min max ((s.data.length : Int) - ((mget s.offsets id).getD 0))))).length) : Int)) = (s.data.length : Int))) then
  some ((subL s.data ((mget s.offsets id).getD 0) (((mget s.offsets id).getD 0) + (min max ((s.data.length : Int) - ((mget s.offsets id).getD 0))))), 2, none, (⟨s.limit, s.state, s.data, (mset s.offsets id (((mget s.offsets id).getD 0) + (((subL s.data ((mget s.offsets id).getD 0) (((mget s.offsets id).getD 0) + (min max ((s.data.length : Int) - ((mget s.offsets id).getD 0))))).length) : Int)))⟩ : S_fanout_Stream))
  else
  some ((subL s.data ((mget s.offsets id).getD 0) (((mget s.offsets id).getD 0) + (min max ((s.data.length : Int) - ((mget s.offsets id).getD 0))))), 1, none, (⟨s.limit, s.state, s.data, (mset s.offsets id (((mget s.offsets id).getD 0) + (((subL s.data ((mget s.offsets id).getD 0) (((mget s.offsets id).getD 0) + (min max ((s.data.length : Int) - ((mget s.offsets id).getD 0))))).length) : Int)))⟩ : S_fanout_Stream))
  else
  (chk (InI (((mget s.offsets id).getD 0) + 0))).bind fun _ =>
  if (decide (s.state = 2) && decide ((((mget s.offsets id).getD 0) + 0) = (s.data.length : Int))) then
  some ([], 2, none, (⟨s.limit, s.state, s.data, (mset s.offsets id (((mget s.offsets id).getD 0) + 0))⟩ : S_fanout_Stream))
  else
  some ([], 1, none, (⟨s.limit, s.state, s.data, (mset s.offsets id (((mget s.offsets id).getD 0) + 0))⟩ : S_fanout_Stream))
set_option maxHeartbeats 8000000 in
theorem fanout_Stream_Read_ok {s : S_fanout_Stream} {id : Int} {max : Int} {b0 : Nat} {ap0_0 : Option Addr} {cp0_0 : Nat} {mp0_1 : Nat} {K : Hp} {r : Str × Int × Err × S_fanout_Stream}
    (hm : fanout_Stream_Read s id max = some r) (hp0_0 : (0 < s.data.length → Has ap0_0)) :
    Fn Try.prog 14 [.pointer (some ⟨b0, 0, none⟩), .int .i64 id, .int .i64 max] K [Cells b0 77 [.int .i64 s.limit, .int .i64 s.state, .slice ap0_0 s.data.length cp0_0, .map (some mp0_1)], OwnL eU ap0_0 5 1 cp0_0 s.data, MapE intK (fun x => .int .i64 x) mp0_1 s.offsets] (fun v K' H' => ∃ ar_0 : Option Addr, ∃ cr_0 : Nat, ∃ ar_1 : Option Addr, ∃ cr_1 : Nat, ∃ mr_2 : Nat, v = .tuple #[.slice ar_0 r.1.length cr_0, .int .i64 r.2.1, errV 44 r.2.2.1] ∧ (0 < r.1.length → Has ar_0) ∧ (0 < r.2.2.2.data.length → Has ar_1) ∧ H' = [OwnL eU ar_0 5 1 cr_0 r.1, Cells b0 77 [.int .i64 r.2.2.2.limit, .int .i64 r.2.2.2.state, .slice ar_1 r.2.2.2.data.length cr_1, .map (some mr_2)], OwnL eU ar_1 5 1 cr_1 r.2.2.2.data, MapE intK (fun x => .int .i64 x) mr_2 r.2.2.2.offsets]) := by
  refine Fn.enter Try.func14 Try.call14 rfl fun F => ?_
  unfold fanout_Stream_Read at hm
  conv => whnf
  refine eq_ptr_nil rfl ?_
  conv => whnf
  refine cond_go rfl ?_
  conv => whnf
  refine cond_F ?_
  conv => whnf
  refine nil_check ?_
  conv => whnf
  refine field_addr rfl ?_
  conv => whnf
  refine RStep.of (load1_s r0 rfl rfl ?_)
  conv => whnf
  refine RStep.of (lookup_ok (kenc := intK) (venc := (fun x => .int .i64 x)) (z := 0) r2 rfl rfl (key_int rfl) ?_)
  conv => whnf
  refine un_not ?_
  conv => whnf
  refine cond_go rfl ?_
  conv => whnf
  refine cond_s (fun w25 => ?_) (fun w25 => ?_)
  · replace hm := ift (not_t (ni_t w25)) hm
    conv => whnf
    refine mk_iface rfl ?_
    obtain rfl := si hm
    conv => whnf
    refine nilE eU 5 1 ?_
    refine EndStep.mk _ (Hp.Le.refl _) ⟨none, 0, ap0_0, cp0_0, mp0_1, rfl, (fun h => by simp at h), hp0_0, rfl⟩ (ConvH.of (.cons r0 (.cons r0 (.cons r0 (.cons r0 (.cons r0 .nil))))))
  · replace hm := iff_ (not_f (ni_f w25)) hm
    conv => whnf
    refine nil_check ?_
    conv => whnf
    refine field_addr rfl ?_
    conv => whnf
    refine RStep.of (load1_s r0 rfl rfl ?_)
    conv => whnf
    refine eq_int ?_
    conv => whnf
    refine cond_go rfl ?_
    conv => whnf
    refine cond_s (fun w31 => ?_) (fun w31 => ?_)
    · replace hm := ift w31 hm
      obtain rfl := si hm
      conv => whnf
      refine nilE eU 5 1 ?_
      refine EndStep.mk _ (Hp.Le.refl _) ⟨none, 0, ap0_0, cp0_0, mp0_1, rfl, (fun h => by simp at h), hp0_0, rfl⟩ (ConvH.of (.cons r0 (.cons r0 (.cons r0 (.cons r0 (.cons r0 .nil))))))
    · replace hm := iff_ w31 hm
      conv => whnf
      refine CStep.ownLe r1 fun hc3 => ?_
      conv => whnf
      refine cond_go rfl ?_
      conv => whnf
      refine cond_s (fun w33 => ?_) (fun w33 => ?_)
      · replace hm := ift w33 hm
        conv => whnf
        refine draw_go ⟨⟨[], false⟩, _, [(_, _)]⟩ (by kernel_rfl) ⟨Hp.Le.refl _, (ConvH.of (.cons r0 .nil))⟩ ?_
        conv => whnf
        refine nil_check ?_
        conv => whnf
        refine field_addr rfl ?_
        conv => whnf
        refine load1_l m0 rfl rfl ?_
        conv => whnf
        refine nil_check ?_
        conv => whnf
        refine field_addr rfl ?_
        conv => whnf
        refine load1_l m0 rfl rfl ?_
        conv => whnf
        refine len_slice rfl ?_
        obtain ⟨h48, hm⟩ := chkb hm
        conv => whnf
        refine int_in h48 ?_
        conv => whnf
        refine min_int ?_
        obtain ⟨h50, hm⟩ := chkb hm
        conv => whnf
        refine int_in h50 ?_
        obtain ⟨h51, hm⟩ := chkb hm
        conv => whnf
        refine sl_part (l := s.data) (lo := (some ((mget s.offsets id).getD 0))) (hi := (some (((mget s.offsets id).getD 0) + (min max ((s.data.length : Int) - ((mget s.offsets id).getD 0)))))) rfl rfl rfl hc3 h51 ?_
        obtain ⟨h52, hm⟩ := chkb hm
        conv => whnf
        refine apn (enc := eU) elT22 (src_part rfl r1 h51 rfl (fun _ => rfl) (fun _ => rfl)) h52 ?_
        intro a52 c52 o52
        conv => whnf
        refine ⟨⟨(Hp.Le.refl _), (ConvH.of (.cons r1 .nil))⟩, ?_⟩
        conv => whnf
        refine RStep.of (len_slice rfl ?_)
        obtain ⟨h56, hm⟩ := chkb hm
        conv => whnf
        refine int_in h56 ?_
        conv => whnf
        refine nil_check ?_
        conv => whnf
        refine field_addr rfl ?_
        conv => whnf
        refine RStep.of (load1_s r1 rfl rfl ?_)
        conv => whnf
        refine update_rule (kenc := intK) (venc := (fun x => .int .i64 x)) (((mget s.offsets id).getD 0) + (((subL s.data ((mget s.offsets id).getD 0) (((mget s.offsets id).getD 0) + (min max ((s.data.length : Int) - ((mget s.offsets id).getD 0))))).length) : Int)) rfl r3 rfl (key_int rfl) ?_
        conv => whnf
        refine nil_check ?_
        conv => whnf
        refine field_addr rfl ?_
        conv => whnf
        refine RStep.of (load1_s r2 rfl rfl ?_)
        conv => whnf
        refine eq_int ?_
        conv => whnf
        refine cond_s (fun g68_13 => ?_) (fun g68_13 => ?_)
        · conv => whnf
          refine cond_t g68_13 ?_
          conv => whnf
          refine cond_t g68_13 ?_
          conv => whnf
          refine nil_check ?_
          conv => whnf
          refine cond_t g68_13 ?_
          conv => whnf
          refine field_addr rfl ?_
          conv => whnf
          refine cond_t g68_13 ?_
          conv => whnf
          refine RStep.of (load1_s r2 rfl rfl ?_)
          conv => whnf
          refine cond_t g68_13 ?_
          conv => whnf
          refine RStep.of (len_slice rfl ?_)
          conv => whnf
          refine cond_t g68_13 ?_
          conv => whnf
          refine eq_int ?_
          conv => whnf
          refine cond_t g68_13 ?_
          conv => whnf
          refine cond_go rfl ?_
          conv => whnf
          refine cond_s (fun w76 => ?_) (fun w76 => ?_)
          · replace hm := ift (and_t g68_13 w76) hm
            obtain rfl := si hm
            conv => whnf
            refine EndStep.mk _ (Hp.Le.refl _) ⟨a52, c52, ap0_0, cp0_0, mp0_1, rfl, o52, hp0_0, rfl⟩ (ConvH.of (.cons r1 (.cons r1 (.cons r1 (.cons r0 (.cons r0 .nil))))))
          · replace hm := iff_ (and_g g68_13 w76) hm
            obtain rfl := si hm
            conv => whnf
            refine EndStep.mk _ (Hp.Le.refl _) ⟨a52, c52, ap0_0, cp0_0, mp0_1, rfl, o52, hp0_0, rfl⟩ (ConvH.of (.cons r1 (.cons r1 (.cons r1 (.cons r0 (.cons r0 .nil))))))
        · conv => whnf
          refine cond_f g68_13 ?_
          conv => whnf
          refine cond_f g68_13 ?_
          conv => whnf
          refine cond_f g68_13 ?_
          conv => whnf
          refine cond_f g68_13 ?_
          conv => whnf
          refine cond_f g68_13 ?_
          conv => whnf
          refine cond_f g68_13 ?_
          conv => whnf
          refine cond_f g68_13 ?_
          conv => whnf
          refine cond_go rfl ?_
          conv => whnf
          refine cond_F ?_
          replace hm := iff_ (and_f g68_13) hm
          obtain rfl := si hm
          conv => whnf
          refine EndStep.mk _ (Hp.Le.refl _) ⟨a52, c52, ap0_0, cp0_0, mp0_1, rfl, o52, hp0_0, rfl⟩ (ConvH.of (.cons r1 (.cons r1 (.cons r1 (.cons r0 (.cons r0 .nil))))))
      · replace hm := iff_ w33 hm
        conv => whnf
        refine RStep.of (len_slice rfl ?_)
        obtain ⟨h56, hm⟩ := chkb hm
        conv => whnf
        refine int_in h56 ?_
        conv => whnf
        refine nil_check ?_
        conv => whnf
        refine field_addr rfl ?_
        conv => whnf
        refine RStep.of (load1_s r0 rfl rfl ?_)
        conv => whnf
        refine update_rule (kenc := intK) (venc := (fun x => .int .i64 x)) (((mget s.offsets id).getD 0) + 0) rfl r2 rfl (key_int rfl) ?_
        conv => whnf
        refine nil_check ?_
        conv => whnf
        refine field_addr rfl ?_
        conv => whnf
        refine RStep.of (load1_s r1 rfl rfl ?_)
        conv => whnf
        refine eq_int ?_
        conv => whnf
        refine cond_s (fun g68_13 => ?_) (fun g68_13 => ?_)
        · conv => whnf
          refine cond_t g68_13 ?_
          conv => whnf
          refine cond_t g68_13 ?_
          conv => whnf
          refine nil_check ?_
          conv => whnf
          refine cond_t g68_13 ?_
          conv => whnf
          refine field_addr rfl ?_
          conv => whnf
          refine cond_t g68_13 ?_
          conv => whnf
          refine RStep.of (load1_s r1 rfl rfl ?_)
          conv => whnf
          refine cond_t g68_13 ?_
          conv => whnf
          refine RStep.of (len_slice rfl ?_)
          conv => whnf
          refine cond_t g68_13 ?_
          conv => whnf
          refine eq_int ?_
          conv => whnf
          refine cond_t g68_13 ?_
          conv => whnf
          refine cond_go rfl ?_
          conv => whnf
          refine cond_s (fun w76 => ?_) (fun w76 => ?_)
          · replace hm := ift (and_t g68_13 w76) hm
            obtain rfl := si hm
            conv => whnf
            refine nilE eU 5 1 ?_
            refine EndStep.mk _ (Hp.Le.refl _) ⟨none, 0, ap0_0, cp0_0, mp0_1, rfl, (fun h => by simp at h), hp0_0, rfl⟩ (ConvH.of (.cons r0 (.cons r1 (.cons r1 (.cons r0 (.cons r0 .nil))))))
          · replace hm := iff_ (and_g g68_13 w76) hm
            obtain rfl := si hm
            conv => whnf
            refine nilE eU 5 1 ?_
            refine EndStep.mk _ (Hp.Le.refl _) ⟨none, 0, ap0_0, cp0_0, mp0_1, rfl, (fun h => by simp at h), hp0_0, rfl⟩ (ConvH.of (.cons r0 (.cons r1 (.cons r1 (.cons r0 (.cons r0 .nil))))))
        · conv => whnf
          refine cond_f g68_13 ?_
          conv => whnf
          refine cond_f g68_13 ?_
          conv => whnf
          refine cond_f g68_13 ?_
          conv => whnf
          refine cond_f g68_13 ?_
          conv => whnf
          refine cond_f g68_13 ?_
          conv => whnf
          refine cond_f g68_13 ?_
          conv => whnf
          refine cond_f g68_13 ?_
          conv => whnf
          refine cond_go rfl ?_
          conv => whnf
          refine cond_F ?_
          replace hm := iff_ (and_f g68_13) hm
          obtain rfl := si hm
          conv => whnf
          refine nilE eU 5 1 ?_
          refine EndStep.mk _ (Hp.Le.refl _) ⟨none, 0, ap0_0, cp0_0, mp0_1, rfl, (fun h => by simp at h), hp0_0, rfl⟩ (ConvH.of (.cons r0 (.cons r1 (.cons r1 (.cons r0 (.cons r0 .nil))))))

noncomputable def law28_awake : Option (Bool) :=
  (fanout_New 10).bind fun x6 =>
  Option.elim x6.1 (
  if x6.2.isSome then
  some false
  else
  (fanout_Stream_Write_nil ([(97 : UInt8), (98 : UInt8), (99 : UInt8)] : Str)).bind fun x15 =>
  if x15.isSome then
  some false
  else
  (fanout_Stream_Attach_nil 1 1).bind fun x20 =>
  if x20.isSome then
  some false
  else
  (fanout_Stream_Read_nil 1 9).bind fun x25 =>
  (if x25.2.2.isNone then some (decide (x25.1 = ([98, 99] : Str))) else some false).bind fun x35 =>
  some (x35 && decide (x25.2.1 = 1)))
   fun o6 =>
  if x6.2.isSome then
  some false
  else
  (fanout_Stream_Write o6 ([(97 : UInt8), (98 : UInt8), (99 : UInt8)] : Str)).bind fun x15 =>
  if x15.1.isSome then
  some false
  else
  (fanout_Stream_Attach x15.2 1 1).bind fun x20 =>
  if x20.1.isSome then
  some false
  else
  (fanout_Stream_Read x20.2 1 9).bind fun x25 =>
  (if x25.2.2.1.isNone then some (decide (x25.1 = ([98, 99] : Str))) else some false).bind fun x35 =>
  some (x35 && decide (x25.2.1 = 1))
set_option maxHeartbeats 8000000 in
theorem law28_awake_ok  {K : Hp} {r : Bool}
    (hm : law28_awake = some r)  :
    Fn Try.prog 10 [] K [] (fun v K' H' => v = .bool r ∧ H' = []) := by
  refine Fn.enter Try.func10 Try.call10 rfl fun F => ?_
  unfold law28_awake at hm
  obtain ⟨x6, q6, hm⟩ := bnd hm
  conv => whnf
  refine call_fn (fanout_New_ok q6) .nil ?_
  rintro v6 K6 H6 l6 p6
  rcases hq6 : x6.1 with _ | o6
  · rw [hq6] at p6 hm
    obtain ⟨rfl, rfl⟩ := p6
    replace hm := oe_n hm
    conv => whnf
    refine neq_err rfl ?_
    conv => whnf
    refine cond_s (fun g11_2 => ?_) (fun g11_2 => ?_)
    · replace hm := ift g11_2 hm
      conv => whnf
      refine cond_t g11_2 ?_
      conv => whnf
      refine cond_t g11_2 ?_
      conv => whnf
      refine cond_t g11_2 ?_
      conv => whnf
      refine cond_t g11_2 ?_
      conv => whnf
      refine cond_t g11_2 ?_
      conv => whnf
      refine cond_T ?_
      conv => whnf
      refine cond_T ?_
      conv => whnf
      refine cond_T ?_
      conv => whnf
      refine cond_T ?_
      conv => whnf
      refine cond_go rfl ?_
      conv => whnf
      refine cond_T ?_
      obtain rfl := si hm
      conv => whnf
      refine EndStep.mk _ l6 ⟨rfl, rfl⟩ (ConvH.of (.cons r0 .nil))
    · replace hm := iff_ g11_2 hm
      conv => whnf
      refine cond_f g11_2 ?_
      conv => whnf
      refine bsO (len := 3) (enc := eU) (l := ([(97 : UInt8), (98 : UInt8), (99 : UInt8)] : Str)) (cl := [.int .u8 97, .int .u8 98, .int .u8 99]) elT22 rfl rfl (fun _ _ => rfl) rfl rfl rfl ?_ fun b13 => ?_
      · conv => whnf
        refine cond_T ?_
        conv => whnf
        refine cond_T ?_
        conv => whnf
        refine cond_T ?_
        conv => whnf
      conv => whnf
      refine cond_f g11_2 ?_
      conv => whnf
      refine cv_mark rfl rfl r0 ?_
      conv => whnf
      refine cond_f g11_2 ?_
      obtain ⟨x15, q15, hm⟩ := bnd hm
      conv => whnf
      refine call_fn (Fn.lend Try.call12 (fun K15_1 l15_1 f15_1 => (fanout_Stream_Write_nil_ok q15 f15_1 rfl)) (by exact fun _ _ _ _ h => h)) (.cons r0 .nil) ?_
      rintro _ K15 _ l15 ⟨_, rfl, rfl, rfl⟩
      conv => whnf
      refine cond_f g11_2 ?_
      conv => whnf
      refine neq_err rfl ?_
      conv => whnf
      refine cond_f g11_2 ?_
      conv => whnf
      refine cond_s (fun g18_2 => ?_) (fun g18_2 => ?_)
      · replace hm := ift g18_2 hm
        conv => whnf
        refine cond_t g18_2 ?_
        conv => whnf
        refine cond_t g18_2 ?_
        conv => whnf
        refine cond_t g18_2 ?_
        conv => whnf
        refine cond_go rfl ?_
        conv => whnf
        refine cond_T ?_
        obtain rfl := si hm
        conv => whnf
        refine EndStep.mk _ (l6.trans l15) ⟨rfl, rfl⟩ (ConvH.of (.cons r1 .nil))
      · replace hm := iff_ g18_2 hm
        conv => whnf
        refine cond_f g18_2 ?_
        obtain ⟨x20, q20, hm⟩ := bnd hm
        conv => whnf
        refine call_fn (fanout_Stream_Attach_nil_ok q20) .nil ?_
        rintro _ K20 _ l20 ⟨rfl, rfl⟩
        conv => whnf
        refine cond_f g18_2 ?_
        conv => whnf
        refine neq_err rfl ?_
        conv => whnf
        refine cond_f g18_2 ?_
        conv => whnf
        refine cond_go rfl ?_
        conv => whnf
        refine cond_s (fun w22 => ?_) (fun w22 => ?_)
        · replace hm := ift w22 hm
          obtain rfl := si hm
          conv => whnf
          refine EndStep.mk _ ((l6.trans l15).trans l20) ⟨rfl, rfl⟩ (ConvH.of (.cons r1 .nil))
        · replace hm := iff_ w22 hm
          obtain ⟨x25, q25, hm⟩ := bnd hm
          conv => whnf
          refine call_fn (fanout_Stream_Read_nil_ok q25) .nil ?_
          rintro _ K25 _ l25 ⟨a25_0, c25_0, rfl, h25_0, rfl⟩
          conv => whnf
          refine eq_err rfl ?_
          obtain ⟨x35, e35, hm⟩ := bnd hm
          conv => whnf
          refine cond_s (fun g31_5 => ?_) (fun g31_5 => ?_)
          · replace e35 := ift g31_5 e35
            conv => whnf
            refine cond_t g31_5 ?_
            conv => whnf
            refine RStep.of (cv_ownE rfl r0 rfl rfl rfl ?_)
            conv => whnf
            refine cond_t g31_5 ?_
            conv => whnf
            refine eq_str ?_
            conv => whnf
            refine cond_t g31_5 ?_
            conv => whnf
            refine cond_s (fun g36_5 => ?_) (fun g36_5 => ?_)
            · conv => whnf
              refine cond_t g36_5 ?_
              conv => whnf
              refine eq_int ?_
              conv => whnf
              refine cond_t g36_5 ?_
              obtain rfl := si hm
              conv => whnf
              refine EndStep.mk _ (((l6.trans l15).trans l20).trans l25) ⟨(by rw [← (and_e (b := decide (x25.2.1 = 1)) ((si e35).symm.trans g36_5))] <;> rfl), rfl⟩ (ConvH.of (.cons r2 .nil))
            · conv => whnf
              refine cond_f g36_5 ?_
              conv => whnf
              refine cond_f g36_5 ?_
              obtain rfl := si hm
              conv => whnf
              refine EndStep.mk _ (((l6.trans l15).trans l20).trans l25) ⟨(by rw [← ((and_f ((si e35).symm.trans g36_5))).symm] <;> rfl), rfl⟩ (ConvH.of (.cons r2 .nil))
          · replace e35 := iff_ g31_5 e35
            conv => whnf
            refine cond_f g31_5 ?_
            conv => whnf
            refine cond_f g31_5 ?_
            conv => whnf
            refine cond_f g31_5 ?_
            conv => whnf
            refine cond_F ?_
            conv => whnf
            refine cond_F ?_
            conv => whnf
            refine cond_F ?_
            obtain rfl := si hm
            conv => whnf
            refine EndStep.mk _ (((l6.trans l15).trans l20).trans l25) ⟨(by rw [← ((and_f (si e35).symm)).symm] <;> rfl), rfl⟩ (ConvH.of (.cons r2 .nil))
  · rw [hq6] at p6 hm
    obtain ⟨b6_0, a6_1, c6_1, m6_2, rfl, h6_1, rfl⟩ := p6
    replace hm := oe_s hm
    conv => whnf
    refine neq_err rfl ?_
    conv => whnf
    refine cond_s (fun g11_2 => ?_) (fun g11_2 => ?_)
    · replace hm := ift g11_2 hm
      conv => whnf
      refine cond_t g11_2 ?_
      conv => whnf
      refine cond_t g11_2 ?_
      conv => whnf
      refine cond_t g11_2 ?_
      conv => whnf
      refine cond_t g11_2 ?_
      conv => whnf
      refine cond_t g11_2 ?_
      conv => whnf
      refine cond_T ?_
      conv => whnf
      refine cond_T ?_
      conv => whnf
      refine cond_T ?_
      conv => whnf
      refine cond_T ?_
      conv => whnf
      refine cond_go rfl ?_
      conv => whnf
      refine cond_T ?_
      obtain rfl := si hm
      conv => whnf
      refine EndStep.mk _ l6 ⟨rfl, rfl⟩ (ConvH.of (.cons r3 .nil))
    · replace hm := iff_ g11_2 hm
      conv => whnf
      refine cond_f g11_2 ?_
      conv => whnf
      refine bsO (len := 3) (enc := eU) (l := ([(97 : UInt8), (98 : UInt8), (99 : UInt8)] : Str)) (cl := [.int .u8 97, .int .u8 98, .int .u8 99]) elT22 rfl rfl (fun _ _ => rfl) rfl rfl rfl ?_ fun b13 => ?_
      · conv => whnf
        refine cond_T ?_
        conv => whnf
        refine cond_T ?_
        conv => whnf
        refine cond_T ?_
        conv => whnf
      conv => whnf
      refine cond_f g11_2 ?_
      conv => whnf
      refine cv_mark rfl rfl r0 ?_
      conv => whnf
      refine cond_f g11_2 ?_
      obtain ⟨x15, q15, hm⟩ := bnd hm
      conv => whnf
      refine call_fn (Fn.lend Try.call12 (fun K15_1 l15_1 f15_1 => (fanout_Stream_Write_ok q15 h6_1 f15_1 rfl)) (by exact fun _ _ _ _ h => h)) (.cons r0 (.cons r0 (.cons r0 (.cons r0 .nil)))) ?_
      rintro _ K15 _ l15 ⟨_, rfl, a15_0, c15_0, m15_1, rfl, h15_0, rfl⟩
      conv => whnf
      refine cond_f g11_2 ?_
      conv => whnf
      refine neq_err rfl ?_
      conv => whnf
      refine cond_f g11_2 ?_
      conv => whnf
      refine cond_s (fun g18_2 => ?_) (fun g18_2 => ?_)
      · replace hm := ift g18_2 hm
        conv => whnf
        refine cond_t g18_2 ?_
        conv => whnf
        refine cond_t g18_2 ?_
        conv => whnf
        refine cond_t g18_2 ?_
        conv => whnf
        refine cond_go rfl ?_
        conv => whnf
        refine cond_T ?_
        obtain rfl := si hm
        conv => whnf
        refine EndStep.mk _ (l6.trans l15) ⟨rfl, rfl⟩ (ConvH.of (.cons r4 .nil))
      · replace hm := iff_ g18_2 hm
        conv => whnf
        refine cond_f g18_2 ?_
        obtain ⟨x20, q20, hm⟩ := bnd hm
        conv => whnf
        refine call_fn (fanout_Stream_Attach_ok q20 h15_0) (.cons r1 (.cons r1 (.cons r1 .nil))) ?_
        rintro _ K20 _ l20 ⟨a20_0, c20_0, m20_1, rfl, h20_0, rfl⟩
        conv => whnf
        refine cond_f g18_2 ?_
        conv => whnf
        refine neq_err rfl ?_
        conv => whnf
        refine cond_f g18_2 ?_
        conv => whnf
        refine cond_go rfl ?_
        conv => whnf
        refine cond_s (fun w22 => ?_) (fun w22 => ?_)
        · replace hm := ift w22 hm
          obtain rfl := si hm
          conv => whnf
          refine EndStep.mk _ ((l6.trans l15).trans l20) ⟨rfl, rfl⟩ (ConvH.of (.cons r4 .nil))
        · replace hm := iff_ w22 hm
          obtain ⟨x25, q25, hm⟩ := bnd hm
          conv => whnf
          refine call_fn (fanout_Stream_Read_ok q25 h20_0) (.cons r0 (.cons r0 (.cons r0 .nil))) ?_
          rintro _ K25 _ l25 ⟨a25_0, c25_0, a25_1, c25_1, m25_2, rfl, h25_0, h25_1, rfl⟩
          conv => whnf
          refine eq_err rfl ?_
          obtain ⟨x35, e35, hm⟩ := bnd hm
          conv => whnf
          refine cond_s (fun g31_5 => ?_) (fun g31_5 => ?_)
          · replace e35 := ift g31_5 e35
            conv => whnf
            refine cond_t g31_5 ?_
            conv => whnf
            refine RStep.of (cv_ownE rfl r0 rfl rfl rfl ?_)
            conv => whnf
            refine cond_t g31_5 ?_
            conv => whnf
            refine eq_str ?_
            conv => whnf
            refine cond_t g31_5 ?_
            conv => whnf
            refine cond_s (fun g36_5 => ?_) (fun g36_5 => ?_)
            · conv => whnf
              refine cond_t g36_5 ?_
              conv => whnf
              refine eq_int ?_
              conv => whnf
              refine cond_t g36_5 ?_
              obtain rfl := si hm
              conv => whnf
              refine EndStep.mk _ (((l6.trans l15).trans l20).trans l25) ⟨(by rw [← (and_e (b := decide (x25.2.1 = 1)) ((si e35).symm.trans g36_5))] <;> rfl), rfl⟩ (ConvH.of (.cons r5 .nil))
            · conv => whnf
              refine cond_f g36_5 ?_
              conv => whnf
              refine cond_f g36_5 ?_
              obtain rfl := si hm
              conv => whnf
              refine EndStep.mk _ (((l6.trans l15).trans l20).trans l25) ⟨(by rw [← ((and_f ((si e35).symm.trans g36_5))).symm] <;> rfl), rfl⟩ (ConvH.of (.cons r5 .nil))
          · replace e35 := iff_ g31_5 e35
            conv => whnf
            refine cond_f g31_5 ?_
            conv => whnf
            refine cond_f g31_5 ?_
            conv => whnf
            refine cond_f g31_5 ?_
            conv => whnf
            refine cond_F ?_
            conv => whnf
            refine cond_F ?_
            conv => whnf
            refine cond_F ?_
            obtain rfl := si hm
            conv => whnf
            refine EndStep.mk _ (((l6.trans l15).trans l20).trans l25) ⟨(by rw [← ((and_f (si e35).symm)).symm] <;> rfl), rfl⟩ (ConvH.of (.cons r5 .nil))

noncomputable def base_Num (e : Err) : Option (Int) :=
  if e.isNone then
  some 0
  else
  if (!e.isSome) then
  some (-1)
  else
  some (e.getD 0)
set_option maxHeartbeats 8000000 in
theorem base_Num_ok {e : Err} {K : Hp} {r : Int}
    (hm : base_Num e = some r)  :
    Fn Try.prog 23 [errV 44 e] K [] (fun v K' H' => v = .int .i64 r ∧ H' = []) := by
  refine Fn.enter Try.func23 Try.call23 rfl fun F => ?_
  unfold base_Num at hm
  conv => whnf
  refine eq_err rfl ?_
  conv => whnf
  refine cond_go rfl ?_
  conv => whnf
  refine cond_s (fun w6 => ?_) (fun w6 => ?_)
  · replace hm := ift w6 hm
    obtain rfl := si hm
    conv => whnf
    refine EndStep.mk _ (Hp.Le.refl _) ⟨rfl, rfl⟩ (ConvH.of (.cons r0 .nil))
  · replace hm := iff_ w6 hm
    conv => whnf
    refine asrt rfl rfl rfl ?_
    conv => whnf
    refine un_not ?_
    conv => whnf
    refine cond_go rfl ?_
    conv => whnf
    refine cond_s (fun w13 => ?_) (fun w13 => ?_)
    · replace hm := ift (not_t (ni_t w13)) hm
      obtain rfl := si hm
      conv => whnf
      refine EndStep.mk _ (Hp.Le.refl _) ⟨rfl, rfl⟩ (ConvH.of (.cons r0 .nil))
    · replace hm := iff_ (not_f (ni_f w13)) hm
      obtain rfl := si hm
      conv => whnf
      refine EndStep.mk _ (Hp.Le.refl _) ⟨rfl, rfl⟩ (ConvH.of (.cons r0 .nil))

noncomputable def base_Is (e : Err) (want : Int) : Option (Bool) :=
  (base_Num e).bind fun x6 =>
  some (decide (x6 = want) && decide (want ≠ 0))
set_option maxHeartbeats 8000000 in
theorem base_Is_ok {e : Err} {want : Int} {K : Hp} {r : Bool}
    (hm : base_Is e want = some r)  :
    Fn Try.prog 18 [errV 44 e, .int .i64 want] K [] (fun v K' H' => v = .bool r ∧ H' = []) := by
  refine Fn.enter Try.func18 Try.call18 rfl fun F => ?_
  unfold base_Is at hm
  obtain ⟨x6, q6, hm⟩ := bnd hm
  conv => whnf
  refine call_fn (base_Num_ok q6) .nil ?_
  rintro _ K6 _ l6 ⟨rfl, rfl⟩
  conv => whnf
  refine eq_int ?_
  conv => whnf
  refine cond_s (fun g9_1 => ?_) (fun g9_1 => ?_)
  · conv => whnf
    refine cond_t g9_1 ?_
    conv => whnf
    refine neq_int ?_
    conv => whnf
    refine cond_t g9_1 ?_
    obtain rfl := si hm
    conv => whnf
    refine EndStep.mk _ l6 ⟨(by rw [← (and_e (b := decide (want ≠ 0)) g9_1)] <;> rfl), rfl⟩ (ConvH.of (.cons r0 .nil))
  · conv => whnf
    refine cond_f g9_1 ?_
    conv => whnf
    refine cond_f g9_1 ?_
    obtain rfl := si hm
    conv => whnf
    refine EndStep.mk _ l6 ⟨(by rw [← ((and_f g9_1)).symm] <;> rfl), rfl⟩ (ConvH.of (.cons r0 .nil))

noncomputable def fanout_Stream_End (s : S_fanout_Stream) : Option (Err × S_fanout_Stream) :=
  (fanout_Stream_open s).bind fun x5 =>
  if x5.isSome then
  some (x5, s)
  else
  some (none, (⟨s.limit, 2, s.data, s.offsets⟩ : S_fanout_Stream))
set_option maxHeartbeats 8000000 in
theorem fanout_Stream_End_ok {s : S_fanout_Stream} {b0 : Nat} {ap0_0 : Option Addr} {cp0_0 : Nat} {mp0_1 : Nat} {K : Hp} {r : Err × S_fanout_Stream}
    (hm : fanout_Stream_End s = some r) (hp0_0 : (0 < s.data.length → Has ap0_0)) :
    Fn Try.prog 16 [.pointer (some ⟨b0, 0, none⟩)] K [Cells b0 77 [.int .i64 s.limit, .int .i64 s.state, .slice ap0_0 s.data.length cp0_0, .map (some mp0_1)], OwnL eU ap0_0 5 1 cp0_0 s.data, MapE intK (fun x => .int .i64 x) mp0_1 s.offsets] (fun v K' H' => ∃ ar_0 : Option Addr, ∃ cr_0 : Nat, ∃ mr_1 : Nat, v = errV 44 r.1 ∧ (0 < r.2.data.length → Has ar_0) ∧ H' = [Cells b0 77 [.int .i64 r.2.limit, .int .i64 r.2.state, .slice ar_0 r.2.data.length cr_0, .map (some mr_1)], OwnL eU ar_0 5 1 cr_0 r.2.data, MapE intK (fun x => .int .i64 x) mr_1 r.2.offsets]) := by
  refine Fn.enter Try.func16 Try.call16 rfl fun F => ?_
  unfold fanout_Stream_End at hm
  obtain ⟨x5, q5, hm⟩ := bnd hm
  conv => whnf
  refine call_fn (fanout_Stream_open_ok q5 hp0_0) (.cons r0 (.cons r0 (.cons r0 .nil))) ?_
  rintro _ K5 _ l5 ⟨rfl, rfl⟩
  conv => whnf
  refine neq_err rfl ?_
  conv => whnf
  refine cond_go rfl ?_
  conv => whnf
  refine cond_s (fun w7 => ?_) (fun w7 => ?_)
  · replace hm := ift w7 hm
    obtain rfl := si hm
    conv => whnf
    refine EndStep.mk _ l5 ⟨ap0_0, cp0_0, mp0_1, rfl, hp0_0, rfl⟩ (ConvH.of (.cons r0 (.cons r0 (.cons r0 (.cons r0 .nil)))))
  · replace hm := iff_ w7 hm
    conv => whnf
    refine nil_check ?_
    conv => whnf
    refine field_addr rfl ?_
    conv => whnf
    refine store_rule r0 rfl ?_
    conv => whnf
    refine ⟨rfl, rfl, (Nat.le_of_ble_eq_true rfl), ?_⟩
    obtain rfl := si hm
    conv => whnf
    refine EndStep.mk _ l5 ⟨ap0_0, cp0_0, mp0_1, rfl, hp0_0, rfl⟩ (ConvH.of (.cons r0 (.cons r0 (.cons r0 (.cons r0 .nil)))))

noncomputable def fanout_Stream_End_nil : Option (Err) :=
  (fanout_Stream_open_nil).bind fun x5 =>
  if x5.isSome then
  some x5
  else
  none
set_option maxHeartbeats 8000000 in
theorem fanout_Stream_End_nil_ok  {K : Hp} {r : Err}
    (hm : fanout_Stream_End_nil = some r)  :
    Fn Try.prog 16 [.pointer none] K [] (fun v K' H' => v = errV 44 r ∧ H' = []) := by
  refine Fn.enter Try.func16 Try.call16 rfl fun F => ?_
  unfold fanout_Stream_End_nil at hm
  obtain ⟨x5, q5, hm⟩ := bnd hm
  conv => whnf
  refine call_fn (fanout_Stream_open_nil_ok q5) .nil ?_
  rintro _ K5 _ l5 ⟨rfl, rfl⟩
  conv => whnf
  refine neq_err rfl ?_
  conv => whnf
  refine cond_go rfl ?_
  conv => whnf
  refine cond_s (fun w7 => ?_) (fun w7 => ?_)
  · replace hm := ift w7 hm
    obtain rfl := si hm
    conv => whnf
    refine EndStep.mk _ l5 ⟨rfl, rfl⟩ (ConvH.of (.cons r0 .nil))
  · replace hm := iff_ w7 hm
    cases hm

noncomputable def fanout_Stream_Abort (s : S_fanout_Stream) : Option (Err × S_fanout_Stream) :=
  (fanout_Stream_open s).bind fun x5 =>
  if x5.isSome then
  some (x5, s)
  else
  some (none, (⟨s.limit, 3, s.data, s.offsets⟩ : S_fanout_Stream))
set_option maxHeartbeats 8000000 in
theorem fanout_Stream_Abort_ok {s : S_fanout_Stream} {b0 : Nat} {ap0_0 : Option Addr} {cp0_0 : Nat} {mp0_1 : Nat} {K : Hp} {r : Err × S_fanout_Stream}
    (hm : fanout_Stream_Abort s = some r) (hp0_0 : (0 < s.data.length → Has ap0_0)) :
    Fn Try.prog 24 [.pointer (some ⟨b0, 0, none⟩)] K [Cells b0 77 [.int .i64 s.limit, .int .i64 s.state, .slice ap0_0 s.data.length cp0_0, .map (some mp0_1)], OwnL eU ap0_0 5 1 cp0_0 s.data, MapE intK (fun x => .int .i64 x) mp0_1 s.offsets] (fun v K' H' => ∃ ar_0 : Option Addr, ∃ cr_0 : Nat, ∃ mr_1 : Nat, v = errV 44 r.1 ∧ (0 < r.2.data.length → Has ar_0) ∧ H' = [Cells b0 77 [.int .i64 r.2.limit, .int .i64 r.2.state, .slice ar_0 r.2.data.length cr_0, .map (some mr_1)], OwnL eU ar_0 5 1 cr_0 r.2.data, MapE intK (fun x => .int .i64 x) mr_1 r.2.offsets]) := by
  refine Fn.enter Try.func24 Try.call24 rfl fun F => ?_
  unfold fanout_Stream_Abort at hm
  obtain ⟨x5, q5, hm⟩ := bnd hm
  conv => whnf
  refine call_fn (fanout_Stream_open_ok q5 hp0_0) (.cons r0 (.cons r0 (.cons r0 .nil))) ?_
  rintro _ K5 _ l5 ⟨rfl, rfl⟩
  conv => whnf
  refine neq_err rfl ?_
  conv => whnf
  refine cond_go rfl ?_
  conv => whnf
  refine cond_s (fun w7 => ?_) (fun w7 => ?_)
  · replace hm := ift w7 hm
    obtain rfl := si hm
    conv => whnf
    refine EndStep.mk _ l5 ⟨ap0_0, cp0_0, mp0_1, rfl, hp0_0, rfl⟩ (ConvH.of (.cons r0 (.cons r0 (.cons r0 (.cons r0 .nil)))))
  · replace hm := iff_ w7 hm
    conv => whnf
    refine nil_check ?_
    conv => whnf
    refine field_addr rfl ?_
    conv => whnf
    refine store_rule r0 rfl ?_
    conv => whnf
    refine ⟨rfl, rfl, (Nat.le_of_ble_eq_true rfl), ?_⟩
    obtain rfl := si hm
    conv => whnf
    refine EndStep.mk _ l5 ⟨ap0_0, cp0_0, mp0_1, rfl, hp0_0, rfl⟩ (ConvH.of (.cons r0 (.cons r0 (.cons r0 (.cons r0 .nil)))))

noncomputable def fanout_Stream_Abort_nil : Option (Err) :=
  (fanout_Stream_open_nil).bind fun x5 =>
  if x5.isSome then
  some x5
  else
  none
set_option maxHeartbeats 8000000 in
theorem fanout_Stream_Abort_nil_ok  {K : Hp} {r : Err}
    (hm : fanout_Stream_Abort_nil = some r)  :
    Fn Try.prog 24 [.pointer none] K [] (fun v K' H' => v = errV 44 r ∧ H' = []) := by
  refine Fn.enter Try.func24 Try.call24 rfl fun F => ?_
  unfold fanout_Stream_Abort_nil at hm
  obtain ⟨x5, q5, hm⟩ := bnd hm
  conv => whnf
  refine call_fn (fanout_Stream_open_nil_ok q5) .nil ?_
  rintro _ K5 _ l5 ⟨rfl, rfl⟩
  conv => whnf
  refine neq_err rfl ?_
  conv => whnf
  refine cond_go rfl ?_
  conv => whnf
  refine cond_s (fun w7 => ?_) (fun w7 => ?_)
  · replace hm := ift w7 hm
    obtain rfl := si hm
    conv => whnf
    refine EndStep.mk _ l5 ⟨rfl, rfl⟩ (ConvH.of (.cons r0 .nil))
  · replace hm := iff_ w7 hm
    cases hm

noncomputable def fanout_Stream_Detach (s : S_fanout_Stream) (id : Int) : Option (Bool × S_fanout_Stream) :=
  some ((mget s.offsets id).isSome, (⟨s.limit, s.state, s.data, (mdel s.offsets id)⟩ : S_fanout_Stream))
set_option maxHeartbeats 8000000 in
theorem fanout_Stream_Detach_ok {s : S_fanout_Stream} {id : Int} {b0 : Nat} {ap0_0 : Option Addr} {cp0_0 : Nat} {mp0_1 : Nat} {K : Hp} {r : Bool × S_fanout_Stream}
    (hm : fanout_Stream_Detach s id = some r) (hp0_0 : (0 < s.data.length → Has ap0_0)) :
    Fn Try.prog 25 [.pointer (some ⟨b0, 0, none⟩), .int .i64 id] K [Cells b0 77 [.int .i64 s.limit, .int .i64 s.state, .slice ap0_0 s.data.length cp0_0, .map (some mp0_1)], OwnL eU ap0_0 5 1 cp0_0 s.data, MapE intK (fun x => .int .i64 x) mp0_1 s.offsets] (fun v K' H' => ∃ ar_0 : Option Addr, ∃ cr_0 : Nat, ∃ mr_1 : Nat, v = .bool r.1 ∧ (0 < r.2.data.length → Has ar_0) ∧ H' = [Cells b0 77 [.int .i64 r.2.limit, .int .i64 r.2.state, .slice ar_0 r.2.data.length cr_0, .map (some mr_1)], OwnL eU ar_0 5 1 cr_0 r.2.data, MapE intK (fun x => .int .i64 x) mr_1 r.2.offsets]) := by
  refine Fn.enter Try.func25 Try.call25 rfl fun F => ?_
  unfold fanout_Stream_Detach at hm
  conv => whnf
  refine eq_ptr_nil rfl ?_
  conv => whnf
  refine cond_go rfl ?_
  conv => whnf
  refine cond_F ?_
  conv => whnf
  refine nil_check ?_
  conv => whnf
  refine field_addr rfl ?_
  conv => whnf
  refine RStep.of (load1_s r0 rfl rfl ?_)
  conv => whnf
  refine RStep.of (lookup_ok (kenc := intK) (venc := (fun x => .int .i64 x)) (z := 0) r2 rfl rfl (key_int rfl) ?_)
  conv => whnf
  refine nil_check ?_
  conv => whnf
  refine field_addr rfl ?_
  conv => whnf
  refine RStep.of (load1_s r0 rfl rfl ?_)
  conv => whnf
  refine delete_rule (kenc := intK) (venc := (fun x => .int .i64 x)) r2 rfl rfl (key_int rfl) ?_
  obtain rfl := si hm
  conv => whnf
  refine EndStep.mk _ (Hp.Le.refl _) ⟨ap0_0, cp0_0, mp0_1, rfl, hp0_0, rfl⟩ (ConvH.of (.cons r1 (.cons r1 (.cons r0 (.cons r0 .nil)))))

noncomputable def fanout_Stream_Detach_nil (id : Int) : Option (Bool) :=
  some false
set_option maxHeartbeats 8000000 in
theorem fanout_Stream_Detach_nil_ok {id : Int} {K : Hp} {r : Bool}
    (hm : fanout_Stream_Detach_nil id = some r)  :
    Fn Try.prog 25 [.pointer none, .int .i64 id] K [] (fun v K' H' => v = .bool r ∧ H' = []) := by
  refine Fn.enter Try.func25 Try.call25 rfl fun F => ?_
  unfold fanout_Stream_Detach_nil at hm
  conv => whnf
  refine eq_nil_nil rfl ?_
  conv => whnf
  refine cond_go rfl ?_
  conv => whnf
  refine cond_T ?_
  obtain rfl := si hm
  conv => whnf
  refine EndStep.mk _ (Hp.Le.refl _) ⟨rfl, rfl⟩ (ConvH.of (.cons r0 .nil))

noncomputable def fanout_Stream_Readers_L0 (e0 : (Int × Int)) (y0_0 : (List Int)) : Option ((List Int)) :=
  (chk (y0_0.length + [e0.1].length ≤ lim)).bind fun _ =>
  some (y0_0 ++ [e0.1])
noncomputable def fanout_Stream_Readers (s : S_fanout_Stream) : Option ((List Int)) :=
  perms s.offsets fun pl0 =>
  (mfold (fun e0 ss0 => fanout_Stream_Readers_L0 e0 ss0) pl0 []).bind fun t0 =>
  (sortIM t0).bind fun x21 =>
  some x21
set_option maxHeartbeats 8000000 in
theorem fanout_Stream_Readers_ok {s : S_fanout_Stream} {b0 : Nat} {ap0_0 : Option Addr} {cp0_0 : Nat} {mp0_1 : Nat} {K : Hp} {r : (List Int)}
    (hm : fanout_Stream_Readers s = some r) (hp0_0 : (0 < s.data.length → Has ap0_0)) :
    Fn Try.prog 26 [.pointer (some ⟨b0, 0, none⟩)] K [Cells b0 77 [.int .i64 s.limit, .int .i64 s.state, .slice ap0_0 s.data.length cp0_0, .map (some mp0_1)], OwnL eU ap0_0 5 1 cp0_0 s.data, MapE intK (fun x => .int .i64 x) mp0_1 s.offsets] (fun v K' H' => ∃ ar_0 : Option Addr, ∃ cr_0 : Nat, v = .slice ar_0 r.length cr_0 ∧ (0 < r.length → Has ar_0) ∧ H' = [OwnL eN ar_0 3 1 cr_0 r, Cells b0 77 [.int .i64 s.limit, .int .i64 s.state, .slice ap0_0 s.data.length cp0_0, .map (some mp0_1)], OwnL eU ap0_0 5 1 cp0_0 s.data, MapE intK (fun x => .int .i64 x) mp0_1 s.offsets]) := by
  refine Fn.enter Try.func26 Try.call26 rfl fun F => ?_
  unfold fanout_Stream_Readers at hm
  conv => whnf
  refine eq_ptr_nil rfl ?_
  conv => whnf
  refine cond_go rfl ?_
  conv => whnf
  refine cond_F ?_
  conv => whnf
  refine nil_check ?_
  conv => whnf
  refine field_addr rfl ?_
  conv => whnf
  refine RStep.of (load1_s r0 rfl rfl ?_)
  conv => whnf
  refine range_rule r2 rfl fun rb11 => ?_
  have hP0 := perms_all hm
  conv => whnf
  refine nilC eN 3 1 ?_
  refine code_cut (σ := ((List Int)) × Option Addr × Nat) [3, 4, 12, 13, 14, 15, 16, 17, 18, 19] (fun (t0, t0_a0, t0_c0) => [(3, .slice t0_a0 t0.length t0_c0)]) (fun (t0, t0_a0, t0_c0) => [OwnL eN t0_a0 3 1 t0_c0 t0, MapE intK (fun x => .int .i64 x) mp0_1 s.offsets, Cells b0 77 [.int .i64 s.limit, .int .i64 s.state, .slice ap0_0 s.data.length cp0_0, .map (some mp0_1)], OwnL eU ap0_0 5 1 cp0_0 s.data, F]) (fun zz K1 => match zz with | (t0, t0_a0, t0_c0) => (0 < t0.length → Has t0_a0) ∧ ∃ pl, pl.Perm s.offsets ∧ mfold (fun e0 ss0 => fanout_Stream_Readers_L0 e0 ss0) pl [] = some t0) ?_ ?_
  · refine block_go rfl ?_
    conv => whnf
    refine loop_rule (σ := (List (Int × Int)) × (List Int) × Option Addr × Nat) [3, 4, 12, 13, 14, 15, 16, 17, 18, 19] (fun (vis0, y0_0, y0_a0, y0_c0) => [(3, .slice y0_a0 y0_0.length y0_c0)]) (fun (vis0, y0_0, y0_a0, y0_c0) => [OwnL eN y0_a0 3 1 y0_c0 y0_0, MapIt intK (fun x => .int .i64 x) rb11 mp0_1 s.offsets vis0, Cells b0 77 [.int .i64 s.limit, .int .i64 s.state, .slice ap0_0 s.data.length cp0_0, .map (some mp0_1)], OwnL eU ap0_0 5 1 cp0_0 s.data, F]) (fun zz K1 => match zz with | (vis0, y0_0, y0_a0, y0_c0) => (0 < y0_0.length → Has y0_a0) ∧ mfold (fun e0 ss0 => fanout_Stream_Readers_L0 e0 ss0) vis0 [] = some y0_0) (fun zz => s.offsets.length - zz.1.length) ([], [], none, 0) rfl ⟨rfl, trivial⟩ (ConvH.of (.cons r0 (.cons r0 (.cons r0 (.cons r0 (.cons r0 .nil)))))) ⟨(fun h => by simp at h), rfl⟩ ?_
    rintro ⟨vis0, y0_0, y0_a0, y0_c0⟩ Kb0 lk0 ⟨y0_h0, hv0⟩ j0
    conv => whnf
    refine next_rule r1 (fun hp0 => ?_) (fun e0 rs0 hp0 => ?_)
    · conv => whnf
      refine cond_go rfl ?_
      conv => whnf
      refine cond_F ?_
      conv => whnf
      refine cond_T ?_
      conv => whnf
      refine MeetStep.mk (y0_0, y0_a0, y0_c0) ⟨rfl, trivial⟩ (by repeat (first | exact trivial | refine And.intro rfl ?_)) (ConvH.of (.cons r1 (.cons r0 (.cons r0 (.cons r0 (.cons r0 .nil)))))) lk0 ⟨y0_h0, ⟨_, hp0, hv0⟩⟩
    · obtain ⟨z0, hB0⟩ := mnext hP0 hv0 hp0
      have hl0 : fanout_Stream_Readers_L0 e0 y0_0 = some z0 := hB0
      unfold fanout_Stream_Readers_L0 at hl0
      conv => whnf
      refine cond_go rfl ?_
      conv => whnf
      refine cond_T ?_
      conv => whnf
      refine block_go rfl ?_
      conv => whnf
      refine RStep.of (entry_rule r0 ?_)
      conv => whnf
      refine bsO (len := 1) (enc := eN) (l := [e0.1]) (cl := [.int .i64 e0.1]) elT36 rfl rfl (fun _ _ => rfl) rfl rfl rfl ?_ fun b18 => ?_
      · conv => whnf
        refine cond_T ?_
        conv => whnf
      obtain ⟨h19, hl0⟩ := chkb hl0
      conv => whnf
      refine apE rfl r2 elT36 (src_own' rfl r0 rfl (fun _ => rfl) (fun _ => rfl)) h19 ?_
      intro a19 c19 o19
      conv => whnf
      refine RoundStep.mk (vis0 ++ [e0], (y0_0 ++ [e0.1]), a19, c19) ⟨rfl, trivial⟩ (by repeat (first | exact trivial | refine And.intro rfl ?_)) (ConvH.of (.cons r0 (.cons r1 (.cons r1 (.cons r1 (.cons r1 .nil)))))) lk0 (ltmap hp0) ⟨o19, ((mfold_snoc hv0).trans (hB0.trans hl0.symm))⟩
  · rintro ⟨t0, t0_a0, t0_c0⟩ Kt0 lt0 ⟨t0_h0, hx0⟩ j0
    replace hm := mlast hP0 hx0
    obtain ⟨x21, q21, hm⟩ := bnd hm
    conv => whnf
    refine call_fn (sort_int_ok q21 rfl) (.cons r0 .nil) ?_
    rintro _ K21 _ l21 ⟨rfl, rfl⟩
    obtain rfl := si hm
    conv => whnf
    refine EndStep.mk _ (lt0.trans l21) ⟨t0_a0, t0_c0, (by rw [← (show x21.length = t0.length from Eq.symm ((Eq.trans (rfl) (sortIM_len q21).symm)))] <;> rfl), (fun h => t0_h0 (by rw [sortIM_len q21] at h; exact h)), rfl⟩ (ConvH.of (.cons r0 (.cons r1 (.cons r1 (.cons r0 (.cons r0 .nil))))))

noncomputable def fanout_Stream_Readers_nil : Option ((List Int)) :=
  some []
set_option maxHeartbeats 8000000 in
theorem fanout_Stream_Readers_nil_ok  {K : Hp} {r : (List Int)}
    (hm : fanout_Stream_Readers_nil = some r)  :
    Fn Try.prog 26 [.pointer none] K [] (fun v K' H' => ∃ ar_0 : Option Addr, ∃ cr_0 : Nat, v = .slice ar_0 r.length cr_0 ∧ (0 < r.length → Has ar_0) ∧ H' = [OwnL eN ar_0 3 1 cr_0 r]) := by
  refine Fn.enter Try.func26 Try.call26 rfl fun F => ?_
  unfold fanout_Stream_Readers_nil at hm
  conv => whnf
  refine eq_nil_nil rfl ?_
  conv => whnf
  refine cond_go rfl ?_
  conv => whnf
  refine cond_T ?_
  obtain rfl := si hm
  conv => whnf
  refine nilE eN 3 1 ?_
  refine EndStep.mk _ (Hp.Le.refl _) ⟨none, 0, rfl, (fun h => by simp at h), rfl⟩ (ConvH.of (.cons r0 (.cons r0 .nil)))

noncomputable def fanout_Stream_Least_L0 (e0 : (Int × Int)) (y0_0 : Int) : Option (Int) :=
  some (min y0_0 e0.2)
noncomputable def fanout_Stream_Least (s : S_fanout_Stream) : Option (Int) :=
  perms s.offsets fun pl0 =>
  (mfold (fun e0 ss0 => fanout_Stream_Least_L0 e0 ss0) pl0 (s.data.length : Int)).bind fun t0 =>
  some t0
set_option maxHeartbeats 8000000 in
theorem fanout_Stream_Least_ok {s : S_fanout_Stream} {b0 : Nat} {ap0_0 : Option Addr} {cp0_0 : Nat} {mp0_1 : Nat} {K : Hp} {r : Int}
    (hm : fanout_Stream_Least s = some r) (hp0_0 : (0 < s.data.length → Has ap0_0)) :
    Fn Try.prog 20 [.pointer (some ⟨b0, 0, none⟩)] K [Cells b0 77 [.int .i64 s.limit, .int .i64 s.state, .slice ap0_0 s.data.length cp0_0, .map (some mp0_1)], OwnL eU ap0_0 5 1 cp0_0 s.data, MapE intK (fun x => .int .i64 x) mp0_1 s.offsets] (fun v K' H' => v = .int .i64 r ∧ H' = [Cells b0 77 [.int .i64 s.limit, .int .i64 s.state, .slice ap0_0 s.data.length cp0_0, .map (some mp0_1)], OwnL eU ap0_0 5 1 cp0_0 s.data, MapE intK (fun x => .int .i64 x) mp0_1 s.offsets]) := by
  refine Fn.enter Try.func20 Try.call20 rfl fun F => ?_
  unfold fanout_Stream_Least at hm
  conv => whnf
  refine eq_ptr_nil rfl ?_
  conv => whnf
  refine cond_go rfl ?_
  conv => whnf
  refine cond_F ?_
  conv => whnf
  refine nil_check ?_
  conv => whnf
  refine field_addr rfl ?_
  conv => whnf
  refine RStep.of (load1_s r0 rfl rfl ?_)
  conv => whnf
  refine RStep.of (len_slice rfl ?_)
  conv => whnf
  refine nil_check ?_
  conv => whnf
  refine field_addr rfl ?_
  conv => whnf
  refine RStep.of (load1_s r0 rfl rfl ?_)
  conv => whnf
  refine range_rule r2 rfl fun rb17 => ?_
  have hP0 := perms_all hm
  conv => whnf
  refine code_cut (σ := (Int)) [3, 5, 18, 19, 20, 21, 22, 23, 24] (fun t0 => [(3, .int .i64 t0)]) (fun t0 => [MapE intK (fun x => .int .i64 x) mp0_1 s.offsets, Cells b0 77 [.int .i64 s.limit, .int .i64 s.state, .slice ap0_0 s.data.length cp0_0, .map (some mp0_1)], OwnL eU ap0_0 5 1 cp0_0 s.data, F]) (fun zz K1 => match zz with | t0 => ∃ pl, pl.Perm s.offsets ∧ mfold (fun e0 ss0 => fanout_Stream_Least_L0 e0 ss0) pl (s.data.length : Int) = some t0) ?_ ?_
  · refine block_go rfl ?_
    conv => whnf
    refine loop_rule (σ := (List (Int × Int)) × Int) [3, 5, 18, 19, 20, 21, 22, 23, 24] (fun (vis0, y0_0) => [(3, .int .i64 y0_0)]) (fun (vis0, y0_0) => [MapIt intK (fun x => .int .i64 x) rb17 mp0_1 s.offsets vis0, Cells b0 77 [.int .i64 s.limit, .int .i64 s.state, .slice ap0_0 s.data.length cp0_0, .map (some mp0_1)], OwnL eU ap0_0 5 1 cp0_0 s.data, F]) (fun zz K1 => match zz with | (vis0, y0_0) => mfold (fun e0 ss0 => fanout_Stream_Least_L0 e0 ss0) vis0 (s.data.length : Int) = some y0_0) (fun zz => s.offsets.length - zz.1.length) ([], (s.data.length : Int)) rfl ⟨rfl, trivial⟩ (ConvH.of (.cons r0 (.cons r0 (.cons r0 (.cons r0 .nil))))) rfl ?_
    rintro ⟨vis0, y0_0⟩ Kb0 lk0 hv0 j0
    conv => whnf
    refine next_rule r0 (fun hp0 => ?_) (fun e0 rs0 hp0 => ?_)
    · conv => whnf
      refine cond_go rfl ?_
      conv => whnf
      refine cond_F ?_
      conv => whnf
      refine cond_T ?_
      conv => whnf
      refine MeetStep.mk (y0_0) ⟨rfl, trivial⟩ (by repeat (first | exact trivial | refine And.intro rfl ?_)) (ConvH.of (.cons r0 (.cons r0 (.cons r0 (.cons r0 .nil))))) lk0 ⟨_, hp0, hv0⟩
    · obtain ⟨z0, hB0⟩ := mnext hP0 hv0 hp0
      have hl0 : fanout_Stream_Least_L0 e0 y0_0 = some z0 := hB0
      unfold fanout_Stream_Least_L0 at hl0
      conv => whnf
      refine cond_go rfl ?_
      conv => whnf
      refine cond_T ?_
      conv => whnf
      refine block_go rfl ?_
      conv => whnf
      refine RStep.of (entry_rule r0 ?_)
      conv => whnf
      refine RStep.of (min_int ?_)
      conv => whnf
      refine RoundStep.mk (vis0 ++ [e0], (min y0_0 e0.2)) ⟨rfl, trivial⟩ (by repeat (first | exact trivial | refine And.intro rfl ?_)) (ConvH.of (.cons r0 (.cons r0 (.cons r0 (.cons r0 .nil))))) lk0 (ltmap hp0) ((mfold_snoc hv0).trans (hB0.trans hl0.symm))
  · rintro t0 Kt0 lt0 hx0 j0
    replace hm := mlast hP0 hx0
    obtain rfl := si hm
    conv => whnf
    refine EndStep.mk _ lt0 ⟨rfl, rfl⟩ (ConvH.of (.cons r1 (.cons r1 (.cons r0 (.cons r0 .nil)))))

noncomputable def fanout_Stream_Least_nil : Option (Int) :=
  some 0
set_option maxHeartbeats 8000000 in
theorem fanout_Stream_Least_nil_ok  {K : Hp} {r : Int}
    (hm : fanout_Stream_Least_nil = some r)  :
    Fn Try.prog 20 [.pointer none] K [] (fun v K' H' => v = .int .i64 r ∧ H' = []) := by
  refine Fn.enter Try.func20 Try.call20 rfl fun F => ?_
  unfold fanout_Stream_Least_nil at hm
  conv => whnf
  refine eq_nil_nil rfl ?_
  conv => whnf
  refine cond_go rfl ?_
  conv => whnf
  refine cond_T ?_
  obtain rfl := si hm
  conv => whnf
  refine EndStep.mk _ (Hp.Le.refl _) ⟨rfl, rfl⟩ (ConvH.of (.cons r0 .nil))

noncomputable def fanout_Stream_Written (s : S_fanout_Stream) : Option (Int) :=
  some (s.data.length : Int)
set_option maxHeartbeats 8000000 in
theorem fanout_Stream_Written_ok {s : S_fanout_Stream} {b0 : Nat} {ap0_0 : Option Addr} {cp0_0 : Nat} {mp0_1 : Nat} {K : Hp} {r : Int}
    (hm : fanout_Stream_Written s = some r) (hp0_0 : (0 < s.data.length → Has ap0_0)) :
    Fn Try.prog 19 [.pointer (some ⟨b0, 0, none⟩)] K [Cells b0 77 [.int .i64 s.limit, .int .i64 s.state, .slice ap0_0 s.data.length cp0_0, .map (some mp0_1)], OwnL eU ap0_0 5 1 cp0_0 s.data, MapE intK (fun x => .int .i64 x) mp0_1 s.offsets] (fun v K' H' => v = .int .i64 r ∧ H' = [Cells b0 77 [.int .i64 s.limit, .int .i64 s.state, .slice ap0_0 s.data.length cp0_0, .map (some mp0_1)], OwnL eU ap0_0 5 1 cp0_0 s.data, MapE intK (fun x => .int .i64 x) mp0_1 s.offsets]) := by
  refine Fn.enter Try.func19 Try.call19 rfl fun F => ?_
  unfold fanout_Stream_Written at hm
  conv => whnf
  refine eq_ptr_nil rfl ?_
  conv => whnf
  refine cond_go rfl ?_
  conv => whnf
  refine cond_F ?_
  conv => whnf
  refine nil_check ?_
  conv => whnf
  refine field_addr rfl ?_
  conv => whnf
  refine RStep.of (load1_s r0 rfl rfl ?_)
  conv => whnf
  refine RStep.of (len_slice rfl ?_)
  obtain rfl := si hm
  conv => whnf
  refine EndStep.mk _ (Hp.Le.refl _) ⟨rfl, rfl⟩ (ConvH.of (.cons r0 (.cons r0 (.cons r0 (.cons r0 .nil)))))

noncomputable def fanout_Stream_Written_nil : Option (Int) :=
  some 0
set_option maxHeartbeats 8000000 in
theorem fanout_Stream_Written_nil_ok  {K : Hp} {r : Int}
    (hm : fanout_Stream_Written_nil = some r)  :
    Fn Try.prog 19 [.pointer none] K [] (fun v K' H' => v = .int .i64 r ∧ H' = []) := by
  refine Fn.enter Try.func19 Try.call19 rfl fun F => ?_
  unfold fanout_Stream_Written_nil at hm
  conv => whnf
  refine eq_nil_nil rfl ?_
  conv => whnf
  refine cond_go rfl ?_
  conv => whnf
  refine cond_T ?_
  obtain rfl := si hm
  conv => whnf
  refine EndStep.mk _ (Hp.Le.refl _) ⟨rfl, rfl⟩ (ConvH.of (.cons r0 .nil))

noncomputable def law28_FanoutNil (x : S_law28_Step) : Option (Bool) :=
  (law28_awake).bind fun x7 =>
  if (!x7) then
  some false
  else
  (fanout_Stream_Read_nil x.ID x.N).bind fun x15 =>
  (base_Is x15.2.2 3).bind fun x20 =>
  if ((x20 && decide ((x15.1.length : Int) = 0)) && decide (x15.2.1 = 0)) then
  (fanout_Stream_Write_nil x.Data).bind fun x34 =>
  (base_Is x34 3).bind fun x35 =>
  if x35 then
  (fanout_Stream_End_nil).bind fun x39 =>
  (base_Is x39 3).bind fun x40 =>
  if x40 then
  (fanout_Stream_Abort_nil).bind fun x44 =>
  (base_Is x44 3).bind fun x45 =>
  if x45 then
  (fanout_Stream_Attach_nil x.ID x.N).bind fun x53 =>
  (base_Is x53 3).bind fun x54 =>
  if x54 then
  (fanout_Stream_Detach_nil x.ID).bind fun x60 =>
  (if (!x60) then (fanout_Stream_Readers_nil).bind fun x65 =>
  some (decide ((x65.length : Int) = 0)) else some false).bind fun x68 =>
  (if x68 then (fanout_Stream_Least_nil).bind fun x71 =>
  some (decide (x71 = 0)) else some false).bind fun x73 =>
  (if x73 then (fanout_Stream_Written_nil).bind fun x76 =>
  some (decide (x76 = 0)) else some false).bind fun x78 =>
  some x78
  else
  some false
  else
  some false
  else
  some false
  else
  some false
  else
  some false
set_option maxHeartbeats 8000000 in
theorem law28_FanoutNil_ok {x : S_law28_Step} {ap0_0 : Option Addr} {cp0_0 : Nat} {K : Hp} {r : Bool}
    (hm : law28_FanoutNil x = some r) (hp0_0 : RdC eU K ap0_0 cp0_0 1 x.Data) :
    Fn Try.prog 9 [.agg #[.int .u8 (x.What.toNat : Int), .int .i64 x.ID, .int .i64 x.N, .slice ap0_0 x.Data.length cp0_0]] K [] (fun v K' H' => v = .bool r ∧ H' = []) := by
  refine Fn.enter Try.func9 Try.call9 rfl fun F => ?_
  unfold law28_FanoutNil at hm
  conv => whnf
  refine box_rule ?_
  intro b1
  obtain ⟨x7, q7, hm⟩ := bnd hm
  conv => whnf
  refine call_fn (law28_awake_ok q7) .nil ?_
  rintro _ K7 _ l7 ⟨rfl, rfl⟩
  conv => whnf
  refine un_not ?_
  conv => whnf
  refine cond_go rfl ?_
  conv => whnf
  refine cond_s (fun w8 => ?_) (fun w8 => ?_)
  · replace hm := ift (not_t (ni_t w8)) hm
    obtain rfl := si hm
    conv => whnf
    refine EndStep.mk _ l7 ⟨rfl, rfl⟩ (ConvH.of (.cons r1 .nil))
  · replace hm := iff_ (not_f (ni_f w8)) hm
    conv => whnf
    refine field_addr rfl ?_
    conv => whnf
    refine RStep.of (load1_s r0 rfl rfl ?_)
    conv => whnf
    refine field_addr rfl ?_
    conv => whnf
    refine RStep.of (load1_s r0 rfl rfl ?_)
    obtain ⟨x15, q15, hm⟩ := bnd hm
    conv => whnf
    refine call_fn (fanout_Stream_Read_nil_ok q15) .nil ?_
    rintro _ K15 _ l15 ⟨a15_0, c15_0, rfl, h15_0, rfl⟩
    obtain ⟨x20, q20, hm⟩ := bnd hm
    conv => whnf
    refine call_fn (base_Is_ok q20) .nil ?_
    rintro _ K20 _ l20 ⟨rfl, rfl⟩
    conv => whnf
    refine cond_s (fun g21_5 => ?_) (fun g21_5 => ?_)
    · conv => whnf
      refine cond_t g21_5 ?_
      conv => whnf
      refine RStep.of (len_slice rfl ?_)
      conv => whnf
      refine cond_t g21_5 ?_
      conv => whnf
      refine eq_int ?_
      conv => whnf
      refine cond_t g21_5 ?_
      conv => whnf
      refine cond_s (fun g26_5 => ?_) (fun g26_5 => ?_)
      · conv => whnf
        refine cond_t g26_5 ?_
        conv => whnf
        refine eq_int ?_
        conv => whnf
        refine cond_t g26_5 ?_
        conv => whnf
        refine cond_s (fun g30_5 => ?_) (fun g30_5 => ?_)
        · replace hm := ift (and_t (and_t g21_5 g26_5) g30_5) hm
          conv => whnf
          refine cond_t g30_5 ?_
          conv => whnf
          refine field_addr rfl ?_
          conv => whnf
          refine cond_t g30_5 ?_
          conv => whnf
          refine RStep.of (load1_s r1 rfl rfl ?_)
          conv => whnf
          refine cond_t g30_5 ?_
          obtain ⟨x34, q34, hm⟩ := bnd hm
          conv => whnf
          refine call_fn (fanout_Stream_Write_nil_ok q34 (hp0_0.mono ((l7.trans l15).trans l20)) rfl) .nil ?_
          rintro _ K34 _ l34 ⟨rfl, rfl⟩
          conv => whnf
          refine cond_t g30_5 ?_
          obtain ⟨x35, q35, hm⟩ := bnd hm
          conv => whnf
          refine call_fn (base_Is_ok q35) .nil ?_
          rintro _ K35 _ l35 ⟨rfl, rfl⟩
          conv => whnf
          refine cond_t g30_5 ?_
          conv => whnf
          refine cond_s (fun g37_5 => ?_) (fun g37_5 => ?_)
          · replace hm := ift g37_5 hm
            conv => whnf
            refine cond_t g37_5 ?_
            obtain ⟨x39, q39, hm⟩ := bnd hm
            conv => whnf
            refine call_fn (fanout_Stream_End_nil_ok q39) .nil ?_
            rintro _ K39 _ l39 ⟨rfl, rfl⟩
            conv => whnf
            refine cond_t g37_5 ?_
            obtain ⟨x40, q40, hm⟩ := bnd hm
            conv => whnf
            refine call_fn (base_Is_ok q40) .nil ?_
            rintro _ K40 _ l40 ⟨rfl, rfl⟩
            conv => whnf
            refine cond_t g37_5 ?_
            conv => whnf
            refine cond_s (fun g42_5 => ?_) (fun g42_5 => ?_)
            · replace hm := ift g42_5 hm
              conv => whnf
              refine cond_t g42_5 ?_
              obtain ⟨x44, q44, hm⟩ := bnd hm
              conv => whnf
              refine call_fn (fanout_Stream_Abort_nil_ok q44) .nil ?_
              rintro _ K44 _ l44 ⟨rfl, rfl⟩
              conv => whnf
              refine cond_t g42_5 ?_
              obtain ⟨x45, q45, hm⟩ := bnd hm
              conv => whnf
              refine call_fn (base_Is_ok q45) .nil ?_
              rintro _ K45 _ l45 ⟨rfl, rfl⟩
              conv => whnf
              refine cond_t g42_5 ?_
              conv => whnf
              refine cond_s (fun g47_5 => ?_) (fun g47_5 => ?_)
              · replace hm := ift g47_5 hm
                conv => whnf
                refine cond_t g47_5 ?_
                conv => whnf
                refine field_addr rfl ?_
                conv => whnf
                refine cond_t g47_5 ?_
                conv => whnf
                refine RStep.of (load1_s r1 rfl rfl ?_)
                conv => whnf
                refine cond_t g47_5 ?_
                conv => whnf
                refine field_addr rfl ?_
                conv => whnf
                refine cond_t g47_5 ?_
                conv => whnf
                refine RStep.of (load1_s r1 rfl rfl ?_)
                conv => whnf
                refine cond_t g47_5 ?_
                obtain ⟨x53, q53, hm⟩ := bnd hm
                conv => whnf
                refine call_fn (fanout_Stream_Attach_nil_ok q53) .nil ?_
                rintro _ K53 _ l53 ⟨rfl, rfl⟩
                conv => whnf
                refine cond_t g47_5 ?_
                obtain ⟨x54, q54, hm⟩ := bnd hm
                conv => whnf
                refine call_fn (base_Is_ok q54) .nil ?_
                rintro _ K54 _ l54 ⟨rfl, rfl⟩
                conv => whnf
                refine cond_t g47_5 ?_
                conv => whnf
                refine cond_s (fun g56_5 => ?_) (fun g56_5 => ?_)
                · replace hm := ift g56_5 hm
                  conv => whnf
                  refine cond_t g56_5 ?_
                  conv => whnf
                  refine field_addr rfl ?_
                  conv => whnf
                  refine cond_t g56_5 ?_
                  conv => whnf
                  refine RStep.of (load1_s r1 rfl rfl ?_)
                  conv => whnf
                  refine cond_t g56_5 ?_
                  obtain ⟨x60, q60, hm⟩ := bnd hm
                  conv => whnf
                  refine call_fn (fanout_Stream_Detach_nil_ok q60) .nil ?_
                  rintro _ K60 _ l60 ⟨rfl, rfl⟩
                  conv => whnf
                  refine cond_t g56_5 ?_
                  conv => whnf
                  refine un_not ?_
                  conv => whnf
                  refine cond_t g56_5 ?_
                  obtain ⟨x68, e68, hm⟩ := bnd hm
                  conv => whnf
                  refine cond_s (fun g63_5 => ?_) (fun g63_5 => ?_)
                  · replace e68 := ift (not_t (ni_t g63_5)) e68
                    conv => whnf
                    refine cond_t g63_5 ?_
                    obtain ⟨x65, q65, e68⟩ := bnd e68
                    conv => whnf
                    refine call_fn (fanout_Stream_Readers_nil_ok q65) .nil ?_
                    rintro _ K65 _ l65 ⟨a65_0, c65_0, rfl, h65_0, rfl⟩
                    conv => whnf
                    refine cond_t g63_5 ?_
                    conv => whnf
                    refine RStep.of (len_slice rfl ?_)
                    conv => whnf
                    refine cond_t g63_5 ?_
                    conv => whnf
                    refine eq_int ?_
                    conv => whnf
                    refine cond_t g63_5 ?_
                    obtain ⟨x73, e73, hm⟩ := bnd hm
                    conv => whnf
                    refine cond_s (fun g69_5 => ?_) (fun g69_5 => ?_)
                    · replace e73 := ift ((si e68).symm.trans g69_5) e73
                      conv => whnf
                      refine cond_t g69_5 ?_
                      obtain ⟨x71, q71, e73⟩ := bnd e73
                      conv => whnf
                      refine call_fn (fanout_Stream_Least_nil_ok q71) .nil ?_
                      rintro _ K71 _ l71 ⟨rfl, rfl⟩
                      conv => whnf
                      refine cond_t g69_5 ?_
                      conv => whnf
                      refine eq_int ?_
                      conv => whnf
                      refine cond_t g69_5 ?_
                      obtain ⟨x78, e78, hm⟩ := bnd hm
                      conv => whnf
                      refine cond_s (fun g74_5 => ?_) (fun g74_5 => ?_)
                      · replace e78 := ift ((si e73).symm.trans g74_5) e78
                        conv => whnf
                        refine cond_t g74_5 ?_
                        obtain ⟨x76, q76, e78⟩ := bnd e78
                        conv => whnf
                        refine call_fn (fanout_Stream_Written_nil_ok q76) .nil ?_
                        rintro _ K76 _ l76 ⟨rfl, rfl⟩
                        conv => whnf
                        refine cond_t g74_5 ?_
                        conv => whnf
                        refine eq_int ?_
                        conv => whnf
                        refine cond_t g74_5 ?_
                        obtain rfl := si hm
                        conv => whnf
                        refine EndStep.mk _ ((((((((((((((l7.trans l15).trans l20).trans l34).trans l35).trans l39).trans l40).trans l44).trans l45).trans l53).trans l54).trans l60).trans l65).trans l71).trans l76) ⟨(by rw [← (si e78)] <;> rfl), rfl⟩ (ConvH.of (.cons r3 .nil))
                      · replace e78 := iff_ ((si e73).symm.trans g74_5) e78
                        conv => whnf
                        refine cond_f g74_5 ?_
                        conv => whnf
                        refine cond_f g74_5 ?_
                        conv => whnf
                        refine cond_f g74_5 ?_
                        obtain rfl := si hm
                        conv => whnf
                        refine EndStep.mk _ (((((((((((((l7.trans l15).trans l20).trans l34).trans l35).trans l39).trans l40).trans l44).trans l45).trans l53).trans l54).trans l60).trans l65).trans l71) ⟨(by rw [← ((si e78).symm).symm] <;> rfl), rfl⟩ (ConvH.of (.cons r3 .nil))
                    · replace e73 := iff_ ((si e68).symm.trans g69_5) e73
                      conv => whnf
                      refine cond_f g69_5 ?_
                      conv => whnf
                      refine cond_f g69_5 ?_
                      conv => whnf
                      refine cond_f g69_5 ?_
                      obtain ⟨x78, e78, hm⟩ := bnd hm
                      replace e78 := iff_ (si e73).symm e78
                      conv => whnf
                      refine cond_F ?_
                      conv => whnf
                      refine cond_F ?_
                      conv => whnf
                      refine cond_F ?_
                      conv => whnf
                      refine cond_F ?_
                      obtain rfl := si hm
                      conv => whnf
                      refine EndStep.mk _ ((((((((((((l7.trans l15).trans l20).trans l34).trans l35).trans l39).trans l40).trans l44).trans l45).trans l53).trans l54).trans l60).trans l65) ⟨(by rw [← ((si e78).symm).symm] <;> rfl), rfl⟩ (ConvH.of (.cons r3 .nil))
                  · replace e68 := iff_ (not_f (ni_f g63_5)) e68
                    conv => whnf
                    refine cond_f g63_5 ?_
                    conv => whnf
                    refine cond_f g63_5 ?_
                    conv => whnf
                    refine cond_f g63_5 ?_
                    conv => whnf
                    refine cond_f g63_5 ?_
                    obtain ⟨x73, e73, hm⟩ := bnd hm
                    replace e73 := iff_ (si e68).symm e73
                    conv => whnf
                    refine cond_F ?_
                    conv => whnf
                    refine cond_F ?_
                    conv => whnf
                    refine cond_F ?_
                    conv => whnf
                    refine cond_F ?_
                    obtain ⟨x78, e78, hm⟩ := bnd hm
                    replace e78 := iff_ (si e73).symm e78
                    conv => whnf
                    refine cond_F ?_
                    conv => whnf
                    refine cond_F ?_
                    conv => whnf
                    refine cond_F ?_
                    conv => whnf
                    refine cond_F ?_
                    obtain rfl := si hm
                    conv => whnf
                    refine EndStep.mk _ (((((((((((l7.trans l15).trans l20).trans l34).trans l35).trans l39).trans l40).trans l44).trans l45).trans l53).trans l54).trans l60) ⟨(by rw [← ((si e78).symm).symm] <;> rfl), rfl⟩ (ConvH.of (.cons r2 .nil))
                · replace hm := iff_ g56_5 hm
                  conv => whnf
                  refine cond_f g56_5 ?_
                  conv => whnf
                  refine cond_f g56_5 ?_
                  conv => whnf
                  refine cond_f g56_5 ?_
                  conv => whnf
                  refine cond_f g56_5 ?_
                  conv => whnf
                  refine cond_f g56_5 ?_
                  conv => whnf
                  refine cond_F ?_
                  conv => whnf
                  refine cond_F ?_
                  conv => whnf
                  refine cond_F ?_
                  conv => whnf
                  refine cond_F ?_
                  conv => whnf
                  refine cond_F ?_
                  conv => whnf
                  refine cond_F ?_
                  conv => whnf
                  refine cond_F ?_
                  conv => whnf
                  refine cond_F ?_
                  conv => whnf
                  refine cond_F ?_
                  conv => whnf
                  refine cond_F ?_
                  conv => whnf
                  refine cond_F ?_
                  conv => whnf
                  refine cond_F ?_
                  conv => whnf
                  refine cond_F ?_
                  obtain rfl := si hm
                  conv => whnf
                  refine EndStep.mk _ ((((((((((l7.trans l15).trans l20).trans l34).trans l35).trans l39).trans l40).trans l44).trans l45).trans l53).trans l54) ⟨rfl, rfl⟩ (ConvH.of (.cons r2 .nil))
              · replace hm := iff_ g47_5 hm
                conv => whnf
                refine cond_f g47_5 ?_
                conv => whnf
                refine cond_f g47_5 ?_
                conv => whnf
                refine cond_f g47_5 ?_
                conv => whnf
                refine cond_f g47_5 ?_
                conv => whnf
                refine cond_f g47_5 ?_
                conv => whnf
                refine cond_f g47_5 ?_
                conv => whnf
                refine cond_f g47_5 ?_
                conv => whnf
                refine cond_F ?_
                conv => whnf
                refine cond_F ?_
                conv => whnf
                refine cond_F ?_
                conv => whnf
                refine cond_F ?_
                conv => whnf
                refine cond_F ?_
                conv => whnf
                refine cond_F ?_
                conv => whnf
                refine cond_F ?_
                conv => whnf
                refine cond_F ?_
                conv => whnf
                refine cond_F ?_
                conv => whnf
                refine cond_F ?_
                conv => whnf
                refine cond_F ?_
                conv => whnf
                refine cond_F ?_
                conv => whnf
                refine cond_F ?_
                conv => whnf
                refine cond_F ?_
                conv => whnf
                refine cond_F ?_
                conv => whnf
                refine cond_F ?_
                conv => whnf
                refine cond_F ?_
                conv => whnf
                refine cond_F ?_
                conv => whnf
                refine cond_F ?_
                obtain rfl := si hm
                conv => whnf
                refine EndStep.mk _ ((((((((l7.trans l15).trans l20).trans l34).trans l35).trans l39).trans l40).trans l44).trans l45) ⟨rfl, rfl⟩ (ConvH.of (.cons r2 .nil))
            · replace hm := iff_ g42_5 hm
              conv => whnf
              refine cond_f g42_5 ?_
              conv => whnf
              refine cond_f g42_5 ?_
              conv => whnf
              refine cond_f g42_5 ?_
              conv => whnf
              refine cond_F ?_
              conv => whnf
              refine cond_F ?_
              conv => whnf
              refine cond_F ?_
              conv => whnf
              refine cond_F ?_
              conv => whnf
              refine cond_F ?_
              conv => whnf
              refine cond_F ?_
              conv => whnf
              refine cond_F ?_
              conv => whnf
              refine cond_F ?_
              conv => whnf
              refine cond_F ?_
              conv => whnf
              refine cond_F ?_
              conv => whnf
              refine cond_F ?_
              conv => whnf
              refine cond_F ?_
              conv => whnf
              refine cond_F ?_
              conv => whnf
              refine cond_F ?_
              conv => whnf
              refine cond_F ?_
              conv => whnf
              refine cond_F ?_
              conv => whnf
              refine cond_F ?_
              conv => whnf
              refine cond_F ?_
              conv => whnf
              refine cond_F ?_
              conv => whnf
              refine cond_F ?_
              conv => whnf
              refine cond_F ?_
              conv => whnf
              refine cond_F ?_
              conv => whnf
              refine cond_F ?_
              conv => whnf
              refine cond_F ?_
              conv => whnf
              refine cond_F ?_
              conv => whnf
              refine cond_F ?_
              conv => whnf
              refine cond_F ?_
              obtain rfl := si hm
              conv => whnf
              refine EndStep.mk _ ((((((l7.trans l15).trans l20).trans l34).trans l35).trans l39).trans l40) ⟨rfl, rfl⟩ (ConvH.of (.cons r2 .nil))
          · replace hm := iff_ g37_5 hm
            conv => whnf
            refine cond_f g37_5 ?_
            conv => whnf
            refine cond_f g37_5 ?_
            conv => whnf
            refine cond_f g37_5 ?_
            conv => whnf
            refine cond_F ?_
            conv => whnf
            refine cond_F ?_
            conv => whnf
            refine cond_F ?_
            conv => whnf
            refine cond_F ?_
            conv => whnf
            refine cond_F ?_
            conv => whnf
            refine cond_F ?_
            conv => whnf
            refine cond_F ?_
            conv => whnf
            refine cond_F ?_
            conv => whnf
            refine cond_F ?_
            conv => whnf
            refine cond_F ?_
            conv => whnf
            refine cond_F ?_
            conv => whnf
            refine cond_F ?_
            conv => whnf
            refine cond_F ?_
            conv => whnf
            refine cond_F ?_
            conv => whnf
            refine cond_F ?_
            conv => whnf
            refine cond_F ?_
            conv => whnf
            refine cond_F ?_
            conv => whnf
            refine cond_F ?_
            conv => whnf
            refine cond_F ?_
            conv => whnf
            refine cond_F ?_
            conv => whnf
            refine cond_F ?_
            conv => whnf
            refine cond_F ?_
            conv => whnf
            refine cond_F ?_
            conv => whnf
            refine cond_F ?_
            conv => whnf
            refine cond_F ?_
            conv => whnf
            refine cond_F ?_
            conv => whnf
            refine cond_F ?_
            conv => whnf
            refine cond_F ?_
            conv => whnf
            refine cond_F ?_
            conv => whnf
            refine cond_F ?_
            conv => whnf
            refine cond_F ?_
            obtain rfl := si hm
            conv => whnf
            refine EndStep.mk _ ((((l7.trans l15).trans l20).trans l34).trans l35) ⟨rfl, rfl⟩ (ConvH.of (.cons r2 .nil))
        · replace hm := iff_ (and_g (and_t g21_5 g26_5) g30_5) hm
          conv => whnf
          refine cond_f g30_5 ?_
          conv => whnf
          refine cond_f g30_5 ?_
          conv => whnf
          refine cond_f g30_5 ?_
          conv => whnf
          refine cond_f g30_5 ?_
          conv => whnf
          refine cond_f g30_5 ?_
          conv => whnf
          refine cond_F ?_
          conv => whnf
          refine cond_F ?_
          conv => whnf
          refine cond_F ?_
          conv => whnf
          refine cond_F ?_
          conv => whnf
          refine cond_F ?_
          conv => whnf
          refine cond_F ?_
          conv => whnf
          refine cond_F ?_
          conv => whnf
          refine cond_F ?_
          conv => whnf
          refine cond_F ?_
          conv => whnf
          refine cond_F ?_
          conv => whnf
          refine cond_F ?_
          conv => whnf
          refine cond_F ?_
          conv => whnf
          refine cond_F ?_
          conv => whnf
          refine cond_F ?_
          conv => whnf
          refine cond_F ?_
          conv => whnf
          refine cond_F ?_
          conv => whnf
          refine cond_F ?_
          conv => whnf
          refine cond_F ?_
          conv => whnf
          refine cond_F ?_
          conv => whnf
          refine cond_F ?_
          conv => whnf
          refine cond_F ?_
          conv => whnf
          refine cond_F ?_
          conv => whnf
          refine cond_F ?_
          conv => whnf
          refine cond_F ?_
          conv => whnf
          refine cond_F ?_
          conv => whnf
          refine cond_F ?_
          conv => whnf
          refine cond_F ?_
          conv => whnf
          refine cond_F ?_
          conv => whnf
          refine cond_F ?_
          conv => whnf
          refine cond_F ?_
          conv => whnf
          refine cond_F ?_
          conv => whnf
          refine cond_F ?_
          conv => whnf
          refine cond_F ?_
          conv => whnf
          refine cond_F ?_
          conv => whnf
          refine cond_F ?_
          obtain rfl := si hm
          conv => whnf
          refine EndStep.mk _ ((l7.trans l15).trans l20) ⟨rfl, rfl⟩ (ConvH.of (.cons r2 .nil))
      · conv => whnf
        refine cond_f g26_5 ?_
        conv => whnf
        refine cond_f g26_5 ?_
        replace hm := iff_ (and_f (and_g g21_5 g26_5)) hm
        conv => whnf
        refine cond_F ?_
        conv => whnf
        refine cond_F ?_
        conv => whnf
        refine cond_F ?_
        conv => whnf
        refine cond_F ?_
        conv => whnf
        refine cond_F ?_
        conv => whnf
        refine cond_F ?_
        conv => whnf
        refine cond_F ?_
        conv => whnf
        refine cond_F ?_
        conv => whnf
        refine cond_F ?_
        conv => whnf
        refine cond_F ?_
        conv => whnf
        refine cond_F ?_
        conv => whnf
        refine cond_F ?_
        conv => whnf
        refine cond_F ?_
        conv => whnf
        refine cond_F ?_
        conv => whnf
        refine cond_F ?_
        conv => whnf
        refine cond_F ?_
        conv => whnf
        refine cond_F ?_
        conv => whnf
        refine cond_F ?_
        conv => whnf
        refine cond_F ?_
        conv => whnf
        refine cond_F ?_
        conv => whnf
        refine cond_F ?_
        conv => whnf
        refine cond_F ?_
        conv => whnf
        refine cond_F ?_
        conv => whnf
        refine cond_F ?_
        conv => whnf
        refine cond_F ?_
        conv => whnf
        refine cond_F ?_
        conv => whnf
        refine cond_F ?_
        conv => whnf
        refine cond_F ?_
        conv => whnf
        refine cond_F ?_
        conv => whnf
        refine cond_F ?_
        conv => whnf
        refine cond_F ?_
        conv => whnf
        refine cond_F ?_
        conv => whnf
        refine cond_F ?_
        conv => whnf
        refine cond_F ?_
        conv => whnf
        refine cond_F ?_
        conv => whnf
        refine cond_F ?_
        conv => whnf
        refine cond_F ?_
        conv => whnf
        refine cond_F ?_
        conv => whnf
        refine cond_F ?_
        conv => whnf
        refine cond_F ?_
        conv => whnf
        refine cond_F ?_
        obtain rfl := si hm
        conv => whnf
        refine EndStep.mk _ ((l7.trans l15).trans l20) ⟨rfl, rfl⟩ (ConvH.of (.cons r2 .nil))
    · conv => whnf
      refine cond_f g21_5 ?_
      conv => whnf
      refine cond_f g21_5 ?_
      conv => whnf
      refine cond_f g21_5 ?_
      conv => whnf
      refine cond_F ?_
      conv => whnf
      refine cond_F ?_
      conv => whnf
      refine cond_F ?_
      replace hm := iff_ (and_f (and_f g21_5)) hm
      conv => whnf
      refine cond_F ?_
      conv => whnf
      refine cond_F ?_
      conv => whnf
      refine cond_F ?_
      conv => whnf
      refine cond_F ?_
      conv => whnf
      refine cond_F ?_
      conv => whnf
      refine cond_F ?_
      conv => whnf
      refine cond_F ?_
      conv => whnf
      refine cond_F ?_
      conv => whnf
      refine cond_F ?_
      conv => whnf
      refine cond_F ?_
      conv => whnf
      refine cond_F ?_
      conv => whnf
      refine cond_F ?_
      conv => whnf
      refine cond_F ?_
      conv => whnf
      refine cond_F ?_
      conv => whnf
      refine cond_F ?_
      conv => whnf
      refine cond_F ?_
      conv => whnf
      refine cond_F ?_
      conv => whnf
      refine cond_F ?_
      conv => whnf
      refine cond_F ?_
      conv => whnf
      refine cond_F ?_
      conv => whnf
      refine cond_F ?_
      conv => whnf
      refine cond_F ?_
      conv => whnf
      refine cond_F ?_
      conv => whnf
      refine cond_F ?_
      conv => whnf
      refine cond_F ?_
      conv => whnf
      refine cond_F ?_
      conv => whnf
      refine cond_F ?_
      conv => whnf
      refine cond_F ?_
      conv => whnf
      refine cond_F ?_
      conv => whnf
      refine cond_F ?_
      conv => whnf
      refine cond_F ?_
      conv => whnf
      refine cond_F ?_
      conv => whnf
      refine cond_F ?_
      conv => whnf
      refine cond_F ?_
      conv => whnf
      refine cond_F ?_
      conv => whnf
      refine cond_F ?_
      conv => whnf
      refine cond_F ?_
      conv => whnf
      refine cond_F ?_
      conv => whnf
      refine cond_F ?_
      conv => whnf
      refine cond_F ?_
      conv => whnf
      refine cond_F ?_
      obtain rfl := si hm
      conv => whnf
      refine EndStep.mk _ ((l7.trans l15).trans l20) ⟨rfl, rfl⟩ (ConvH.of (.cons r2 .nil))
