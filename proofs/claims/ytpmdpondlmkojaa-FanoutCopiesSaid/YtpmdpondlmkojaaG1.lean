/- Functions of the program: mirrors, and that a call returns what the mirror says. Printed by gen.py. -/
import Derived.Test.YtpmdpondlmkojaaSL17
import Derived.KernelRfl
import Derived.Test.YtpmdpondlmkojaaProg
set_option linter.unusedVariables false
set_option linter.unusedSimpArgs false
open Go Go.SL Go.Proofs
set_option maxRecDepth 8000
structure S_fanout_Stream where
  limit : Int
  state : Int
  data : Str
  offsets : (List (Int × Int))
theorem elT22 : ElT Try.prog 22 5 1 := ElT.mk' rfl rfl rfl rfl rfl
def fanout_New (limit : Int) : Option (Option S_fanout_Stream × Err) :=
  if (decide (limit < 1) || decide (limit > 65536)) then
  some (none, (some 1))
  else
  some ((some (⟨limit, 1, [], []⟩ : S_fanout_Stream)), none)
set_option maxHeartbeats 8000000 in
theorem fanout_New_ok {limit : Int} {K : Hp} {r : Option S_fanout_Stream × Err}
    (hm : fanout_New limit = some r)  :
    Fn Try.prog 11 [.int .i64 limit] K [] (fun v K' H' => match r.1 with | none => (v = .tuple #[.pointer none, errV 44 r.2] ∧ H' = []) | some ro => (∃ br_0 : Nat, ∃ ar_1 : Option Addr, ∃ cr_1 : Nat, ∃ mr_2 : Nat, v = .tuple #[.pointer (some ⟨br_0, 0, none⟩), errV 44 r.2] ∧ (0 < ro.data.length → Has ar_1) ∧ H' = [Cells br_0 77 [.int .i64 ro.limit, .int .i64 ro.state, .slice ar_1 ro.data.length cr_1, .map (some mr_2)], OwnL eU ar_1 5 1 cr_1 ro.data, MapE intK (fun x => .int .i64 x) mr_2 ro.offsets])) := by
  refine Fn.enter Try.func11 Try.call11 rfl fun F => ?_
  unfold fanout_New at hm
  conv => whnf
  refine cond_s (fun g6_1 => ?_) (fun g6_1 => ?_)
  · conv => whnf
    refine cond_t g6_1 ?_
    conv => whnf
    refine cond_t g6_1 ?_
    conv => whnf
    refine cond_go rfl ?_
    conv => whnf
    refine cond_T ?_
    replace hm := ift (or_t g6_1) hm
    conv => whnf
    refine mk_iface rfl ?_
    obtain rfl := si hm
    conv => whnf
    refine EndStep.mk _ (Hp.Le.refl _) ⟨rfl, rfl⟩ (ConvH.of (.cons r0 .nil))
  · conv => whnf
    refine cond_f g6_1 ?_
    conv => whnf
    refine cond_f g6_1 ?_
    conv => whnf
    refine cond_go rfl ?_
    conv => whnf
    refine cond_s (fun w9 => ?_) (fun w9 => ?_)
    · replace hm := ift (or_u g6_1 w9) hm
      conv => whnf
      refine mk_iface rfl ?_
      obtain rfl := si hm
      conv => whnf
      refine EndStep.mk _ (Hp.Le.refl _) ⟨rfl, rfl⟩ (ConvH.of (.cons r0 .nil))
    · replace hm := iff_ (or_f g6_1 w9) hm
      conv => whnf
      refine makeMap_rule intK (fun x => .int .i64 x) fun b12 => ?_
      conv => whnf
      refine build_struct rfl rfl ?_
      conv => whnf
      refine cond_T ?_
      conv => whnf
      refine cond_T ?_
      conv => whnf
      refine cond_T ?_
      conv => whnf
      refine box_rule ?_
      intro b14
      obtain rfl := si hm
      conv => whnf
      refine nilE eU 5 1 ?_
      refine EndStep.mk _ (Hp.Le.refl _) ⟨b14, none, 0, b12, rfl, (fun h => by simp at h), rfl⟩ (ConvH.of (.cons r1 (.cons r0 (.cons r0 (.cons r0 .nil)))))

def fanout_Stream_open (s : S_fanout_Stream) : Option (Err) :=
  if decide (s.state ≠ 1) then
  some (some 6)
  else
  some none
set_option maxHeartbeats 8000000 in
theorem fanout_Stream_open_ok {s : S_fanout_Stream} {b0 : Nat} {ap0_0 : Option Addr} {cp0_0 : Nat} {mp0_1 : Nat} {K : Hp} {r : Err}
    (hm : fanout_Stream_open s = some r) (hp0_0 : (0 < s.data.length → Has ap0_0)) :
    Fn Try.prog 36 [.pointer (some ⟨b0, 0, none⟩)] K [Cells b0 77 [.int .i64 s.limit, .int .i64 s.state, .slice ap0_0 s.data.length cp0_0, .map (some mp0_1)], OwnL eU ap0_0 5 1 cp0_0 s.data, MapE intK (fun x => .int .i64 x) mp0_1 s.offsets] (fun v K' H' => v = errV 44 r ∧ H' = [Cells b0 77 [.int .i64 s.limit, .int .i64 s.state, .slice ap0_0 s.data.length cp0_0, .map (some mp0_1)], OwnL eU ap0_0 5 1 cp0_0 s.data, MapE intK (fun x => .int .i64 x) mp0_1 s.offsets]) := by
  refine Fn.enter Try.func36 Try.call36 rfl fun F => ?_
  unfold fanout_Stream_open at hm
  conv => whnf
  refine block_go rfl ?_
  conv => whnf
  refine eq_ptr_nil rfl ?_
  conv => whnf
  refine cond_go rfl ?_
  conv => whnf
  refine cond_F ?_
  conv => whnf
  refine nil_check ?_
  conv => whnf
  refine field_addr rfl ?_
  conv => whnf
  refine RStep.of (load1_s r0 rfl rfl ?_)
  conv => whnf
  refine neq_int ?_
  conv => whnf
  refine cond_go rfl ?_
  conv => whnf
  refine cond_s (fun w7 => ?_) (fun w7 => ?_)
  · replace hm := ift w7 hm
    conv => whnf
    refine mk_iface rfl ?_
    obtain rfl := si hm
    conv => whnf
    refine EndStep.mk _ (Hp.Le.refl _) ⟨rfl, rfl⟩ (ConvH.of (.cons r0 (.cons r0 (.cons r0 (.cons r0 .nil)))))
  · replace hm := iff_ w7 hm
    obtain rfl := si hm
    conv => whnf
    refine EndStep.mk _ (Hp.Le.refl _) ⟨rfl, rfl⟩ (ConvH.of (.cons r0 (.cons r0 (.cons r0 (.cons r0 .nil)))))

def fanout_Stream_Write (s : S_fanout_Stream) (b : Str) : Option (Err × S_fanout_Stream) :=
  (fanout_Stream_open s).bind fun x7 =>
  if x7.isSome then
  some (x7, s)
  else
  (chk (InI ((s.data.length : Int) + (b.length : Int)))).bind fun _ =>
  if decide (((s.data.length : Int) + (b.length : Int)) > s.limit) then
  some ((some 5), s)
  else
  (chk (s.data.length + b.length ≤ lim)).bind fun _ =>
  some (none, (⟨s.limit, s.state, (s.data ++ b), s.offsets⟩ : S_fanout_Stream))
set_option maxHeartbeats 8000000 in
theorem fanout_Stream_Write_ok {s : S_fanout_Stream} {b : Str} {b0 : Nat} {ap0_0 : Option Addr} {cp0_0 : Nat} {mp0_1 : Nat} {ap1_0 : Option Addr} {cp1_0 : Nat} {n1 : Nat} {K : Hp} {r : Err × S_fanout_Stream}
    (hm : fanout_Stream_Write s b = some r) (hp0_0 : (0 < s.data.length → Has ap0_0)) (hp1_0 : RdC eU K ap1_0 cp1_0 1 b) (en1 : n1 = b.length) :
    Fn Try.prog 12 [.pointer (some ⟨b0, 0, none⟩), .slice ap1_0 n1 cp1_0] K [Cells b0 77 [.int .i64 s.limit, .int .i64 s.state, .slice ap0_0 s.data.length cp0_0, .map (some mp0_1)], OwnL eU ap0_0 5 1 cp0_0 s.data, MapE intK (fun x => .int .i64 x) mp0_1 s.offsets] (fun v K' H' => ∃ ar_0 : Option Addr, ∃ cr_0 : Nat, ∃ mr_1 : Nat, v = errV 44 r.1 ∧ (0 < r.2.data.length → Has ar_0) ∧ H' = [Cells b0 77 [.int .i64 r.2.limit, .int .i64 r.2.state, .slice ar_0 r.2.data.length cr_0, .map (some mr_1)], OwnL eU ar_0 5 1 cr_0 r.2.data, MapE intK (fun x => .int .i64 x) mr_1 r.2.offsets]) := by
  subst en1
  refine Fn.enter Try.func12 Try.call12 rfl fun F => ?_
  unfold fanout_Stream_Write at hm
  obtain ⟨x7, q7, hm⟩ := bnd hm
  conv => whnf
  refine call_fn (fanout_Stream_open_ok q7 hp0_0) (.cons r0 (.cons r0 (.cons r0 .nil))) ?_
  rintro _ K7 _ l7 ⟨rfl, rfl⟩
  conv => whnf
  refine neq_err rfl ?_
  conv => whnf
  refine cond_go rfl ?_
  conv => whnf
  refine cond_s (fun w9 => ?_) (fun w9 => ?_)
  · replace hm := ift w9 hm
    obtain rfl := si hm
    conv => whnf
    refine EndStep.mk _ l7 ⟨ap0_0, cp0_0, mp0_1, rfl, hp0_0, rfl⟩ (ConvH.of (.cons r0 (.cons r0 (.cons r0 (.cons r0 .nil)))))
  · replace hm := iff_ w9 hm
    conv => whnf
    refine ⟨⟨⟨[], false⟩, _, [(_, _)]⟩, by kernel_rfl, ⟨Hp.Le.refl _, (ConvH.of (.cons r0 .nil))⟩, ?_⟩
    conv => whnf
    refine nil_check ?_
    conv => whnf
    refine field_addr rfl ?_
    conv => whnf
    refine load1_l m0 rfl rfl ?_
    conv => whnf
    refine len_slice rfl ?_
    conv => whnf
    refine len_slice rfl ?_
    obtain ⟨h18, hm⟩ := chkb hm
    conv => whnf
    refine int_in h18 ?_
    conv => whnf
    refine nil_check ?_
    conv => whnf
    refine field_addr rfl ?_
    conv => whnf
    refine load1_l m0 rfl rfl ?_
    conv => whnf
    refine cond_go rfl ?_
    conv => whnf
    refine cond_s (fun w23 => ?_) (fun w23 => ?_)
    · replace hm := ift w23 hm
      conv => whnf
      refine mk_iface rfl ?_
      obtain rfl := si hm
      conv => whnf
      refine EndStep.mk _ l7 ⟨ap0_0, cp0_0, mp0_1, rfl, hp0_0, rfl⟩ (ConvH.of (.cons r0 (.cons r0 (.cons r0 (.cons r0 .nil)))))
    · replace hm := iff_ w23 hm
      conv => whnf
      refine nil_check ?_
      conv => whnf
      refine field_addr rfl ?_
      conv => whnf
      refine RStep.of (load1_s r0 rfl rfl ?_)
      obtain ⟨h31, hm⟩ := chkb hm
      conv => whnf
      refine apE rfl r1 elT22 (src_k rfl (hp1_0.mono l7).rd rfl) h31 ?_
      intro a31 c31 o31
      conv => whnf
      refine nil_check ?_
      conv => whnf
      refine field_addr rfl ?_
      conv => whnf
      refine store_rule r1 rfl ?_
      conv => whnf
      refine ⟨rfl, rfl, (Nat.le_of_ble_eq_true rfl), ?_⟩
      obtain rfl := si hm
      conv => whnf
      refine EndStep.mk _ l7 ⟨a31, c31, mp0_1, rfl, o31, rfl⟩ (ConvH.of (.cons r0 (.cons r0 (.cons r0 (.cons r0 .nil)))))

def fanout_Stream_open_nil : Option (Err) :=
  some (some 3)
set_option maxHeartbeats 8000000 in
theorem fanout_Stream_open_nil_ok  {K : Hp} {r : Err}
    (hm : fanout_Stream_open_nil = some r)  :
    Fn Try.prog 36 [.pointer none] K [] (fun v K' H' => v = errV 44 r ∧ H' = []) := by
  refine Fn.enter Try.func36 Try.call36 rfl fun F => ?_
  unfold fanout_Stream_open_nil at hm
  conv => whnf
  refine block_go rfl ?_
  conv => whnf
  refine eq_nil_nil rfl ?_
  conv => whnf
  refine cond_go rfl ?_
  conv => whnf
  refine cond_T ?_
  conv => whnf
  refine mk_iface rfl ?_
  obtain rfl := si hm
  conv => whnf
  refine EndStep.mk _ (Hp.Le.refl _) ⟨rfl, rfl⟩ (ConvH.of (.cons r0 .nil))

def fanout_Stream_Write_nil (b : Str) : Option (Err) :=
  (fanout_Stream_open_nil).bind fun x7 =>
  if x7.isSome then
  some x7
  else
  none
set_option maxHeartbeats 8000000 in
theorem fanout_Stream_Write_nil_ok {b : Str} {ap1_0 : Option Addr} {cp1_0 : Nat} {n1 : Nat} {K : Hp} {r : Err}
    (hm : fanout_Stream_Write_nil b = some r) (hp1_0 : RdC eU K ap1_0 cp1_0 1 b) (en1 : n1 = b.length) :
    Fn Try.prog 12 [.pointer none, .slice ap1_0 n1 cp1_0] K [] (fun v K' H' => v = errV 44 r ∧ H' = []) := by
  subst en1
  refine Fn.enter Try.func12 Try.call12 rfl fun F => ?_
  unfold fanout_Stream_Write_nil at hm
  obtain ⟨x7, q7, hm⟩ := bnd hm
  conv => whnf
  refine call_fn (fanout_Stream_open_nil_ok q7) .nil ?_
  rintro _ K7 _ l7 ⟨rfl, rfl⟩
  conv => whnf
  refine neq_err rfl ?_
  conv => whnf
  refine cond_go rfl ?_
  conv => whnf
  refine cond_s (fun w9 => ?_) (fun w9 => ?_)
  · replace hm := ift w9 hm
    obtain rfl := si hm
    conv => whnf
    refine EndStep.mk _ l7 ⟨rfl, rfl⟩ (ConvH.of (.cons r0 .nil))
  · replace hm := iff_ w9 hm
    conv => whnf
    refine ⟨⟨⟨[], false⟩, _, []⟩, by kernel_rfl, ⟨Hp.Le.refl _, (ConvH.of .nil)⟩, ?_⟩
    cases hm

def fanout_Stream_Attach (s : S_fanout_Stream) (id : Int) (fromZ : Int) : Option (Err × S_fanout_Stream) :=
  if (mget s.offsets id).isSome then
  some ((some 4), s)
  else
  if (decide (fromZ < 0) || decide (fromZ > (s.data.length : Int))) then
  some ((some 1), s)
  else
  some (none, (⟨s.limit, s.state, s.data, (mset s.offsets id fromZ)⟩ : S_fanout_Stream))
set_option maxHeartbeats 8000000 in
theorem fanout_Stream_Attach_ok {s : S_fanout_Stream} {id : Int} {fromZ : Int} {b0 : Nat} {ap0_0 : Option Addr} {cp0_0 : Nat} {mp0_1 : Nat} {K : Hp} {r : Err × S_fanout_Stream}
    (hm : fanout_Stream_Attach s id fromZ = some r) (hp0_0 : (0 < s.data.length → Has ap0_0)) :
    Fn Try.prog 13 [.pointer (some ⟨b0, 0, none⟩), .int .i64 id, .int .i64 fromZ] K [Cells b0 77 [.int .i64 s.limit, .int .i64 s.state, .slice ap0_0 s.data.length cp0_0, .map (some mp0_1)], OwnL eU ap0_0 5 1 cp0_0 s.data, MapE intK (fun x => .int .i64 x) mp0_1 s.offsets] (fun v K' H' => ∃ ar_0 : Option Addr, ∃ cr_0 : Nat, ∃ mr_1 : Nat, v = errV 44 r.1 ∧ (0 < r.2.data.length → Has ar_0) ∧ H' = [Cells b0 77 [.int .i64 r.2.limit, .int .i64 r.2.state, .slice ar_0 r.2.data.length cr_0, .map (some mr_1)], OwnL eU ar_0 5 1 cr_0 r.2.data, MapE intK (fun x => .int .i64 x) mr_1 r.2.offsets]) := by
  refine Fn.enter Try.func13 Try.call13 rfl fun F => ?_
  unfold fanout_Stream_Attach at hm
  conv => whnf
  refine eq_ptr_nil rfl ?_
  conv => whnf
  refine cond_go rfl ?_
  conv => whnf
  refine cond_F ?_
  conv => whnf
  refine nil_check ?_
  conv => whnf
  refine field_addr rfl ?_
  conv => whnf
  refine RStep.of (load1_s r0 rfl rfl ?_)
  conv => whnf
  refine RStep.of (lookup_ok (kenc := intK) (venc := (fun x => .int .i64 x)) (z := 0) r2 rfl rfl (key_int rfl) ?_)
  conv => whnf
  refine cond_go rfl ?_
  conv => whnf
  refine cond_s (fun w21 => ?_) (fun w21 => ?_)
  · replace hm := ift w21 hm
    conv => whnf
    refine mk_iface rfl ?_
    obtain rfl := si hm
    conv => whnf
    refine EndStep.mk _ (Hp.Le.refl _) ⟨ap0_0, cp0_0, mp0_1, rfl, hp0_0, rfl⟩ (ConvH.of (.cons r0 (.cons r0 (.cons r0 (.cons r0 .nil)))))
  · replace hm := iff_ w21 hm
    conv => whnf
    refine cond_s (fun g25_6 => ?_) (fun g25_6 => ?_)
    · conv => whnf
      refine cond_t g25_6 ?_
      conv => whnf
      refine cond_t g25_6 ?_
      conv => whnf
      refine cond_t g25_6 ?_
      conv => whnf
      refine cond_t g25_6 ?_
      conv => whnf
      refine cond_t g25_6 ?_
      conv => whnf
      refine cond_t g25_6 ?_
      conv => whnf
      refine cond_t g25_6 ?_
      conv => whnf
      refine cond_go rfl ?_
      conv => whnf
      refine cond_T ?_
      replace hm := ift (or_t g25_6) hm
      conv => whnf
      refine mk_iface rfl ?_
      obtain rfl := si hm
      conv => whnf
      refine EndStep.mk _ (Hp.Le.refl _) ⟨ap0_0, cp0_0, mp0_1, rfl, hp0_0, rfl⟩ (ConvH.of (.cons r0 (.cons r0 (.cons r0 (.cons r0 .nil)))))
    · conv => whnf
      refine cond_f g25_6 ?_
      conv => whnf
      refine cond_f g25_6 ?_
      conv => whnf
      refine nil_check ?_
      conv => whnf
      refine cond_f g25_6 ?_
      conv => whnf
      refine field_addr rfl ?_
      conv => whnf
      refine cond_f g25_6 ?_
      conv => whnf
      refine RStep.of (load1_s r0 rfl rfl ?_)
      conv => whnf
      refine cond_f g25_6 ?_
      conv => whnf
      refine RStep.of (len_slice rfl ?_)
      conv => whnf
      refine cond_f g25_6 ?_
      conv => whnf
      refine cond_f g25_6 ?_
      conv => whnf
      refine cond_go rfl ?_
      conv => whnf
      refine cond_s (fun w33 => ?_) (fun w33 => ?_)
      · replace hm := ift (or_u g25_6 w33) hm
        conv => whnf
        refine mk_iface rfl ?_
        obtain rfl := si hm
        conv => whnf
        refine EndStep.mk _ (Hp.Le.refl _) ⟨ap0_0, cp0_0, mp0_1, rfl, hp0_0, rfl⟩ (ConvH.of (.cons r0 (.cons r0 (.cons r0 (.cons r0 .nil)))))
      · replace hm := iff_ (or_f g25_6 w33) hm
        conv => whnf
        refine nil_check ?_
        conv => whnf
        refine field_addr rfl ?_
        conv => whnf
        refine RStep.of (load1_s r0 rfl rfl ?_)
        conv => whnf
        refine update_rule (kenc := intK) (venc := (fun x => .int .i64 x)) fromZ rfl r2 rfl (key_int rfl) ?_
        obtain rfl := si hm
        conv => whnf
        refine EndStep.mk _ (Hp.Le.refl _) ⟨ap0_0, cp0_0, mp0_1, rfl, hp0_0, rfl⟩ (ConvH.of (.cons r1 (.cons r1 (.cons r0 (.cons r0 .nil)))))

def fanout_Stream_Attach_nil (id : Int) (fromZ : Int) : Option (Err) :=
  some (some 3)
set_option maxHeartbeats 8000000 in
theorem fanout_Stream_Attach_nil_ok {id : Int} {fromZ : Int} {K : Hp} {r : Err}
    (hm : fanout_Stream_Attach_nil id fromZ = some r)  :
    Fn Try.prog 13 [.pointer none, .int .i64 id, .int .i64 fromZ] K [] (fun v K' H' => v = errV 44 r ∧ H' = []) := by
  refine Fn.enter Try.func13 Try.call13 rfl fun F => ?_
  unfold fanout_Stream_Attach_nil at hm
  conv => whnf
  refine eq_nil_nil rfl ?_
  conv => whnf
  refine cond_go rfl ?_
  conv => whnf
  refine cond_T ?_
  conv => whnf
  refine mk_iface rfl ?_
  obtain rfl := si hm
  conv => whnf
  refine EndStep.mk _ (Hp.Le.refl _) ⟨rfl, rfl⟩ (ConvH.of (.cons r0 .nil))

def fanout_Stream_Read_nil (id : Int) (max : Int) : Option (Str × Int × Err) :=
  some ([], 0, (some 3))
set_option maxHeartbeats 8000000 in
theorem fanout_Stream_Read_nil_ok {id : Int} {max : Int} {K : Hp} {r : Str × Int × Err}
    (hm : fanout_Stream_Read_nil id max = some r)  :
    Fn Try.prog 14 [.pointer none, .int .i64 id, .int .i64 max] K [] (fun v K' H' => ∃ ar_0 : Option Addr, ∃ cr_0 : Nat, v = .tuple #[.slice ar_0 r.1.length cr_0, .int .i64 r.2.1, errV 44 r.2.2] ∧ (0 < r.1.length → Has ar_0) ∧ H' = [OwnL eU ar_0 5 1 cr_0 r.1]) := by
  refine Fn.enter Try.func14 Try.call14 rfl fun F => ?_
  unfold fanout_Stream_Read_nil at hm
  conv => whnf
  refine eq_nil_nil rfl ?_
  conv => whnf
  refine cond_go rfl ?_
  conv => whnf
  refine cond_T ?_
  conv => whnf
  refine mk_iface rfl ?_
  obtain rfl := si hm
  conv => whnf
  refine nilE eU 5 1 ?_
  refine EndStep.mk _ (Hp.Le.refl _) ⟨none, 0, rfl, (fun h => by simp at h), rfl⟩ (ConvH.of (.cons r0 (.cons r0 .nil)))

def fanout_Stream_Read (s : S_fanout_Stream) (id : Int) (max : Int) : Option (Str × Int × Err × S_fanout_Stream) :=
  if (!(mget s.offsets id).isSome) then
  some ([], 0, (some 3), s)
  else
  if decide (s.state = 3) then
  some ([], 3, none, s)
  else
  if decide (max > 0) then
  (chk (InI ((s.data.length : Int) - ((mget s.offsets id).getD 0)))).bind fun _ =>
  (chk (InI (((mget s.offsets id).getD 0) + (min max ((s.data.length : Int) - ((mget s.offsets id).getD 0)))))).bind fun _ =>
  (chk (0 ≤ ((mget s.offsets id).getD 0) ∧ ((mget s.offsets id).getD 0) ≤ (((mget s.offsets id).getD 0) + (min max ((s.data.length : Int) - ((mget s.offsets id).getD 0)))) ∧ (((mget s.offsets id).getD 0) + (min max ((s.data.length : Int) - ((mget s.offsets id).getD 0)))) ≤ (s.data.length : Int))).bind fun _ =>
  (chk ((subL s.data ((mget s.offsets id).getD 0) (((mget s.offsets id).getD 0) + (min max ((s.data.length : Int) - ((mget s.offsets id).getD 0))))).length ≤ lim)).bind fun _ =>
  (chk (InI (((mget s.offsets id).getD 0) + (((subL s.data ((mget s.offsets id).getD 0) (((mget s.offsets id).getD 0) + (min max ((s.data.length : Int) - ((mget s.offsets id).getD 0))))).length) : Int)))).bind fun _ =>
  if (decide (s.state = 2) && decide ((((mget s.offsets id).getD 0) + (((subL s.data ((mget s.offsets id).getD 0) (((mget s.offsets id).getD 0) + (min max ((s.data.length : Int) - ((mget s.offsets id).getD 0))))).length) : Int)) = (s.data.length : Int))) then
  some ((subL s.data ((mget s.offsets id).getD 0) (((mget s.offsets id).getD 0) + (min max ((s.data.length : Int) - ((mget s.offsets id).getD 0))))), 2, none, (⟨s.limit, s.state, s.data, (mset s.offsets id (((mget s.offsets id).getD 0) + (((subL s.data ((mget s.offsets id).getD 0) (((mget s.offsets id).getD 0) + (min max ((s.data.length : Int) - ((mget s.offsets id).getD 0))))).length) : Int)))⟩ : S_fanout_Stream))
  else
  some ((subL s.data ((mget s.offsets id).getD 0) (((mget s.offsets id).getD 0) + (min max ((s.data.length : Int) - ((mget s.offsets id).getD 0))))), 1, none, (⟨s.limit, s.state, s.data, (mset s.offsets id (((mget s.offsets id).getD 0) + (((subL s.data ((mget s.offsets id).getD 0) (((mget s.offsets id).getD 0) + (min max ((s.data.length : Int) - ((mget s.offsets id).getD 0))))).length) : Int)))⟩ : S_fanout_Stream))
  else
  (chk (InI (((mget s.offsets id).getD 0) + 0))).bind fun _ =>
  if (decide (s.state = 2) && decide ((((mget s.offsets id).getD 0) + 0) = (s.data.length : Int))) then
  some ([], 2, none, (⟨s.limit, s.state, s.data, (mset s.offsets id (((mget s.offsets id).getD 0) + 0))⟩ : S_fanout_Stream))
  else
  some ([], 1, none, (⟨s.limit, s.state, s.data, (mset s.offsets id (((mget s.offsets id).getD 0) + 0))⟩ : S_fanout_Stream))
set_option maxHeartbeats 8000000 in
theorem fanout_Stream_Read_ok {s : S_fanout_Stream} {id : Int} {max : Int} {b0 : Nat} {ap0_0 : Option Addr} {cp0_0 : Nat} {mp0_1 : Nat} {K : Hp} {r : Str × Int × Err × S_fanout_Stream}
    (hm : fanout_Stream_Read s id max = some r) (hp0_0 : (0 < s.data.length → Has ap0_0)) :
    Fn Try.prog 14 [.pointer (some ⟨b0, 0, none⟩), .int .i64 id, .int .i64 max] K [Cells b0 77 [.int .i64 s.limit, .int .i64 s.state, .slice ap0_0 s.data.length cp0_0, .map (some mp0_1)], OwnL eU ap0_0 5 1 cp0_0 s.data, MapE intK (fun x => .int .i64 x) mp0_1 s.offsets] (fun v K' H' => ∃ ar_0 : Option Addr, ∃ cr_0 : Nat, ∃ ar_1 : Option Addr, ∃ cr_1 : Nat, ∃ mr_2 : Nat, v = .tuple #[.slice ar_0 r.1.length cr_0, .int .i64 r.2.1, errV 44 r.2.2.1] ∧ (0 < r.1.length → Has ar_0) ∧ (0 < r.2.2.2.data.length → Has ar_1) ∧ H' = [OwnL eU ar_0 5 1 cr_0 r.1, Cells b0 77 [.int .i64 r.2.2.2.limit, .int .i64 r.2.2.2.state, .slice ar_1 r.2.2.2.data.length cr_1, .map (some mr_2)], OwnL eU ar_1 5 1 cr_1 r.2.2.2.data, MapE intK (fun x => .int .i64 x) mr_2 r.2.2.2.offsets]) := by
  refine Fn.enter Try.func14 Try.call14 rfl fun F => ?_
  unfold fanout_Stream_Read at hm
  conv => whnf
  refine eq_ptr_nil rfl ?_
  conv => whnf
  refine cond_go rfl ?_
  conv => whnf
  refine cond_F ?_
  conv => whnf
  refine nil_check ?_
  conv => whnf
  refine field_addr rfl ?_
  conv => whnf
  refine RStep.of (load1_s r0 rfl rfl ?_)
  conv => whnf
  refine RStep.of (lookup_ok (kenc := intK) (venc := (fun x => .int .i64 x)) (z := 0) r2 rfl rfl (key_int rfl) ?_)
  conv => whnf
  refine un_not ?_
  conv => whnf
  refine cond_go rfl ?_
  conv => whnf
  refine cond_s (fun w25 => ?_) (fun w25 => ?_)
  · replace hm := ift (not_t (ni_t w25)) hm
    conv => whnf
    refine mk_iface rfl ?_
    obtain rfl := si hm
    conv => whnf
    refine nilE eU 5 1 ?_
    refine EndStep.mk _ (Hp.Le.refl _) ⟨none, 0, ap0_0, cp0_0, mp0_1, rfl, (fun h => by simp at h), hp0_0, rfl⟩ (ConvH.of (.cons r0 (.cons r0 (.cons r0 (.cons r0 (.cons r0 .nil))))))
  · replace hm := iff_ (not_f (ni_f w25)) hm
    conv => whnf
    refine nil_check ?_
    conv => whnf
    refine field_addr rfl ?_
    conv => whnf
    refine RStep.of (load1_s r0 rfl rfl ?_)
    conv => whnf
    refine eq_int ?_
    conv => whnf
    refine cond_go rfl ?_
    conv => whnf
    refine cond_s (fun w31 => ?_) (fun w31 => ?_)
    · replace hm := ift w31 hm
      obtain rfl := si hm
      conv => whnf
      refine nilE eU 5 1 ?_
      refine EndStep.mk _ (Hp.Le.refl _) ⟨none, 0, ap0_0, cp0_0, mp0_1, rfl, (fun h => by simp at h), hp0_0, rfl⟩ (ConvH.of (.cons r0 (.cons r0 (.cons r0 (.cons r0 (.cons r0 .nil))))))
    · replace hm := iff_ w31 hm
      conv => whnf
      refine CStep.ownLe r1 fun hc3 => ?_
      conv => whnf
      refine cond_go rfl ?_
      conv => whnf
      refine cond_s (fun w33 => ?_) (fun w33 => ?_)
      · replace hm := ift w33 hm
        conv => whnf
        refine ⟨⟨⟨[], false⟩, _, [(_, _)]⟩, by kernel_rfl, ⟨Hp.Le.refl _, (ConvH.of (.cons r0 .nil))⟩, ?_⟩
        conv => whnf
        refine nil_check ?_
        conv => whnf
        refine field_addr rfl ?_
        conv => whnf
        refine load1_l m0 rfl rfl ?_
        conv => whnf
        refine nil_check ?_
        conv => whnf
        refine field_addr rfl ?_
        conv => whnf
        refine load1_l m0 rfl rfl ?_
        conv => whnf
        refine len_slice rfl ?_
        obtain ⟨h48, hm⟩ := chkb hm
        conv => whnf
        refine int_in h48 ?_
        conv => whnf
        refine min_int ?_
        obtain ⟨h50, hm⟩ := chkb hm
        conv => whnf
        refine int_in h50 ?_
        obtain ⟨h51, hm⟩ := chkb hm
        conv => whnf
        refine sl_part (l := s.data) (lo := (some ((mget s.offsets id).getD 0))) (hi := (some (((mget s.offsets id).getD 0) + (min max ((s.data.length : Int) - ((mget s.offsets id).getD 0)))))) rfl rfl rfl hc3 h51 ?_
        obtain ⟨h52, hm⟩ := chkb hm
        conv => whnf
        refine apn (enc := eU) elT22 (src_part rfl r1 h51 rfl (fun _ => rfl) (fun _ => rfl)) h52 ?_
        intro a52 c52 o52
        conv => whnf
        refine ⟨⟨(Hp.Le.refl _), (ConvH.of (.cons r1 .nil))⟩, ?_⟩
        conv => whnf
        refine RStep.of (len_slice rfl ?_)
        obtain ⟨h56, hm⟩ := chkb hm
        conv => whnf
        refine int_in h56 ?_
        conv => whnf
        refine nil_check ?_
        conv => whnf
        refine field_addr rfl ?_
        conv => whnf
        refine RStep.of (load1_s r1 rfl rfl ?_)
        conv => whnf
        refine update_rule (kenc := intK) (venc := (fun x => .int .i64 x)) (((mget s.offsets id).getD 0) + (((subL s.data ((mget s.offsets id).getD 0) (((mget s.offsets id).getD 0) + (min max ((s.data.length : Int) - ((mget s.offsets id).getD 0))))).length) : Int)) rfl r3 rfl (key_int rfl) ?_
        conv => whnf
        refine nil_check ?_
        conv => whnf
        refine field_addr rfl ?_
        conv => whnf
        refine RStep.of (load1_s r2 rfl rfl ?_)
        conv => whnf
        refine eq_int ?_
        conv => whnf
        refine cond_s (fun g68_13 => ?_) (fun g68_13 => ?_)
        · conv => whnf
          refine cond_t g68_13 ?_
          conv => whnf
          refine cond_t g68_13 ?_
          conv => whnf
          refine nil_check ?_
          conv => whnf
          refine cond_t g68_13 ?_
          conv => whnf
          refine field_addr rfl ?_
          conv => whnf
          refine cond_t g68_13 ?_
          conv => whnf
          refine RStep.of (load1_s r2 rfl rfl ?_)
          conv => whnf
          refine cond_t g68_13 ?_
          conv => whnf
          refine RStep.of (len_slice rfl ?_)
          conv => whnf
          refine cond_t g68_13 ?_
          conv => whnf
          refine eq_int ?_
          conv => whnf
          refine cond_t g68_13 ?_
          conv => whnf
          refine cond_go rfl ?_
          conv => whnf
          refine cond_s (fun w76 => ?_) (fun w76 => ?_)
          · replace hm := ift (and_t g68_13 w76) hm
            obtain rfl := si hm
            conv => whnf
            refine EndStep.mk _ (Hp.Le.refl _) ⟨a52, c52, ap0_0, cp0_0, mp0_1, rfl, o52, hp0_0, rfl⟩ (ConvH.of (.cons r1 (.cons r1 (.cons r1 (.cons r0 (.cons r0 .nil))))))
          · replace hm := iff_ (and_g g68_13 w76) hm
            obtain rfl := si hm
            conv => whnf
            refine EndStep.mk _ (Hp.Le.refl _) ⟨a52, c52, ap0_0, cp0_0, mp0_1, rfl, o52, hp0_0, rfl⟩ (ConvH.of (.cons r1 (.cons r1 (.cons r1 (.cons r0 (.cons r0 .nil))))))
        · conv => whnf
          refine cond_f g68_13 ?_
          conv => whnf
          refine cond_f g68_13 ?_
          conv => whnf
          refine cond_f g68_13 ?_
          conv => whnf
          refine cond_f g68_13 ?_
          conv => whnf
          refine cond_f g68_13 ?_
          conv => whnf
          refine cond_f g68_13 ?_
          conv => whnf
          refine cond_f g68_13 ?_
          conv => whnf
          refine cond_go rfl ?_
          conv => whnf
          refine cond_F ?_
          replace hm := iff_ (and_f g68_13) hm
          obtain rfl := si hm
          conv => whnf
          refine EndStep.mk _ (Hp.Le.refl _) ⟨a52, c52, ap0_0, cp0_0, mp0_1, rfl, o52, hp0_0, rfl⟩ (ConvH.of (.cons r1 (.cons r1 (.cons r1 (.cons r0 (.cons r0 .nil))))))
      · replace hm := iff_ w33 hm
        conv => whnf
        refine RStep.of (len_slice rfl ?_)
        obtain ⟨h56, hm⟩ := chkb hm
        conv => whnf
        refine int_in h56 ?_
        conv => whnf
        refine nil_check ?_
        conv => whnf
        refine field_addr rfl ?_
        conv => whnf
        refine RStep.of (load1_s r0 rfl rfl ?_)
        conv => whnf
        refine update_rule (kenc := intK) (venc := (fun x => .int .i64 x)) (((mget s.offsets id).getD 0) + 0) rfl r2 rfl (key_int rfl) ?_
        conv => whnf
        refine nil_check ?_
        conv => whnf
        refine field_addr rfl ?_
        conv => whnf
        refine RStep.of (load1_s r1 rfl rfl ?_)
        conv => whnf
        refine eq_int ?_
        conv => whnf
        refine cond_s (fun g68_13 => ?_) (fun g68_13 => ?_)
        · conv => whnf
          refine cond_t g68_13 ?_
          conv => whnf
          refine cond_t g68_13 ?_
          conv => whnf
          refine nil_check ?_
          conv => whnf
          refine cond_t g68_13 ?_
          conv => whnf
          refine field_addr rfl ?_
          conv => whnf
          refine cond_t g68_13 ?_
          conv => whnf
          refine RStep.of (load1_s r1 rfl rfl ?_)
          conv => whnf
          refine cond_t g68_13 ?_
          conv => whnf
          refine RStep.of (len_slice rfl ?_)
          conv => whnf
          refine cond_t g68_13 ?_
          conv => whnf
          refine eq_int ?_
          conv => whnf
          refine cond_t g68_13 ?_
          conv => whnf
          refine cond_go rfl ?_
          conv => whnf
          refine cond_s (fun w76 => ?_) (fun w76 => ?_)
          · replace hm := ift (and_t g68_13 w76) hm
            obtain rfl := si hm
            conv => whnf
            refine nilE eU 5 1 ?_
            refine EndStep.mk _ (Hp.Le.refl _) ⟨none, 0, ap0_0, cp0_0, mp0_1, rfl, (fun h => by simp at h), hp0_0, rfl⟩ (ConvH.of (.cons r0 (.cons r1 (.cons r1 (.cons r0 (.cons r0 .nil))))))
          · replace hm := iff_ (and_g g68_13 w76) hm
            obtain rfl := si hm
            conv => whnf
            refine nilE eU 5 1 ?_
            refine EndStep.mk _ (Hp.Le.refl _) ⟨none, 0, ap0_0, cp0_0, mp0_1, rfl, (fun h => by simp at h), hp0_0, rfl⟩ (ConvH.of (.cons r0 (.cons r1 (.cons r1 (.cons r0 (.cons r0 .nil))))))
        · conv => whnf
          refine cond_f g68_13 ?_
          conv => whnf
          refine cond_f g68_13 ?_
          conv => whnf
          refine cond_f g68_13 ?_
          conv => whnf
          refine cond_f g68_13 ?_
          conv => whnf
          refine cond_f g68_13 ?_
          conv => whnf
          refine cond_f g68_13 ?_
          conv => whnf
          refine cond_f g68_13 ?_
          conv => whnf
          refine cond_go rfl ?_
          conv => whnf
          refine cond_F ?_
          replace hm := iff_ (and_f g68_13) hm
          obtain rfl := si hm
          conv => whnf
          refine nilE eU 5 1 ?_
          refine EndStep.mk _ (Hp.Le.refl _) ⟨none, 0, ap0_0, cp0_0, mp0_1, rfl, (fun h => by simp at h), hp0_0, rfl⟩ (ConvH.of (.cons r0 (.cons r1 (.cons r1 (.cons r0 (.cons r0 .nil))))))

def law28_awake : Option (Bool) :=
  (fanout_New 10).bind fun x6 =>
  Option.elim x6.1 (
  if x6.2.isSome then
  some false
  else
  (fanout_Stream_Write_nil ([(97 : UInt8), (98 : UInt8), (99 : UInt8)] : Str)).bind fun x15 =>
  if x15.isSome then
  some false
  else
  (fanout_Stream_Attach_nil 1 1).bind fun x20 =>
  if x20.isSome then
  some false
  else
  (fanout_Stream_Read_nil 1 9).bind fun x25 =>
  (if x25.2.2.isNone then some (decide (x25.1 = ([98, 99] : Str))) else some false).bind fun x35 =>
  some (x35 && decide (x25.2.1 = 1)))
   fun o6 =>
  if x6.2.isSome then
  some false
  else
  (fanout_Stream_Write o6 ([(97 : UInt8), (98 : UInt8), (99 : UInt8)] : Str)).bind fun x15 =>
  if x15.1.isSome then
  some false
  else
  (fanout_Stream_Attach x15.2 1 1).bind fun x20 =>
  if x20.1.isSome then
  some false
  else
  (fanout_Stream_Read x20.2 1 9).bind fun x25 =>
  (if x25.2.2.1.isNone then some (decide (x25.1 = ([98, 99] : Str))) else some false).bind fun x35 =>
  some (x35 && decide (x25.2.1 = 1))
set_option maxHeartbeats 8000000 in
theorem law28_awake_ok  {K : Hp} {r : Bool}
    (hm : law28_awake = some r)  :
    Fn Try.prog 10 [] K [] (fun v K' H' => v = .bool r ∧ H' = []) := by
  refine Fn.enter Try.func10 Try.call10 rfl fun F => ?_
  unfold law28_awake at hm
  obtain ⟨x6, q6, hm⟩ := bnd hm
  conv => whnf
  refine call_fn (fanout_New_ok q6) .nil ?_
  rintro v6 K6 H6 l6 p6
  rcases hq6 : x6.1 with _ | o6
  · rw [hq6] at p6 hm
    obtain ⟨rfl, rfl⟩ := p6
    replace hm := oe_n hm
    conv => whnf
    refine neq_err rfl ?_
    conv => whnf
    refine cond_s (fun g11_2 => ?_) (fun g11_2 => ?_)
    · replace hm := ift g11_2 hm
      conv => whnf
      refine cond_t g11_2 ?_
      conv => whnf
      refine cond_t g11_2 ?_
      conv => whnf
      refine cond_t g11_2 ?_
      conv => whnf
      refine cond_t g11_2 ?_
      conv => whnf
      refine cond_t g11_2 ?_
      conv => whnf
      refine cond_T ?_
      conv => whnf
      refine cond_T ?_
      conv => whnf
      refine cond_T ?_
      conv => whnf
      refine cond_T ?_
      conv => whnf
      refine cond_go rfl ?_
      conv => whnf
      refine cond_T ?_
      obtain rfl := si hm
      conv => whnf
      refine EndStep.mk _ l6 ⟨rfl, rfl⟩ (ConvH.of (.cons r0 .nil))
    · replace hm := iff_ g11_2 hm
      conv => whnf
      refine cond_f g11_2 ?_
      conv => whnf
      refine bsO (len := 3) (enc := eU) (l := ([(97 : UInt8), (98 : UInt8), (99 : UInt8)] : Str)) (cl := [.int .u8 97, .int .u8 98, .int .u8 99]) elT22 rfl rfl (fun _ _ => rfl) rfl rfl rfl ?_ fun b13 => ?_
      · conv => whnf
        refine cond_T ?_
        conv => whnf
        refine cond_T ?_
        conv => whnf
        refine cond_T ?_
        conv => whnf
      conv => whnf
      refine cond_f g11_2 ?_
      conv => whnf
      refine cv_mark rfl rfl r0 ?_
      conv => whnf
      refine cond_f g11_2 ?_
      obtain ⟨x15, q15, hm⟩ := bnd hm
      conv => whnf
      refine call_fn (Fn.lend Try.call12 (fun K15_1 l15_1 f15_1 => (fanout_Stream_Write_nil_ok q15 f15_1 rfl)) (by exact fun _ _ _ _ h => h)) (.cons r0 .nil) ?_
      rintro _ K15 _ l15 ⟨_, rfl, rfl, rfl⟩
      conv => whnf
      refine cond_f g11_2 ?_
      conv => whnf
      refine neq_err rfl ?_
      conv => whnf
      refine cond_f g11_2 ?_
      conv => whnf
      refine cond_s (fun g18_2 => ?_) (fun g18_2 => ?_)
      · replace hm := ift g18_2 hm
        conv => whnf
        refine cond_t g18_2 ?_
        conv => whnf
        refine cond_t g18_2 ?_
        conv => whnf
        refine cond_t g18_2 ?_
        conv => whnf
        refine cond_go rfl ?_
        conv => whnf
        refine cond_T ?_
        obtain rfl := si hm
        conv => whnf
        refine EndStep.mk _ (l6.trans l15) ⟨rfl, rfl⟩ (ConvH.of (.cons r1 .nil))
      · replace hm := iff_ g18_2 hm
        conv => whnf
        refine cond_f g18_2 ?_
        obtain ⟨x20, q20, hm⟩ := bnd hm
        conv => whnf
        refine call_fn (fanout_Stream_Attach_nil_ok q20) .nil ?_
        rintro _ K20 _ l20 ⟨rfl, rfl⟩
        conv => whnf
        refine cond_f g18_2 ?_
        conv => whnf
        refine neq_err rfl ?_
        conv => whnf
        refine cond_f g18_2 ?_
        conv => whnf
        refine cond_go rfl ?_
        conv => whnf
        refine cond_s (fun w22 => ?_) (fun w22 => ?_)
        · replace hm := ift w22 hm
          obtain rfl := si hm
          conv => whnf
          refine EndStep.mk _ ((l6.trans l15).trans l20) ⟨rfl, rfl⟩ (ConvH.of (.cons r1 .nil))
        · replace hm := iff_ w22 hm
          obtain ⟨x25, q25, hm⟩ := bnd hm
          conv => whnf
          refine call_fn (fanout_Stream_Read_nil_ok q25) .nil ?_
          rintro _ K25 _ l25 ⟨a25_0, c25_0, rfl, h25_0, rfl⟩
          conv => whnf
          refine eq_err rfl ?_
          obtain ⟨x35, e35, hm⟩ := bnd hm
          conv => whnf
          refine cond_s (fun g31_5 => ?_) (fun g31_5 => ?_)
          · replace e35 := ift g31_5 e35
            conv => whnf
            refine cond_t g31_5 ?_
            conv => whnf
            refine RStep.of (cv_ownE rfl r0 rfl rfl rfl ?_)
            conv => whnf
            refine cond_t g31_5 ?_
            conv => whnf
            refine eq_str ?_
            conv => whnf
            refine cond_t g31_5 ?_
            conv => whnf
            refine cond_s (fun g36_5 => ?_) (fun g36_5 => ?_)
            · conv => whnf
              refine cond_t g36_5 ?_
              conv => whnf
              refine eq_int ?_
              conv => whnf
              refine cond_t g36_5 ?_
              obtain rfl := si hm
              conv => whnf
              refine EndStep.mk _ (((l6.trans l15).trans l20).trans l25) ⟨(by rw [← (and_e (b := decide (x25.2.1 = 1)) ((si e35).symm.trans g36_5))] <;> rfl), rfl⟩ (ConvH.of (.cons r2 .nil))
            · conv => whnf
              refine cond_f g36_5 ?_
              conv => whnf
              refine cond_f g36_5 ?_
              obtain rfl := si hm
              conv => whnf
              refine EndStep.mk _ (((l6.trans l15).trans l20).trans l25) ⟨(by rw [← ((and_f ((si e35).symm.trans g36_5))).symm] <;> rfl), rfl⟩ (ConvH.of (.cons r2 .nil))
          · replace e35 := iff_ g31_5 e35
            conv => whnf
            refine cond_f g31_5 ?_
            conv => whnf
            refine cond_f g31_5 ?_
            conv => whnf
            refine cond_f g31_5 ?_
            conv => whnf
            refine cond_F ?_
            conv => whnf
            refine cond_F ?_
            conv => whnf
            refine cond_F ?_
            obtain rfl := si hm
            conv => whnf
            refine EndStep.mk _ (((l6.trans l15).trans l20).trans l25) ⟨(by rw [← ((and_f (si e35).symm)).symm] <;> rfl), rfl⟩ (ConvH.of (.cons r2 .nil))
  · rw [hq6] at p6 hm
    obtain ⟨b6_0, a6_1, c6_1, m6_2, rfl, h6_1, rfl⟩ := p6
    replace hm := oe_s hm
    conv => whnf
    refine neq_err rfl ?_
    conv => whnf
    refine cond_s (fun g11_2 => ?_) (fun g11_2 => ?_)
    · replace hm := ift g11_2 hm
      conv => whnf
      refine cond_t g11_2 ?_
      conv => whnf
      refine cond_t g11_2 ?_
      conv => whnf
      refine cond_t g11_2 ?_
      conv => whnf
      refine cond_t g11_2 ?_
      conv => whnf
      refine cond_t g11_2 ?_
      conv => whnf
      refine cond_T ?_
      conv => whnf
      refine cond_T ?_
      conv => whnf
      refine cond_T ?_
      conv => whnf
      refine cond_T ?_
      conv => whnf
      refine cond_go rfl ?_
      conv => whnf
      refine cond_T ?_
      obtain rfl := si hm
      conv => whnf
      refine EndStep.mk _ l6 ⟨rfl, rfl⟩ (ConvH.of (.cons r3 .nil))
    · replace hm := iff_ g11_2 hm
      conv => whnf
      refine cond_f g11_2 ?_
      conv => whnf
      refine bsO (len := 3) (enc := eU) (l := ([(97 : UInt8), (98 : UInt8), (99 : UInt8)] : Str)) (cl := [.int .u8 97, .int .u8 98, .int .u8 99]) elT22 rfl rfl (fun _ _ => rfl) rfl rfl rfl ?_ fun b13 => ?_
      · conv => whnf
        refine cond_T ?_
        conv => whnf
        refine cond_T ?_
        conv => whnf
        refine cond_T ?_
        conv => whnf
      conv => whnf
      refine cond_f g11_2 ?_
      conv => whnf
      refine cv_mark rfl rfl r0 ?_
      conv => whnf
      refine cond_f g11_2 ?_
      obtain ⟨x15, q15, hm⟩ := bnd hm
      conv => whnf
      refine call_fn (Fn.lend Try.call12 (fun K15_1 l15_1 f15_1 => (fanout_Stream_Write_ok q15 h6_1 f15_1 rfl)) (by exact fun _ _ _ _ h => h)) (.cons r0 (.cons r0 (.cons r0 (.cons r0 .nil)))) ?_
      rintro _ K15 _ l15 ⟨_, rfl, a15_0, c15_0, m15_1, rfl, h15_0, rfl⟩
      conv => whnf
      refine cond_f g11_2 ?_
      conv => whnf
      refine neq_err rfl ?_
      conv => whnf
      refine cond_f g11_2 ?_
      conv => whnf
      refine cond_s (fun g18_2 => ?_) (fun g18_2 => ?_)
      · replace hm := ift g18_2 hm
        conv => whnf
        refine cond_t g18_2 ?_
        conv => whnf
        refine cond_t g18_2 ?_
        conv => whnf
        refine cond_t g18_2 ?_
        conv => whnf
        refine cond_go rfl ?_
        conv => whnf
        refine cond_T ?_
        obtain rfl := si hm
        conv => whnf
        refine EndStep.mk _ (l6.trans l15) ⟨rfl, rfl⟩ (ConvH.of (.cons r4 .nil))
      · replace hm := iff_ g18_2 hm
        conv => whnf
        refine cond_f g18_2 ?_
        obtain ⟨x20, q20, hm⟩ := bnd hm
        conv => whnf
        refine call_fn (fanout_Stream_Attach_ok q20 h15_0) (.cons r1 (.cons r1 (.cons r1 .nil))) ?_
        rintro _ K20 _ l20 ⟨a20_0, c20_0, m20_1, rfl, h20_0, rfl⟩
        conv => whnf
        refine cond_f g18_2 ?_
        conv => whnf
        refine neq_err rfl ?_
        conv => whnf
        refine cond_f g18_2 ?_
        conv => whnf
        refine cond_go rfl ?_
        conv => whnf
        refine cond_s (fun w22 => ?_) (fun w22 => ?_)
        · replace hm := ift w22 hm
          obtain rfl := si hm
          conv => whnf
          refine EndStep.mk _ ((l6.trans l15).trans l20) ⟨rfl, rfl⟩ (ConvH.of (.cons r4 .nil))
        · replace hm := iff_ w22 hm
          obtain ⟨x25, q25, hm⟩ := bnd hm
          conv => whnf
          refine call_fn (fanout_Stream_Read_ok q25 h20_0) (.cons r0 (.cons r0 (.cons r0 .nil))) ?_
          rintro _ K25 _ l25 ⟨a25_0, c25_0, a25_1, c25_1, m25_2, rfl, h25_0, h25_1, rfl⟩
          conv => whnf
          refine eq_err rfl ?_
          obtain ⟨x35, e35, hm⟩ := bnd hm
          conv => whnf
          refine cond_s (fun g31_5 => ?_) (fun g31_5 => ?_)
          · replace e35 := ift g31_5 e35
            conv => whnf
            refine cond_t g31_5 ?_
            conv => whnf
            refine RStep.of (cv_ownE rfl r0 rfl rfl rfl ?_)
            conv => whnf
            refine cond_t g31_5 ?_
            conv => whnf
            refine eq_str ?_
            conv => whnf
            refine cond_t g31_5 ?_
            conv => whnf
            refine cond_s (fun g36_5 => ?_) (fun g36_5 => ?_)
            · conv => whnf
              refine cond_t g36_5 ?_
              conv => whnf
              refine eq_int ?_
              conv => whnf
              refine cond_t g36_5 ?_
              obtain rfl := si hm
              conv => whnf
              refine EndStep.mk _ (((l6.trans l15).trans l20).trans l25) ⟨(by rw [← (and_e (b := decide (x25.2.1 = 1)) ((si e35).symm.trans g36_5))] <;> rfl), rfl⟩ (ConvH.of (.cons r5 .nil))
            · conv => whnf
              refine cond_f g36_5 ?_
              conv => whnf
              refine cond_f g36_5 ?_
              obtain rfl := si hm
              conv => whnf
              refine EndStep.mk _ (((l6.trans l15).trans l20).trans l25) ⟨(by rw [← ((and_f ((si e35).symm.trans g36_5))).symm] <;> rfl), rfl⟩ (ConvH.of (.cons r5 .nil))
          · replace e35 := iff_ g31_5 e35
            conv => whnf
            refine cond_f g31_5 ?_
            conv => whnf
            refine cond_f g31_5 ?_
            conv => whnf
            refine cond_f g31_5 ?_
            conv => whnf
            refine cond_F ?_
            conv => whnf
            refine cond_F ?_
            conv => whnf
            refine cond_F ?_
            obtain rfl := si hm
            conv => whnf
            refine EndStep.mk _ (((l6.trans l15).trans l20).trans l25) ⟨(by rw [← ((and_f (si e35).symm)).symm] <;> rfl), rfl⟩ (ConvH.of (.cons r5 .nil))

def base_Bytes (a : Str) (b : Str) : Option (Bool) :=
  some (decide (a = b))
set_option maxHeartbeats 8000000 in
theorem base_Bytes_ok {a : Str} {b : Str} {ap0_0 : Option Addr} {cp0_0 : Nat} {n0 : Nat} {ap1_0 : Option Addr} {cp1_0 : Nat} {n1 : Nat} {K : Hp} {r : Bool}
    (hm : base_Bytes a b = some r) (hp0_0 : RdC eU K ap0_0 cp0_0 1 a) (en0 : n0 = a.length) (hp1_0 : RdC eU K ap1_0 cp1_0 1 b) (en1 : n1 = b.length) :
    Fn Try.prog 15 [.slice ap0_0 n0 cp0_0, .slice ap1_0 n1 cp1_0] K [] (fun v K' H' => v = .bool r ∧ H' = []) := by
  subst en0
  subst en1
  refine Fn.enter Try.func15 Try.call15 rfl fun F => ?_
  unfold base_Bytes at hm
  conv => whnf
  refine RStep.of (cv_k rfl rfl rfl hp0_0.rd ?_)
  conv => whnf
  refine RStep.of (cv_k rfl rfl rfl hp1_0.rd ?_)
  conv => whnf
  refine eq_str ?_
  obtain rfl := si hm
  conv => whnf
  refine EndStep.mk _ (Hp.Le.refl _) ⟨rfl, rfl⟩ (ConvH.of (.cons r0 .nil))

def law28_FanoutCopies (data : Str) (atZ : UInt8) : Option (Bool) :=
  (if (decide ((data.length : Int) = 0) || decide ((data.length : Int) > 1000)) then some true else (law28_awake).bind fun x23 =>
  some (!x23)).bind fun x25 =>
  if x25 then
  some (decide ((data.length : Int) = 0) || decide ((data.length : Int) > 1000))
  else
  (fanout_New 65536).bind fun x35 =>
  Option.elim x35.1 (
  (chk (([] : Str).length + data.length ≤ lim)).bind fun _ =>
  if x35.2.isSome then
  some false
  else
  (fanout_Stream_Write_nil (([] : Str) ++ data)).bind fun x46 =>
  if x46.isSome then
  some false
  else
  (fanout_Stream_Attach_nil 1 0).bind fun x51 =>
  if x51.isSome then
  some false
  else
  (fanout_Stream_Attach_nil 2 0).bind fun x56 =>
  if x56.isSome then
  some false
  else
  (chk ((((([] : Str) ++ data).length) : Int) ≠ 0)).bind fun _ =>
  (ix (([] : Str) ++ data) (Int.tmod (atZ.toNat : Int) (((([] : Str) ++ data).length) : Int))).bind fun x65 =>
  (ix (([] : Str) ++ data) (Int.tmod (atZ.toNat : Int) (((([] : Str) ++ data).length) : Int))).bind fun x68 =>
  (fanout_Stream_Read_nil 1 (data.length : Int)).bind fun x73 =>
  (if x73.2.2.isSome then some true else (base_Bytes x73.1 data).bind fun x82 =>
  some (!x82)).bind fun x84 =>
  if x84 then
  some false
  else
  (chk ((x73.1.length : Int) ≠ 0)).bind fun _ =>
  (ix x73.1 (Int.tmod (atZ.toNat : Int) (x73.1.length : Int))).bind fun x91 =>
  (ix x73.1 (Int.tmod (atZ.toNat : Int) (x73.1.length : Int))).bind fun x94 =>
  (fanout_Stream_Read_nil 2 (data.length : Int)).bind fun x99 =>
  (if x99.2.2.isNone then (base_Bytes x99.1 data).bind fun x108 =>
  some x108 else some false).bind fun x109 =>
  some x109)
   fun o35 =>
  (chk (([] : Str).length + data.length ≤ lim)).bind fun _ =>
  if x35.2.isSome then
  some false
  else
  (fanout_Stream_Write o35 (([] : Str) ++ data)).bind fun x46 =>
  if x46.1.isSome then
  some false
  else
  (fanout_Stream_Attach x46.2 1 0).bind fun x51 =>
  if x51.1.isSome then
  some false
  else
  (fanout_Stream_Attach x51.2 2 0).bind fun x56 =>
  if x56.1.isSome then
  some false
  else
  (chk ((((([] : Str) ++ data).length) : Int) ≠ 0)).bind fun _ =>
  (ix (([] : Str) ++ data) (Int.tmod (atZ.toNat : Int) (((([] : Str) ++ data).length) : Int))).bind fun x65 =>
  (ix (([] : Str) ++ data) (Int.tmod (atZ.toNat : Int) (((([] : Str) ++ data).length) : Int))).bind fun x68 =>
  (fanout_Stream_Read x56.2 1 (data.length : Int)).bind fun x73 =>
  (if x73.2.2.1.isSome then some true else (base_Bytes x73.1 data).bind fun x82 =>
  some (!x82)).bind fun x84 =>
  if x84 then
  some false
  else
  (chk ((x73.1.length : Int) ≠ 0)).bind fun _ =>
  (ix x73.1 (Int.tmod (atZ.toNat : Int) (x73.1.length : Int))).bind fun x91 =>
  (ix x73.1 (Int.tmod (atZ.toNat : Int) (x73.1.length : Int))).bind fun x94 =>
  (fanout_Stream_Read x73.2.2.2 2 (data.length : Int)).bind fun x99 =>
  (if x99.2.2.1.isNone then (base_Bytes x99.1 data).bind fun x108 =>
  some x108 else some false).bind fun x109 =>
  some x109
set_option maxHeartbeats 8000000 in
theorem law28_FanoutCopies_ok {data : Str} {atZ : UInt8} {ap0_0 : Option Addr} {cp0_0 : Nat} {n0 : Nat} {K : Hp} {r : Bool}
    (hm : law28_FanoutCopies data atZ = some r) (hp0_0 : RdC eU K ap0_0 cp0_0 1 data) (en0 : n0 = data.length) :
    Fn Try.prog 3 [.slice ap0_0 n0 cp0_0, .int .u8 (atZ.toNat : Int)] K [] (fun v K' H' => v = .bool r ∧ H' = []) := by
  subst en0
  refine Fn.enter Try.func3 Try.call3 rfl fun F => ?_
  unfold law28_FanoutCopies at hm
  conv => whnf
  refine RStep.of (len_slice rfl ?_)
  conv => whnf
  refine eq_int ?_
  conv => whnf
  refine cond_s (fun g17_1 => ?_) (fun g17_1 => ?_)
  · conv => whnf
    refine cond_t g17_1 ?_
    conv => whnf
    refine cond_t g17_1 ?_
    conv => whnf
    refine cond_t g17_1 ?_
    obtain ⟨x25, e25, hm⟩ := bnd hm
    replace e25 := ift (or_t g17_1) e25
    conv => whnf
    refine cond_T ?_
    conv => whnf
    refine cond_T ?_
    conv => whnf
    refine cond_T ?_
    conv => whnf
    refine cond_go rfl ?_
    conv => whnf
    refine cond_T ?_
    replace hm := ift (si e25).symm hm
    conv => whnf
    refine RStep.of (len_slice rfl ?_)
    conv => whnf
    refine eq_int ?_
    conv => whnf
    refine cond_s (fun g29_2 => ?_) (fun g29_2 => ?_)
    · conv => whnf
      refine cond_t g29_2 ?_
      conv => whnf
      refine cond_t g29_2 ?_
      conv => whnf
      refine cond_t g29_2 ?_
      obtain rfl := si hm
      conv => whnf
      refine EndStep.mk _ (Hp.Le.refl _) ⟨(by rw [← ((or_t g29_2)).symm] <;> rfl), rfl⟩ (ConvH.of (.cons r0 .nil))
    · conv => whnf
      refine cond_f g29_2 ?_
      conv => whnf
      refine RStep.of (len_slice rfl ?_)
      conv => whnf
      refine cond_f g29_2 ?_
      conv => whnf
      refine cond_f g29_2 ?_
      obtain rfl := si hm
      conv => whnf
      refine EndStep.mk _ (Hp.Le.refl _) ⟨(by rw [← (or_e (b := decide ((data.length : Int) > 1000)) g29_2)] <;> rfl), rfl⟩ (ConvH.of (.cons r0 .nil))
  · conv => whnf
    refine cond_f g17_1 ?_
    conv => whnf
    refine RStep.of (len_slice rfl ?_)
    conv => whnf
    refine cond_f g17_1 ?_
    conv => whnf
    refine cond_f g17_1 ?_
    obtain ⟨x25, e25, hm⟩ := bnd hm
    conv => whnf
    refine cond_s (fun g22_1 => ?_) (fun g22_1 => ?_)
    · replace e25 := ift (or_u g17_1 g22_1) e25
      conv => whnf
      refine cond_t g22_1 ?_
      conv => whnf
      refine cond_t g22_1 ?_
      conv => whnf
      refine cond_go rfl ?_
      conv => whnf
      refine cond_T ?_
      replace hm := ift (si e25).symm hm
      conv => whnf
      refine RStep.of (len_slice rfl ?_)
      conv => whnf
      refine eq_int ?_
      conv => whnf
      refine cond_s (fun g29_2 => ?_) (fun g29_2 => ?_)
      · conv => whnf
        refine cond_t g29_2 ?_
        conv => whnf
        refine cond_t g29_2 ?_
        conv => whnf
        refine cond_t g29_2 ?_
        obtain rfl := si hm
        conv => whnf
        refine EndStep.mk _ (Hp.Le.refl _) ⟨(by rw [← ((or_t g29_2)).symm] <;> rfl), rfl⟩ (ConvH.of (.cons r0 .nil))
      · conv => whnf
        refine cond_f g29_2 ?_
        conv => whnf
        refine RStep.of (len_slice rfl ?_)
        conv => whnf
        refine cond_f g29_2 ?_
        conv => whnf
        refine cond_f g29_2 ?_
        obtain rfl := si hm
        conv => whnf
        refine EndStep.mk _ (Hp.Le.refl _) ⟨(by rw [← (or_e (b := decide ((data.length : Int) > 1000)) g29_2)] <;> rfl), rfl⟩ (ConvH.of (.cons r0 .nil))
    · replace e25 := iff_ (or_f g17_1 g22_1) e25
      obtain ⟨x23, q23, e25⟩ := bnd e25
      conv => whnf
      refine call_fn (law28_awake_ok q23) .nil ?_
      rintro _ K23 _ l23 ⟨rfl, rfl⟩
      conv => whnf
      refine cond_f g22_1 ?_
      conv => whnf
      refine un_not ?_
      conv => whnf
      refine cond_f g22_1 ?_
      conv => whnf
      refine cond_go rfl ?_
      conv => whnf
      refine cond_s (fun w25 => ?_) (fun w25 => ?_)
      · replace hm := ift ((si e25).symm.trans (not_t (ni_t w25))) hm
        conv => whnf
        refine RStep.of (len_slice rfl ?_)
        conv => whnf
        refine eq_int ?_
        conv => whnf
        refine cond_s (fun g29_2 => ?_) (fun g29_2 => ?_)
        · conv => whnf
          refine cond_t g29_2 ?_
          conv => whnf
          refine cond_t g29_2 ?_
          conv => whnf
          refine cond_t g29_2 ?_
          obtain rfl := si hm
          conv => whnf
          refine EndStep.mk _ l23 ⟨(by rw [← ((or_t g29_2)).symm] <;> rfl), rfl⟩ (ConvH.of (.cons r0 .nil))
        · conv => whnf
          refine cond_f g29_2 ?_
          conv => whnf
          refine RStep.of (len_slice rfl ?_)
          conv => whnf
          refine cond_f g29_2 ?_
          conv => whnf
          refine cond_f g29_2 ?_
          obtain rfl := si hm
          conv => whnf
          refine EndStep.mk _ l23 ⟨(by rw [← (or_e (b := decide ((data.length : Int) > 1000)) g29_2)] <;> rfl), rfl⟩ (ConvH.of (.cons r0 .nil))
      · replace hm := iff_ ((si e25).symm.trans (not_f (ni_f w25))) hm
        obtain ⟨x35, q35, hm⟩ := bnd hm
        conv => whnf
        refine call_fn (fanout_New_ok q35) .nil ?_
        rintro v35 K35 H35 l35 p35
        rcases hq35 : x35.1 with _ | o35
        · rw [hq35] at p35 hm
          obtain ⟨rfl, rfl⟩ := p35
          replace hm := oe_n hm
          conv => whnf
          refine bsO (len := 0) (enc := eU) (l := ([] : Str)) (cl := []) elT22 rfl rfl (fun _ _ => rfl) rfl rfl rfl ?_ fun b38 => ?_
          · conv => whnf
          obtain ⟨h40, hm⟩ := chkb hm
          conv => whnf
          refine apE rfl r0 elT22 (src_k rfl (hp0_0.mono (l23.trans l35)).rd rfl) h40 ?_
          intro a40 c40 o40
          conv => whnf
          refine neq_err rfl ?_
          conv => whnf
          refine cond_s (fun g43_5 => ?_) (fun g43_5 => ?_)
          · replace hm := ift g43_5 hm
            conv => whnf
            refine cond_t g43_5 ?_
            conv => whnf
            refine cond_t g43_5 ?_
            conv => whnf
            refine cond_t g43_5 ?_
            conv => whnf
            refine cond_t g43_5 ?_
            conv => whnf
            refine cond_T ?_
            conv => whnf
            refine cond_T ?_
            conv => whnf
            refine cond_T ?_
            conv => whnf
            refine cond_T ?_
            conv => whnf
            refine cond_T ?_
            conv => whnf
            refine cond_T ?_
            conv => whnf
            refine cond_T ?_
            conv => whnf
            refine cond_T ?_
            conv => whnf
            refine cond_go rfl ?_
            conv => whnf
            refine cond_T ?_
            obtain rfl := si hm
            conv => whnf
            refine EndStep.mk _ (l23.trans l35) ⟨rfl, rfl⟩ (ConvH.of (.cons r1 .nil))
          · replace hm := iff_ g43_5 hm
            conv => whnf
            refine cond_f g43_5 ?_
            conv => whnf
            refine cond_f g43_5 ?_
            obtain ⟨x46, q46, hm⟩ := bnd hm
            conv => whnf
            refine call_fn (Fn.lend Try.call12 (fun K46_1 l46_1 f46_1 => (fanout_Stream_Write_nil_ok q46 f46_1 rfl)) (by exact fun _ _ _ _ h => h)) (.cons r0 .nil) ?_
            rintro _ K46 _ l46 ⟨_, rfl, rfl, rfl⟩
            conv => whnf
            refine cond_f g43_5 ?_
            conv => whnf
            refine neq_err rfl ?_
            conv => whnf
            refine cond_f g43_5 ?_
            conv => whnf
            refine cond_s (fun g49_5 => ?_) (fun g49_5 => ?_)
            · replace hm := ift g49_5 hm
              conv => whnf
              refine cond_t g49_5 ?_
              conv => whnf
              refine cond_t g49_5 ?_
              conv => whnf
              refine cond_t g49_5 ?_
              conv => whnf
              refine cond_T ?_
              conv => whnf
              refine cond_T ?_
              conv => whnf
              refine cond_T ?_
              conv => whnf
              refine cond_T ?_
              conv => whnf
              refine cond_go rfl ?_
              conv => whnf
              refine cond_T ?_
              obtain rfl := si hm
              conv => whnf
              refine EndStep.mk _ ((l23.trans l35).trans l46) ⟨rfl, rfl⟩ (ConvH.of (.cons r1 .nil))
            · replace hm := iff_ g49_5 hm
              conv => whnf
              refine cond_f g49_5 ?_
              obtain ⟨x51, q51, hm⟩ := bnd hm
              conv => whnf
              refine call_fn (fanout_Stream_Attach_nil_ok q51) .nil ?_
              rintro _ K51 _ l51 ⟨rfl, rfl⟩
              conv => whnf
              refine cond_f g49_5 ?_
              conv => whnf
              refine neq_err rfl ?_
              conv => whnf
              refine cond_f g49_5 ?_
              conv => whnf
              refine cond_s (fun g54_5 => ?_) (fun g54_5 => ?_)
              · replace hm := ift g54_5 hm
                conv => whnf
                refine cond_t g54_5 ?_
                conv => whnf
                refine cond_t g54_5 ?_
                conv => whnf
                refine cond_t g54_5 ?_
                conv => whnf
                refine cond_go rfl ?_
                conv => whnf
                refine cond_T ?_
                obtain rfl := si hm
                conv => whnf
                refine EndStep.mk _ (((l23.trans l35).trans l46).trans l51) ⟨rfl, rfl⟩ (ConvH.of (.cons r1 .nil))
              · replace hm := iff_ g54_5 hm
                conv => whnf
                refine cond_f g54_5 ?_
                obtain ⟨x56, q56, hm⟩ := bnd hm
                conv => whnf
                refine call_fn (fanout_Stream_Attach_nil_ok q56) .nil ?_
                rintro _ K56 _ l56 ⟨rfl, rfl⟩
                conv => whnf
                refine cond_f g54_5 ?_
                conv => whnf
                refine neq_err rfl ?_
                conv => whnf
                refine cond_f g54_5 ?_
                conv => whnf
                refine cond_go rfl ?_
                conv => whnf
                refine cond_s (fun w58 => ?_) (fun w58 => ?_)
                · replace hm := ift w58 hm
                  obtain rfl := si hm
                  conv => whnf
                  refine EndStep.mk _ ((((l23.trans l35).trans l46).trans l51).trans l56) ⟨rfl, rfl⟩ (ConvH.of (.cons r1 .nil))
                · replace hm := iff_ w58 hm
                  conv => whnf
                  refine conv_int rfl rfl (u8in atZ) ?_
                  conv => whnf
                  refine RStep.of (len_slice rfl ?_)
                  obtain ⟨h64, hm⟩ := chkb hm
                  conv => whnf
                  refine rem_t h64 ?_
                  obtain ⟨x65, l65, k65, hm⟩ := ixb hm
                  conv => whnf
                  refine RStep.ofN (index_addr rfl rfl (hasO o40 k65) l65 (lt_ofE rfl l65 k65) ?_)
                  conv => whnf
                  refine RStep.of (ld_own (i := ((Int.tmod (atZ.toNat : Int) (((([] : Str) ++ data).length) : Int))).toNat) (o := 0) r0 rfl k65 rfl rfl ?_)
                  conv => whnf
                  refine u8_addS (x := x65) (y := (1 : UInt8)) rfl rfl ?_
                  obtain ⟨x68, l68, k68, hm⟩ := ixb hm
                  conv => whnf
                  refine RStep.ofN (index_addr rfl rfl (hasO o40 k68) l68 (lt_ofE rfl l68 k68) ?_)
                  conv => whnf
                  refine st_own (o := 0) (y := (x65 + (1 : UInt8))) x68 r0 rfl k68 rfl (by (conv => whnf); exact ⟨rfl, rfl, (Nat.le_of_ble_eq_true rfl), rfl, rfl, rfl⟩) ?_
                  conv => whnf
                  refine RStep.of (len_slice rfl ?_)
                  obtain ⟨x73, q73, hm⟩ := bnd hm
                  conv => whnf
                  refine call_fn (fanout_Stream_Read_nil_ok q73) .nil ?_
                  rintro _ K73 _ l73 ⟨a73_0, c73_0, rfl, h73_0, rfl⟩
                  conv => whnf
                  refine neq_err rfl ?_
                  obtain ⟨x84, e84, hm⟩ := bnd hm
                  conv => whnf
                  refine cond_s (fun g79_9 => ?_) (fun g79_9 => ?_)
                  · replace e84 := ift g79_9 e84
                    conv => whnf
                    refine cond_t g79_9 ?_
                    conv => whnf
                    refine cond_t g79_9 ?_
                    conv => whnf
                    refine cond_t g79_9 ?_
                    conv => whnf
                    refine cond_t g79_9 ?_
                    conv => whnf
                    refine cond_go rfl ?_
                    conv => whnf
                    refine cond_T ?_
                    replace hm := ift (si e84).symm hm
                    obtain rfl := si hm
                    conv => whnf
                    refine EndStep.mk _ (((((l23.trans l35).trans l46).trans l51).trans l56).trans l73) ⟨rfl, rfl⟩ (ConvH.of (.cons r2 .nil))
                  · replace e84 := iff_ g79_9 e84
                    conv => whnf
                    refine cond_f g79_9 ?_
                    conv => whnf
                    refine cond_f g79_9 ?_
                    obtain ⟨x82, q82, e84⟩ := bnd e84
                    conv => whnf
                    refine call_fn (Fn.lend Try.call15 (fun K82_0 l82_0 f82_0 => (base_Bytes_ok q82 f82_0 rfl (hp0_0.mono ((((((l23.trans l35).trans l46).trans l51).trans l56).trans l73).trans l82_0)) rfl)) (by exact fun _ _ _ _ h => h)) (.cons r0 .nil) ?_
                    rintro _ K82 _ l82 ⟨_, rfl, rfl, rfl⟩
                    conv => whnf
                    refine cond_f g79_9 ?_
                    conv => whnf
                    refine un_not ?_
                    conv => whnf
                    refine cond_f g79_9 ?_
                    conv => whnf
                    refine cond_go rfl ?_
                    conv => whnf
                    refine cond_s (fun w84 => ?_) (fun w84 => ?_)
                    · replace hm := ift ((si e84).symm.trans (not_t (ni_t w84))) hm
                      obtain rfl := si hm
                      conv => whnf
                      refine EndStep.mk _ ((((((l23.trans l35).trans l46).trans l51).trans l56).trans l73).trans l82) ⟨rfl, rfl⟩ (ConvH.of (.cons r2 .nil))
                    · replace hm := iff_ ((si e84).symm.trans (not_f (ni_f w84))) hm
                      conv => whnf
                      refine conv_int rfl rfl (u8in atZ) ?_
                      conv => whnf
                      refine RStep.of (len_slice rfl ?_)
                      obtain ⟨h90, hm⟩ := chkb hm
                      conv => whnf
                      refine rem_t h90 ?_
                      obtain ⟨x91, l91, k91, hm⟩ := ixb hm
                      conv => whnf
                      refine RStep.ofN (index_addr rfl rfl (hasO h73_0 k91) l91 (lt_ofE rfl l91 k91) ?_)
                      conv => whnf
                      refine RStep.of (ld_own (i := ((Int.tmod (atZ.toNat : Int) (x73.1.length : Int))).toNat) (o := 0) r0 rfl k91 rfl rfl ?_)
                      conv => whnf
                      refine u8_addS (x := x91) (y := (1 : UInt8)) rfl rfl ?_
                      obtain ⟨x94, l94, k94, hm⟩ := ixb hm
                      conv => whnf
                      refine RStep.ofN (index_addr rfl rfl (hasO h73_0 k94) l94 (lt_ofE rfl l94 k94) ?_)
                      conv => whnf
                      refine st_own (o := 0) (y := (x91 + (1 : UInt8))) x94 r0 rfl k94 rfl (by (conv => whnf); exact ⟨rfl, rfl, (Nat.le_of_ble_eq_true rfl), rfl, rfl, rfl⟩) ?_
                      conv => whnf
                      refine RStep.of (len_slice rfl ?_)
                      obtain ⟨x99, q99, hm⟩ := bnd hm
                      conv => whnf
                      refine call_fn (fanout_Stream_Read_nil_ok q99) .nil ?_
                      rintro _ K99 _ l99 ⟨a99_0, c99_0, rfl, h99_0, rfl⟩
                      conv => whnf
                      refine eq_err rfl ?_
                      obtain ⟨x109, e109, hm⟩ := bnd hm
                      conv => whnf
                      refine cond_s (fun g105_13 => ?_) (fun g105_13 => ?_)
                      · replace e109 := ift g105_13 e109
                        conv => whnf
                        refine cond_t g105_13 ?_
                        conv => whnf
                        refine cond_t g105_13 ?_
                        obtain ⟨x108, q108, e109⟩ := bnd e109
                        conv => whnf
                        refine call_fn (Fn.lend Try.call15 (fun K108_0 l108_0 f108_0 => (base_Bytes_ok q108 f108_0 rfl (hp0_0.mono ((((((((l23.trans l35).trans l46).trans l51).trans l56).trans l73).trans l82).trans l99).trans l108_0)) rfl)) (by exact fun _ _ _ _ h => h)) (.cons r0 .nil) ?_
                        rintro _ K108 _ l108 ⟨_, rfl, rfl, rfl⟩
                        conv => whnf
                        refine cond_t g105_13 ?_
                        obtain rfl := si hm
                        conv => whnf
                        refine EndStep.mk _ ((((((((l23.trans l35).trans l46).trans l51).trans l56).trans l73).trans l82).trans l99).trans l108) ⟨(by rw [← (si e109)] <;> rfl), rfl⟩ (ConvH.of (.cons r3 .nil))
                      · replace e109 := iff_ g105_13 e109
                        conv => whnf
                        refine cond_f g105_13 ?_
                        conv => whnf
                        refine cond_f g105_13 ?_
                        conv => whnf
                        refine cond_f g105_13 ?_
                        obtain rfl := si hm
                        conv => whnf
                        refine EndStep.mk _ (((((((l23.trans l35).trans l46).trans l51).trans l56).trans l73).trans l82).trans l99) ⟨(by rw [← ((si e109).symm).symm] <;> rfl), rfl⟩ (ConvH.of (.cons r3 .nil))
        · rw [hq35] at p35 hm
          obtain ⟨b35_0, a35_1, c35_1, m35_2, rfl, h35_1, rfl⟩ := p35
          replace hm := oe_s hm
          conv => whnf
          refine bsO (len := 0) (enc := eU) (l := ([] : Str)) (cl := []) elT22 rfl rfl (fun _ _ => rfl) rfl rfl rfl ?_ fun b38 => ?_
          · conv => whnf
          obtain ⟨h40, hm⟩ := chkb hm
          conv => whnf
          refine apE rfl r0 elT22 (src_k rfl (hp0_0.mono (l23.trans l35)).rd rfl) h40 ?_
          intro a40 c40 o40
          conv => whnf
          refine neq_err rfl ?_
          conv => whnf
          refine cond_s (fun g43_5 => ?_) (fun g43_5 => ?_)
          · replace hm := ift g43_5 hm
            conv => whnf
            refine cond_t g43_5 ?_
            conv => whnf
            refine cond_t g43_5 ?_
            conv => whnf
            refine cond_t g43_5 ?_
            conv => whnf
            refine cond_t g43_5 ?_
            conv => whnf
            refine cond_T ?_
            conv => whnf
            refine cond_T ?_
            conv => whnf
            refine cond_T ?_
            conv => whnf
            refine cond_T ?_
            conv => whnf
            refine cond_T ?_
            conv => whnf
            refine cond_T ?_
            conv => whnf
            refine cond_T ?_
            conv => whnf
            refine cond_T ?_
            conv => whnf
            refine cond_go rfl ?_
            conv => whnf
            refine cond_T ?_
            obtain rfl := si hm
            conv => whnf
            refine EndStep.mk _ (l23.trans l35) ⟨rfl, rfl⟩ (ConvH.of (.cons r4 .nil))
          · replace hm := iff_ g43_5 hm
            conv => whnf
            refine cond_f g43_5 ?_
            conv => whnf
            refine cond_f g43_5 ?_
            obtain ⟨x46, q46, hm⟩ := bnd hm
            conv => whnf
            refine call_fn (Fn.lend Try.call12 (fun K46_1 l46_1 f46_1 => (fanout_Stream_Write_ok q46 h35_1 f46_1 rfl)) (by exact fun _ _ _ _ h => h)) (.cons r0 (.cons r0 (.cons r0 (.cons r0 .nil)))) ?_
            rintro _ K46 _ l46 ⟨_, rfl, a46_0, c46_0, m46_1, rfl, h46_0, rfl⟩
            conv => whnf
            refine cond_f g43_5 ?_
            conv => whnf
            refine neq_err rfl ?_
            conv => whnf
            refine cond_f g43_5 ?_
            conv => whnf
            refine cond_s (fun g49_5 => ?_) (fun g49_5 => ?_)
            · replace hm := ift g49_5 hm
              conv => whnf
              refine cond_t g49_5 ?_
              conv => whnf
              refine cond_t g49_5 ?_
              conv => whnf
              refine cond_t g49_5 ?_
              conv => whnf
              refine cond_T ?_
              conv => whnf
              refine cond_T ?_
              conv => whnf
              refine cond_T ?_
              conv => whnf
              refine cond_T ?_
              conv => whnf
              refine cond_go rfl ?_
              conv => whnf
              refine cond_T ?_
              obtain rfl := si hm
              conv => whnf
              refine EndStep.mk _ ((l23.trans l35).trans l46) ⟨rfl, rfl⟩ (ConvH.of (.cons r4 .nil))
            · replace hm := iff_ g49_5 hm
              conv => whnf
              refine cond_f g49_5 ?_
              obtain ⟨x51, q51, hm⟩ := bnd hm
              conv => whnf
              refine call_fn (fanout_Stream_Attach_ok q51 h46_0) (.cons r1 (.cons r1 (.cons r1 .nil))) ?_
              rintro _ K51 _ l51 ⟨a51_0, c51_0, m51_1, rfl, h51_0, rfl⟩
              conv => whnf
              refine cond_f g49_5 ?_
              conv => whnf
              refine neq_err rfl ?_
              conv => whnf
              refine cond_f g49_5 ?_
              conv => whnf
              refine cond_s (fun g54_5 => ?_) (fun g54_5 => ?_)
              · replace hm := ift g54_5 hm
                conv => whnf
                refine cond_t g54_5 ?_
                conv => whnf
                refine cond_t g54_5 ?_
                conv => whnf
                refine cond_t g54_5 ?_
                conv => whnf
                refine cond_go rfl ?_
                conv => whnf
                refine cond_T ?_
                obtain rfl := si hm
                conv => whnf
                refine EndStep.mk _ (((l23.trans l35).trans l46).trans l51) ⟨rfl, rfl⟩ (ConvH.of (.cons r4 .nil))
              · replace hm := iff_ g54_5 hm
                conv => whnf
                refine cond_f g54_5 ?_
                obtain ⟨x56, q56, hm⟩ := bnd hm
                conv => whnf
                refine call_fn (fanout_Stream_Attach_ok q56 h51_0) (.cons r0 (.cons r0 (.cons r0 .nil))) ?_
                rintro _ K56 _ l56 ⟨a56_0, c56_0, m56_1, rfl, h56_0, rfl⟩
                conv => whnf
                refine cond_f g54_5 ?_
                conv => whnf
                refine neq_err rfl ?_
                conv => whnf
                refine cond_f g54_5 ?_
                conv => whnf
                refine cond_go rfl ?_
                conv => whnf
                refine cond_s (fun w58 => ?_) (fun w58 => ?_)
                · replace hm := ift w58 hm
                  obtain rfl := si hm
                  conv => whnf
                  refine EndStep.mk _ ((((l23.trans l35).trans l46).trans l51).trans l56) ⟨rfl, rfl⟩ (ConvH.of (.cons r4 .nil))
                · replace hm := iff_ w58 hm
                  conv => whnf
                  refine conv_int rfl rfl (u8in atZ) ?_
                  conv => whnf
                  refine RStep.of (len_slice rfl ?_)
                  obtain ⟨h64, hm⟩ := chkb hm
                  conv => whnf
                  refine rem_t h64 ?_
                  obtain ⟨x65, l65, k65, hm⟩ := ixb hm
                  conv => whnf
                  refine RStep.ofN (index_addr rfl rfl (hasO o40 k65) l65 (lt_ofE rfl l65 k65) ?_)
                  conv => whnf
                  refine RStep.of (ld_own (i := ((Int.tmod (atZ.toNat : Int) (((([] : Str) ++ data).length) : Int))).toNat) (o := 0) r3 rfl k65 rfl rfl ?_)
                  conv => whnf
                  refine u8_addS (x := x65) (y := (1 : UInt8)) rfl rfl ?_
                  obtain ⟨x68, l68, k68, hm⟩ := ixb hm
                  conv => whnf
                  refine RStep.ofN (index_addr rfl rfl (hasO o40 k68) l68 (lt_ofE rfl l68 k68) ?_)
                  conv => whnf
                  refine st_own (o := 0) (y := (x65 + (1 : UInt8))) x68 r3 rfl k68 rfl (by (conv => whnf); exact ⟨rfl, rfl, (Nat.le_of_ble_eq_true rfl), rfl, rfl, rfl⟩) ?_
                  conv => whnf
                  refine RStep.of (len_slice rfl ?_)
                  obtain ⟨x73, q73, hm⟩ := bnd hm
                  conv => whnf
                  refine call_fn (fanout_Stream_Read_ok q73 h56_0) (.cons r1 (.cons r1 (.cons r1 .nil))) ?_
                  rintro _ K73 _ l73 ⟨a73_0, c73_0, a73_1, c73_1, m73_2, rfl, h73_0, h73_1, rfl⟩
                  conv => whnf
                  refine neq_err rfl ?_
                  obtain ⟨x84, e84, hm⟩ := bnd hm
                  conv => whnf
                  refine cond_s (fun g79_9 => ?_) (fun g79_9 => ?_)
                  · replace e84 := ift g79_9 e84
                    conv => whnf
                    refine cond_t g79_9 ?_
                    conv => whnf
                    refine cond_t g79_9 ?_
                    conv => whnf
                    refine cond_t g79_9 ?_
                    conv => whnf
                    refine cond_t g79_9 ?_
                    conv => whnf
                    refine cond_go rfl ?_
                    conv => whnf
                    refine cond_T ?_
                    replace hm := ift (si e84).symm hm
                    obtain rfl := si hm
                    conv => whnf
                    refine EndStep.mk _ (((((l23.trans l35).trans l46).trans l51).trans l56).trans l73) ⟨rfl, rfl⟩ (ConvH.of (.cons r5 .nil))
                  · replace e84 := iff_ g79_9 e84
                    conv => whnf
                    refine cond_f g79_9 ?_
                    conv => whnf
                    refine cond_f g79_9 ?_
                    obtain ⟨x82, q82, e84⟩ := bnd e84
                    conv => whnf
                    refine call_fn (Fn.lend Try.call15 (fun K82_0 l82_0 f82_0 => (base_Bytes_ok q82 f82_0 rfl (hp0_0.mono ((((((l23.trans l35).trans l46).trans l51).trans l56).trans l73).trans l82_0)) rfl)) (by exact fun _ _ _ _ h => h)) (.cons r0 .nil) ?_
                    rintro _ K82 _ l82 ⟨_, rfl, rfl, rfl⟩
                    conv => whnf
                    refine cond_f g79_9 ?_
                    conv => whnf
                    refine un_not ?_
                    conv => whnf
                    refine cond_f g79_9 ?_
                    conv => whnf
                    refine cond_go rfl ?_
                    conv => whnf
                    refine cond_s (fun w84 => ?_) (fun w84 => ?_)
                    · replace hm := ift ((si e84).symm.trans (not_t (ni_t w84))) hm
                      obtain rfl := si hm
                      conv => whnf
                      refine EndStep.mk _ ((((((l23.trans l35).trans l46).trans l51).trans l56).trans l73).trans l82) ⟨rfl, rfl⟩ (ConvH.of (.cons r5 .nil))
                    · replace hm := iff_ ((si e84).symm.trans (not_f (ni_f w84))) hm
                      conv => whnf
                      refine conv_int rfl rfl (u8in atZ) ?_
                      conv => whnf
                      refine RStep.of (len_slice rfl ?_)
                      obtain ⟨h90, hm⟩ := chkb hm
                      conv => whnf
                      refine rem_t h90 ?_
                      obtain ⟨x91, l91, k91, hm⟩ := ixb hm
                      conv => whnf
                      refine RStep.ofN (index_addr rfl rfl (hasO h73_0 k91) l91 (lt_ofE rfl l91 k91) ?_)
                      conv => whnf
                      refine RStep.of (ld_own (i := ((Int.tmod (atZ.toNat : Int) (x73.1.length : Int))).toNat) (o := 0) r0 rfl k91 rfl rfl ?_)
                      conv => whnf
                      refine u8_addS (x := x91) (y := (1 : UInt8)) rfl rfl ?_
                      obtain ⟨x94, l94, k94, hm⟩ := ixb hm
                      conv => whnf
                      refine RStep.ofN (index_addr rfl rfl (hasO h73_0 k94) l94 (lt_ofE rfl l94 k94) ?_)
                      conv => whnf
                      refine st_own (o := 0) (y := (x91 + (1 : UInt8))) x94 r0 rfl k94 rfl (by (conv => whnf); exact ⟨rfl, rfl, (Nat.le_of_ble_eq_true rfl), rfl, rfl, rfl⟩) ?_
                      conv => whnf
                      refine RStep.of (len_slice rfl ?_)
                      obtain ⟨x99, q99, hm⟩ := bnd hm
                      conv => whnf
                      refine call_fn (fanout_Stream_Read_ok q99 h73_1) (.cons r1 (.cons r1 (.cons r1 .nil))) ?_
                      rintro _ K99 _ l99 ⟨a99_0, c99_0, a99_1, c99_1, m99_2, rfl, h99_0, h99_1, rfl⟩
                      conv => whnf
                      refine eq_err rfl ?_
                      obtain ⟨x109, e109, hm⟩ := bnd hm
                      conv => whnf
                      refine cond_s (fun g105_13 => ?_) (fun g105_13 => ?_)
                      · replace e109 := ift g105_13 e109
                        conv => whnf
                        refine cond_t g105_13 ?_
                        conv => whnf
                        refine cond_t g105_13 ?_
                        obtain ⟨x108, q108, e109⟩ := bnd e109
                        conv => whnf
                        refine call_fn (Fn.lend Try.call15 (fun K108_0 l108_0 f108_0 => (base_Bytes_ok q108 f108_0 rfl (hp0_0.mono ((((((((l23.trans l35).trans l46).trans l51).trans l56).trans l73).trans l82).trans l99).trans l108_0)) rfl)) (by exact fun _ _ _ _ h => h)) (.cons r0 .nil) ?_
                        rintro _ K108 _ l108 ⟨_, rfl, rfl, rfl⟩
                        conv => whnf
                        refine cond_t g105_13 ?_
                        obtain rfl := si hm
                        conv => whnf
                        refine EndStep.mk _ ((((((((l23.trans l35).trans l46).trans l51).trans l56).trans l73).trans l82).trans l99).trans l108) ⟨(by rw [← (si e109)] <;> rfl), rfl⟩ (ConvH.of (.cons r6 .nil))
                      · replace e109 := iff_ g105_13 e109
                        conv => whnf
                        refine cond_f g105_13 ?_
                        conv => whnf
                        refine cond_f g105_13 ?_
                        conv => whnf
                        refine cond_f g105_13 ?_
                        obtain rfl := si hm
                        conv => whnf
                        refine EndStep.mk _ (((((((l23.trans l35).trans l46).trans l51).trans l56).trans l73).trans l82).trans l99) ⟨(by rw [← ((si e109).symm).symm] <;> rfl), rfl⟩ (ConvH.of (.cons r6 .nil))
