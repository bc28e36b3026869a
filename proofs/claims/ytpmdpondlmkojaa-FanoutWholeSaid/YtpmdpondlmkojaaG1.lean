/- Functions of the program: mirrors, and that a call returns what the mirror says. Printed by gen.py. -/
import Derived.Test.YtpmdpondlmkojaaLR
import Derived.KernelRfl
import Derived.Test.YtpmdpondlmkojaaProg
set_option linter.unusedVariables false
set_option linter.unusedSimpArgs false
open Go Go.SL Go.Proofs
set_option maxRecDepth 1000000
structure S_fanout_Stream where
  limit : Int
  state : Int
  data : Str
  offsets : (List (Int × Int))
theorem elT22 : ElT Try.prog 22 5 1 := ElT.mk' rfl rfl rfl rfl rfl
theorem elT35 : ElT Try.prog 35 22 1 := ElT.mk' rfl rfl rfl rfl rfl
theorem elT36 : ElT Try.prog 36 3 1 := ElT.mk' rfl rfl rfl rfl rfl
theorem elT37 : ElT Try.prog 37 4 1 := ElT.mk' rfl rfl rfl rfl rfl
noncomputable def fanout_New (limit : Int) : Option (Option S_fanout_Stream × Err) :=
  if (decide (limit < 1) || decide (limit > 65536)) then
  some (none, (some 1))
  else
  some ((some (⟨limit, 1, [], []⟩ : S_fanout_Stream)), none)
set_option maxHeartbeats 40000000 in
theorem fanout_New_ok {limit : Int} {K : Hp} {r : Option S_fanout_Stream × Err}
    (hm : fanout_New limit = some r)  :
    Fn Try.prog 11 [.int .i64 limit] K [] (fun v K' H' => match r.1 with | none => (v = .tuple #[.pointer none, errV 44 r.2] ∧ H' = []) | some ro => (∃ br_0 : Nat, ∃ ar_1 : Option Addr, ∃ cr_1 : Nat, ∃ mr_2 : Nat, v = .tuple #[.pointer (some ⟨br_0, 0, none⟩), errV 44 r.2] ∧ (0 < ro.data.length → Has ar_1) ∧ H' = [Cells br_0 77 [.int .i64 ro.limit, .int .i64 ro.state, .slice ar_1 ro.data.length cr_1, .map (some mr_2)], OwnL eU ar_1 5 1 cr_1 ro.data, MapE intK (fun x => .int .i64 x) mr_2 ro.offsets])) := by
 refine Fn.enter Try.func11 Try.call11 rfl fun F => ?_
 unfold fanout_New at hm
 conv => whnf
 refine guard_go rfl ?_
 conv => whnf
 refine cond_s (fun g6_1 => ?_) (fun g6_1 => ?_)
 conv => whnf
 refine cond_t g6_1 ?_
 conv => whnf
 refine cond_t g6_1 ?_
 conv => whnf
 refine cond_go rfl ?_
 conv => whnf
 refine cond_T ?_
 replace hm := ift (or_t g6_1) hm
 conv => whnf
 refine mk_iface rfl ?_
 obtain rfl := si hm
 conv => whnf
 refine EndStep.mk _ (Hp.Le.refl _) ⟨rfl, rfl⟩ (ConvH.of (.cons r0 .nil))
 conv => whnf
 refine cond_f g6_1 ?_
 conv => whnf
 refine cond_f g6_1 ?_
 conv => whnf
 refine cond_go rfl ?_
 conv => whnf
 refine cond_s (fun w9 => ?_) (fun w9 => ?_)
 replace hm := ift (or_u g6_1 w9) hm
 conv => whnf
 refine mk_iface rfl ?_
 obtain rfl := si hm
 conv => whnf
 refine EndStep.mk _ (Hp.Le.refl _) ⟨rfl, rfl⟩ (ConvH.of (.cons r0 .nil))
 replace hm := iff_ (or_f g6_1 w9) hm
 conv => whnf
 refine makeMap_rule intK (fun x => .int .i64 x) fun b12 => ?_
 conv => whnf
 refine build_struct rfl rfl ?_
 conv => whnf
 refine cond_T ?_
 conv => whnf
 refine cond_T ?_
 conv => whnf
 refine cond_T ?_
 conv => whnf
 refine box_rule ?_
 intro b14
 obtain rfl := si hm
 conv => whnf
 refine nilE eU 5 1 ?_
 refine EndStep.mk _ (Hp.Le.refl _) ⟨b14, none, 0, b12, rfl, (fun h => by simp at h), rfl⟩ (ConvH.of (.cons r1 (.cons r0 (.cons r0 (.cons r0 .nil)))))

noncomputable def fanout_Stream_open (s : S_fanout_Stream) : Option (Err) :=
  if decide (s.state ≠ 1) then
  some (some 6)
  else
  some none
set_option maxHeartbeats 40000000 in
theorem fanout_Stream_open_ok {s : S_fanout_Stream} {b0 : Nat} {ap0_0 : Option Addr} {cp0_0 : Nat} {mp0_1 : Nat} {K : Hp} {r : Err}
    (hm : fanout_Stream_open s = some r) (hp0_0 : (0 < s.data.length → Has ap0_0)) :
    Fn Try.prog 36 [.pointer (some ⟨b0, 0, none⟩)] K [Cells b0 77 [.int .i64 s.limit, .int .i64 s.state, .slice ap0_0 s.data.length cp0_0, .map (some mp0_1)], OwnL eU ap0_0 5 1 cp0_0 s.data, MapE intK (fun x => .int .i64 x) mp0_1 s.offsets] (fun v K' H' => v = errV 44 r ∧ H' = [Cells b0 77 [.int .i64 s.limit, .int .i64 s.state, .slice ap0_0 s.data.length cp0_0, .map (some mp0_1)], OwnL eU ap0_0 5 1 cp0_0 s.data, MapE intK (fun x => .int .i64 x) mp0_1 s.offsets]) := by
 refine Fn.enter Try.func36 Try.call36 rfl fun F => ?_
 unfold fanout_Stream_open at hm
 conv => whnf
 refine block_go rfl ?_
 conv => whnf
 refine eq_ptr_nil rfl ?_
 conv => whnf
 refine cond_go rfl ?_
 conv => whnf
 refine cond_F ?_
 conv => whnf
 refine nil_check ?_
 conv => whnf
 refine field_addr rfl ?_
 conv => whnf
 refine RStep.of (load1_s r0 rfl rfl ?_)
 conv => whnf
 refine neq_int ?_
 conv => whnf
 refine cs rfl rfl hm (fun w7 hm => ?_) fun w7 hm => ?_
 conv => whnf
 refine mk_iface rfl ?_
 obtain rfl := si hm
 conv => whnf
 refine EndStep.mk _ (Hp.Le.refl _) ⟨rfl, rfl⟩ (ConvH.of (.cons r0 (.cons r0 (.cons r0 (.cons r0 .nil)))))
 obtain rfl := si hm
 conv => whnf
 refine EndStep.mk _ (Hp.Le.refl _) ⟨rfl, rfl⟩ (ConvH.of (.cons r0 (.cons r0 (.cons r0 (.cons r0 .nil)))))

noncomputable def fanout_Stream_Write (s : S_fanout_Stream) (b : Str) : Option (Err × S_fanout_Stream) :=
  (fanout_Stream_open s).bind fun x7 =>
  if x7.isSome then
  some (x7, s)
  else
  (chk (InI ((s.data.length : Int) + (b.length : Int)))).bind fun _ =>
  if decide (((s.data.length : Int) + (b.length : Int)) > s.limit) then
  some ((some 5), s)
  else
  (chk (s.data.length + b.length ≤ lim)).bind fun _ =>
  some (none, (⟨s.limit, s.state, (s.data ++ b), s.offsets⟩ : S_fanout_Stream))
set_option maxHeartbeats 40000000 in
theorem fanout_Stream_Write_ok {s : S_fanout_Stream} {b : Str} {b0 : Nat} {ap0_0 : Option Addr} {cp0_0 : Nat} {mp0_1 : Nat} {ap1_0 : Option Addr} {cp1_0 : Nat} {n1 : Nat} {K : Hp} {r : Err × S_fanout_Stream}
    (hm : fanout_Stream_Write s b = some r) (hp0_0 : (0 < s.data.length → Has ap0_0)) (hp1_0 : RdC eU K ap1_0 cp1_0 1 b) (en1 : n1 = b.length) :
    Fn Try.prog 12 [.pointer (some ⟨b0, 0, none⟩), .slice ap1_0 n1 cp1_0] K [Cells b0 77 [.int .i64 s.limit, .int .i64 s.state, .slice ap0_0 s.data.length cp0_0, .map (some mp0_1)], OwnL eU ap0_0 5 1 cp0_0 s.data, MapE intK (fun x => .int .i64 x) mp0_1 s.offsets] (fun v K' H' => ∃ ar_0 : Option Addr, ∃ cr_0 : Nat, ∃ mr_1 : Nat, v = errV 44 r.1 ∧ (0 < r.2.data.length → Has ar_0) ∧ H' = [Cells b0 77 [.int .i64 r.2.limit, .int .i64 r.2.state, .slice ar_0 r.2.data.length cr_0, .map (some mr_1)], OwnL eU ar_0 5 1 cr_0 r.2.data, MapE intK (fun x => .int .i64 x) mr_1 r.2.offsets]) := by
 subst en1
 refine Fn.enter Try.func12 Try.call12 rfl fun F => ?_
 unfold fanout_Stream_Write at hm
 obtain ⟨x7, q7, hm⟩ := bnd hm
 conv => whnf
 refine call_fn (fanout_Stream_open_ok (s := s) q7 hp0_0) (.cons r0 (.cons r0 (.cons r0 .nil))) ?_
 rintro _ K7 _ l7 ⟨rfl, rfl⟩
 conv => whnf
 refine neq_err rfl ?_
 conv => whnf
 refine cs rfl rfl hm (fun w9 hm => ?_) fun w9 hm => ?_
 obtain rfl := si hm
 conv => whnf
 refine EndStep.mk _ l7 ⟨ap0_0, cp0_0, mp0_1, rfl, hp0_0, rfl⟩ (ConvH.of (.cons r0 (.cons r0 (.cons r0 (.cons r0 .nil)))))
 conv => whnf
 refine draw_go ⟨⟨[], false⟩, _, [(_, _)], []⟩ (by kernel_rfl) ⟨Hp.Le.refl _, (ConvH.of (.cons r0 .nil)), ci0⟩ ?_
 conv => whnf
 refine nil_check ?_
 conv => whnf
 refine field_addr rfl ?_
 conv => whnf
 refine load1_l m0 rfl rfl ?_
 conv => whnf
 refine len_sliceN rfl ?_
 conv => whnf
 refine len_sliceN rfl ?_
 obtain ⟨h18, hm⟩ := chkb hm
 conv => whnf
 refine int_in h18 ?_
 conv => whnf
 refine nil_check ?_
 conv => whnf
 refine field_addr rfl ?_
 conv => whnf
 refine load1_l m0 rfl rfl ?_
 conv => whnf
 refine cs rfl rfl hm (fun w23 hm => ?_) fun w23 hm => ?_
 conv => whnf
 refine mk_iface rfl ?_
 obtain rfl := si hm
 conv => whnf
 refine EndStep.mk _ l7 ⟨ap0_0, cp0_0, mp0_1, rfl, hp0_0, rfl⟩ (ConvH.of (.cons r0 (.cons r0 (.cons r0 (.cons r0 .nil)))))
 conv => whnf
 refine nil_check ?_
 conv => whnf
 refine field_addr rfl ?_
 conv => whnf
 refine RStep.of (load1_s r0 rfl rfl ?_)
 obtain ⟨h31, hm⟩ := chkb hm
 conv => whnf
 refine apE rfl r1 elT22 (src_k rfl (hp1_0.mono l7).rd rfl) h31 ?_
 intro a31 c31 o31
 conv => whnf
 refine nil_check ?_
 conv => whnf
 refine field_addr rfl ?_
 conv => whnf
 refine store_rule r1 rfl ?_
 conv => whnf
 refine ⟨rfl, rfl, (Nat.le_of_ble_eq_true rfl), ?_⟩
 obtain rfl := si hm
 conv => whnf
 refine EndStep.mk _ l7 ⟨a31, c31, mp0_1, rfl, o31, rfl⟩ (ConvH.of (.cons r0 (.cons r0 (.cons r0 (.cons r0 .nil)))))

noncomputable def fanout_Stream_Attach (s : S_fanout_Stream) (id : Int) (fromZ : Int) : Option (Err × S_fanout_Stream) :=
  if (mget s.offsets id).isSome then
  some ((some 4), s)
  else
  if (decide (fromZ < 0) || decide (fromZ > (s.data.length : Int))) then
  some ((some 1), s)
  else
  some (none, (⟨s.limit, s.state, s.data, (mset s.offsets id fromZ)⟩ : S_fanout_Stream))
set_option maxHeartbeats 40000000 in
theorem fanout_Stream_Attach_ok {s : S_fanout_Stream} {id : Int} {fromZ : Int} {b0 : Nat} {ap0_0 : Option Addr} {cp0_0 : Nat} {mp0_1 : Nat} {K : Hp} {r : Err × S_fanout_Stream}
    (hm : fanout_Stream_Attach s id fromZ = some r) (hp0_0 : (0 < s.data.length → Has ap0_0)) :
    Fn Try.prog 13 [.pointer (some ⟨b0, 0, none⟩), .int .i64 id, .int .i64 fromZ] K [Cells b0 77 [.int .i64 s.limit, .int .i64 s.state, .slice ap0_0 s.data.length cp0_0, .map (some mp0_1)], OwnL eU ap0_0 5 1 cp0_0 s.data, MapE intK (fun x => .int .i64 x) mp0_1 s.offsets] (fun v K' H' => ∃ ar_0 : Option Addr, ∃ cr_0 : Nat, ∃ mr_1 : Nat, v = errV 44 r.1 ∧ (0 < r.2.data.length → Has ar_0) ∧ H' = [Cells b0 77 [.int .i64 r.2.limit, .int .i64 r.2.state, .slice ar_0 r.2.data.length cr_0, .map (some mr_1)], OwnL eU ar_0 5 1 cr_0 r.2.data, MapE intK (fun x => .int .i64 x) mr_1 r.2.offsets]) := by
 refine Fn.enter Try.func13 Try.call13 rfl fun F => ?_
 unfold fanout_Stream_Attach at hm
 conv => whnf
 refine eq_ptr_nil rfl ?_
 conv => whnf
 refine cond_go rfl ?_
 conv => whnf
 refine cond_F ?_
 conv => whnf
 refine nil_check ?_
 conv => whnf
 refine field_addr rfl ?_
 conv => whnf
 refine RStep.of (load1_s r0 rfl rfl ?_)
 conv => whnf
 refine RStep.of (lookup_ok (kenc := intK) (venc := (fun x => .int .i64 x)) (z := 0) r2 rfl rfl (key_int rfl) ?_)
 conv => whnf
 refine cs rfl rfl hm (fun w21 hm => ?_) fun w21 hm => ?_
 conv => whnf
 refine mk_iface rfl ?_
 obtain rfl := si hm
 conv => whnf
 refine EndStep.mk _ (Hp.Le.refl _) ⟨ap0_0, cp0_0, mp0_1, rfl, hp0_0, rfl⟩ (ConvH.of (.cons r0 (.cons r0 (.cons r0 (.cons r0 .nil)))))
 conv => whnf
 refine guard_go rfl ?_
 conv => whnf
 refine cond_s (fun g25_6 => ?_) (fun g25_6 => ?_)
 conv => whnf
 refine cond_t g25_6 ?_
 conv => whnf
 refine cond_t g25_6 ?_
 conv => whnf
 refine cond_t g25_6 ?_
 conv => whnf
 refine cond_t g25_6 ?_
 conv => whnf
 refine cond_t g25_6 ?_
 conv => whnf
 refine cond_t g25_6 ?_
 conv => whnf
 refine cond_t g25_6 ?_
 conv => whnf
 refine cond_go rfl ?_
 conv => whnf
 refine cond_T ?_
 replace hm := ift (or_t g25_6) hm
 conv => whnf
 refine mk_iface rfl ?_
 obtain rfl := si hm
 conv => whnf
 refine EndStep.mk _ (Hp.Le.refl _) ⟨ap0_0, cp0_0, mp0_1, rfl, hp0_0, rfl⟩ (ConvH.of (.cons r0 (.cons r0 (.cons r0 (.cons r0 .nil)))))
 conv => whnf
 refine cond_f g25_6 ?_
 conv => whnf
 refine cond_f g25_6 ?_
 conv => whnf
 refine nil_check ?_
 conv => whnf
 refine cond_f g25_6 ?_
 conv => whnf
 refine field_addr rfl ?_
 conv => whnf
 refine cond_f g25_6 ?_
 conv => whnf
 refine RStep.of (load1_s r0 rfl rfl ?_)
 conv => whnf
 refine cond_f g25_6 ?_
 conv => whnf
 refine RStep.of (len_slice rfl ?_)
 conv => whnf
 refine cond_f g25_6 ?_
 conv => whnf
 refine cond_f g25_6 ?_
 conv => whnf
 refine cond_go rfl ?_
 conv => whnf
 refine cond_s (fun w33 => ?_) (fun w33 => ?_)
 replace hm := ift (or_u g25_6 w33) hm
 conv => whnf
 refine mk_iface rfl ?_
 obtain rfl := si hm
 conv => whnf
 refine EndStep.mk _ (Hp.Le.refl _) ⟨ap0_0, cp0_0, mp0_1, rfl, hp0_0, rfl⟩ (ConvH.of (.cons r0 (.cons r0 (.cons r0 (.cons r0 .nil)))))
 replace hm := iff_ (or_f g25_6 w33) hm
 conv => whnf
 refine nil_check ?_
 conv => whnf
 refine field_addr rfl ?_
 conv => whnf
 refine RStep.of (load1_s r0 rfl rfl ?_)
 conv => whnf
 refine update_rule (kenc := intK) (venc := (fun x => .int .i64 x)) fromZ rfl r2 rfl (key_int rfl) ?_
 obtain rfl := si hm
 conv => whnf
 refine EndStep.mk _ (Hp.Le.refl _) ⟨ap0_0, cp0_0, mp0_1, rfl, hp0_0, rfl⟩ (ConvH.of (.cons r1 (.cons r1 (.cons r0 (.cons r0 .nil)))))

noncomputable def fanout_Stream_Read (s : S_fanout_Stream) (id : Int) (max : Int) : Option (Str × Int × Err × S_fanout_Stream) :=
  if (!(mget s.offsets id).isSome) then
  some ([], 0, (some 3), s)
  else
  if decide (s.state = 3) then
  some ([], 3, none, s)
  else
  ((if decide (max > 0) then
  (chk (InI ((s.data.length : Int) - ((mget s.offsets id).getD 0)))).bind fun _ =>
  (chk (InI (((mget s.offsets id).getD 0) + (min max ((s.data.length : Int) - ((mget s.offsets id).getD 0)))))).bind fun _ =>
  (chk (0 ≤ ((mget s.offsets id).getD 0) ∧ ((mget s.offsets id).getD 0) ≤ (((mget s.offsets id).getD 0) + (min max ((s.data.length : Int) - ((mget s.offsets id).getD 0)))) ∧ (((mget s.offsets id).getD 0) + (min max ((s.data.length : Int) - ((mget s.offsets id).getD 0)))) ≤ (s.data.length : Int))).bind fun _ =>
  (chk ((subL s.data ((mget s.offsets id).getD 0) (((mget s.offsets id).getD 0) + (min max ((s.data.length : Int) - ((mget s.offsets id).getD 0))))).length ≤ lim)).bind fun _ =>
  some (subL s.data ((mget s.offsets id).getD 0) (((mget s.offsets id).getD 0) + (min max ((s.data.length : Int) - ((mget s.offsets id).getD 0)))))
  else
  some [] : Option (Str))).bind fun t903 =>
  (chk (InI (((mget s.offsets id).getD 0) + (t903.length : Int)))).bind fun _ =>
  if (decide (s.state = 2) && decide ((((mget s.offsets id).getD 0) + (t903.length : Int)) = (s.data.length : Int))) then
  some (t903, 2, none, (⟨s.limit, s.state, s.data, (mset s.offsets id (((mget s.offsets id).getD 0) + (t903.length : Int)))⟩ : S_fanout_Stream))
  else
  some (t903, 1, none, (⟨s.limit, s.state, s.data, (mset s.offsets id (((mget s.offsets id).getD 0) + (t903.length : Int)))⟩ : S_fanout_Stream))
set_option maxHeartbeats 40000000 in
theorem fanout_Stream_Read_ok {s : S_fanout_Stream} {id : Int} {max : Int} {b0 : Nat} {ap0_0 : Option Addr} {cp0_0 : Nat} {mp0_1 : Nat} {K : Hp} {r : Str × Int × Err × S_fanout_Stream}
    (hm : fanout_Stream_Read s id max = some r) (hp0_0 : (0 < s.data.length → Has ap0_0)) :
    Fn Try.prog 14 [.pointer (some ⟨b0, 0, none⟩), .int .i64 id, .int .i64 max] K [Cells b0 77 [.int .i64 s.limit, .int .i64 s.state, .slice ap0_0 s.data.length cp0_0, .map (some mp0_1)], OwnL eU ap0_0 5 1 cp0_0 s.data, MapE intK (fun x => .int .i64 x) mp0_1 s.offsets] (fun v K' H' => ∃ ar_0 : Option Addr, ∃ cr_0 : Nat, ∃ ar_1 : Option Addr, ∃ cr_1 : Nat, ∃ mr_2 : Nat, v = .tuple #[.slice ar_0 r.1.length cr_0, .int .i64 r.2.1, errV 44 r.2.2.1] ∧ (0 < r.1.length → Has ar_0) ∧ (0 < r.2.2.2.data.length → Has ar_1) ∧ H' = [OwnL eU ar_0 5 1 cr_0 r.1, Cells b0 77 [.int .i64 r.2.2.2.limit, .int .i64 r.2.2.2.state, .slice ar_1 r.2.2.2.data.length cr_1, .map (some mr_2)], OwnL eU ar_1 5 1 cr_1 r.2.2.2.data, MapE intK (fun x => .int .i64 x) mr_2 r.2.2.2.offsets]) := by
 refine Fn.enter Try.func14 Try.call14 rfl fun F => ?_
 unfold fanout_Stream_Read at hm
 conv => whnf
 refine eq_ptr_nil rfl ?_
 conv => whnf
 refine cond_go rfl ?_
 conv => whnf
 refine cond_F ?_
 conv => whnf
 refine nil_check ?_
 conv => whnf
 refine field_addr rfl ?_
 conv => whnf
 refine RStep.of (load1_s r0 rfl rfl ?_)
 conv => whnf
 refine RStep.of (lookup_ok (kenc := intK) (venc := (fun x => .int .i64 x)) (z := 0) r2 rfl rfl (key_int rfl) ?_)
 conv => whnf
 refine un_not ?_
 conv => whnf
 refine cond_go rfl ?_
 conv => whnf
 refine cond_s (fun w25 => ?_) (fun w25 => ?_)
 replace hm := ift (not_t (ni_t w25)) hm
 conv => whnf
 refine mk_iface rfl ?_
 obtain rfl := si hm
 conv => whnf
 refine nilE eU 5 1 ?_
 refine EndStep.mk _ (Hp.Le.refl _) ⟨none, 0, ap0_0, cp0_0, mp0_1, rfl, (fun h => by simp at h), hp0_0, rfl⟩ (ConvH.of (.cons r0 (.cons r0 (.cons r0 (.cons r0 (.cons r0 .nil))))))
 replace hm := iff_ (not_f (ni_f w25)) hm
 conv => whnf
 refine nil_check ?_
 conv => whnf
 refine field_addr rfl ?_
 conv => whnf
 refine RStep.of (load1_s r0 rfl rfl ?_)
 conv => whnf
 refine eq_int ?_
 conv => whnf
 refine cs rfl rfl hm (fun w31 hm => ?_) fun w31 hm => ?_
 obtain rfl := si hm
 conv => whnf
 refine nilE eU 5 1 ?_
 refine EndStep.mk _ (Hp.Le.refl _) ⟨none, 0, ap0_0, cp0_0, mp0_1, rfl, (fun h => by simp at h), hp0_0, rfl⟩ (ConvH.of (.cons r0 (.cons r0 (.cons r0 (.cons r0 (.cons r0 .nil))))))
 obtain ⟨s903, hl903, hm⟩ := bnd hm
 conv => whnf
 refine code_cut (σ := (Str) × Option Addr × Nat) [11, 34, 35, 36, 37, 38, 39, 40, 41, 42, 43, 44, 45, 46, 47, 48, 49, 50, 51, 52] (fun (t903, t903_a0, t903_c0) => [(11, .slice t903_a0 t903.length t903_c0)]) (fun (t903, t903_a0, t903_c0) => [OwnL eU t903_a0 5 1 t903_c0 t903, Cells b0 77 [.int .i64 s.limit, .int .i64 s.state, .slice ap0_0 s.data.length cp0_0, .map (some mp0_1)], OwnL eU ap0_0 5 1 cp0_0 s.data, MapE intK (fun x => .int .i64 x) mp0_1 s.offsets, F]) (fun zz K1 => match zz with | (t903, t903_a0, t903_c0) => (0 < t903.length → Has t903_a0) ∧ t903 = s903) ?_ ?_
 refine CStep.ownLe r1 fun hc4 => ?_
 conv => whnf
 refine cs rfl rfl hl903 (fun w33 hl903 => ?_) fun w33 hl903 => ?_
 conv => whnf
 refine draw_go ⟨⟨[], false⟩, _, [(_, _)], []⟩ (by kernel_rfl) ⟨Hp.Le.refl _, (ConvH.of (.cons r0 .nil)), ci0⟩ ?_
 conv => whnf
 refine nil_check ?_
 conv => whnf
 refine field_addr rfl ?_
 conv => whnf
 refine load1_l m0 rfl rfl ?_
 conv => whnf
 refine nil_check ?_
 conv => whnf
 refine field_addr rfl ?_
 conv => whnf
 refine load1_l m0 rfl rfl ?_
 conv => whnf
 refine len_sliceN rfl ?_
 obtain ⟨h48, hl903⟩ := chkb hl903
 conv => whnf
 refine int_in h48 ?_
 conv => whnf
 refine min_intN ?_
 obtain ⟨h50, hl903⟩ := chkb hl903
 conv => whnf
 refine int_in h50 ?_
 obtain ⟨h51, hl903⟩ := chkb hl903
 conv => whnf
 refine sl_part (l := s.data) (lo := (some ((mget s.offsets id).getD 0))) (hi := (some (((mget s.offsets id).getD 0) + (min max ((s.data.length : Int) - ((mget s.offsets id).getD 0)))))) rfl rfl rfl hc4 h51 ?_
 obtain ⟨h52, hl903⟩ := chkb hl903
 conv => whnf
 refine apn (enc := eU) elT22 (src_part rfl r1 h51 rfl (fun _ => rfl) (fun _ => rfl)) h52 ?_
 intro a52 c52 o52
 conv => whnf
 refine ⟨⟨(Hp.Le.refl _), (ConvH.of (.cons r1 .nil)), ci0⟩, ?_⟩
 conv => whnf
 refine MeetStep.mk ((subL s.data ((mget s.offsets id).getD 0) (((mget s.offsets id).getD 0) + (min max ((s.data.length : Int) - ((mget s.offsets id).getD 0))))), a52, c52) ⟨rfl, trivial⟩ (by repeat (first | exact trivial | refine And.intro rfl ?_)) (ConvH.of (.cons r0 (.cons r0 (.cons r0 (.cons r0 (.cons r0 .nil)))))) (Hp.Le.refl _) ⟨o52, (si hl903)⟩
 conv => whnf
 refine nilMe eU 5 1 ?_
 refine MeetStep.mk ([], none, 0) ⟨rfl, trivial⟩ (by repeat (first | exact trivial | refine And.intro rfl ?_)) (ConvH.of (.cons r0 (.cons r0 (.cons r0 (.cons r0 (.cons r0 .nil)))))) (Hp.Le.refl _) ⟨(fun h => by simp at h), (si hl903)⟩
 rintro ⟨t903, t903_a0, t903_c0⟩ Kt903 lt903 ⟨t903_h0, rfl⟩ j903
 conv => whnf
 refine RStep.of (len_slice rfl ?_)
 obtain ⟨h56, hm⟩ := chkb hm
 conv => whnf
 refine int_in h56 ?_
 conv => whnf
 refine nil_check ?_
 conv => whnf
 refine field_addr rfl ?_
 conv => whnf
 refine RStep.of (load1_s r1 rfl rfl ?_)
 conv => whnf
 refine update_rule (kenc := intK) (venc := (fun x => .int .i64 x)) (((mget s.offsets id).getD 0) + (t903.length : Int)) rfl r3 rfl (key_int rfl) ?_
 conv => whnf
 refine guard_go rfl ?_
 conv => whnf
 refine nil_check ?_
 conv => whnf
 refine field_addr rfl ?_
 conv => whnf
 refine RStep.of (load1_s r2 rfl rfl ?_)
 conv => whnf
 refine eq_int ?_
 conv => whnf
 refine cond_s (fun g68_13 => ?_) (fun g68_13 => ?_)
 conv => whnf
 refine cond_t g68_13 ?_
 conv => whnf
 refine cond_t g68_13 ?_
 conv => whnf
 refine nil_check ?_
 conv => whnf
 refine cond_t g68_13 ?_
 conv => whnf
 refine field_addr rfl ?_
 conv => whnf
 refine cond_t g68_13 ?_
 conv => whnf
 refine RStep.of (load1_s r2 rfl rfl ?_)
 conv => whnf
 refine cond_t g68_13 ?_
 conv => whnf
 refine RStep.of (len_slice rfl ?_)
 conv => whnf
 refine cond_t g68_13 ?_
 conv => whnf
 refine eq_int ?_
 conv => whnf
 refine cond_t g68_13 ?_
 conv => whnf
 refine cond_go rfl ?_
 conv => whnf
 refine cond_s (fun w76 => ?_) (fun w76 => ?_)
 replace hm := ift (and_t g68_13 w76) hm
 obtain rfl := si hm
 conv => whnf
 refine EndStep.mk _ lt903 ⟨t903_a0, t903_c0, ap0_0, cp0_0, mp0_1, rfl, t903_h0, hp0_0, rfl⟩ (ConvH.of (.cons r1 (.cons r1 (.cons r1 (.cons r0 (.cons r0 .nil))))))
 replace hm := iff_ (and_g g68_13 w76) hm
 obtain rfl := si hm
 conv => whnf
 refine EndStep.mk _ lt903 ⟨t903_a0, t903_c0, ap0_0, cp0_0, mp0_1, rfl, t903_h0, hp0_0, rfl⟩ (ConvH.of (.cons r1 (.cons r1 (.cons r1 (.cons r0 (.cons r0 .nil))))))
 conv => whnf
 refine cond_f g68_13 ?_
 conv => whnf
 refine cond_f g68_13 ?_
 conv => whnf
 refine cond_f g68_13 ?_
 conv => whnf
 refine cond_f g68_13 ?_
 conv => whnf
 refine cond_f g68_13 ?_
 conv => whnf
 refine cond_f g68_13 ?_
 conv => whnf
 refine cond_f g68_13 ?_
 conv => whnf
 refine cond_go rfl ?_
 conv => whnf
 refine cond_F ?_
 replace hm := iff_ (and_f g68_13) hm
 obtain rfl := si hm
 conv => whnf
 refine EndStep.mk _ lt903 ⟨t903_a0, t903_c0, ap0_0, cp0_0, mp0_1, rfl, t903_h0, hp0_0, rfl⟩ (ConvH.of (.cons r1 (.cons r1 (.cons r1 (.cons r0 (.cons r0 .nil))))))

noncomputable def law28_awake : Option (Bool) :=
  (fanout_New 10).bind fun x6 =>
  Option.elim x6.1 (
  if x6.2.isSome then
  some false
  else
  none)
   fun o6 =>
  if x6.2.isSome then
  some false
  else
  (fanout_Stream_Write o6 ([(97 : UInt8), (98 : UInt8), (99 : UInt8)] : Str)).bind fun x15 =>
  if x15.1.isSome then
  some false
  else
  (fanout_Stream_Attach x15.2 1 1).bind fun x20 =>
  if x20.1.isSome then
  some false
  else
  (fanout_Stream_Read x20.2 1 9).bind fun x25 =>
  (if x25.2.2.1.isNone then some (decide (x25.1 = ([98, 99] : Str))) else some false).bind fun x35 =>
  some (x35 && decide (x25.2.1 = 1))
set_option maxHeartbeats 40000000 in
theorem law28_awake_ok  {K : Hp} {r : Bool}
    (hm : law28_awake = some r)  :
    Fn Try.prog 10 [] K [] (fun v K' H' => v = .bool r ∧ H' = []) := by
 refine Fn.enter Try.func10 Try.call10 rfl fun F => ?_
 unfold law28_awake at hm
 obtain ⟨x6, q6, hm⟩ := bnd hm
 conv => whnf
 refine call_fn (fanout_New_ok (limit := 10) q6) .nil ?_
 rintro v6 K6 H6 l6 p6
 rcases hq6 : x6.1 with _ | o6
 rw [hq6] at p6 hm
 obtain ⟨rfl, rfl⟩ := p6
 replace hm := oe_n hm
 conv => whnf
 refine guard_go rfl ?_
 conv => whnf
 refine neq_err rfl ?_
 conv => whnf
 refine cond_s (fun g11_2 => ?_) (fun g11_2 => ?_)
 replace hm := ift g11_2 hm
 conv => whnf
 refine cond_t g11_2 ?_
 conv => whnf
 refine cond_t g11_2 ?_
 conv => whnf
 refine cond_t g11_2 ?_
 conv => whnf
 refine cond_t g11_2 ?_
 conv => whnf
 refine cond_t g11_2 ?_
 conv => whnf
 refine cond_T ?_
 conv => whnf
 refine cond_T ?_
 conv => whnf
 refine cond_T ?_
 conv => whnf
 refine cond_T ?_
 conv => whnf
 refine cond_go rfl ?_
 conv => whnf
 refine cond_T ?_
 obtain rfl := si hm
 conv => whnf
 refine EndStep.mk _ l6 ⟨rfl, rfl⟩ (ConvH.of (.cons r0 .nil))
 replace hm := iff_ g11_2 hm
 conv => whnf
 refine cond_f g11_2 ?_
 conv => whnf
 refine bsO (len := 3) (enc := eU) (l := ([(97 : UInt8), (98 : UInt8), (99 : UInt8)] : Str)) (cl := [.int .u8 97, .int .u8 98, .int .u8 99]) elT22 rfl rfl (fun _ _ => rfl) rfl rfl rfl ?_ fun b13 => ?_
 · conv => whnf
   refine cond_T ?_
   conv => whnf
   refine cond_T ?_
   conv => whnf
   refine cond_T ?_
   conv => whnf
   first | done | rfl
 conv => whnf
 refine cond_f g11_2 ?_
 conv => whnf
 refine cv_mark rfl rfl r0 ?_
 conv => whnf
 refine cond_f g11_2 ?_
 cases hm
 rw [hq6] at p6 hm
 obtain ⟨b6_0, a6_1, c6_1, m6_2, rfl, h6_1, rfl⟩ := p6
 replace hm := oe_s hm
 conv => whnf
 refine guard_go rfl ?_
 conv => whnf
 refine neq_err rfl ?_
 conv => whnf
 refine cond_s (fun g11_2 => ?_) (fun g11_2 => ?_)
 replace hm := ift g11_2 hm
 conv => whnf
 refine cond_t g11_2 ?_
 conv => whnf
 refine cond_t g11_2 ?_
 conv => whnf
 refine cond_t g11_2 ?_
 conv => whnf
 refine cond_t g11_2 ?_
 conv => whnf
 refine cond_t g11_2 ?_
 conv => whnf
 refine cond_T ?_
 conv => whnf
 refine cond_T ?_
 conv => whnf
 refine cond_T ?_
 conv => whnf
 refine cond_T ?_
 conv => whnf
 refine cond_go rfl ?_
 conv => whnf
 refine cond_T ?_
 obtain rfl := si hm
 conv => whnf
 refine EndStep.mk _ l6 ⟨rfl, rfl⟩ (ConvH.of (.cons r3 .nil))
 replace hm := iff_ g11_2 hm
 conv => whnf
 refine cond_f g11_2 ?_
 conv => whnf
 refine bsO (len := 3) (enc := eU) (l := ([(97 : UInt8), (98 : UInt8), (99 : UInt8)] : Str)) (cl := [.int .u8 97, .int .u8 98, .int .u8 99]) elT22 rfl rfl (fun _ _ => rfl) rfl rfl rfl ?_ fun b13 => ?_
 · conv => whnf
   refine cond_T ?_
   conv => whnf
   refine cond_T ?_
   conv => whnf
   refine cond_T ?_
   conv => whnf
   first | done | rfl
 conv => whnf
 refine cond_f g11_2 ?_
 conv => whnf
 refine cv_mark rfl rfl r0 ?_
 conv => whnf
 refine cond_f g11_2 ?_
 obtain ⟨x15, q15, hm⟩ := bnd hm
 conv => whnf
 refine call_fn (Fn.lend Try.call12 (fun K15_1 l15_1 f15_1 => (fanout_Stream_Write_ok (s := o6) q15 h6_1 f15_1 rfl)) (by exact fun _ _ _ _ h => h)) (.cons r0 (.cons r0 (.cons r0 (.cons r0 .nil)))) ?_
 rintro _ K15 _ l15 ⟨_, rfl, a15_0, c15_0, m15_1, rfl, h15_0, rfl⟩
 conv => whnf
 refine cond_f g11_2 ?_
 conv => whnf
 refine neq_err rfl ?_
 conv => whnf
 refine cond_f g11_2 ?_
 conv => whnf
 refine cond_s (fun g18_2 => ?_) (fun g18_2 => ?_)
 replace hm := ift g18_2 hm
 conv => whnf
 refine cond_t g18_2 ?_
 conv => whnf
 refine cond_t g18_2 ?_
 conv => whnf
 refine cond_t g18_2 ?_
 conv => whnf
 refine cond_go rfl ?_
 conv => whnf
 refine cond_T ?_
 obtain rfl := si hm
 conv => whnf
 refine EndStep.mk _ (l6.trans l15) ⟨rfl, rfl⟩ (ConvH.of (.cons r4 .nil))
 replace hm := iff_ g18_2 hm
 conv => whnf
 refine cond_f g18_2 ?_
 obtain ⟨x20, q20, hm⟩ := bnd hm
 conv => whnf
 refine call_fn (fanout_Stream_Attach_ok (s := x15.2) (id := 1) (fromZ := 1) q20 h15_0) (.cons r1 (.cons r1 (.cons r1 .nil))) ?_
 rintro _ K20 _ l20 ⟨a20_0, c20_0, m20_1, rfl, h20_0, rfl⟩
 conv => whnf
 refine cond_f g18_2 ?_
 conv => whnf
 refine neq_err rfl ?_
 conv => whnf
 refine cond_f g18_2 ?_
 conv => whnf
 refine cs rfl rfl hm (fun w22 hm => ?_) fun w22 hm => ?_
 obtain rfl := si hm
 conv => whnf
 refine EndStep.mk _ ((l6.trans l15).trans l20) ⟨rfl, rfl⟩ (ConvH.of (.cons r4 .nil))
 obtain ⟨x25, q25, hm⟩ := bnd hm
 conv => whnf
 refine call_fn (fanout_Stream_Read_ok (s := x20.2) (id := 1) (max := 9) q25 h20_0) (.cons r0 (.cons r0 (.cons r0 .nil))) ?_
 rintro _ K25 _ l25 ⟨a25_0, c25_0, a25_1, c25_1, m25_2, rfl, h25_0, h25_1, rfl⟩
 conv => whnf
 refine guard_go rfl ?_
 conv => whnf
 refine eq_err rfl ?_
 obtain ⟨x35, e35, hm⟩ := bnd hm
 conv => whnf
 refine cond_s (fun g31_5 => ?_) (fun g31_5 => ?_)
 replace e35 := ift g31_5 e35
 conv => whnf
 refine cond_t g31_5 ?_
 conv => whnf
 refine RStep.of (cv_ownE rfl r0 rfl rfl rfl ?_)
 conv => whnf
 refine cond_t g31_5 ?_
 conv => whnf
 refine eq_str ?_
 conv => whnf
 refine cond_t g31_5 ?_
 conv => whnf
 refine cond_s (fun g36_5 => ?_) (fun g36_5 => ?_)
 conv => whnf
 refine cond_t g36_5 ?_
 conv => whnf
 refine eq_int ?_
 conv => whnf
 refine cond_t g36_5 ?_
 obtain rfl := si hm
 conv => whnf
 refine EndStep.mk _ (((l6.trans l15).trans l20).trans l25) ⟨(by rw [← (and_e (b := decide (x25.2.1 = 1)) ((si e35).symm.trans g36_5))] <;> rfl), rfl⟩ (ConvH.of (.cons r5 .nil))
 conv => whnf
 refine cond_f g36_5 ?_
 conv => whnf
 refine cond_f g36_5 ?_
 obtain rfl := si hm
 conv => whnf
 refine EndStep.mk _ (((l6.trans l15).trans l20).trans l25) ⟨(by rw [← ((and_f ((si e35).symm.trans g36_5))).symm] <;> rfl), rfl⟩ (ConvH.of (.cons r5 .nil))
 replace e35 := iff_ g31_5 e35
 conv => whnf
 refine cond_f g31_5 ?_
 conv => whnf
 refine cond_f g31_5 ?_
 conv => whnf
 refine cond_f g31_5 ?_
 conv => whnf
 refine cond_F ?_
 conv => whnf
 refine cond_F ?_
 conv => whnf
 refine cond_F ?_
 obtain rfl := si hm
 conv => whnf
 refine EndStep.mk _ (((l6.trans l15).trans l20).trans l25) ⟨(by rw [← ((and_f (si e35).symm)).symm] <;> rfl), rfl⟩ (ConvH.of (.cons r5 .nil))

noncomputable def fanout_Stream_End (s : S_fanout_Stream) : Option (Err × S_fanout_Stream) :=
  (fanout_Stream_open s).bind fun x5 =>
  if x5.isSome then
  some (x5, s)
  else
  some (none, (⟨s.limit, 2, s.data, s.offsets⟩ : S_fanout_Stream))
set_option maxHeartbeats 40000000 in
theorem fanout_Stream_End_ok {s : S_fanout_Stream} {b0 : Nat} {ap0_0 : Option Addr} {cp0_0 : Nat} {mp0_1 : Nat} {K : Hp} {r : Err × S_fanout_Stream}
    (hm : fanout_Stream_End s = some r) (hp0_0 : (0 < s.data.length → Has ap0_0)) :
    Fn Try.prog 16 [.pointer (some ⟨b0, 0, none⟩)] K [Cells b0 77 [.int .i64 s.limit, .int .i64 s.state, .slice ap0_0 s.data.length cp0_0, .map (some mp0_1)], OwnL eU ap0_0 5 1 cp0_0 s.data, MapE intK (fun x => .int .i64 x) mp0_1 s.offsets] (fun v K' H' => ∃ ar_0 : Option Addr, ∃ cr_0 : Nat, ∃ mr_1 : Nat, v = errV 44 r.1 ∧ (0 < r.2.data.length → Has ar_0) ∧ H' = [Cells b0 77 [.int .i64 r.2.limit, .int .i64 r.2.state, .slice ar_0 r.2.data.length cr_0, .map (some mr_1)], OwnL eU ar_0 5 1 cr_0 r.2.data, MapE intK (fun x => .int .i64 x) mr_1 r.2.offsets]) := by
 refine Fn.enter Try.func16 Try.call16 rfl fun F => ?_
 unfold fanout_Stream_End at hm
 obtain ⟨x5, q5, hm⟩ := bnd hm
 conv => whnf
 refine call_fn (fanout_Stream_open_ok (s := s) q5 hp0_0) (.cons r0 (.cons r0 (.cons r0 .nil))) ?_
 rintro _ K5 _ l5 ⟨rfl, rfl⟩
 conv => whnf
 refine neq_err rfl ?_
 conv => whnf
 refine cs rfl rfl hm (fun w7 hm => ?_) fun w7 hm => ?_
 obtain rfl := si hm
 conv => whnf
 refine EndStep.mk _ l5 ⟨ap0_0, cp0_0, mp0_1, rfl, hp0_0, rfl⟩ (ConvH.of (.cons r0 (.cons r0 (.cons r0 (.cons r0 .nil)))))
 conv => whnf
 refine nil_check ?_
 conv => whnf
 refine field_addr rfl ?_
 conv => whnf
 refine store_rule r0 rfl ?_
 conv => whnf
 refine ⟨rfl, rfl, (Nat.le_of_ble_eq_true rfl), ?_⟩
 obtain rfl := si hm
 conv => whnf
 refine EndStep.mk _ l5 ⟨ap0_0, cp0_0, mp0_1, rfl, hp0_0, rfl⟩ (ConvH.of (.cons r0 (.cons r0 (.cons r0 (.cons r0 .nil)))))

noncomputable def base_Bytes (a : Str) (b : Str) : Option (Bool) :=
  some (decide (a = b))
set_option maxHeartbeats 40000000 in
theorem base_Bytes_ok {a : Str} {b : Str} {ap0_0 : Option Addr} {cp0_0 : Nat} {n0 : Nat} {ap1_0 : Option Addr} {cp1_0 : Nat} {n1 : Nat} {K : Hp} {r : Bool}
    (hm : base_Bytes a b = some r) (hp0_0 : RdC eU K ap0_0 cp0_0 1 a) (en0 : n0 = a.length) (hp1_0 : RdC eU K ap1_0 cp1_0 1 b) (en1 : n1 = b.length) :
    Fn Try.prog 15 [.slice ap0_0 n0 cp0_0, .slice ap1_0 n1 cp1_0] K [] (fun v K' H' => v = .bool r ∧ H' = []) := by
 subst en0
 subst en1
 refine Fn.enter Try.func15 Try.call15 rfl fun F => ?_
 unfold base_Bytes at hm
 conv => whnf
 refine RStep.of (cv_k rfl rfl rfl hp0_0.rd ?_)
 conv => whnf
 refine RStep.of (cv_k rfl rfl rfl hp1_0.rd ?_)
 conv => whnf
 refine eq_str ?_
 obtain rfl := si hm
 conv => whnf
 refine EndStep.mk _ (Hp.Le.refl _) ⟨rfl, rfl⟩ (ConvH.of (.cons r0 .nil))

noncomputable def law28_part (a : Str) (b : Str) (allZ : Bool) : Option (Bool) :=
  (if decide ((a.length : Int) ≤ (b.length : Int)) then (chk (0 ≤ (0 : Int) ∧ (0 : Int) ≤ (a.length : Int) ∧ (a.length : Int) ≤ (b.length : Int))).bind fun _ =>
  (base_Bytes a (subL b (0 : Int) (a.length : Int))).bind fun x18 =>
  some x18 else some false).bind fun x19 =>
  if x19 then
  some ((!allZ) || decide ((a.length : Int) = (b.length : Int)))
  else
  some false
set_option maxHeartbeats 40000000 in
theorem law28_part_ok {a : Str} {b : Str} {allZ : Bool} {ap0_0 : Option Addr} {cp0_0 : Nat} {n0 : Nat} {ap1_0 : Option Addr} {cp1_0 : Nat} {n1 : Nat} {K : Hp} {r : Bool}
    (hm : law28_part a b allZ = some r) (hp0_0 : RdC eU K ap0_0 cp0_0 1 a) (en0 : n0 = a.length) (hp1_0 : RdC eU K ap1_0 cp1_0 1 b) (en1 : n1 = b.length) :
    Fn Try.prog 17 [.slice ap0_0 n0 cp0_0, .slice ap1_0 n1 cp1_0, .bool allZ] K [] (fun v K' H' => v = .bool r ∧ H' = []) := by
 subst en0
 subst en1
 refine Fn.enter Try.func17 Try.call17 rfl fun F => ?_
 unfold law28_part at hm
 conv => whnf
 refine guard_go rfl ?_
 conv => whnf
 refine RStep.of (len_slice rfl ?_)
 conv => whnf
 refine RStep.of (len_slice rfl ?_)
 obtain ⟨x19, e19, hm⟩ := bnd hm
 conv => whnf
 refine cond_s (fun g12_1 => ?_) (fun g12_1 => ?_)
 replace e19 := ift g12_1 e19
 conv => whnf
 refine cond_t g12_1 ?_
 conv => whnf
 refine cond_t g12_1 ?_
 conv => whnf
 refine cond_t g12_1 ?_
 conv => whnf
 refine RStep.of (len_slice rfl ?_)
 conv => whnf
 refine cond_t g12_1 ?_
 obtain ⟨h17, e19⟩ := chkb e19
 have h17_ := hp1_0.subC h17
 conv => whnf
 refine RStep.ofN (sl_slN (l := b) (lo := none) (hi := (some (a.length : Int))) (lo' := (0 : Int)) (hi' := (a.length : Int)) rfl rfl rfl rfl rfl hp1_0.le h17 ?_)
 conv => whnf
 refine cond_t g12_1 ?_
 obtain ⟨x18, q18, e19⟩ := bnd e19
 conv => whnf
 refine call_fn (base_Bytes_ok q18 hp0_0 rfl h17_ rfl) .nil ?_
 rintro _ K18 _ l18 ⟨rfl, rfl⟩
 conv => whnf
 refine cond_t g12_1 ?_
 conv => whnf
 refine cond_s (fun g20_1 => ?_) (fun g20_1 => ?_)
 replace hm := ift ((si e19).symm.trans g20_1) hm
 conv => whnf
 refine cond_t g20_1 ?_
 conv => whnf
 refine un_not ?_
 conv => whnf
 refine cond_t g20_1 ?_
 conv => whnf
 refine cond_s (fun g23_1 => ?_) (fun g23_1 => ?_)
 conv => whnf
 refine cond_t g23_1 ?_
 conv => whnf
 refine cond_t g23_1 ?_
 conv => whnf
 refine cond_t g23_1 ?_
 conv => whnf
 refine cond_t g23_1 ?_
 conv => whnf
 refine cond_t g20_1 ?_
 conv => whnf
 refine cond_t g23_1 ?_
 conv => whnf
 refine cond_t g20_1 ?_
 obtain rfl := si hm
 conv => whnf
 refine EndStep.mk _ l18 ⟨(by rw [← ((or_t (not_t (ni_t g23_1)))).symm] <;> rfl), rfl⟩ (ConvH.of (.cons r0 .nil))
 conv => whnf
 refine cond_f g23_1 ?_
 conv => whnf
 refine RStep.of (len_slice rfl ?_)
 conv => whnf
 refine cond_f g23_1 ?_
 conv => whnf
 refine cond_f g23_1 ?_
 conv => whnf
 refine RStep.of (len_slice rfl ?_)
 conv => whnf
 refine cond_f g23_1 ?_
 conv => whnf
 refine eq_int ?_
 conv => whnf
 refine cond_t g20_1 ?_
 conv => whnf
 refine cond_f g23_1 ?_
 conv => whnf
 refine cond_t g20_1 ?_
 obtain rfl := si hm
 conv => whnf
 refine EndStep.mk _ l18 ⟨(by rw [← (or_e (b := decide ((a.length : Int) = (b.length : Int))) (not_f (ni_f g23_1)))] <;> rfl), rfl⟩ (ConvH.of (.cons r0 .nil))
 replace hm := iff_ ((si e19).symm.trans g20_1) hm
 conv => whnf
 refine cond_f g20_1 ?_
 conv => whnf
 refine cond_f g20_1 ?_
 conv => whnf
 refine cond_f g20_1 ?_
 conv => whnf
 refine cond_f g20_1 ?_
 obtain rfl := si hm
 conv => whnf
 refine EndStep.mk _ l18 ⟨rfl, rfl⟩ (ConvH.of (.cons r0 .nil))
 replace e19 := iff_ g12_1 e19
 conv => whnf
 refine cond_f g12_1 ?_
 conv => whnf
 refine cond_f g12_1 ?_
 conv => whnf
 refine cond_f g12_1 ?_
 conv => whnf
 refine cond_f g12_1 ?_
 conv => whnf
 refine cond_f g12_1 ?_
 conv => whnf
 refine cond_f g12_1 ?_
 replace hm := iff_ (si e19).symm hm
 conv => whnf
 refine cond_F ?_
 conv => whnf
 refine cond_F ?_
 conv => whnf
 refine cond_F ?_
 conv => whnf
 refine cond_F ?_
 conv => whnf
 refine cond_F ?_
 obtain rfl := si hm
 conv => whnf
 refine EndStep.mk _ (Hp.Le.refl _) ⟨rfl, rfl⟩ (ConvH.of (.cons r0 .nil))

noncomputable def law28_FanoutWhole_L0 : List Str → Nat → Int → Option (Int)
  | [], _, y0_0 => some y0_0
  | e0 :: xs0, i0, y0_0 =>
    law28_FanoutWhole_L0 xs0 (i0 + 1) (IntKind.i64.wrap (y0_0 + (e0.length : Int)))
noncomputable def law28_FanoutWhole_L2 (parts : (List Str)) : Nat → Str → Int → Int → Option (Fl (Bool) (Str × Int × Int))
  | 0, _, _, _ => none
  | xs2 + 1, y2_0, y2_1, y2_2 =>
    if decide (y2_2 ≤ (parts.length : Int)) then
    if decide (y2_2 < (parts.length : Int)) then
    (ix parts y2_2).bind fun x110 =>
    none
    else
    none
    else
    some (Fl.go (y2_0, y2_1, y2_2))
noncomputable def law28_FanoutWhole_L6 (fromZ : Str) : List UInt8 → Nat → Option (Fl (Bool) (Unit))
  | [], _ => some (Fl.go ())
  | e6 :: xs6, i6 =>
    (ix (List.replicate (Int.toNat (fromZ.length : Int)) (false : Bool)) (i6 : Int)).bind fun x259 =>
    (if x259 then (ix (List.replicate (Int.toNat (fromZ.length : Int)) (false : Bool)) (i6 : Int)).bind fun x264 =>
    some (!x264) else some false).bind fun x267 =>
    if x267 then
    none
    else
    law28_FanoutWhole_L6 fromZ xs6 (i6 + 1)
noncomputable def law28_FanoutWhole_L4 (t918 : Str × S_fanout_Stream) (paces : Str) (y2_2 : Int) (parts : (List Str)) : List UInt8 → Nat → Int → (List Bool) → (List Int) → (List Bool) → (List Str) → S_fanout_Stream → Option (Fl (Bool) (Int × (List Bool) × (List Int) × (List Bool) × (List Str) × S_fanout_Stream))
  | [], _, y4_0, y4_1, y4_2, y4_3, y4_4, y4_5 => some (Fl.go (y4_0, y4_1, y4_2, y4_3, y4_4, y4_5))
  | e4 :: xs4, i4, y4_0, y4_1, y4_2, y4_3, y4_4, y4_5 =>
    (ix y4_1 (i4 : Int)).bind fun x130 =>
    ((if (!x130) then
    (ix y4_2 (i4 : Int)).bind fun x140 =>
    (ix (y4_2.set (((i4 : Int)).toNat) (e4.toNat : Int)) (i4 : Int)).bind fun x147 =>
    (fanout_Stream_Attach y4_5 (i4 : Int) x147).bind fun x149 =>
    (ix y4_1 (i4 : Int)).bind fun x151 =>
    (ix (y4_1.set (((i4 : Int)).toNat) x149.1.isNone) (i4 : Int)).bind fun x154 =>
    (ix (y4_2.set (((i4 : Int)).toNat) (e4.toNat : Int)) (i4 : Int)).bind fun x158 =>
    if (!(x154 == (decide (x158 ≤ (t918.1.length : Int))))) then
    some (Fl.ret false)
    else
    some (Fl.go (x149.2, (y4_2.set (((i4 : Int)).toNat) (e4.toNat : Int)), (y4_1.set (((i4 : Int)).toNat) x149.1.isNone)))
    else
    some (Fl.go (y4_5, y4_2, y4_1)) : Option (Fl (Bool) (S_fanout_Stream × (List Int) × (List Bool))))).bind fun s922 => s922.el (fun r => some (Fl.ret r)) fun t922 =>
    (ix t922.2.2 (i4 : Int)).bind fun x166 =>
    if (!x166) then
    law28_FanoutWhole_L4 t918 paces y2_2 parts xs4 (i4 + 1) y4_0 t922.2.2 t922.2.1 y4_3 y4_4 t922.1
    else
    ((if decide ((paces.length : Int) > 0) then
    (chk ((paces.length : Int) ≠ 0)).bind fun _ =>
    (ix paces (Int.tmod y4_0 (paces.length : Int))).bind fun x177 =>
    some (x177.toNat : Int)
    else
    some 3 : Option (Int))).bind fun t926 =>
    (fanout_Stream_Read t922.1 (i4 : Int) t926).bind fun x186 =>
    if (x186.2.2.1.isSome || decide ((x186.1.length : Int) > t926)) then
    some (Fl.ret false)
    else
    (ix y4_3 (i4 : Int)).bind fun x201 =>
    if (x201 && decide ((x186.1.length : Int) > 0)) then
    some (Fl.ret false)
    else
    (ix y4_4 (i4 : Int)).bind fun x213 =>
    (chk (x213.length + x186.1.length ≤ lim)).bind fun _ =>
    (ix y4_4 (i4 : Int)).bind fun x217 =>
    (ix y4_3 (i4 : Int)).bind fun x222 =>
    (ix (y4_4.set (((i4 : Int)).toNat) (x213 ++ x186.1)) (i4 : Int)).bind fun x225 =>
    (ix t922.2.1 (i4 : Int)).bind fun x230 =>
    (chk (0 ≤ x230 ∧ x230 ≤ (t918.1.length : Int) ∧ (t918.1.length : Int) ≤ (t918.1.length : Int))).bind fun _ =>
    (ix (y4_3.set (((i4 : Int)).toNat) (decide (x186.2.1 = 2))) (i4 : Int)).bind fun x235 =>
    (law28_part x225 (subL t918.1 x230 (t918.1.length : Int)) x235).bind fun x237 =>
    if (!x237) then
    some (Fl.ret false)
    else
    (ix (y4_3.set (((i4 : Int)).toNat) (decide (x186.2.1 = 2))) (i4 : Int)).bind fun x242 =>
    if (x242 && decide (y2_2 < (parts.length : Int))) then
    some (Fl.ret false)
    else
    law28_FanoutWhole_L4 t918 paces y2_2 parts xs4 (i4 + 1) (IntKind.i64.wrap (y4_0 + 1)) t922.2.2 t922.2.1 (y4_3.set (((i4 : Int)).toNat) (decide (x186.2.1 = 2))) (y4_4.set (((i4 : Int)).toNat) (x213 ++ x186.1)) x186.2.2.2
noncomputable def law28_FanoutWhole_L2b (parts : (List Str)) (fromZ : Str) (paces : Str) : Nat → Str → Int → Int → (List Bool) → (List Int) → (List Bool) → (List Str) → S_fanout_Stream → Option (Fl (Bool) (Str × Int × Int × (List Bool) × (List Int) × (List Bool) × (List Str) × S_fanout_Stream))
  | 0, _, _, _, _, _, _, _, _ => none
  | xs2 + 1, y2_0, y2_1, y2_2, y2_3, y2_4, y2_5, y2_6, y2_7 =>
    if decide (y2_2 ≤ (parts.length : Int)) then
    ((if decide (y2_2 < (parts.length : Int)) then
    (ix parts y2_2).bind fun x110 =>
    (fanout_Stream_Write y2_7 x110).bind fun x112 =>
    if x112.1.isSome then
    some (Fl.ret false)
    else
    (ix parts y2_2).bind fun x117 =>
    (chk (y2_0.length + x117.length ≤ lim)).bind fun _ =>
    some (Fl.go ((y2_0 ++ x117), x112.2))
    else
    (fanout_Stream_End y2_7).bind fun x121 =>
    if x121.1.isSome then
    some (Fl.ret false)
    else
    some (Fl.go (y2_0, x121.2)) : Option (Fl (Bool) (Str × S_fanout_Stream)))).bind fun s918 => s918.el (fun r => some (Fl.ret r)) fun t918 =>
    (chk (fromZ.length ≤ szMax)).bind fun _ =>
    (law28_FanoutWhole_L4 t918 paces y2_2 parts fromZ 0 y2_1 y2_3 y2_4 y2_5 y2_6 t918.2).bind fun s4 => s4.el (fun r => some (Fl.ret r)) fun t4 =>
    law28_FanoutWhole_L2b parts fromZ paces xs2 t918.1 t4.1 (IntKind.i64.wrap (y2_2 + 1)) t4.2.1 t4.2.2.1 t4.2.2.2.1 t4.2.2.2.2.1 t4.2.2.2.2.2
    else
    some (Fl.go (y2_0, y2_1, y2_2, y2_3, y2_4, y2_5, y2_6, y2_7))
noncomputable def law28_FanoutWhole_L6b (t2 : Str × Int × Int × (List Bool) × (List Int) × (List Bool) × (List Str) × S_fanout_Stream) (t0 : Int) : List UInt8 → Nat → S_fanout_Stream → Option (Fl (Bool) (S_fanout_Stream))
  | [], _, y6_0 => some (Fl.go y6_0)
  | e6 :: xs6, i6, y6_0 =>
    (ix t2.2.2.2.1 (i6 : Int)).bind fun x259 =>
    (if x259 then (ix t2.2.2.2.2.2.1 (i6 : Int)).bind fun x264 =>
    some (!x264) else some false).bind fun x267 =>
    if x267 then
    (fanout_Stream_Read y6_0 (i6 : Int) (IntKind.i64.wrap (t0 + 1))).bind fun x273 =>
    (if (x273.2.2.1.isSome || decide (x273.2.1 ≠ 2)) then some true else (ix t2.2.2.2.2.2.2.1 (i6 : Int)).bind fun x286 =>
    (chk (x286.length + x273.1.length ≤ lim)).bind fun _ =>
    (ix t2.2.2.2.2.1 (i6 : Int)).bind fun x293 =>
    (chk (0 ≤ x293 ∧ x293 ≤ (t2.1.length : Int) ∧ (t2.1.length : Int) ≤ (t2.1.length : Int))).bind fun _ =>
    (law28_part (x286 ++ x273.1) (subL t2.1 x293 (t2.1.length : Int)) true).bind fun x296 =>
    some (!x296)).bind fun x298 =>
    if x298 then
    some (Fl.ret false)
    else
    law28_FanoutWhole_L6b t2 t0 xs6 (i6 + 1) x273.2.2.2
    else
    law28_FanoutWhole_L6b t2 t0 xs6 (i6 + 1) y6_0
noncomputable def law28_FanoutWhole (n : Nat) (parts : (List Str)) (fromZ : Str) (paces : Str) : Option (Bool) :=
  (chk (parts.length ≤ szMax)).bind fun _ =>
  (law28_FanoutWhole_L0 parts 0 0).bind fun t0 =>
  (if (((decide (t0 > 2000) || decide ((parts.length : Int) > 20)) || decide ((fromZ.length : Int) > 10)) || decide ((paces.length : Int) > 40)) then some true else (law28_awake).bind fun x57 =>
  some (!x57)).bind fun t901 =>
  if t901 then
  some (((decide (t0 > 2000) || decide ((parts.length : Int) > 20)) || decide ((fromZ.length : Int) > 10)) || decide ((paces.length : Int) > 40))
  else
  (fanout_New (max 1 t0)).bind fun x80 =>
  Option.elim x80.1 (
  if x80.2.isSome then
  some false
  else
  (chk (0 ≤ (fromZ.length : Int) ∧ (fromZ.length : Int) ≤ (lim : Int))).bind fun _ =>
  (chk (0 ≤ (fromZ.length : Int) ∧ (fromZ.length : Int) ≤ (lim : Int))).bind fun _ =>
  (chk (0 ≤ (fromZ.length : Int) ∧ (fromZ.length : Int) ≤ (lim : Int))).bind fun _ =>
  (chk (0 ≤ (fromZ.length : Int) ∧ (fromZ.length : Int) ≤ (lim : Int))).bind fun _ =>
  (law28_FanoutWhole_L2 parts n [] 0 0).bind fun s2 => s2.el some fun t2 =>
  (chk (fromZ.length ≤ szMax)).bind fun _ =>
  (law28_FanoutWhole_L6 fromZ fromZ 0).bind fun s6 => s6.el some fun t6 =>
  some true)
   fun o80 =>
  if x80.2.isSome then
  some false
  else
  (chk (0 ≤ (fromZ.length : Int) ∧ (fromZ.length : Int) ≤ (lim : Int))).bind fun _ =>
  (chk (0 ≤ (fromZ.length : Int) ∧ (fromZ.length : Int) ≤ (lim : Int))).bind fun _ =>
  (chk (0 ≤ (fromZ.length : Int) ∧ (fromZ.length : Int) ≤ (lim : Int))).bind fun _ =>
  (chk (0 ≤ (fromZ.length : Int) ∧ (fromZ.length : Int) ≤ (lim : Int))).bind fun _ =>
  (law28_FanoutWhole_L2b parts fromZ paces n [] 0 0 (List.replicate (Int.toNat (fromZ.length : Int)) (false : Bool)) (List.replicate (Int.toNat (fromZ.length : Int)) (0 : Int)) (List.replicate (Int.toNat (fromZ.length : Int)) (false : Bool)) (List.replicate (Int.toNat (fromZ.length : Int)) ([] : Str)) o80).bind fun s2 => s2.el some fun t2 =>
  (chk (fromZ.length ≤ szMax)).bind fun _ =>
  (law28_FanoutWhole_L6b t2 t0 fromZ 0 t2.2.2.2.2.2.2.2).bind fun s6 => s6.el some fun t6 =>
  some true
set_option maxHeartbeats 40000000 in
theorem law28_FanoutWhole_ok {n : Nat} {parts : (List Str)} {fromZ : Str} {paces : Str} {ap0_0 : Option Addr} {cp0_0 : Nat} {n0 : Nat} {ap1_0 : Option Addr} {cp1_0 : Nat} {n1 : Nat} {ap2_0 : Option Addr} {cp2_0 : Nat} {n2 : Nat} {K : Hp} {r : Bool}
    (hm : law28_FanoutWhole n parts fromZ paces = some r) (hp0_0 : LiC (sliL eU 1) K ap0_0 cp0_0 1 parts) (en0 : n0 = parts.length) (hp1_0 : RdC eU K ap1_0 cp1_0 1 fromZ) (en1 : n1 = fromZ.length) (hp2_0 : RdC eU K ap2_0 cp2_0 1 paces) (en2 : n2 = paces.length) :
    Fn Try.prog 4 [.slice ap0_0 n0 cp0_0, .slice ap1_0 n1 cp1_0, .slice ap2_0 n2 cp2_0] K [] (fun v K' H' => v = .bool r ∧ H' = []) := by
 subst en0
 subst en1
 subst en2
 refine Fn.enter Try.func4 Try.call4 rfl fun F => ?_
 unfold law28_FanoutWhole at hm
 conv => whnf
 refine RStep.of (len_slice rfl ?_)
 obtain ⟨hk0, hm⟩ := chkb hm
 obtain ⟨s0, hl0, hm⟩ := bnd hm
 conv => whnf
 refine code_cut (σ := (Int)) [7, 9, 30, 31, 32, 33, 34, 35, 36, 37, 38] (fun t0 => [(7, .int .i64 t0)]) (fun t0 => [F]) (fun zz K1 => match zz with | t0 => t0 = s0) ?_ ?_
 refine block_go rfl ?_
 conv => whnf
 refine loop_rule (σ := Nat × Int) [7, 9, 30, 31, 32, 33, 34, 35, 36, 37, 38] (fun (i0, y0_0) => [(30, .int .i64 (i0 : Int)), (7, .int .i64 y0_0)]) (fun (i0, y0_0) => [F]) (fun zz K1 => match zz with | (i0, y0_0) => law28_FanoutWhole_L0 (parts.drop i0) i0 y0_0 = some s0) (fun zz => parts.length - zz.1) (0, 0) rfl ⟨rfl, rfl, trivial⟩ (ConvH.of (.cons r0 .nil)) hl0 ?_
 clear hl0
 rintro ⟨i0, y0_0⟩ Kb0 lk0 hl0 j0
 conv at hl0 => whnf
 conv => whnf
 refine cond_go rfl ?_
 conv => whnf
 refine cond_s (fun w0 => ?_) (fun w0 => ?_)
 obtain ⟨e0, hx0, hd0⟩ := ltx w0
 rw [hd0, law28_FanoutWhole_L0.eq_2] at hl0
 conv => whnf
 refine block_go rfl ?_
 conv => whnf
 refine RStep.ofN (index_addr rfl rfl (hasR (LiC.mono sliL_ok lk0 hp0_0).rd hx0) (nn _) (lt_ofN hx0) ?_)
 obtain ⟨ss33, cc33, hr33, hc33, hR33⟩ := LiR.get (LiC.mono sliL_ok lk0 hp0_0).rd hx0
 obtain ⟨a33_0, c33_0, rfl, h33_0⟩ := hR33
 conv => whnf
 refine RStep.of (load_rd i0 0 _ _ hr33 rfl hc33 rfl rfl ?_)
 conv => whnf
 refine RStep.of (len_slice rfl ?_)
 conv => whnf
 refine int_wrap ?_
 conv => whnf
 refine int_in (cntz hx0 hk0) ?_
 conv => whnf
 refine RoundStep.mk (i0 + 1, (IntKind.i64.wrap (y0_0 + (e0.length : Int)))) ⟨rfl, rfl, trivial⟩ (by repeat (first | exact trivial | refine And.intro rfl ?_)) (ConvH.of (.cons r0 .nil)) lk0 (ltm hx0) hl0
 rw [lty w0, law28_FanoutWhole_L0.eq_1] at hl0
 conv => whnf
 refine cond_T ?_
 conv => whnf
 refine MeetStep.mk (y0_0) ⟨rfl, trivial⟩ (by repeat (first | exact trivial | refine And.intro rfl ?_)) (ConvH.of (.cons r0 .nil)) lk0 (si hl0)
 rintro t0 Kt0 lt0 rfl j0
 obtain ⟨s901, hl901, hm⟩ := bnd hm
 conv => whnf
 refine code_cut (σ := Bool) [39, 40, 41, 42, 43, 44, 45, 46, 47, 48, 49, 50, 51, 52, 53, 54, 55, 56, 57, 58, 59] (fun t901 => [(59, .bool t901)]) (fun _ => [F]) (fun t901 K1 => t901 = s901) ?_ ?_
 replace hl901 := bsm hl901
 refine guard_go rfl ?_
 conv => whnf
 refine cond_s (fun g41_7 => ?_) (fun g41_7 => ?_)
 conv => whnf
 refine cond_t g41_7 ?_
 conv => whnf
 refine cond_t g41_7 ?_
 conv => whnf
 refine cond_t g41_7 ?_
 conv => whnf
 refine cond_T ?_
 conv => whnf
 refine cond_T ?_
 conv => whnf
 refine cond_T ?_
 conv => whnf
 refine cond_T ?_
 conv => whnf
 refine cond_T ?_
 conv => whnf
 refine cond_T ?_
 conv => whnf
 refine cond_T ?_
 conv => whnf
 refine cond_T ?_
 obtain ⟨x59, e59, hl901⟩ := bnd hl901
 replace e59 := ift (or_t (or_t (or_t g41_7))) e59
 conv => whnf
 refine cond_T ?_
 conv => whnf
 refine cond_T ?_
 conv => whnf
 refine cond_T ?_
 conv => whnf
 refine MeetStep.mk (x59) ⟨(by rw [← ((si e59).symm).symm] <;> rfl), trivial⟩ (by repeat (first | exact trivial | refine And.intro rfl ?_)) (ConvH.of (.cons r0 .nil)) (Hp.Le.refl _) (si hl901)
 conv => whnf
 refine cond_f g41_7 ?_
 conv => whnf
 refine RStep.of (len_slice rfl ?_)
 conv => whnf
 refine cond_f g41_7 ?_
 conv => whnf
 refine cond_f g41_7 ?_
 conv => whnf
 refine cond_s (fun g46_7 => ?_) (fun g46_7 => ?_)
 conv => whnf
 refine cond_t g46_7 ?_
 conv => whnf
 refine cond_t g46_7 ?_
 conv => whnf
 refine cond_t g46_7 ?_
 conv => whnf
 refine cond_T ?_
 conv => whnf
 refine cond_T ?_
 conv => whnf
 refine cond_T ?_
 conv => whnf
 refine cond_T ?_
 obtain ⟨x59, e59, hl901⟩ := bnd hl901
 replace e59 := ift (or_t (or_t (or_u g41_7 g46_7))) e59
 conv => whnf
 refine cond_T ?_
 conv => whnf
 refine cond_T ?_
 conv => whnf
 refine cond_T ?_
 conv => whnf
 refine MeetStep.mk (x59) ⟨(by rw [← ((si e59).symm).symm] <;> rfl), trivial⟩ (by repeat (first | exact trivial | refine And.intro rfl ?_)) (ConvH.of (.cons r0 .nil)) (Hp.Le.refl _) (si hl901)
 conv => whnf
 refine cond_f g46_7 ?_
 conv => whnf
 refine RStep.of (len_slice rfl ?_)
 conv => whnf
 refine cond_f g46_7 ?_
 conv => whnf
 refine cond_f g46_7 ?_
 conv => whnf
 refine cond_s (fun g51_7 => ?_) (fun g51_7 => ?_)
 conv => whnf
 refine cond_t g51_7 ?_
 conv => whnf
 refine cond_t g51_7 ?_
 conv => whnf
 refine cond_t g51_7 ?_
 obtain ⟨x59, e59, hl901⟩ := bnd hl901
 replace e59 := ift (or_t (or_u (or_f g41_7 g46_7) g51_7)) e59
 conv => whnf
 refine cond_T ?_
 conv => whnf
 refine cond_T ?_
 conv => whnf
 refine cond_T ?_
 conv => whnf
 refine MeetStep.mk (x59) ⟨(by rw [← ((si e59).symm).symm] <;> rfl), trivial⟩ (by repeat (first | exact trivial | refine And.intro rfl ?_)) (ConvH.of (.cons r0 .nil)) (Hp.Le.refl _) (si hl901)
 conv => whnf
 refine cond_f g51_7 ?_
 conv => whnf
 refine RStep.of (len_slice rfl ?_)
 conv => whnf
 refine cond_f g51_7 ?_
 conv => whnf
 refine cond_f g51_7 ?_
 obtain ⟨x59, e59, hl901⟩ := bnd hl901
 conv => whnf
 refine cond_s (fun g56_7 => ?_) (fun g56_7 => ?_)
 replace e59 := ift (or_u (or_f (or_f g41_7 g46_7) g51_7) g56_7) e59
 conv => whnf
 refine cond_t g56_7 ?_
 conv => whnf
 refine cond_t g56_7 ?_
 conv => whnf
 refine MeetStep.mk (x59) ⟨(by rw [← ((si e59).symm).symm] <;> rfl), trivial⟩ (by repeat (first | exact trivial | refine And.intro rfl ?_)) (ConvH.of (.cons r0 .nil)) (Hp.Le.refl _) (si hl901)
 replace e59 := iff_ (or_f (or_f (or_f g41_7 g46_7) g51_7) g56_7) e59
 obtain ⟨x57, q57, e59⟩ := bnd e59
 conv => whnf
 refine call_fn (law28_awake_ok q57) .nil ?_
 rintro _ K57 _ l57 ⟨rfl, rfl⟩
 conv => whnf
 refine cond_f g56_7 ?_
 conv => whnf
 refine un_not ?_
 conv => whnf
 refine cond_f g56_7 ?_
 conv => whnf
 refine MeetStep.mk (x59) ⟨(by rw [← (si e59)] <;> rfl), trivial⟩ (by repeat (first | exact trivial | refine And.intro rfl ?_)) (ConvH.of (.cons r0 .nil)) l57 (si hl901)
 rintro t901 Kt901 lt901 rfl j901
 conv => whnf
 refine cs rfl rfl hm (fun w59 hm => ?_) fun w59 hm => ?_
 conv => whnf
 refine guard_go rfl ?_
 conv => whnf
 refine cond_s (fun g62_8 => ?_) (fun g62_8 => ?_)
 conv => whnf
 refine cond_t g62_8 ?_
 conv => whnf
 refine cond_t g62_8 ?_
 conv => whnf
 refine cond_t g62_8 ?_
 conv => whnf
 refine cond_T ?_
 conv => whnf
 refine cond_T ?_
 conv => whnf
 refine cond_T ?_
 conv => whnf
 refine cond_T ?_
 conv => whnf
 refine cond_T ?_
 conv => whnf
 refine cond_T ?_
 conv => whnf
 refine cond_T ?_
 conv => whnf
 refine cond_T ?_
 obtain rfl := si hm
 conv => whnf
 refine EndStep.mk _ (lt0.trans lt901) ⟨(by rw [← ((or_t (or_t (or_t g62_8)))).symm] <;> rfl), rfl⟩ (ConvH.of (.cons r0 .nil))
 conv => whnf
 refine cond_f g62_8 ?_
 conv => whnf
 refine RStep.of (len_slice rfl ?_)
 conv => whnf
 refine cond_f g62_8 ?_
 conv => whnf
 refine cond_f g62_8 ?_
 conv => whnf
 refine cond_s (fun g67_8 => ?_) (fun g67_8 => ?_)
 conv => whnf
 refine cond_t g67_8 ?_
 conv => whnf
 refine cond_t g67_8 ?_
 conv => whnf
 refine cond_t g67_8 ?_
 conv => whnf
 refine cond_T ?_
 conv => whnf
 refine cond_T ?_
 conv => whnf
 refine cond_T ?_
 conv => whnf
 refine cond_T ?_
 obtain rfl := si hm
 conv => whnf
 refine EndStep.mk _ (lt0.trans lt901) ⟨(by rw [← ((or_t (or_t (or_u g62_8 g67_8)))).symm] <;> rfl), rfl⟩ (ConvH.of (.cons r0 .nil))
 conv => whnf
 refine cond_f g67_8 ?_
 conv => whnf
 refine RStep.of (len_slice rfl ?_)
 conv => whnf
 refine cond_f g67_8 ?_
 conv => whnf
 refine cond_f g67_8 ?_
 conv => whnf
 refine cond_s (fun g72_8 => ?_) (fun g72_8 => ?_)
 conv => whnf
 refine cond_t g72_8 ?_
 conv => whnf
 refine cond_t g72_8 ?_
 conv => whnf
 refine cond_t g72_8 ?_
 obtain rfl := si hm
 conv => whnf
 refine EndStep.mk _ (lt0.trans lt901) ⟨(by rw [← ((or_t (or_u (or_f g62_8 g67_8) g72_8))).symm] <;> rfl), rfl⟩ (ConvH.of (.cons r0 .nil))
 conv => whnf
 refine cond_f g72_8 ?_
 conv => whnf
 refine RStep.of (len_slice rfl ?_)
 conv => whnf
 refine cond_f g72_8 ?_
 conv => whnf
 refine cond_f g72_8 ?_
 obtain rfl := si hm
 conv => whnf
 refine EndStep.mk _ (lt0.trans lt901) ⟨(by rw [← (or_e (b := decide ((paces.length : Int) > 40)) (or_f (or_f g62_8 g67_8) g72_8))] <;> rfl), rfl⟩ (ConvH.of (.cons r0 .nil))
 conv => whnf
 refine RStep.of (max_int ?_)
 obtain ⟨x80, q80, hm⟩ := bnd hm
 conv => whnf
 refine call_fn (fanout_New_ok (limit := (max 1 t0)) q80) .nil ?_
 rintro v80 K80 H80 l80 p80
 rcases hq80 : x80.1 with _ | o80
 rw [hq80] at p80 hm
 obtain ⟨rfl, rfl⟩ := p80
 replace hm := oe_n hm
 conv => whnf
 refine neq_err rfl ?_
 conv => whnf
 refine cs rfl rfl hm (fun w84 hm => ?_) fun w84 hm => ?_
 obtain rfl := si hm
 conv => whnf
 refine EndStep.mk _ ((lt0.trans lt901).trans l80) ⟨rfl, rfl⟩ (ConvH.of (.cons r0 .nil))
 conv => whnf
 refine RStep.of (len_slice rfl ?_)
 obtain ⟨h87, hm⟩ := chkb hm
 conv => whnf
 refine mk_sliceE (enc := eU) (e := 5) (sz := 1) elT35 rfl rfl h87 fun b87 => ?_
 conv => whnf
 refine draw_go_F ⟨⟨[], false⟩, _, [], []⟩ 8 rfl (by kernel_rfl) ⟨Hp.Le.refl _, (ConvH.of .nil), ci0⟩ ?_
 conv => whnf
 refine len_sliceN rfl ?_
 obtain ⟨h90, hm⟩ := chkb hm
 conv => whnf
 refine mk_sliceA elT36 rfl h90 fun b90 => ?_
 conv => whnf
 refine len_sliceN rfl ?_
 obtain ⟨h93, hm⟩ := chkb hm
 conv => whnf
 refine mk_sliceA elT37 rfl h93 fun b93 => ?_
 conv => whnf
 refine RStep.of (len_slice rfl ?_)
 conv => whnf
 refine madeW (enc := eB) (false : Bool) elT37 rfl rfl rfl (lim_n h93) r0 ?_
 refine madeW (enc := eN) (0 : Int) elT36 rfl rfl rfl (lim_n h90) r1 ?_
 obtain ⟨h96, hm⟩ := chkb hm
 conv => whnf
 refine mk_slice (enc := eB) (false : Bool) elT37 rfl rfl rfl h96 fun b96 => ?_
 obtain ⟨s2, hl2, hm⟩ := bnd hm
 conv => whnf
 refine nilC eU 5 1 ?_
 refine code_cut (σ := (Str × Int × Int) × Option Addr × Nat) [6, 12, 17, 18, 19, 20, 21, 22, 23, 97, 98, 99, 100, 101, 102, 103, 104, 105, 106, 107, 108, 109, 110, 111, 112, 113, 114, 115, 116, 117, 118, 119, 120, 121, 122, 123, 124, 125, 126, 127, 128, 129, 130, 131, 132, 133, 134, 135, 136, 137, 138, 139, 140, 141, 142, 143, 144, 145, 146, 147, 148, 149, 150, 151, 152, 153, 154, 155, 156, 157, 158, 159, 160, 161, 162, 163, 164, 165, 166, 167, 168, 169, 170, 171, 172, 173, 174, 175, 176, 177, 178, 179, 180, 181, 182, 183, 184, 185, 186, 187, 188, 189, 190, 191, 192, 193, 194, 195, 196, 197, 198, 199, 200, 201, 202, 203, 204, 205, 206, 207, 208, 209, 210, 211, 212, 213, 214, 215, 216, 217, 218, 219, 220, 221, 222, 223, 224, 225, 226, 227, 228, 229, 230, 231, 232, 233, 234, 235, 236, 237, 238, 239, 240, 241, 242, 243, 244, 245, 246, 247, 248, 249, 250, 251] (fun (t2, t2_a0, t2_c0) => [(12, .slice t2_a0 t2.1.length t2_c0), (17, .int .i64 t2.2.1), (18, .int .i64 t2.2.2)]) (fun (t2, t2_a0, t2_c0) => [OwnL eU t2_a0 5 1 t2_c0 t2.1, OwnL eB (some ⟨b96, 0, none⟩) 4 1 (Int.toNat (fromZ.length : Int)) (List.replicate (Int.toNat (fromZ.length : Int)) (false : Bool)), OwnL eN (some ⟨b90, 0, none⟩) 3 1 (Int.toNat (fromZ.length : Int)) (List.replicate (Int.toNat (fromZ.length : Int)) (0 : Int)), OwnL eB (some ⟨b93, 0, none⟩) 4 1 (Int.toNat (fromZ.length : Int)) (List.replicate (Int.toNat (fromZ.length : Int)) (false : Bool)), OwnE eU 22 5 1 (some ⟨b87, 0, none⟩) (Int.toNat (fromZ.length : Int)) (List.replicate (Int.toNat (fromZ.length : Int)) [.slice none 0 0]) (List.replicate (Int.toNat (fromZ.length : Int)) ([] : Str)), F]) (fun zz K1 => match zz with | (t2, t2_a0, t2_c0) => (0 < t2.1.length → Has t2_a0) ∧ s2 = Fl.go t2) ?_ ?_
 refine block_go rfl ?_
 conv => whnf
 refine loop_rule (σ := Nat × Str × Int × Int × Option Addr × Nat) [6, 12, 17, 18, 19, 20, 21, 22, 23, 97, 98, 99, 100, 101, 102, 103, 104, 105, 106, 107, 108, 109, 110, 111, 112, 113, 114, 115, 116, 117, 118, 119, 120, 121, 122, 123, 124, 125, 126, 127, 128, 129, 130, 131, 132, 133, 134, 135, 136, 137, 138, 139, 140, 141, 142, 143, 144, 145, 146, 147, 148, 149, 150, 151, 152, 153, 154, 155, 156, 157, 158, 159, 160, 161, 162, 163, 164, 165, 166, 167, 168, 169, 170, 171, 172, 173, 174, 175, 176, 177, 178, 179, 180, 181, 182, 183, 184, 185, 186, 187, 188, 189, 190, 191, 192, 193, 194, 195, 196, 197, 198, 199, 200, 201, 202, 203, 204, 205, 206, 207, 208, 209, 210, 211, 212, 213, 214, 215, 216, 217, 218, 219, 220, 221, 222, 223, 224, 225, 226, 227, 228, 229, 230, 231, 232, 233, 234, 235, 236, 237, 238, 239, 240, 241, 242, 243, 244, 245, 246, 247, 248, 249, 250, 251] (fun (i2, y2_0, y2_1, y2_2, y2_a0, y2_c0) => [(12, .slice y2_a0 y2_0.length y2_c0), (17, .int .i64 y2_1), (18, .int .i64 y2_2)]) (fun (i2, y2_0, y2_1, y2_2, y2_a0, y2_c0) => [OwnL eU y2_a0 5 1 y2_c0 y2_0, OwnL eB (some ⟨b96, 0, none⟩) 4 1 (Int.toNat (fromZ.length : Int)) (List.replicate (Int.toNat (fromZ.length : Int)) (false : Bool)), OwnL eN (some ⟨b90, 0, none⟩) 3 1 (Int.toNat (fromZ.length : Int)) (List.replicate (Int.toNat (fromZ.length : Int)) (0 : Int)), OwnL eB (some ⟨b93, 0, none⟩) 4 1 (Int.toNat (fromZ.length : Int)) (List.replicate (Int.toNat (fromZ.length : Int)) (false : Bool)), OwnE eU 22 5 1 (some ⟨b87, 0, none⟩) (Int.toNat (fromZ.length : Int)) (List.replicate (Int.toNat (fromZ.length : Int)) [.slice none 0 0]) (List.replicate (Int.toNat (fromZ.length : Int)) ([] : Str)), F]) (fun zz K1 => match zz with | (i2, y2_0, y2_1, y2_2, y2_a0, y2_c0) => (0 < y2_0.length → Has y2_a0) ∧ law28_FanoutWhole_L2 parts i2 y2_0 y2_1 y2_2 = some s2) (fun zz => zz.1) (n, [], 0, 0, none, 0) rfl ⟨rfl, rfl, rfl, trivial⟩ (ConvH.of (.cons r0 (.cons r0 (.cons r0 (.cons r0 (.cons r0 (.cons r0 .nil))))))) ⟨(fun h => by simp at h), hl2⟩ ?_
 clear hl2
 rintro ⟨i2, y2_0, y2_1, y2_2, y2_a0, y2_c0⟩ Kb2 lk2 ⟨y2_h0, hl2⟩ j2
 cases i2 with
 | zero => rw [law28_FanoutWhole_L2.eq_1] at hl2; cases hl2
 | succ i2 =>
  rw [law28_FanoutWhole_L2.eq_2] at hl2
  conv => whnf
  refine RStep.of (len_slice rfl ?_)
  conv => whnf
  refine cs rfl rfl hl2 (fun w100 hl2 => ?_) fun w100 hl2 => ?_
  conv => whnf
  refine block_go rfl ?_
  conv => whnf
  refine RStep.of (len_slice rfl ?_)
  conv => whnf
  refine cs rfl rfl hl2 (fun w106 hl2 => ?_) fun w106 hl2 => ?_
  obtain ⟨x110, l110, k110, hl2⟩ := ixb hl2
  conv => whnf
  refine RStep.ofN (index_addr rfl rfl (hasR (LiC.mono sliL_ok (((lt0.trans lt901).trans l80).trans lk2) hp0_0).rd k110) l110 (lt_ofE rfl l110 k110) ?_)
  obtain ⟨ss111, cc111, hr111, hc111, hR111⟩ := LiR.get (LiC.mono sliL_ok (((lt0.trans lt901).trans l80).trans lk2) hp0_0).rd k110
  obtain ⟨a111_0, c111_0, rfl, h111_0⟩ := hR111
  conv => whnf
  refine RStep.of (load_rd ((y2_2).toNat) 0 _ _ hr111 rfl hc111 rfl rfl ?_)
  cases hl2
  cases hl2
  conv => whnf
  refine cond_T ?_
  conv => whnf
  refine MeetStep.mk ((y2_0, y2_1, y2_2), y2_a0, y2_c0) ⟨rfl, rfl, rfl, trivial⟩ (by repeat (first | exact trivial | refine And.intro rfl ?_)) (ConvH.of (.cons r0 (.cons r0 (.cons r0 (.cons r0 (.cons r0 (.cons r0 .nil))))))) lk2 ⟨y2_h0, (si hl2).symm⟩
 rintro ⟨t2, t2_a0, t2_c0⟩ Kt2 lt2 ⟨t2_h0, rfl⟩ j2
 replace hm := elg hm
 conv => whnf
 refine RStep.of (len_slice rfl ?_)
 obtain ⟨hk6, hm⟩ := chkb hm
 obtain ⟨s6, hl6, hm⟩ := bnd hm
 conv => whnf
 refine code_cut (σ := (Unit)) [6, 24, 25, 26, 27, 254, 255, 256, 257, 258, 259, 260, 261, 262, 263, 264, 265, 266, 267, 268, 269, 270, 271, 272, 273, 274, 275, 276, 277, 278, 279, 280, 281, 282, 283, 284, 285, 286, 287, 288, 289, 290, 291, 292, 293, 294, 295, 296, 297, 298, 299] (fun t6 => []) (fun t6 => [OwnL eU t2_a0 5 1 t2_c0 t2.1, OwnL eB (some ⟨b96, 0, none⟩) 4 1 (Int.toNat (fromZ.length : Int)) (List.replicate (Int.toNat (fromZ.length : Int)) (false : Bool)), OwnL eN (some ⟨b90, 0, none⟩) 3 1 (Int.toNat (fromZ.length : Int)) (List.replicate (Int.toNat (fromZ.length : Int)) (0 : Int)), OwnL eB (some ⟨b93, 0, none⟩) 4 1 (Int.toNat (fromZ.length : Int)) (List.replicate (Int.toNat (fromZ.length : Int)) (false : Bool)), OwnE eU 22 5 1 (some ⟨b87, 0, none⟩) (Int.toNat (fromZ.length : Int)) (List.replicate (Int.toNat (fromZ.length : Int)) [.slice none 0 0]) (List.replicate (Int.toNat (fromZ.length : Int)) ([] : Str)), F]) (fun zz K1 => match zz with | t6 => s6 = Fl.go t6) ?_ ?_
 refine block_go rfl ?_
 conv => whnf
 refine loop_rule (σ := Nat) [6, 24, 25, 26, 27, 254, 255, 256, 257, 258, 259, 260, 261, 262, 263, 264, 265, 266, 267, 268, 269, 270, 271, 272, 273, 274, 275, 276, 277, 278, 279, 280, 281, 282, 283, 284, 285, 286, 287, 288, 289, 290, 291, 292, 293, 294, 295, 296, 297, 298, 299] (fun i6 => [(254, .int .i64 (i6 : Int))]) (fun i6 => [OwnL eU t2_a0 5 1 t2_c0 t2.1, OwnL eB (some ⟨b96, 0, none⟩) 4 1 (Int.toNat (fromZ.length : Int)) (List.replicate (Int.toNat (fromZ.length : Int)) (false : Bool)), OwnL eN (some ⟨b90, 0, none⟩) 3 1 (Int.toNat (fromZ.length : Int)) (List.replicate (Int.toNat (fromZ.length : Int)) (0 : Int)), OwnL eB (some ⟨b93, 0, none⟩) 4 1 (Int.toNat (fromZ.length : Int)) (List.replicate (Int.toNat (fromZ.length : Int)) (false : Bool)), OwnE eU 22 5 1 (some ⟨b87, 0, none⟩) (Int.toNat (fromZ.length : Int)) (List.replicate (Int.toNat (fromZ.length : Int)) [.slice none 0 0]) (List.replicate (Int.toNat (fromZ.length : Int)) ([] : Str)), F]) (fun zz K1 => match zz with | i6 => law28_FanoutWhole_L6 fromZ (fromZ.drop i6) i6 = some s6) (fun zz => fromZ.length - zz) (0) rfl ⟨rfl, trivial⟩ (ConvH.of (.cons r0 (.cons r0 (.cons r0 (.cons r0 (.cons r0 (.cons r0 .nil))))))) hl6 ?_
 clear hl6
 rintro i6 Kb6 lk6 hl6 j6
 conv at hl6 => whnf
 conv => whnf
 refine cond_go rfl ?_
 conv => whnf
 refine cond_s (fun w6 => ?_) (fun w6 => ?_)
 obtain ⟨e6, hx6, hd6⟩ := ltx w6
 rw [hd6, law28_FanoutWhole_L6.eq_2] at hl6
 conv => whnf
 refine block_go rfl ?_
 conv => whnf
 refine guard_go rfl ?_
 obtain ⟨x259, l259, k259, hl6⟩ := ixb hl6
 conv => whnf
 refine RStep.ofN (index_addr rfl rfl (hasO (fun _ => ⟨_, _, rfl⟩) k259) l259 (lt_ofE List.length_replicate.symm l259 k259) ?_)
 conv => whnf
 refine RStep.of (ld_own (i := ((i6 : Int)).toNat) (o := 0) r1 rfl k259 rfl rfl ?_)
 obtain ⟨x267, e267, hl6⟩ := bnd hl6
 conv => whnf
 refine cond_s (fun g261_50 => ?_) (fun g261_50 => ?_)
 replace e267 := ift g261_50 e267
 conv => whnf
 refine cond_t g261_50 ?_
 conv => whnf
 refine cond_t g261_50 ?_
 obtain ⟨x264, l264, k264, e267⟩ := ixb e267
 conv => whnf
 refine RStep.ofN (index_addr rfl rfl (hasO (fun _ => ⟨_, _, rfl⟩) k264) l264 (lt_ofE List.length_replicate.symm l264 k264) ?_)
 conv => whnf
 refine cond_t g261_50 ?_
 conv => whnf
 refine RStep.of (ld_own (i := ((i6 : Int)).toNat) (o := 0) r3 rfl k264 rfl rfl ?_)
 conv => whnf
 refine cond_t g261_50 ?_
 conv => whnf
 refine un_not ?_
 conv => whnf
 refine cond_t g261_50 ?_
 conv => whnf
 refine CStep.ownLe r0 fun hc7 => ?_
 conv => whnf
 refine CStep.ownLe r1 fun hc8 => ?_
 conv => whnf
 refine CStep.ownLe r2 fun hc9 => ?_
 conv => whnf
 refine CStep.ownLe r3 fun hc10 => ?_
 conv => whnf
 refine cond_go rfl ?_
 conv => whnf
 refine cond_s (fun w267 => ?_) (fun w267 => ?_)
 replace hl6 := ift ((si e267).symm.trans (not_t (ni_t w267))) hl6
 conv => whnf
 refine int_wrap ?_
 cases hl6
 replace hl6 := iff_ ((si e267).symm.trans (not_f (ni_f w267))) hl6
 conv => whnf
 refine int_in (cntz hx6 hk6) ?_
 conv => whnf
 refine RoundStep.mk (i6 + 1) ⟨rfl, trivial⟩ (by repeat (first | exact trivial | refine And.intro rfl ?_)) (ConvH.of (.cons r0 (.cons r0 (.cons r0 (.cons r0 (.cons r0 (.cons r0 .nil))))))) lk6 (ltm hx6) hl6
 replace e267 := iff_ g261_50 e267
 conv => whnf
 refine cond_f g261_50 ?_
 conv => whnf
 refine cond_f g261_50 ?_
 conv => whnf
 refine cond_f g261_50 ?_
 conv => whnf
 refine cond_f g261_50 ?_
 conv => whnf
 refine cond_f g261_50 ?_
 conv => whnf
 refine CStep.ownLe r0 fun hc12 => ?_
 conv => whnf
 refine CStep.ownLe r1 fun hc13 => ?_
 conv => whnf
 refine CStep.ownLe r2 fun hc14 => ?_
 conv => whnf
 refine CStep.ownLe r3 fun hc15 => ?_
 conv => whnf
 refine cond_go rfl ?_
 conv => whnf
 refine cond_F ?_
 replace hl6 := iff_ (si e267).symm hl6
 conv => whnf
 refine int_in (cntz hx6 hk6) ?_
 conv => whnf
 refine RoundStep.mk (i6 + 1) ⟨rfl, trivial⟩ (by repeat (first | exact trivial | refine And.intro rfl ?_)) (ConvH.of (.cons r0 (.cons r0 (.cons r0 (.cons r0 (.cons r0 (.cons r0 .nil))))))) lk6 (ltm hx6) hl6
 rw [lty w6, law28_FanoutWhole_L6.eq_1] at hl6
 conv => whnf
 refine cond_T ?_
 conv => whnf
 refine MeetStep.mk (()) trivial (by repeat (first | exact trivial | refine And.intro rfl ?_)) (ConvH.of (.cons r0 (.cons r0 (.cons r0 (.cons r0 (.cons r0 (.cons r0 .nil))))))) lk6 (si hl6).symm
 rintro t6 Kt6 lt6 rfl j6
 replace hm := elg hm
 obtain rfl := si hm
 conv => whnf
 refine EndStep.mk _ ((((lt0.trans lt901).trans l80).trans lt2).trans lt6) ⟨rfl, rfl⟩ (ConvH.of (.cons r5 .nil))
 rw [hq80] at p80 hm
 obtain ⟨b80_0, a80_1, c80_1, m80_2, rfl, h80_1, rfl⟩ := p80
 replace hm := oe_s hm
 conv => whnf
 refine neq_err rfl ?_
 conv => whnf
 refine cs rfl rfl hm (fun w84 hm => ?_) fun w84 hm => ?_
 obtain rfl := si hm
 conv => whnf
 refine EndStep.mk _ ((lt0.trans lt901).trans l80) ⟨rfl, rfl⟩ (ConvH.of (.cons r3 .nil))
 conv => whnf
 refine RStep.of (len_slice rfl ?_)
 obtain ⟨h87, hm⟩ := chkb hm
 conv => whnf
 refine mk_sliceE (enc := eU) (e := 5) (sz := 1) elT35 rfl rfl h87 fun b87 => ?_
 conv => whnf
 refine draw_go_F ⟨⟨[], false⟩, _, [], []⟩ 8 rfl (by kernel_rfl) ⟨Hp.Le.refl _, (ConvH.of .nil), ci0⟩ ?_
 conv => whnf
 refine len_sliceN rfl ?_
 obtain ⟨h90, hm⟩ := chkb hm
 conv => whnf
 refine mk_sliceA elT36 rfl h90 fun b90 => ?_
 conv => whnf
 refine len_sliceN rfl ?_
 obtain ⟨h93, hm⟩ := chkb hm
 conv => whnf
 refine mk_sliceA elT37 rfl h93 fun b93 => ?_
 conv => whnf
 refine RStep.of (len_slice rfl ?_)
 conv => whnf
 refine madeW (enc := eB) (false : Bool) elT37 rfl rfl rfl (lim_n h93) r0 ?_
 refine madeW (enc := eN) (0 : Int) elT36 rfl rfl rfl (lim_n h90) r1 ?_
 obtain ⟨h96, hm⟩ := chkb hm
 conv => whnf
 refine mk_slice (enc := eB) (false : Bool) elT37 rfl rfl rfl h96 fun b96 => ?_
 obtain ⟨s2, hl2, hm⟩ := bnd hm
 conv => whnf
 refine nilC eU 5 1 ?_
 refine code_cut (σ := (Str × Int × Int × (List Bool) × (List Int) × (List Bool) × (List Str) × S_fanout_Stream) × Option Addr × Nat × List (List Value) × Option Addr × Nat × Nat) [6, 12, 17, 18, 19, 20, 21, 22, 23, 97, 98, 99, 100, 101, 102, 103, 104, 105, 106, 107, 108, 109, 110, 111, 112, 113, 114, 115, 116, 117, 118, 119, 120, 121, 122, 123, 124, 125, 126, 127, 128, 129, 130, 131, 132, 133, 134, 135, 136, 137, 138, 139, 140, 141, 142, 143, 144, 145, 146, 147, 148, 149, 150, 151, 152, 153, 154, 155, 156, 157, 158, 159, 160, 161, 162, 163, 164, 165, 166, 167, 168, 169, 170, 171, 172, 173, 174, 175, 176, 177, 178, 179, 180, 181, 182, 183, 184, 185, 186, 187, 188, 189, 190, 191, 192, 193, 194, 195, 196, 197, 198, 199, 200, 201, 202, 203, 204, 205, 206, 207, 208, 209, 210, 211, 212, 213, 214, 215, 216, 217, 218, 219, 220, 221, 222, 223, 224, 225, 226, 227, 228, 229, 230, 231, 232, 233, 234, 235, 236, 237, 238, 239, 240, 241, 242, 243, 244, 245, 246, 247, 248, 249, 250, 251] (fun (t2, t2_a0, t2_c0, t2_s6, at2_7_0, ct2_7_0, mt2_7_1) => [(12, .slice t2_a0 t2.1.length t2_c0), (17, .int .i64 t2.2.1), (18, .int .i64 t2.2.2.1)]) (fun (t2, t2_a0, t2_c0, t2_s6, at2_7_0, ct2_7_0, mt2_7_1) => [OwnL eU t2_a0 5 1 t2_c0 t2.1, Cells b80_0 77 [.int .i64 t2.2.2.2.2.2.2.2.limit, .int .i64 t2.2.2.2.2.2.2.2.state, .slice at2_7_0 t2.2.2.2.2.2.2.2.data.length ct2_7_0, .map (some mt2_7_1)], OwnL eU at2_7_0 5 1 ct2_7_0 t2.2.2.2.2.2.2.2.data, MapE intK (fun x => .int .i64 x) mt2_7_1 t2.2.2.2.2.2.2.2.offsets, OwnL eB (some ⟨b96, 0, none⟩) 4 1 (Int.toNat (fromZ.length : Int)) t2.2.2.2.1, OwnL eN (some ⟨b90, 0, none⟩) 3 1 (Int.toNat (fromZ.length : Int)) t2.2.2.2.2.1, OwnL eB (some ⟨b93, 0, none⟩) 4 1 (Int.toNat (fromZ.length : Int)) t2.2.2.2.2.2.1, OwnE eU 22 5 1 (some ⟨b87, 0, none⟩) (Int.toNat (fromZ.length : Int)) t2_s6 t2.2.2.2.2.2.2.1, F]) (fun zz K1 => match zz with | (t2, t2_a0, t2_c0, t2_s6, at2_7_0, ct2_7_0, mt2_7_1) => (0 < t2.1.length → Has t2_a0) ∧ (0 < t2.2.2.2.1.length → Has (some ⟨b96, 0, none⟩)) ∧ (Int.toNat (fromZ.length : Int)) = t2.2.2.2.1.length ∧ (0 < t2.2.2.2.2.1.length → Has (some ⟨b90, 0, none⟩)) ∧ (Int.toNat (fromZ.length : Int)) = t2.2.2.2.2.1.length ∧ (0 < t2.2.2.2.2.2.1.length → Has (some ⟨b93, 0, none⟩)) ∧ (Int.toNat (fromZ.length : Int)) = t2.2.2.2.2.2.1.length ∧ LR hdR K1 t2_s6 t2.2.2.2.2.2.2.1 ∧ (0 < t2.2.2.2.2.2.2.1.length → Has (some ⟨b87, 0, none⟩)) ∧ (Int.toNat (fromZ.length : Int)) = t2.2.2.2.2.2.2.1.length ∧ (0 < t2.2.2.2.2.2.2.2.data.length → Has at2_7_0) ∧ s2 = Fl.go t2) ?_ ?_
 refine block_go rfl ?_
 conv => whnf
 refine loop_rule (σ := Nat × Str × Int × Int × (List Bool) × (List Int) × (List Bool) × (List Str) × S_fanout_Stream × Option Addr × Nat × List (List Value) × Option Addr × Nat × Nat) [6, 12, 17, 18, 19, 20, 21, 22, 23, 97, 98, 99, 100, 101, 102, 103, 104, 105, 106, 107, 108, 109, 110, 111, 112, 113, 114, 115, 116, 117, 118, 119, 120, 121, 122, 123, 124, 125, 126, 127, 128, 129, 130, 131, 132, 133, 134, 135, 136, 137, 138, 139, 140, 141, 142, 143, 144, 145, 146, 147, 148, 149, 150, 151, 152, 153, 154, 155, 156, 157, 158, 159, 160, 161, 162, 163, 164, 165, 166, 167, 168, 169, 170, 171, 172, 173, 174, 175, 176, 177, 178, 179, 180, 181, 182, 183, 184, 185, 186, 187, 188, 189, 190, 191, 192, 193, 194, 195, 196, 197, 198, 199, 200, 201, 202, 203, 204, 205, 206, 207, 208, 209, 210, 211, 212, 213, 214, 215, 216, 217, 218, 219, 220, 221, 222, 223, 224, 225, 226, 227, 228, 229, 230, 231, 232, 233, 234, 235, 236, 237, 238, 239, 240, 241, 242, 243, 244, 245, 246, 247, 248, 249, 250, 251] (fun (i2, y2_0, y2_1, y2_2, y2_3, y2_4, y2_5, y2_6, y2_7, y2_a0, y2_c0, y2_s6, ay2_7_0, cy2_7_0, my2_7_1) => [(12, .slice y2_a0 y2_0.length y2_c0), (17, .int .i64 y2_1), (18, .int .i64 y2_2)]) (fun (i2, y2_0, y2_1, y2_2, y2_3, y2_4, y2_5, y2_6, y2_7, y2_a0, y2_c0, y2_s6, ay2_7_0, cy2_7_0, my2_7_1) => [OwnL eU y2_a0 5 1 y2_c0 y2_0, Cells b80_0 77 [.int .i64 y2_7.limit, .int .i64 y2_7.state, .slice ay2_7_0 y2_7.data.length cy2_7_0, .map (some my2_7_1)], OwnL eU ay2_7_0 5 1 cy2_7_0 y2_7.data, MapE intK (fun x => .int .i64 x) my2_7_1 y2_7.offsets, OwnL eB (some ⟨b96, 0, none⟩) 4 1 (Int.toNat (fromZ.length : Int)) y2_3, OwnL eN (some ⟨b90, 0, none⟩) 3 1 (Int.toNat (fromZ.length : Int)) y2_4, OwnL eB (some ⟨b93, 0, none⟩) 4 1 (Int.toNat (fromZ.length : Int)) y2_5, OwnE eU 22 5 1 (some ⟨b87, 0, none⟩) (Int.toNat (fromZ.length : Int)) y2_s6 y2_6, F]) (fun zz K1 => match zz with | (i2, y2_0, y2_1, y2_2, y2_3, y2_4, y2_5, y2_6, y2_7, y2_a0, y2_c0, y2_s6, ay2_7_0, cy2_7_0, my2_7_1) => (0 < y2_0.length → Has y2_a0) ∧ (0 < y2_3.length → Has (some ⟨b96, 0, none⟩)) ∧ (Int.toNat (fromZ.length : Int)) = y2_3.length ∧ (0 < y2_4.length → Has (some ⟨b90, 0, none⟩)) ∧ (Int.toNat (fromZ.length : Int)) = y2_4.length ∧ (0 < y2_5.length → Has (some ⟨b93, 0, none⟩)) ∧ (Int.toNat (fromZ.length : Int)) = y2_5.length ∧ LR hdR K1 y2_s6 y2_6 ∧ (0 < y2_6.length → Has (some ⟨b87, 0, none⟩)) ∧ (Int.toNat (fromZ.length : Int)) = y2_6.length ∧ (0 < y2_7.data.length → Has ay2_7_0) ∧ law28_FanoutWhole_L2b parts fromZ paces i2 y2_0 y2_1 y2_2 y2_3 y2_4 y2_5 y2_6 y2_7 = some s2) (fun zz => zz.1) (n, [], 0, 0, (List.replicate (Int.toNat (fromZ.length : Int)) (false : Bool)), (List.replicate (Int.toNat (fromZ.length : Int)) (0 : Int)), (List.replicate (Int.toNat (fromZ.length : Int)) (false : Bool)), (List.replicate (Int.toNat (fromZ.length : Int)) ([] : Str)), o80, none, 0, (List.replicate (Int.toNat (fromZ.length : Int)) [.slice none 0 0]), a80_1, c80_1, m80_2) rfl ⟨rfl, rfl, rfl, trivial⟩ (ConvH.of (.cons r0 (.cons r4 (.cons r4 (.cons r4 (.cons r0 (.cons r0 (.cons r0 (.cons r0 (.cons r0 .nil)))))))))) ⟨(fun h => by simp at h), (fun _ => ⟨_, _, rfl⟩), List.length_replicate.symm, (fun _ => ⟨_, _, rfl⟩), List.length_replicate.symm, (fun _ => ⟨_, _, rfl⟩), List.length_replicate.symm, (show LR hdR _ (List.replicate (Int.toNat (fromZ.length : Int)) [.slice none 0 0]) (List.replicate (Int.toNat (fromZ.length : Int)) ([] : Str)) from LR.repl _ ⟨none, 0, rfl⟩), (fun _ => ⟨_, _, rfl⟩), List.length_replicate.symm, h80_1, hl2⟩ ?_
 clear hl2
 rintro ⟨i2, y2_0, y2_1, y2_2, y2_3, y2_4, y2_5, y2_6, y2_7, y2_a0, y2_c0, y2_s6, ay2_7_0, cy2_7_0, my2_7_1⟩ Kb2 lk2 ⟨y2_h0, y2_h3, y2_n3, y2_h4, y2_n4, y2_h5, y2_n5, y2_r6, y2_h6, y2_n6, hy2_7_0, hl2⟩ j2
 cases i2 with
 | zero => rw [law28_FanoutWhole_L2b.eq_1] at hl2; cases hl2
 | succ i2 =>
  rw [law28_FanoutWhole_L2b.eq_2] at hl2
  conv => whnf
  refine RStep.of (len_slice rfl ?_)
  conv => whnf
  refine cs rfl rfl hl2 (fun w100 hl2 => ?_) fun w100 hl2 => ?_
  conv => whnf
  refine block_go rfl ?_
  conv => whnf
  refine RStep.of (len_slice rfl ?_)
  obtain ⟨s918, hl918, hl2⟩ := bnd hl2
  conv => whnf
  refine code_cut (σ := (Str × S_fanout_Stream) × Option Addr × Nat × Option Addr × Nat × Nat) [6, 12, 107, 108, 109, 110, 111, 112, 113, 114, 115, 116, 117, 118, 119, 120, 121, 122] (fun (t918, t918_a0, t918_c0, at918_1_0, ct918_1_0, mt918_1_1) => [(12, .slice t918_a0 t918.1.length t918_c0)]) (fun (t918, t918_a0, t918_c0, at918_1_0, ct918_1_0, mt918_1_1) => [OwnL eU t918_a0 5 1 t918_c0 t918.1, Cells b80_0 77 [.int .i64 t918.2.limit, .int .i64 t918.2.state, .slice at918_1_0 t918.2.data.length ct918_1_0, .map (some mt918_1_1)], OwnL eU at918_1_0 5 1 ct918_1_0 t918.2.data, MapE intK (fun x => .int .i64 x) mt918_1_1 t918.2.offsets, OwnL eB (some ⟨b96, 0, none⟩) 4 1 (Int.toNat (fromZ.length : Int)) y2_3, OwnL eN (some ⟨b90, 0, none⟩) 3 1 (Int.toNat (fromZ.length : Int)) y2_4, OwnL eB (some ⟨b93, 0, none⟩) 4 1 (Int.toNat (fromZ.length : Int)) y2_5, OwnE eU 22 5 1 (some ⟨b87, 0, none⟩) (Int.toNat (fromZ.length : Int)) y2_s6 y2_6, F]) (fun zz K1 => match zz with | (t918, t918_a0, t918_c0, at918_1_0, ct918_1_0, mt918_1_1) => (0 < t918.1.length → Has t918_a0) ∧ (0 < t918.2.data.length → Has at918_1_0) ∧ s918 = Fl.go t918) ?_ ?_
  refine cs rfl rfl hl918 (fun w106 hl918 => ?_) fun w106 hl918 => ?_
  obtain ⟨x110, l110, k110, hl918⟩ := ixb hl918
  conv => whnf
  refine RStep.ofN (index_addr rfl rfl (hasR (LiC.mono sliL_ok (((lt0.trans lt901).trans l80).trans lk2) hp0_0).rd k110) l110 (lt_ofE rfl l110 k110) ?_)
  obtain ⟨ss111, cc111, hr111, hc111, hR111⟩ := LiR.get (LiC.mono sliL_ok (((lt0.trans lt901).trans l80).trans lk2) hp0_0).rd k110
  obtain ⟨a111_0, c111_0, rfl, h111_0⟩ := hR111
  conv => whnf
  refine RStep.of (load_rd ((y2_2).toNat) 0 _ _ hr111 rfl hc111 rfl rfl ?_)
  obtain ⟨x112, q112, hl918⟩ := bnd hl918
  conv => whnf
  refine call_fn (fanout_Stream_Write_ok (s := y2_7) q112 hy2_7_0 h111_0 rfl) (.cons r1 (.cons r1 (.cons r1 .nil))) ?_
  rintro _ K112 _ l112 ⟨a112_0, c112_0, m112_1, rfl, h112_0, rfl⟩
  conv => whnf
  refine neq_err rfl ?_
  conv => whnf
  refine cs rfl rfl hl918 (fun w113 hl918 => ?_) fun w113 hl918 => ?_
  obtain rfl := si hl918
  replace hl2 := elr hl2
  obtain rfl := si hl2
  replace hm := elr hm
  obtain rfl := si hm
  conv => whnf
  refine EndStep.mk _ ((((lt0.trans lt901).trans l80).trans lk2).trans l112) ⟨rfl, rfl⟩ (ConvH.of (.cons r8 .nil))
  obtain ⟨x117, l117, k117, hl918⟩ := ixb hl918
  conv => whnf
  refine RStep.ofN (index_addr rfl rfl (hasR (LiC.mono sliL_ok ((((lt0.trans lt901).trans l80).trans lk2).trans l112) hp0_0).rd k117) l117 (lt_ofE rfl l117 k117) ?_)
  obtain ⟨ss118, cc118, hr118, hc118, hR118⟩ := LiR.get (LiC.mono sliL_ok ((((lt0.trans lt901).trans l80).trans lk2).trans l112) hp0_0).rd k117
  obtain ⟨a118_0, c118_0, rfl, h118_0⟩ := hR118
  conv => whnf
  refine RStep.of (load_rd ((y2_2).toNat) 0 _ _ hr118 rfl hc118 rfl rfl ?_)
  obtain ⟨h119, hl918⟩ := chkb hl918
  conv => whnf
  refine apE rfl r3 elT22 (src_k rfl h118_0.rd rfl) h119 ?_
  intro a119 c119 o119
  conv => whnf
  refine MeetStep.mk (((y2_0 ++ x117), x112.2), a119, c119, a112_0, c112_0, m112_1) ⟨rfl, trivial⟩ (by repeat (first | exact trivial | refine And.intro rfl ?_)) (ConvH.of (.cons r0 (.cons r0 (.cons r0 (.cons r0 (.cons r0 (.cons r0 (.cons r0 (.cons r0 (.cons r0 .nil)))))))))) l112 ⟨o119, h112_0, (si hl918).symm⟩
  obtain ⟨x121, q121, hl918⟩ := bnd hl918
  conv => whnf
  refine call_fn (fanout_Stream_End_ok (s := y2_7) q121 hy2_7_0) (.cons r1 (.cons r1 (.cons r1 .nil))) ?_
  rintro _ K121 _ l121 ⟨a121_0, c121_0, m121_1, rfl, h121_0, rfl⟩
  conv => whnf
  refine neq_err rfl ?_
  conv => whnf
  refine cs rfl rfl hl918 (fun w122 hl918 => ?_) fun w122 hl918 => ?_
  obtain rfl := si hl918
  replace hl2 := elr hl2
  obtain rfl := si hl2
  replace hm := elr hm
  obtain rfl := si hm
  conv => whnf
  refine EndStep.mk _ ((((lt0.trans lt901).trans l80).trans lk2).trans l121) ⟨rfl, rfl⟩ (ConvH.of (.cons r8 .nil))
  conv => whnf
  refine MeetStep.mk ((y2_0, x121.2), y2_a0, y2_c0, a121_0, c121_0, m121_1) ⟨rfl, trivial⟩ (by repeat (first | exact trivial | refine And.intro rfl ?_)) (ConvH.of (.cons r3 (.cons r0 (.cons r0 (.cons r0 (.cons r0 (.cons r0 (.cons r0 (.cons r0 (.cons r0 .nil)))))))))) l121 ⟨y2_h0, h121_0, (si hl918).symm⟩
  rintro ⟨t918, t918_a0, t918_c0, at918_1_0, ct918_1_0, mt918_1_1⟩ Kt918 lt918 ⟨t918_h0, ht918_1_0, rfl⟩ j918
  replace hl2 := elg hl2
  conv => whnf
  refine RStep.of (len_slice rfl ?_)
  obtain ⟨hk4, hl2⟩ := chkb hl2
  obtain ⟨s4, hl4, hl2⟩ := bnd hl2
  conv => whnf
  refine code_cut (σ := (Int × (List Bool) × (List Int) × (List Bool) × (List Str) × S_fanout_Stream) × List (List Value) × Option Addr × Nat × Nat) [6, 17, 19, 20, 21, 22, 23, 125, 126, 127, 128, 129, 130, 131, 132, 133, 134, 135, 136, 137, 138, 139, 140, 141, 142, 143, 144, 145, 146, 147, 148, 149, 150, 151, 152, 153, 154, 155, 156, 157, 158, 159, 160, 161, 162, 163, 164, 165, 166, 167, 168, 169, 170, 171, 172, 173, 174, 175, 176, 177, 178, 179, 180, 181, 182, 183, 184, 185, 186, 187, 188, 189, 190, 191, 192, 193, 194, 195, 196, 197, 198, 199, 200, 201, 202, 203, 204, 205, 206, 207, 208, 209, 210, 211, 212, 213, 214, 215, 216, 217, 218, 219, 220, 221, 222, 223, 224, 225, 226, 227, 228, 229, 230, 231, 232, 233, 234, 235, 236, 237, 238, 239, 240, 241, 242, 243, 244, 245, 246, 247, 248, 249, 250, 251] (fun (t4, t4_s4, at4_5_0, ct4_5_0, mt4_5_1) => [(17, .int .i64 t4.1)]) (fun (t4, t4_s4, at4_5_0, ct4_5_0, mt4_5_1) => [Cells b80_0 77 [.int .i64 t4.2.2.2.2.2.limit, .int .i64 t4.2.2.2.2.2.state, .slice at4_5_0 t4.2.2.2.2.2.data.length ct4_5_0, .map (some mt4_5_1)], OwnL eU at4_5_0 5 1 ct4_5_0 t4.2.2.2.2.2.data, MapE intK (fun x => .int .i64 x) mt4_5_1 t4.2.2.2.2.2.offsets, OwnL eU t918_a0 5 1 t918_c0 t918.1, OwnL eB (some ⟨b96, 0, none⟩) 4 1 (Int.toNat (fromZ.length : Int)) t4.2.1, OwnL eN (some ⟨b90, 0, none⟩) 3 1 (Int.toNat (fromZ.length : Int)) t4.2.2.1, OwnL eB (some ⟨b93, 0, none⟩) 4 1 (Int.toNat (fromZ.length : Int)) t4.2.2.2.1, OwnE eU 22 5 1 (some ⟨b87, 0, none⟩) (Int.toNat (fromZ.length : Int)) t4_s4 t4.2.2.2.2.1, F]) (fun zz K1 => match zz with | (t4, t4_s4, at4_5_0, ct4_5_0, mt4_5_1) => (0 < t4.2.1.length → Has (some ⟨b96, 0, none⟩)) ∧ (Int.toNat (fromZ.length : Int)) = t4.2.1.length ∧ (0 < t4.2.2.1.length → Has (some ⟨b90, 0, none⟩)) ∧ (Int.toNat (fromZ.length : Int)) = t4.2.2.1.length ∧ (0 < t4.2.2.2.1.length → Has (some ⟨b93, 0, none⟩)) ∧ (Int.toNat (fromZ.length : Int)) = t4.2.2.2.1.length ∧ LR hdR K1 t4_s4 t4.2.2.2.2.1 ∧ (0 < t4.2.2.2.2.1.length → Has (some ⟨b87, 0, none⟩)) ∧ (Int.toNat (fromZ.length : Int)) = t4.2.2.2.2.1.length ∧ (0 < t4.2.2.2.2.2.data.length → Has at4_5_0) ∧ s4 = Fl.go t4) ?_ ?_
  refine block_go rfl ?_
  conv => whnf
  refine loop_rule (σ := Nat × Int × (List Bool) × (List Int) × (List Bool) × (List Str) × S_fanout_Stream × List (List Value) × Option Addr × Nat × Nat) [6, 17, 19, 20, 21, 22, 23, 125, 126, 127, 128, 129, 130, 131, 132, 133, 134, 135, 136, 137, 138, 139, 140, 141, 142, 143, 144, 145, 146, 147, 148, 149, 150, 151, 152, 153, 154, 155, 156, 157, 158, 159, 160, 161, 162, 163, 164, 165, 166, 167, 168, 169, 170, 171, 172, 173, 174, 175, 176, 177, 178, 179, 180, 181, 182, 183, 184, 185, 186, 187, 188, 189, 190, 191, 192, 193, 194, 195, 196, 197, 198, 199, 200, 201, 202, 203, 204, 205, 206, 207, 208, 209, 210, 211, 212, 213, 214, 215, 216, 217, 218, 219, 220, 221, 222, 223, 224, 225, 226, 227, 228, 229, 230, 231, 232, 233, 234, 235, 236, 237, 238, 239, 240, 241, 242, 243, 244, 245, 246, 247, 248, 249, 250, 251] (fun (i4, y4_0, y4_1, y4_2, y4_3, y4_4, y4_5, y4_s4, ay4_5_0, cy4_5_0, my4_5_1) => [(125, .int .i64 (i4 : Int)), (17, .int .i64 y4_0)]) (fun (i4, y4_0, y4_1, y4_2, y4_3, y4_4, y4_5, y4_s4, ay4_5_0, cy4_5_0, my4_5_1) => [Cells b80_0 77 [.int .i64 y4_5.limit, .int .i64 y4_5.state, .slice ay4_5_0 y4_5.data.length cy4_5_0, .map (some my4_5_1)], OwnL eU ay4_5_0 5 1 cy4_5_0 y4_5.data, MapE intK (fun x => .int .i64 x) my4_5_1 y4_5.offsets, OwnL eU t918_a0 5 1 t918_c0 t918.1, OwnL eB (some ⟨b96, 0, none⟩) 4 1 (Int.toNat (fromZ.length : Int)) y4_1, OwnL eN (some ⟨b90, 0, none⟩) 3 1 (Int.toNat (fromZ.length : Int)) y4_2, OwnL eB (some ⟨b93, 0, none⟩) 4 1 (Int.toNat (fromZ.length : Int)) y4_3, OwnE eU 22 5 1 (some ⟨b87, 0, none⟩) (Int.toNat (fromZ.length : Int)) y4_s4 y4_4, F]) (fun zz K1 => match zz with | (i4, y4_0, y4_1, y4_2, y4_3, y4_4, y4_5, y4_s4, ay4_5_0, cy4_5_0, my4_5_1) => (0 < y4_1.length → Has (some ⟨b96, 0, none⟩)) ∧ (Int.toNat (fromZ.length : Int)) = y4_1.length ∧ (0 < y4_2.length → Has (some ⟨b90, 0, none⟩)) ∧ (Int.toNat (fromZ.length : Int)) = y4_2.length ∧ (0 < y4_3.length → Has (some ⟨b93, 0, none⟩)) ∧ (Int.toNat (fromZ.length : Int)) = y4_3.length ∧ LR hdR K1 y4_s4 y4_4 ∧ (0 < y4_4.length → Has (some ⟨b87, 0, none⟩)) ∧ (Int.toNat (fromZ.length : Int)) = y4_4.length ∧ (0 < y4_5.data.length → Has ay4_5_0) ∧ law28_FanoutWhole_L4 t918 paces y2_2 parts (fromZ.drop i4) i4 y4_0 y4_1 y4_2 y4_3 y4_4 y4_5 = some s4) (fun zz => fromZ.length - zz.1) (0, y2_1, y2_3, y2_4, y2_5, y2_6, t918.2, y2_s6, at918_1_0, ct918_1_0, mt918_1_1) rfl ⟨rfl, rfl, trivial⟩ (ConvH.of (.cons r1 (.cons r1 (.cons r1 (.cons r0 (.cons r0 (.cons r0 (.cons r0 (.cons r0 (.cons r0 .nil)))))))))) ⟨y2_h3, y2_n3, y2_h4, y2_n4, y2_h5, y2_n5, (LR.mono hdR_ok lt918 y2_r6), y2_h6, y2_n6, ht918_1_0, hl4⟩ ?_
  clear hl4
  rintro ⟨i4, y4_0, y4_1, y4_2, y4_3, y4_4, y4_5, y4_s4, ay4_5_0, cy4_5_0, my4_5_1⟩ Kb4 lk4 ⟨y4_h1, y4_n1, y4_h2, y4_n2, y4_h3, y4_n3, y4_r4, y4_h4, y4_n4, hy4_5_0, hl4⟩ j4
  conv => whnf
  refine cond_go rfl ?_
  conv => whnf
  refine cond_s (fun w4 => ?_) (fun w4 => ?_)
  obtain ⟨e4, hx4, hd4⟩ := ltx w4
  rw [hd4, law28_FanoutWhole_L4.eq_2] at hl4
  conv => whnf
  refine block_go rfl ?_
  obtain ⟨x130, l130, k130, hl4⟩ := ixb hl4
  conv => whnf
  refine RStep.ofN (index_addr rfl rfl (hasO y4_h1 k130) l130 (lt_ofE y4_n1 l130 k130) ?_)
  conv => whnf
  refine RStep.of (ld_own (i := ((i4 : Int)).toNat) (o := 0) r4 rfl k130 rfl rfl ?_)
  conv => whnf
  refine un_not ?_
  obtain ⟨s922, hl922, hl4⟩ := bnd hl4
  conv => whnf
  refine code_cut (σ := (S_fanout_Stream × (List Int) × (List Bool)) × Option Addr × Nat × Nat) [6, 133, 134, 135, 136, 137, 138, 139, 140, 141, 142, 143, 144, 145, 146, 147, 148, 149, 150, 151, 152, 153, 154, 155, 156, 157, 158, 159, 160, 161, 162, 163] (fun (t922, at922_0_0, ct922_0_0, mt922_0_1) => []) (fun (t922, at922_0_0, ct922_0_0, mt922_0_1) => [Cells b80_0 77 [.int .i64 t922.1.limit, .int .i64 t922.1.state, .slice at922_0_0 t922.1.data.length ct922_0_0, .map (some mt922_0_1)], OwnL eU at922_0_0 5 1 ct922_0_0 t922.1.data, MapE intK (fun x => .int .i64 x) mt922_0_1 t922.1.offsets, OwnL eU t918_a0 5 1 t918_c0 t918.1, OwnL eB (some ⟨b96, 0, none⟩) 4 1 (Int.toNat (fromZ.length : Int)) t922.2.2, OwnL eN (some ⟨b90, 0, none⟩) 3 1 (Int.toNat (fromZ.length : Int)) t922.2.1, OwnL eB (some ⟨b93, 0, none⟩) 4 1 (Int.toNat (fromZ.length : Int)) y4_3, OwnE eU 22 5 1 (some ⟨b87, 0, none⟩) (Int.toNat (fromZ.length : Int)) y4_s4 y4_4, F]) (fun zz K1 => match zz with | (t922, at922_0_0, ct922_0_0, mt922_0_1) => (0 < t922.1.data.length → Has at922_0_0) ∧ (0 < t922.2.1.length → Has (some ⟨b90, 0, none⟩)) ∧ (Int.toNat (fromZ.length : Int)) = t922.2.1.length ∧ (0 < t922.2.2.length → Has (some ⟨b96, 0, none⟩)) ∧ (Int.toNat (fromZ.length : Int)) = t922.2.2.length ∧ s922 = Fl.go t922) ?_ ?_
  refine cond_go rfl ?_
  conv => whnf
  refine cond_s (fun w132 => ?_) (fun w132 => ?_)
  replace hl922 := ift (not_t (ni_t w132)) hl922
  conv => whnf
  refine RStep.ofN (index_addr rfl rfl (hasK (hp1_0.mono (((((lt0.trans lt901).trans l80).trans lk2).trans lt918).trans lk4)).rd hx4) (nn _) (lt_ofN hx4) ?_)
  conv => whnf
  refine RStep.of (load_rd i4 0 _ _ (hp1_0.mono (((((lt0.trans lt901).trans l80).trans lk2).trans lt918).trans lk4)).rd rfl (mp hx4) rfl rfl ?_)
  conv => whnf
  refine conv_int rfl rfl (u8in e4) ?_
  obtain ⟨x140, l140, k140, hl922⟩ := ixb hl922
  conv => whnf
  refine RStep.ofN (index_addr rfl rfl (hasO y4_h2 k140) l140 (lt_ofE y4_n2 l140 k140) ?_)
  conv => whnf
  refine st_own (o := 0) (y := (e4.toNat : Int)) x140 r5 rfl k140 rfl (by (conv => whnf); exact ⟨rfl, rfl, (Nat.le_of_ble_eq_true rfl), rfl, rfl, rfl⟩) ?_
  obtain ⟨x147, l147, k147, hl922⟩ := ixb hl922
  conv => whnf
  refine RStep.ofN (index_addr rfl rfl (hasO (by first | simpa using y4_h2 | exact fun _ => ⟨_, _, rfl⟩) k147) l147 (lt_ofE ((y4_n2).trans List.length_set.symm) l147 k147) ?_)
  conv => whnf
  refine RStep.of (ld_own (i := ((i4 : Int)).toNat) (o := 0) r0 rfl k147 rfl rfl ?_)
  obtain ⟨x149, q149, hl922⟩ := bnd hl922
  conv => whnf
  refine call_fn (fanout_Stream_Attach_ok (s := y4_5) (id := (i4 : Int)) (fromZ := x147) q149 hy4_5_0) (.cons r1 (.cons r1 (.cons r1 .nil))) ?_
  rintro _ K149 _ l149 ⟨a149_0, c149_0, m149_1, rfl, h149_0, rfl⟩
  conv => whnf
  refine eq_err rfl ?_
  obtain ⟨x151, l151, k151, hl922⟩ := ixb hl922
  conv => whnf
  refine RStep.ofN (index_addr rfl rfl (hasO y4_h1 k151) l151 (lt_ofE y4_n1 l151 k151) ?_)
  conv => whnf
  refine st_own (o := 0) (y := x149.1.isNone) x151 r5 rfl k151 rfl (by (conv => whnf); exact ⟨rfl, rfl, (Nat.le_of_ble_eq_true rfl), rfl, rfl, rfl⟩) ?_
  conv => whnf
  refine draw_go ⟨⟨[], true⟩, _, [], []⟩ (by kernel_rfl) ⟨Hp.Le.refl _, (ConvH.of .nil), ci0⟩ ?_
  obtain ⟨x154, l154, k154, hl922⟩ := ixb hl922
  conv => whnf
  refine index_addr rfl rfl (hasO (by first | simpa using y4_h1 | exact fun _ => ⟨_, _, rfl⟩) k154) l154 (lt_ofE ((y4_n1).trans List.length_set.symm) l154 k154) ?_
  conv => whnf
  refine ld_own (i := ((i4 : Int)).toNat) (o := 0) r0 rfl k154 rfl rfl ?_
  obtain ⟨x158, l158, k158, hl922⟩ := ixb hl922
  conv => whnf
  refine index_addr rfl rfl (hasO (by first | simpa using y4_h2 | exact fun _ => ⟨_, _, rfl⟩) k158) l158 (lt_ofE ((y4_n2).trans List.length_set.symm) l158 k158) ?_
  conv => whnf
  refine ld_own (i := ((i4 : Int)).toNat) (o := 0) r4 rfl k158 rfl rfl ?_
  conv => whnf
  refine len_sliceN rfl ?_
  conv => whnf
  refine neq_bool rfl ?_
  conv => whnf
  refine cs rfl rfl hl922 (fun w163 hl922 => ?_) fun w163 hl922 => ?_
  obtain rfl := si hl922
  replace hl4 := elr hl4
  obtain rfl := si hl4
  replace hl2 := elr hl2
  obtain rfl := si hl2
  replace hm := elr hm
  obtain rfl := si hm
  conv => whnf
  refine EndStep.mk _ ((((((lt0.trans lt901).trans l80).trans lk2).trans lt918).trans lk4).trans l149) ⟨rfl, rfl⟩ (ConvH.of (.cons r8 .nil))
  conv => whnf
  refine MeetStep.mk ((x149.2, (y4_2.set (((i4 : Int)).toNat) (e4.toNat : Int)), (y4_1.set (((i4 : Int)).toNat) x149.1.isNone)), a149_0, c149_0, m149_1) trivial (by repeat (first | exact trivial | refine And.intro rfl ?_)) (ConvH.of (.cons r1 (.cons r1 (.cons r1 (.cons r2 (.cons r0 (.cons r0 (.cons r0 (.cons r0 (.cons r0 .nil)))))))))) l149 ⟨h149_0, (by first | simpa using y4_h2 | exact fun _ => ⟨_, _, rfl⟩), ((y4_n2).trans List.length_set.symm), (by first | simpa using y4_h1 | exact fun _ => ⟨_, _, rfl⟩), ((y4_n1).trans List.length_set.symm), (si hl922).symm⟩
  replace hl922 := iff_ (not_f (ni_f w132)) hl922
  conv => whnf
  refine MeetStep.mk ((y4_5, y4_2, y4_1), ay4_5_0, cy4_5_0, my4_5_1) trivial (by repeat (first | exact trivial | refine And.intro rfl ?_)) (ConvH.of (.cons r0 (.cons r0 (.cons r0 (.cons r0 (.cons r0 (.cons r0 (.cons r0 (.cons r0 (.cons r0 .nil)))))))))) (Hp.Le.refl _) ⟨hy4_5_0, y4_h2, y4_n2, y4_h1, y4_n1, (si hl922).symm⟩
  rintro ⟨t922, at922_0_0, ct922_0_0, mt922_0_1⟩ Kt922 lt922 ⟨ht922_0_0, t922_h1, t922_n1, t922_h2, t922_n2, rfl⟩ j922
  replace hl4 := elg hl4
  obtain ⟨x166, l166, k166, hl4⟩ := ixb hl4
  conv => whnf
  refine RStep.ofN (index_addr rfl rfl (hasO t922_h2 k166) l166 (lt_ofE t922_n2 l166 k166) ?_)
  conv => whnf
  refine RStep.of (ld_own (i := ((i4 : Int)).toNat) (o := 0) r4 rfl k166 rfl rfl ?_)
  conv => whnf
  refine un_not ?_
  conv => whnf
  refine cond_go rfl ?_
  conv => whnf
  refine cond_s (fun w168 => ?_) (fun w168 => ?_)
  replace hl4 := ift (not_t (ni_t w168)) hl4
  conv => whnf
  refine cond_T ?_
  conv => whnf
  refine int_in (cntz hx4 hk4) ?_
  conv => whnf
  refine RoundStep.mk (i4 + 1, y4_0, t922.2.2, t922.2.1, y4_3, y4_4, t922.1, y4_s4, at922_0_0, ct922_0_0, mt922_0_1) ⟨rfl, rfl, trivial⟩ (by repeat (first | exact trivial | refine And.intro rfl ?_)) (ConvH.of (.cons r0 (.cons r0 (.cons r0 (.cons r0 (.cons r0 (.cons r0 (.cons r0 (.cons r0 (.cons r0 .nil)))))))))) (lk4.trans lt922) (ltm hx4) ⟨t922_h2, t922_n2, t922_h1, t922_n1, y4_h3, y4_n3, (LR.mono hdR_ok lt922 y4_r4), y4_h4, y4_n4, ht922_0_0, hl4⟩
  replace hl4 := iff_ (not_f (ni_f w168)) hl4
  conv => whnf
  refine RStep.of (len_slice rfl ?_)
  obtain ⟨s926, hl926, hl4⟩ := bnd hl4
  conv => whnf
  refine code_cut (σ := (Int)) [20, 172, 173, 174, 175, 176, 177, 178, 179] (fun t926 => [(20, .int .i64 t926)]) (fun t926 => [Cells b80_0 77 [.int .i64 t922.1.limit, .int .i64 t922.1.state, .slice at922_0_0 t922.1.data.length ct922_0_0, .map (some mt922_0_1)], OwnL eU at922_0_0 5 1 ct922_0_0 t922.1.data, MapE intK (fun x => .int .i64 x) mt922_0_1 t922.1.offsets, OwnL eU t918_a0 5 1 t918_c0 t918.1, OwnL eB (some ⟨b96, 0, none⟩) 4 1 (Int.toNat (fromZ.length : Int)) t922.2.2, OwnL eN (some ⟨b90, 0, none⟩) 3 1 (Int.toNat (fromZ.length : Int)) t922.2.1, OwnL eB (some ⟨b93, 0, none⟩) 4 1 (Int.toNat (fromZ.length : Int)) y4_3, OwnE eU 22 5 1 (some ⟨b87, 0, none⟩) (Int.toNat (fromZ.length : Int)) y4_s4 y4_4, F]) (fun zz K1 => match zz with | t926 => t926 = s926) ?_ ?_
  refine cs rfl rfl hl926 (fun w171 hl926 => ?_) fun w171 hl926 => ?_
  conv => whnf
  refine RStep.of (len_slice rfl ?_)
  obtain ⟨h176, hl926⟩ := chkb hl926
  conv => whnf
  refine rem_t h176 ?_
  obtain ⟨x177, l177, k177, hl926⟩ := ixb hl926
  conv => whnf
  refine RStep.ofN (index_addr rfl rfl (hasK (hp2_0.mono ((((((lt0.trans lt901).trans l80).trans lk2).trans lt918).trans lk4).trans lt922)).rd k177) l177 (lt_ofE rfl l177 k177) ?_)
  conv => whnf
  refine RStep.of (load_rd (((Int.tmod y4_0 (paces.length : Int))).toNat) 0 _ _ (hp2_0.mono ((((((lt0.trans lt901).trans l80).trans lk2).trans lt918).trans lk4).trans lt922)).rd rfl (mp k177) rfl rfl ?_)
  conv => whnf
  refine conv_int rfl rfl (u8in x177) ?_
  conv => whnf
  refine MeetStep.mk ((x177.toNat : Int)) ⟨rfl, trivial⟩ (by repeat (first | exact trivial | refine And.intro rfl ?_)) (ConvH.of (.cons r0 (.cons r0 (.cons r0 (.cons r0 (.cons r0 (.cons r0 (.cons r0 (.cons r0 (.cons r0 .nil)))))))))) (Hp.Le.refl _) (si hl926)
  conv => whnf
  refine MeetStep.mk (3) ⟨rfl, trivial⟩ (by repeat (first | exact trivial | refine And.intro rfl ?_)) (ConvH.of (.cons r0 (.cons r0 (.cons r0 (.cons r0 (.cons r0 (.cons r0 (.cons r0 (.cons r0 (.cons r0 .nil)))))))))) (Hp.Le.refl _) (si hl926)
  rintro t926 Kt926 lt926 rfl j926
  conv => whnf
  refine int_wrap ?_
  obtain ⟨x186, q186, hl4⟩ := bnd hl4
  conv => whnf
  refine call_fn (fanout_Stream_Read_ok (s := t922.1) (id := (i4 : Int)) (max := t926) q186 ht922_0_0) (.cons r0 (.cons r0 (.cons r0 .nil))) ?_
  rintro _ K186 _ l186 ⟨a186_0, c186_0, a186_1, c186_1, m186_2, rfl, h186_0, h186_1, rfl⟩
  conv => whnf
  refine guard_go rfl ?_
  conv => whnf
  refine neq_err rfl ?_
  conv => whnf
  refine cond_s (fun g192_40 => ?_) (fun g192_40 => ?_)
  conv => whnf
  refine cond_t g192_40 ?_
  conv => whnf
  refine cond_t g192_40 ?_
  conv => whnf
  refine cond_t g192_40 ?_
  conv => whnf
  refine cond_t g192_40 ?_
  replace hl4 := ift (or_t g192_40) hl4
  conv => whnf
  refine cond_T ?_
  conv => whnf
  refine cond_T ?_
  conv => whnf
  refine cond_T ?_
  conv => whnf
  refine cond_T ?_
  conv => whnf
  refine cond_T ?_
  conv => whnf
  refine cond_T ?_
  conv => whnf
  refine cond_T ?_
  conv => whnf
  refine cond_go rfl ?_
  conv => whnf
  refine cond_T ?_
  obtain rfl := si hl4
  replace hl2 := elr hl2
  obtain rfl := si hl2
  replace hm := elr hm
  obtain rfl := si hm
  conv => whnf
  refine EndStep.mk _ ((((((((lt0.trans lt901).trans l80).trans lk2).trans lt918).trans lk4).trans lt922).trans lt926).trans l186) ⟨rfl, rfl⟩ (ConvH.of (.cons r9 .nil))
  conv => whnf
  refine cond_f g192_40 ?_
  conv => whnf
  refine RStep.of (len_slice rfl ?_)
  conv => whnf
  refine cond_f g192_40 ?_
  conv => whnf
  refine cond_f g192_40 ?_
  conv => whnf
  refine cond_f g192_40 ?_
  conv => whnf
  refine cond_s (fun g198_40 => ?_) (fun g198_40 => ?_)
  replace hl4 := ift (or_u g192_40 g198_40) hl4
  conv => whnf
  refine cond_t g198_40 ?_
  conv => whnf
  refine cond_t g198_40 ?_
  conv => whnf
  refine cond_t g198_40 ?_
  conv => whnf
  refine cond_t g198_40 ?_
  conv => whnf
  refine cond_t g198_40 ?_
  conv => whnf
  refine cond_t g198_40 ?_
  conv => whnf
  refine cond_go rfl ?_
  conv => whnf
  refine cond_T ?_
  obtain rfl := si hl4
  replace hl2 := elr hl2
  obtain rfl := si hl2
  replace hm := elr hm
  obtain rfl := si hm
  conv => whnf
  refine EndStep.mk _ ((((((((lt0.trans lt901).trans l80).trans lk2).trans lt918).trans lk4).trans lt922).trans lt926).trans l186) ⟨rfl, rfl⟩ (ConvH.of (.cons r9 .nil))
  replace hl4 := iff_ (or_f g192_40 g198_40) hl4
  conv => whnf
  refine cond_f g198_40 ?_
  conv => whnf
  refine cond_f g198_40 ?_
  obtain ⟨x201, l201, k201, hl4⟩ := ixb hl4
  conv => whnf
  refine RStep.ofN (index_addr rfl rfl (hasO y4_h3 k201) l201 (lt_ofE y4_n3 l201 k201) ?_)
  conv => whnf
  refine cond_f g198_40 ?_
  conv => whnf
  refine RStep.of (ld_own (i := ((i4 : Int)).toNat) (o := 0) r7 rfl k201 rfl rfl ?_)
  conv => whnf
  refine cond_f g198_40 ?_
  conv => whnf
  refine cond_s (fun g203_40 => ?_) (fun g203_40 => ?_)
  conv => whnf
  refine cond_t g203_40 ?_
  conv => whnf
  refine RStep.of (len_slice rfl ?_)
  conv => whnf
  refine cond_t g203_40 ?_
  conv => whnf
  refine cond_f g198_40 ?_
  conv => whnf
  refine cond_t g203_40 ?_
  conv => whnf
  refine cond_f g198_40 ?_
  conv => whnf
  refine cond_go rfl ?_
  conv => whnf
  refine cond_s (fun w208 => ?_) (fun w208 => ?_)
  replace hl4 := ift (and_t g203_40 w208) hl4
  obtain rfl := si hl4
  replace hl2 := elr hl2
  obtain rfl := si hl2
  replace hm := elr hm
  obtain rfl := si hm
  conv => whnf
  refine EndStep.mk _ ((((((((lt0.trans lt901).trans l80).trans lk2).trans lt918).trans lk4).trans lt922).trans lt926).trans l186) ⟨rfl, rfl⟩ (ConvH.of (.cons r9 .nil))
  replace hl4 := iff_ (and_g g203_40 w208) hl4
  obtain ⟨x213, l213, k213, hl4⟩ := ixb hl4
  conv => whnf
  refine RStep.ofN (index_addr rfl rfl (hasO y4_h4 k213) l213 (lt_ofE y4_n4 l213 k213) ?_)
  obtain ⟨cc214, hc214, a214_, c214_, rfl⟩ := LR.get (LR.mono hdR_ok ((lt922.trans lt926).trans l186) y4_r4) k213
  conv => whnf
  refine RStep.of (ldE (i := ((i4 : Int)).toNat) r8 rfl hc214 rfl rfl ?_)
  obtain ⟨h216, hl4⟩ := chkb hl4
  conv => whnf
  refine apEE r8 (LR.mono hdR_ok ((lt922.trans lt926).trans l186) y4_r4) k213 hc214 rfl elT22 (src_own' rfl r0 rfl (fun _ => rfl) (fun _ => rfl)) h216 ?_
  intro a216 c216 o216
  obtain ⟨x217, l217, k217, hl4⟩ := ixb hl4
  conv => whnf
  refine RStep.ofN (index_addr rfl rfl (hasO y4_h4 k217) l217 (lt_ofE y4_n4 l217 k217) ?_)
  conv => whnf
  refine stE r0 r0 r0 (LR.mono hdR_ok ((lt922.trans lt926).trans l186) y4_r4) k217 rfl rfl rfl ?_
  conv => whnf
  refine eq_int ?_
  obtain ⟨x222, l222, k222, hl4⟩ := ixb hl4
  conv => whnf
  refine RStep.ofN (index_addr rfl rfl (hasO y4_h3 k222) l222 (lt_ofE y4_n3 l222 k222) ?_)
  conv => whnf
  refine st_own (o := 0) (y := decide (x186.2.1 = 2)) x222 r8 rfl k222 rfl (by (conv => whnf); exact ⟨rfl, rfl, (Nat.le_of_ble_eq_true rfl), rfl, rfl, rfl⟩) ?_
  conv => whnf
  refine DStep.ownLe r0 fun hc30 => ?_
  conv => whnf
  refine DStep.ownLe r2 fun hc31 => ?_
  conv => whnf
  refine DStep.ownLe r4 fun hc32 => ?_
  conv => whnf
  refine DStep.ownLe r6 fun hc33 => ?_
  conv => whnf
  refine DStep.ownLe r7 fun hc34 => ?_
  conv => whnf
  refine DStep.ownLe r8 fun hc35 => ?_
  conv => whnf
  refine draw_go ⟨⟨[], true⟩, _, [], []⟩ (by kernel_rfl) ⟨Hp.Le.refl _, (ConvH.of .nil), ci0⟩ ?_
  obtain ⟨x225, l225, k225, hl4⟩ := ixb hl4
  conv => whnf
  refine index_addr rfl rfl (hasO (by first | simpa using y4_h4 | exact fun _ => ⟨_, _, rfl⟩) k225) l225 (lt_ofE ((y4_n4).trans List.length_set.symm) l225 k225) ?_
  obtain ⟨cc226, hc226, a226_, c226_, rfl⟩ := LR.get (show LR hdR _ (y4_s4.set (((i4 : Int)).toNat) [.slice a216 (x213 ++ x186.1).length c216]) (y4_4.set (((i4 : Int)).toNat) (x213 ++ x186.1)) from LR.set (LR.mono hdR_ok ((lt922.trans lt926).trans l186) y4_r4) ⟨_, _, rfl⟩) k225
  conv => whnf
  refine ldE (i := ((i4 : Int)).toNat) r1 rfl hc226 rfl rfl ?_
  obtain ⟨x230, l230, k230, hl4⟩ := ixb hl4
  conv => whnf
  refine index_addr rfl rfl (hasO t922_h1 k230) l230 (lt_ofE t922_n1 l230 k230) ?_
  conv => whnf
  refine ld_own (i := ((i4 : Int)).toNat) (o := 0) r8 rfl k230 rfl rfl ?_
  obtain ⟨h232, hl4⟩ := chkb hl4
  conv => whnf
  refine sl_part (l := t918.1) (lo := (some x230)) (hi := none) rfl rfl rfl hc33 h232 ?_
  obtain ⟨x235, l235, k235, hl4⟩ := ixb hl4
  conv => whnf
  refine index_addr rfl rfl (hasO (by first | simpa using y4_h3 | exact fun _ => ⟨_, _, rfl⟩) k235) l235 (lt_ofE ((y4_n3).trans List.length_set.symm) l235 k235) ?_
  conv => whnf
  refine ld_own (i := ((i4 : Int)).toNat) (o := 0) r0 rfl k235 rfl rfl ?_
  obtain ⟨x237, q237, hl4⟩ := bnd hl4
  conv => whnf
  refine call_fn (Fn.lendE Try.call17 (show LR hdR _ (y4_s4.set (((i4 : Int)).toNat) [.slice a216 (x213 ++ x186.1).length c216]) (y4_4.set (((i4 : Int)).toNat) (x213 ++ x186.1)) from LR.set (LR.mono hdR_ok ((lt922.trans lt926).trans l186) y4_r4) ⟨_, _, rfl⟩) k225 hc226 (fun K237_0 l237_0 f237_0 => (Fn.lend Try.call17 (fun K237_1 l237_1 f237_1 => (law28_part_ok (allZ := x235) q237 (f237_0.mono l237_1) rfl (f237_1.subC h232) rfl)) (by exact fun _ _ _ _ h => h))) (by exact fun _ _ _ _ h => h)) (.cons r1 (.cons r5 .nil)) ?_
  rintro _ K237 _ l237 ⟨_, rfl, _, rfl, rfl, rfl⟩
  conv => whnf
  refine ⟨⟨l237, (ConvH.of .nil), ci0⟩, ?_⟩
  conv => whnf
  refine un_not ?_
  conv => whnf
  refine cond_s (fun g239_44 => ?_) (fun g239_44 => ?_)
  replace hl4 := ift (not_t (ni_t g239_44)) hl4
  conv => whnf
  refine cond_t g239_44 ?_
  conv => whnf
  refine cond_t g239_44 ?_
  conv => whnf
  refine cond_t g239_44 ?_
  conv => whnf
  refine cond_t g239_44 ?_
  conv => whnf
  refine cond_t g239_44 ?_
  conv => whnf
  refine cond_t g239_44 ?_
  conv => whnf
  refine cond_go rfl ?_
  conv => whnf
  refine cond_T ?_
  obtain rfl := si hl4
  replace hl2 := elr hl2
  obtain rfl := si hl2
  replace hm := elr hm
  obtain rfl := si hm
  conv => whnf
  refine EndStep.mk _ (((((((((lt0.trans lt901).trans l80).trans lk2).trans lt918).trans lk4).trans lt922).trans lt926).trans l186).trans l237) ⟨rfl, rfl⟩ (ConvH.of (.cons r9 .nil))
  replace hl4 := iff_ (not_f (ni_f g239_44)) hl4
  conv => whnf
  refine cond_f g239_44 ?_
  conv => whnf
  refine cond_f g239_44 ?_
  obtain ⟨x242, l242, k242, hl4⟩ := ixb hl4
  conv => whnf
  refine index_addr rfl rfl (hasO (by first | simpa using y4_h3 | exact fun _ => ⟨_, _, rfl⟩) k242) l242 (lt_ofE ((y4_n3).trans List.length_set.symm) l242 k242) ?_
  conv => whnf
  refine cond_f g239_44 ?_
  conv => whnf
  refine ld_own (i := ((i4 : Int)).toNat) (o := 0) r2 rfl k242 rfl rfl ?_
  conv => whnf
  refine cond_f g239_44 ?_
  conv => whnf
  refine cond_s (fun g244_44 => ?_) (fun g244_44 => ?_)
  conv => whnf
  refine cond_t g244_44 ?_
  conv => whnf
  refine cond_t g244_44 ?_
  conv => whnf
  refine len_sliceN rfl ?_
  conv => whnf
  refine cond_t g244_44 ?_
  conv => whnf
  refine cond_f g239_44 ?_
  conv => whnf
  refine cond_t g244_44 ?_
  conv => whnf
  refine cond_f g239_44 ?_
  conv => whnf
  refine cond_go rfl ?_
  conv => whnf
  refine cond_s (fun w250 => ?_) (fun w250 => ?_)
  replace hl4 := ift (and_t g244_44 w250) hl4
  obtain rfl := si hl4
  replace hl2 := elr hl2
  obtain rfl := si hl2
  replace hm := elr hm
  obtain rfl := si hm
  conv => whnf
  refine EndStep.mk _ (((((((((lt0.trans lt901).trans l80).trans lk2).trans lt918).trans lk4).trans lt922).trans lt926).trans l186).trans l237) ⟨rfl, rfl⟩ (ConvH.of (.cons r9 .nil))
  replace hl4 := iff_ (and_g g244_44 w250) hl4
  conv => whnf
  refine int_in (cntz hx4 hk4) ?_
  conv => whnf
  refine RoundStep.mk (i4 + 1, (IntKind.i64.wrap (y4_0 + 1)), t922.2.2, t922.2.1, (y4_3.set (((i4 : Int)).toNat) (decide (x186.2.1 = 2))), (y4_4.set (((i4 : Int)).toNat) (x213 ++ x186.1)), x186.2.2.2, (y4_s4.set (((i4 : Int)).toNat) [.slice a216 (x213 ++ x186.1).length c216]), a186_1, c186_1, m186_2) ⟨rfl, rfl, trivial⟩ (by repeat (first | exact trivial | refine And.intro rfl ?_)) (ConvH.of (.cons r4 (.cons r4 (.cons r4 (.cons r1 (.cons r3 (.cons r3 (.cons r1 (.cons r0 (.cons r1 .nil)))))))))) ((((lk4.trans lt922).trans lt926).trans l186).trans l237) (ltm hx4) ⟨t922_h2, t922_n2, t922_h1, t922_n1, (by first | simpa using y4_h3 | exact fun _ => ⟨_, _, rfl⟩), ((y4_n3).trans List.length_set.symm), (LR.mono hdR_ok l237 (show LR hdR _ (y4_s4.set (((i4 : Int)).toNat) [.slice a216 (x213 ++ x186.1).length c216]) (y4_4.set (((i4 : Int)).toNat) (x213 ++ x186.1)) from LR.set (LR.mono hdR_ok ((lt922.trans lt926).trans l186) y4_r4) ⟨_, _, rfl⟩)), (by first | simpa using y4_h4 | exact fun _ => ⟨_, _, rfl⟩), ((y4_n4).trans List.length_set.symm), h186_1, hl4⟩
  conv => whnf
  refine cond_f g244_44 ?_
  conv => whnf
  refine cond_f g244_44 ?_
  conv => whnf
  refine cond_f g244_44 ?_
  conv => whnf
  refine cond_f g239_44 ?_
  conv => whnf
  refine cond_f g244_44 ?_
  conv => whnf
  refine cond_f g239_44 ?_
  conv => whnf
  refine cond_go rfl ?_
  conv => whnf
  refine cond_F ?_
  replace hl4 := iff_ (and_f g244_44) hl4
  conv => whnf
  refine int_in (cntz hx4 hk4) ?_
  conv => whnf
  refine RoundStep.mk (i4 + 1, (IntKind.i64.wrap (y4_0 + 1)), t922.2.2, t922.2.1, (y4_3.set (((i4 : Int)).toNat) (decide (x186.2.1 = 2))), (y4_4.set (((i4 : Int)).toNat) (x213 ++ x186.1)), x186.2.2.2, (y4_s4.set (((i4 : Int)).toNat) [.slice a216 (x213 ++ x186.1).length c216]), a186_1, c186_1, m186_2) ⟨rfl, rfl, trivial⟩ (by repeat (first | exact trivial | refine And.intro rfl ?_)) (ConvH.of (.cons r4 (.cons r4 (.cons r4 (.cons r1 (.cons r3 (.cons r3 (.cons r1 (.cons r0 (.cons r1 .nil)))))))))) ((((lk4.trans lt922).trans lt926).trans l186).trans l237) (ltm hx4) ⟨t922_h2, t922_n2, t922_h1, t922_n1, (by first | simpa using y4_h3 | exact fun _ => ⟨_, _, rfl⟩), ((y4_n3).trans List.length_set.symm), (LR.mono hdR_ok l237 (show LR hdR _ (y4_s4.set (((i4 : Int)).toNat) [.slice a216 (x213 ++ x186.1).length c216]) (y4_4.set (((i4 : Int)).toNat) (x213 ++ x186.1)) from LR.set (LR.mono hdR_ok ((lt922.trans lt926).trans l186) y4_r4) ⟨_, _, rfl⟩)), (by first | simpa using y4_h4 | exact fun _ => ⟨_, _, rfl⟩), ((y4_n4).trans List.length_set.symm), h186_1, hl4⟩
  conv => whnf
  refine cond_f g203_40 ?_
  conv => whnf
  refine cond_f g203_40 ?_
  conv => whnf
  refine cond_f g198_40 ?_
  conv => whnf
  refine cond_f g203_40 ?_
  conv => whnf
  refine cond_f g198_40 ?_
  conv => whnf
  refine cond_go rfl ?_
  conv => whnf
  refine cond_F ?_
  replace hl4 := iff_ (and_f g203_40) hl4
  obtain ⟨x213, l213, k213, hl4⟩ := ixb hl4
  conv => whnf
  refine RStep.ofN (index_addr rfl rfl (hasO y4_h4 k213) l213 (lt_ofE y4_n4 l213 k213) ?_)
  obtain ⟨cc214, hc214, a214_, c214_, rfl⟩ := LR.get (LR.mono hdR_ok ((lt922.trans lt926).trans l186) y4_r4) k213
  conv => whnf
  refine RStep.of (ldE (i := ((i4 : Int)).toNat) r8 rfl hc214 rfl rfl ?_)
  obtain ⟨h216, hl4⟩ := chkb hl4
  conv => whnf
  refine apEE r8 (LR.mono hdR_ok ((lt922.trans lt926).trans l186) y4_r4) k213 hc214 rfl elT22 (src_own' rfl r0 rfl (fun _ => rfl) (fun _ => rfl)) h216 ?_
  intro a216 c216 o216
  obtain ⟨x217, l217, k217, hl4⟩ := ixb hl4
  conv => whnf
  refine RStep.ofN (index_addr rfl rfl (hasO y4_h4 k217) l217 (lt_ofE y4_n4 l217 k217) ?_)
  conv => whnf
  refine stE r0 r0 r0 (LR.mono hdR_ok ((lt922.trans lt926).trans l186) y4_r4) k217 rfl rfl rfl ?_
  conv => whnf
  refine eq_int ?_
  obtain ⟨x222, l222, k222, hl4⟩ := ixb hl4
  conv => whnf
  refine RStep.ofN (index_addr rfl rfl (hasO y4_h3 k222) l222 (lt_ofE y4_n3 l222 k222) ?_)
  conv => whnf
  refine st_own (o := 0) (y := decide (x186.2.1 = 2)) x222 r8 rfl k222 rfl (by (conv => whnf); exact ⟨rfl, rfl, (Nat.le_of_ble_eq_true rfl), rfl, rfl, rfl⟩) ?_
  conv => whnf
  refine DStep.ownLe r0 fun hc37 => ?_
  conv => whnf
  refine DStep.ownLe r2 fun hc38 => ?_
  conv => whnf
  refine DStep.ownLe r4 fun hc39 => ?_
  conv => whnf
  refine DStep.ownLe r6 fun hc40 => ?_
  conv => whnf
  refine DStep.ownLe r7 fun hc41 => ?_
  conv => whnf
  refine DStep.ownLe r8 fun hc42 => ?_
  conv => whnf
  refine draw_go ⟨⟨[], true⟩, _, [], []⟩ (by kernel_rfl) ⟨Hp.Le.refl _, (ConvH.of .nil), ci0⟩ ?_
  obtain ⟨x225, l225, k225, hl4⟩ := ixb hl4
  conv => whnf
  refine index_addr rfl rfl (hasO (by first | simpa using y4_h4 | exact fun _ => ⟨_, _, rfl⟩) k225) l225 (lt_ofE ((y4_n4).trans List.length_set.symm) l225 k225) ?_
  obtain ⟨cc226, hc226, a226_, c226_, rfl⟩ := LR.get (show LR hdR _ (y4_s4.set (((i4 : Int)).toNat) [.slice a216 (x213 ++ x186.1).length c216]) (y4_4.set (((i4 : Int)).toNat) (x213 ++ x186.1)) from LR.set (LR.mono hdR_ok ((lt922.trans lt926).trans l186) y4_r4) ⟨_, _, rfl⟩) k225
  conv => whnf
  refine ldE (i := ((i4 : Int)).toNat) r1 rfl hc226 rfl rfl ?_
  obtain ⟨x230, l230, k230, hl4⟩ := ixb hl4
  conv => whnf
  refine index_addr rfl rfl (hasO t922_h1 k230) l230 (lt_ofE t922_n1 l230 k230) ?_
  conv => whnf
  refine ld_own (i := ((i4 : Int)).toNat) (o := 0) r8 rfl k230 rfl rfl ?_
  obtain ⟨h232, hl4⟩ := chkb hl4
  conv => whnf
  refine sl_part (l := t918.1) (lo := (some x230)) (hi := none) rfl rfl rfl hc40 h232 ?_
  obtain ⟨x235, l235, k235, hl4⟩ := ixb hl4
  conv => whnf
  refine index_addr rfl rfl (hasO (by first | simpa using y4_h3 | exact fun _ => ⟨_, _, rfl⟩) k235) l235 (lt_ofE ((y4_n3).trans List.length_set.symm) l235 k235) ?_
  conv => whnf
  refine ld_own (i := ((i4 : Int)).toNat) (o := 0) r0 rfl k235 rfl rfl ?_
  obtain ⟨x237, q237, hl4⟩ := bnd hl4
  conv => whnf
  refine call_fn (Fn.lendE Try.call17 (show LR hdR _ (y4_s4.set (((i4 : Int)).toNat) [.slice a216 (x213 ++ x186.1).length c216]) (y4_4.set (((i4 : Int)).toNat) (x213 ++ x186.1)) from LR.set (LR.mono hdR_ok ((lt922.trans lt926).trans l186) y4_r4) ⟨_, _, rfl⟩) k225 hc226 (fun K237_0 l237_0 f237_0 => (Fn.lend Try.call17 (fun K237_1 l237_1 f237_1 => (law28_part_ok (allZ := x235) q237 (f237_0.mono l237_1) rfl (f237_1.subC h232) rfl)) (by exact fun _ _ _ _ h => h))) (by exact fun _ _ _ _ h => h)) (.cons r1 (.cons r5 .nil)) ?_
  rintro _ K237 _ l237 ⟨_, rfl, _, rfl, rfl, rfl⟩
  conv => whnf
  refine ⟨⟨l237, (ConvH.of .nil), ci0⟩, ?_⟩
  conv => whnf
  refine un_not ?_
  conv => whnf
  refine cond_s (fun g239_44 => ?_) (fun g239_44 => ?_)
  replace hl4 := ift (not_t (ni_t g239_44)) hl4
  conv => whnf
  refine cond_t g239_44 ?_
  conv => whnf
  refine cond_t g239_44 ?_
  conv => whnf
  refine cond_t g239_44 ?_
  conv => whnf
  refine cond_t g239_44 ?_
  conv => whnf
  refine cond_t g239_44 ?_
  conv => whnf
  refine cond_t g239_44 ?_
  conv => whnf
  refine cond_go rfl ?_
  conv => whnf
  refine cond_T ?_
  obtain rfl := si hl4
  replace hl2 := elr hl2
  obtain rfl := si hl2
  replace hm := elr hm
  obtain rfl := si hm
  conv => whnf
  refine EndStep.mk _ (((((((((lt0.trans lt901).trans l80).trans lk2).trans lt918).trans lk4).trans lt922).trans lt926).trans l186).trans l237) ⟨rfl, rfl⟩ (ConvH.of (.cons r9 .nil))
  replace hl4 := iff_ (not_f (ni_f g239_44)) hl4
  conv => whnf
  refine cond_f g239_44 ?_
  conv => whnf
  refine cond_f g239_44 ?_
  obtain ⟨x242, l242, k242, hl4⟩ := ixb hl4
  conv => whnf
  refine index_addr rfl rfl (hasO (by first | simpa using y4_h3 | exact fun _ => ⟨_, _, rfl⟩) k242) l242 (lt_ofE ((y4_n3).trans List.length_set.symm) l242 k242) ?_
  conv => whnf
  refine cond_f g239_44 ?_
  conv => whnf
  refine ld_own (i := ((i4 : Int)).toNat) (o := 0) r2 rfl k242 rfl rfl ?_
  conv => whnf
  refine cond_f g239_44 ?_
  conv => whnf
  refine cond_s (fun g244_44 => ?_) (fun g244_44 => ?_)
  conv => whnf
  refine cond_t g244_44 ?_
  conv => whnf
  refine cond_t g244_44 ?_
  conv => whnf
  refine len_sliceN rfl ?_
  conv => whnf
  refine cond_t g244_44 ?_
  conv => whnf
  refine cond_f g239_44 ?_
  conv => whnf
  refine cond_t g244_44 ?_
  conv => whnf
  refine cond_f g239_44 ?_
  conv => whnf
  refine cond_go rfl ?_
  conv => whnf
  refine cond_s (fun w250 => ?_) (fun w250 => ?_)
  replace hl4 := ift (and_t g244_44 w250) hl4
  obtain rfl := si hl4
  replace hl2 := elr hl2
  obtain rfl := si hl2
  replace hm := elr hm
  obtain rfl := si hm
  conv => whnf
  refine EndStep.mk _ (((((((((lt0.trans lt901).trans l80).trans lk2).trans lt918).trans lk4).trans lt922).trans lt926).trans l186).trans l237) ⟨rfl, rfl⟩ (ConvH.of (.cons r9 .nil))
  replace hl4 := iff_ (and_g g244_44 w250) hl4
  conv => whnf
  refine int_in (cntz hx4 hk4) ?_
  conv => whnf
  refine RoundStep.mk (i4 + 1, (IntKind.i64.wrap (y4_0 + 1)), t922.2.2, t922.2.1, (y4_3.set (((i4 : Int)).toNat) (decide (x186.2.1 = 2))), (y4_4.set (((i4 : Int)).toNat) (x213 ++ x186.1)), x186.2.2.2, (y4_s4.set (((i4 : Int)).toNat) [.slice a216 (x213 ++ x186.1).length c216]), a186_1, c186_1, m186_2) ⟨rfl, rfl, trivial⟩ (by repeat (first | exact trivial | refine And.intro rfl ?_)) (ConvH.of (.cons r4 (.cons r4 (.cons r4 (.cons r1 (.cons r3 (.cons r3 (.cons r1 (.cons r0 (.cons r1 .nil)))))))))) ((((lk4.trans lt922).trans lt926).trans l186).trans l237) (ltm hx4) ⟨t922_h2, t922_n2, t922_h1, t922_n1, (by first | simpa using y4_h3 | exact fun _ => ⟨_, _, rfl⟩), ((y4_n3).trans List.length_set.symm), (LR.mono hdR_ok l237 (show LR hdR _ (y4_s4.set (((i4 : Int)).toNat) [.slice a216 (x213 ++ x186.1).length c216]) (y4_4.set (((i4 : Int)).toNat) (x213 ++ x186.1)) from LR.set (LR.mono hdR_ok ((lt922.trans lt926).trans l186) y4_r4) ⟨_, _, rfl⟩)), (by first | simpa using y4_h4 | exact fun _ => ⟨_, _, rfl⟩), ((y4_n4).trans List.length_set.symm), h186_1, hl4⟩
  conv => whnf
  refine cond_f g244_44 ?_
  conv => whnf
  refine cond_f g244_44 ?_
  conv => whnf
  refine cond_f g244_44 ?_
  conv => whnf
  refine cond_f g239_44 ?_
  conv => whnf
  refine cond_f g244_44 ?_
  conv => whnf
  refine cond_f g239_44 ?_
  conv => whnf
  refine cond_go rfl ?_
  conv => whnf
  refine cond_F ?_
  replace hl4 := iff_ (and_f g244_44) hl4
  conv => whnf
  refine int_in (cntz hx4 hk4) ?_
  conv => whnf
  refine RoundStep.mk (i4 + 1, (IntKind.i64.wrap (y4_0 + 1)), t922.2.2, t922.2.1, (y4_3.set (((i4 : Int)).toNat) (decide (x186.2.1 = 2))), (y4_4.set (((i4 : Int)).toNat) (x213 ++ x186.1)), x186.2.2.2, (y4_s4.set (((i4 : Int)).toNat) [.slice a216 (x213 ++ x186.1).length c216]), a186_1, c186_1, m186_2) ⟨rfl, rfl, trivial⟩ (by repeat (first | exact trivial | refine And.intro rfl ?_)) (ConvH.of (.cons r4 (.cons r4 (.cons r4 (.cons r1 (.cons r3 (.cons r3 (.cons r1 (.cons r0 (.cons r1 .nil)))))))))) ((((lk4.trans lt922).trans lt926).trans l186).trans l237) (ltm hx4) ⟨t922_h2, t922_n2, t922_h1, t922_n1, (by first | simpa using y4_h3 | exact fun _ => ⟨_, _, rfl⟩), ((y4_n3).trans List.length_set.symm), (LR.mono hdR_ok l237 (show LR hdR _ (y4_s4.set (((i4 : Int)).toNat) [.slice a216 (x213 ++ x186.1).length c216]) (y4_4.set (((i4 : Int)).toNat) (x213 ++ x186.1)) from LR.set (LR.mono hdR_ok ((lt922.trans lt926).trans l186) y4_r4) ⟨_, _, rfl⟩)), (by first | simpa using y4_h4 | exact fun _ => ⟨_, _, rfl⟩), ((y4_n4).trans List.length_set.symm), h186_1, hl4⟩
  rw [lty w4, law28_FanoutWhole_L4.eq_1] at hl4
  conv => whnf
  refine cond_T ?_
  conv => whnf
  refine MeetStep.mk ((y4_0, y4_1, y4_2, y4_3, y4_4, y4_5), y4_s4, ay4_5_0, cy4_5_0, my4_5_1) ⟨rfl, trivial⟩ (by repeat (first | exact trivial | refine And.intro rfl ?_)) (ConvH.of (.cons r0 (.cons r0 (.cons r0 (.cons r0 (.cons r0 (.cons r0 (.cons r0 (.cons r0 (.cons r0 .nil)))))))))) lk4 ⟨y4_h1, y4_n1, y4_h2, y4_n2, y4_h3, y4_n3, y4_r4, y4_h4, y4_n4, hy4_5_0, (si hl4).symm⟩
  rintro ⟨t4, t4_s4, at4_5_0, ct4_5_0, mt4_5_1⟩ Kt4 lt4 ⟨t4_h1, t4_n1, t4_h2, t4_n2, t4_h3, t4_n3, t4_r4, t4_h4, t4_n4, ht4_5_0, rfl⟩ j4
  replace hl2 := elg hl2
  conv => whnf
  refine int_wrap ?_
  conv => whnf
  refine RoundStep.mk (i2, t918.1, t4.1, (IntKind.i64.wrap (y2_2 + 1)), t4.2.1, t4.2.2.1, t4.2.2.2.1, t4.2.2.2.2.1, t4.2.2.2.2.2, t918_a0, t918_c0, t4_s4, at4_5_0, ct4_5_0, mt4_5_1) ⟨rfl, rfl, rfl, trivial⟩ (by repeat (first | exact trivial | refine And.intro rfl ?_)) (ConvH.of (.cons r3 (.cons r0 (.cons r0 (.cons r0 (.cons r0 (.cons r0 (.cons r0 (.cons r0 (.cons r0 .nil)))))))))) ((lk2.trans lt918).trans lt4) (Nat.lt_succ_self _) ⟨t918_h0, t4_h1, t4_n1, t4_h2, t4_n2, t4_h3, t4_n3, t4_r4, t4_h4, t4_n4, ht4_5_0, hl2⟩
  conv => whnf
  refine cond_T ?_
  conv => whnf
  refine MeetStep.mk ((y2_0, y2_1, y2_2, y2_3, y2_4, y2_5, y2_6, y2_7), y2_a0, y2_c0, y2_s6, ay2_7_0, cy2_7_0, my2_7_1) ⟨rfl, rfl, rfl, trivial⟩ (by repeat (first | exact trivial | refine And.intro rfl ?_)) (ConvH.of (.cons r0 (.cons r0 (.cons r0 (.cons r0 (.cons r0 (.cons r0 (.cons r0 (.cons r0 (.cons r0 .nil)))))))))) lk2 ⟨y2_h0, y2_h3, y2_n3, y2_h4, y2_n4, y2_h5, y2_n5, y2_r6, y2_h6, y2_n6, hy2_7_0, (si hl2).symm⟩
 rintro ⟨t2, t2_a0, t2_c0, t2_s6, at2_7_0, ct2_7_0, mt2_7_1⟩ Kt2 lt2 ⟨t2_h0, t2_h3, t2_n3, t2_h4, t2_n4, t2_h5, t2_n5, t2_r6, t2_h6, t2_n6, ht2_7_0, rfl⟩ j2
 replace hm := elg hm
 conv => whnf
 refine RStep.of (len_slice rfl ?_)
 obtain ⟨hk6, hm⟩ := chkb hm
 obtain ⟨s6, hl6, hm⟩ := bnd hm
 conv => whnf
 refine fC r5 fun Kd6_0 ld6_0 fd6_0 => ?_
 refine fzEoC r6 (LR.mono hdR_ok ld6_0 t2_r6) fun Kd6_1 ld6_1 fd6_1 fd6_1s => ?_
 refine code_cut (σ := (S_fanout_Stream) × Option Addr × Nat × Nat) [6, 24, 25, 26, 27, 254, 255, 256, 257, 258, 259, 260, 261, 262, 263, 264, 265, 266, 267, 268, 269, 270, 271, 272, 273, 274, 275, 276, 277, 278, 279, 280, 281, 282, 283, 284, 285, 286, 287, 288, 289, 290, 291, 292, 293, 294, 295, 296, 297, 298, 299] (fun (t6, at6_0_0, ct6_0_0, mt6_0_1) => []) (fun (t6, at6_0_0, ct6_0_0, mt6_0_1) => [Cells b80_0 77 [.int .i64 t6.limit, .int .i64 t6.state, .slice at6_0_0 t6.data.length ct6_0_0, .map (some mt6_0_1)], OwnL eU at6_0_0 5 1 ct6_0_0 t6.data, MapE intK (fun x => .int .i64 x) mt6_0_1 t6.offsets, OwnS eU 5 1 t2_s6 t2.2.2.2.2.2.2.1, OwnL eU t2_a0 5 1 t2_c0 t2.1, OwnL eB (some ⟨b96, 0, none⟩) 4 1 (Int.toNat (fromZ.length : Int)) t2.2.2.2.1, OwnL eB (some ⟨b93, 0, none⟩) 4 1 (Int.toNat (fromZ.length : Int)) t2.2.2.2.2.2.1, F]) (fun zz K1 => match zz with | (t6, at6_0_0, ct6_0_0, mt6_0_1) => (0 < t6.data.length → Has at6_0_0) ∧ s6 = Fl.go t6) ?_ ?_
 refine block_go rfl ?_
 conv => whnf
 refine loop_rule (σ := Nat × S_fanout_Stream × Option Addr × Nat × Nat) [6, 24, 25, 26, 27, 254, 255, 256, 257, 258, 259, 260, 261, 262, 263, 264, 265, 266, 267, 268, 269, 270, 271, 272, 273, 274, 275, 276, 277, 278, 279, 280, 281, 282, 283, 284, 285, 286, 287, 288, 289, 290, 291, 292, 293, 294, 295, 296, 297, 298, 299] (fun (i6, y6_0, ay6_0_0, cy6_0_0, my6_0_1) => [(254, .int .i64 (i6 : Int))]) (fun (i6, y6_0, ay6_0_0, cy6_0_0, my6_0_1) => [Cells b80_0 77 [.int .i64 y6_0.limit, .int .i64 y6_0.state, .slice ay6_0_0 y6_0.data.length cy6_0_0, .map (some my6_0_1)], OwnL eU ay6_0_0 5 1 cy6_0_0 y6_0.data, MapE intK (fun x => .int .i64 x) my6_0_1 y6_0.offsets, OwnS eU 5 1 t2_s6 t2.2.2.2.2.2.2.1, OwnL eU t2_a0 5 1 t2_c0 t2.1, OwnL eB (some ⟨b96, 0, none⟩) 4 1 (Int.toNat (fromZ.length : Int)) t2.2.2.2.1, OwnL eB (some ⟨b93, 0, none⟩) 4 1 (Int.toNat (fromZ.length : Int)) t2.2.2.2.2.2.1, F]) (fun zz K1 => match zz with | (i6, y6_0, ay6_0_0, cy6_0_0, my6_0_1) => (0 < y6_0.data.length → Has ay6_0_0) ∧ law28_FanoutWhole_L6b t2 t0 (fromZ.drop i6) i6 y6_0 = some s6) (fun zz => fromZ.length - zz.1) (0, t2.2.2.2.2.2.2.2, at2_7_0, ct2_7_0, mt2_7_1) rfl ⟨rfl, trivial⟩ (ConvH.of (.cons r2 (.cons r2 (.cons r2 (.cons r0 (.cons r0 (.cons r0 (.cons r0 (.cons r0 .nil))))))))) ⟨ht2_7_0, hl6⟩ ?_
 clear hl6
 rintro ⟨i6, y6_0, ay6_0_0, cy6_0_0, my6_0_1⟩ Kb6 lk6 ⟨hy6_0_0, hl6⟩ j6
 conv => whnf
 refine cond_go rfl ?_
 conv => whnf
 refine cond_s (fun w6 => ?_) (fun w6 => ?_)
 obtain ⟨e6, hx6, hd6⟩ := ltx w6
 rw [hd6, law28_FanoutWhole_L6b.eq_2] at hl6
 conv => whnf
 refine block_go rfl ?_
 conv => whnf
 refine guard_go rfl ?_
 obtain ⟨x259, l259, k259, hl6⟩ := ixb hl6
 conv => whnf
 refine RStep.ofN (index_addr rfl rfl (hasO t2_h3 k259) l259 (lt_ofE t2_n3 l259 k259) ?_)
 conv => whnf
 refine RStep.of (ld_own (i := ((i6 : Int)).toNat) (o := 0) r5 rfl k259 rfl rfl ?_)
 obtain ⟨x267, e267, hl6⟩ := bnd hl6
 conv => whnf
 refine cond_s (fun g261_50 => ?_) (fun g261_50 => ?_)
 replace e267 := ift g261_50 e267
 conv => whnf
 refine cond_t g261_50 ?_
 conv => whnf
 refine cond_t g261_50 ?_
 obtain ⟨x264, l264, k264, e267⟩ := ixb e267
 conv => whnf
 refine RStep.ofN (index_addr rfl rfl (hasO t2_h5 k264) l264 (lt_ofE t2_n5 l264 k264) ?_)
 conv => whnf
 refine cond_t g261_50 ?_
 conv => whnf
 refine RStep.of (ld_own (i := ((i6 : Int)).toNat) (o := 0) r6 rfl k264 rfl rfl ?_)
 conv => whnf
 refine cond_t g261_50 ?_
 conv => whnf
 refine un_not ?_
 conv => whnf
 refine cond_t g261_50 ?_
 conv => whnf
 refine CStep.ownLe r1 fun hc45 => ?_
 conv => whnf
 refine CStep.ownLe r4 fun hc46 => ?_
 conv => whnf
 refine CStep.ownLe r5 fun hc47 => ?_
 conv => whnf
 refine CStep.ownLe r6 fun hc48 => ?_
 conv => whnf
 refine cond_go rfl ?_
 conv => whnf
 refine cond_s (fun w267 => ?_) (fun w267 => ?_)
 replace hl6 := ift ((si e267).symm.trans (not_t (ni_t w267))) hl6
 conv => whnf
 refine int_wrap ?_
 obtain ⟨x273, q273, hl6⟩ := bnd hl6
 conv => whnf
 refine call_fn (fanout_Stream_Read_ok (s := y6_0) (id := (i6 : Int)) (max := (IntKind.i64.wrap (t0 + 1))) q273 hy6_0_0) (.cons r0 (.cons r0 (.cons r0 .nil))) ?_
 rintro _ K273 _ l273 ⟨a273_0, c273_0, a273_1, c273_1, m273_2, rfl, h273_0, h273_1, rfl⟩
 conv => whnf
 refine DStep.ownLe r0 fun hc50 => ?_
 conv => whnf
 refine DStep.ownLe r2 fun hc51 => ?_
 conv => whnf
 refine draw_go ⟨⟨[], false⟩, _, [], []⟩ (by kernel_rfl) ⟨Hp.Le.refl _, (ConvH.of .nil), ci0⟩ ?_
 conv => whnf
 refine neq_err rfl ?_
 conv => whnf
 refine cond_s (fun g279_52 => ?_) (fun g279_52 => ?_)
 conv => whnf
 refine cond_t g279_52 ?_
 conv => whnf
 refine cond_t g279_52 ?_
 obtain ⟨x298, e298, hl6⟩ := bnd hl6
 replace e298 := ift (or_t g279_52) e298
 conv => whnf
 refine cond_T ?_
 conv => whnf
 refine cond_T ?_
 conv => whnf
 refine cond_T ?_
 conv => whnf
 refine cond_T ?_
 conv => whnf
 refine cond_T ?_
 conv => whnf
 refine cond_T ?_
 conv => whnf
 refine cond_T ?_
 conv => whnf
 refine cond_T ?_
 conv => whnf
 refine cond_T ?_
 conv => whnf
 refine cond_T ?_
 conv => whnf
 refine cond_T ?_
 conv => whnf
 refine cond_T ?_
 conv => whnf
 refine cond_T ?_
 conv => whnf
 refine cond_T ?_
 conv => whnf
 refine cond_T ?_
 conv => whnf
 refine cond_go rfl ?_
 conv => whnf
 refine cond_T ?_
 replace hl6 := ift (si e298).symm hl6
 obtain rfl := si hl6
 replace hm := elr hm
 obtain rfl := si hm
 conv => whnf
 refine EndStep.mk _ (((((((lt0.trans lt901).trans l80).trans lt2).trans ld6_0).trans ld6_1).trans lk6).trans l273) ⟨rfl, rfl⟩ (ConvH.of (.cons r8 .nil))
 conv => whnf
 refine cond_f g279_52 ?_
 conv => whnf
 refine neq_int ?_
 conv => whnf
 refine cond_f g279_52 ?_
 obtain ⟨x298, e298, hl6⟩ := bnd hl6
 conv => whnf
 refine cond_s (fun g283_52 => ?_) (fun g283_52 => ?_)
 replace e298 := ift (or_u g279_52 g283_52) e298
 conv => whnf
 refine cond_t g283_52 ?_
 conv => whnf
 refine cond_t g283_52 ?_
 conv => whnf
 refine cond_t g283_52 ?_
 conv => whnf
 refine cond_t g283_52 ?_
 conv => whnf
 refine cond_t g283_52 ?_
 conv => whnf
 refine cond_t g283_52 ?_
 conv => whnf
 refine cond_t g283_52 ?_
 conv => whnf
 refine cond_t g283_52 ?_
 conv => whnf
 refine cond_t g283_52 ?_
 conv => whnf
 refine cond_t g283_52 ?_
 conv => whnf
 refine cond_t g283_52 ?_
 conv => whnf
 refine cond_t g283_52 ?_
 conv => whnf
 refine cond_t g283_52 ?_
 conv => whnf
 refine cond_t g283_52 ?_
 conv => whnf
 refine cond_go rfl ?_
 conv => whnf
 refine cond_T ?_
 replace hl6 := ift (si e298).symm hl6
 obtain rfl := si hl6
 replace hm := elr hm
 obtain rfl := si hm
 conv => whnf
 refine EndStep.mk _ (((((((lt0.trans lt901).trans l80).trans lt2).trans ld6_0).trans ld6_1).trans lk6).trans l273) ⟨rfl, rfl⟩ (ConvH.of (.cons r8 .nil))
 replace e298 := iff_ (or_f g279_52 g283_52) e298
 conv => whnf
 refine cond_f g283_52 ?_
 conv => whnf
 refine cond_f g283_52 ?_
 obtain ⟨x286, l286, k286, e298⟩ := ixb e298
 conv => whnf
 refine index_addr rfl rfl (hasR (LiC.mono hdR_ok (lk6.trans l273) fd6_1).rd k286) l286 (lt_ofE t2_n6 l286 k286) ?_
 conv => whnf
 refine cond_f g283_52 ?_
 obtain ⟨cc287, hc287, a287_, c287_, rfl⟩ := LR.get (LR.mono hdR_ok (((ld6_0.trans ld6_1).trans lk6).trans l273) t2_r6) k286
 conv => whnf
 refine load_rd_l (((i6 : Int)).toNat) 0 _ _ (fd6_1s.mono (lk6.trans l273)) rfl hc287 rfl rfl ?_
 conv => whnf
 refine cond_f g283_52 ?_
 conv => whnf
 refine cond_f g283_52 ?_
 obtain ⟨h289, e298⟩ := chkb e298
 conv => whnf
 refine apEOS r4 k286 hc287 rfl elT22 (src_own' rfl r0 rfl (fun _ => rfl) (fun _ => rfl)) h289 ?_ ?_
 conv => whnf
 refine ⟨⟨(Hp.Le.refl _), (ConvH.of .nil), ci0⟩, ?_⟩
 conv => whnf
 refine cond_f g283_52 ?_
 conv => whnf
 refine cond_f g283_52 ?_
 conv => whnf
 refine cond_f g283_52 ?_
 conv => whnf
 refine cond_f g283_52 ?_
 obtain ⟨x293, l293, k293, e298⟩ := ixb e298
 conv => whnf
 refine index_addr rfl rfl (hasK (fd6_0.mono ((ld6_1.trans lk6).trans l273)).rd k293) l293 (lt_ofE t2_n4 l293 k293) ?_
 conv => whnf
 refine cond_f g283_52 ?_
 conv => whnf
 refine load_rd_l (((i6 : Int)).toNat) 0 _ _ (fd6_0.mono ((ld6_1.trans lk6).trans l273)).rd rfl (mp k293) rfl rfl ?_
 conv => whnf
 refine cond_f g283_52 ?_
 obtain ⟨h295, e298⟩ := chkb e298
 conv => whnf
 refine sl_part (l := t2.1) (lo := (some x293)) (hi := none) rfl rfl rfl hc46 h295 ?_
 conv => whnf
 refine cond_f g283_52 ?_
 obtain ⟨x296, q296, e298⟩ := bnd e298
 conv => whnf
 refine call_fn (Fn.lend Try.call17 (fun K296_0 l296_0 f296_0 => (Fn.lend Try.call17 (fun K296_1 l296_1 f296_1 => (law28_part_ok (allZ := true) q296 (f296_0.mono l296_1) rfl (f296_1.subC h295) rfl)) (by exact fun _ _ _ _ h => h))) (by exact fun _ _ _ _ h => h)) (.cons r0 (.cons r5 .nil)) ?_
 rintro _ K296 _ l296 ⟨_, rfl, _, rfl, rfl, rfl⟩
 conv => whnf
 refine ⟨⟨l296, (ConvH.of .nil), ci0⟩, ?_⟩
 conv => whnf
 refine cond_f g283_52 ?_
 conv => whnf
 refine un_not ?_
 conv => whnf
 refine cond_f g283_52 ?_
 conv => whnf
 refine clS1C r0 r1 k286 hc287 ?_
 conv => whnf
 refine cond_go rfl ?_
 conv => whnf
 refine cond_s (fun w298 => ?_) (fun w298 => ?_)
 replace hl6 := ift ((si e298).symm.trans (not_t (ni_t w298))) hl6
 obtain rfl := si hl6
 replace hm := elr hm
 obtain rfl := si hm
 conv => whnf
 refine EndStep.mk _ ((((((((lt0.trans lt901).trans l80).trans lt2).trans ld6_0).trans ld6_1).trans lk6).trans l273).trans l296) ⟨rfl, rfl⟩ (ConvH.of (.cons r8 .nil))
 replace hl6 := iff_ ((si e298).symm.trans (not_f (ni_f w298))) hl6
 conv => whnf
 refine int_in (cntz hx6 hk6) ?_
 conv => whnf
 refine RoundStep.mk (i6 + 1, x273.2.2.2, a273_1, c273_1, m273_2) ⟨rfl, trivial⟩ (by repeat (first | exact trivial | refine And.intro rfl ?_)) (ConvH.of (.cons r3 (.cons r3 (.cons r3 (.cons r0 (.cons r0 (.cons r1 (.cons r1 (.cons r1 .nil))))))))) ((lk6.trans l273).trans l296) (ltm hx6) ⟨h273_1, hl6⟩
 intro a289 c289
 conv => whnf
 refine ⟨⟨(Hp.Le.refl _), (ConvH.of .nil), ci0⟩, ?_⟩
 conv => whnf
 refine cond_f g283_52 ?_
 conv => whnf
 refine cond_f g283_52 ?_
 conv => whnf
 refine cond_f g283_52 ?_
 conv => whnf
 refine cond_f g283_52 ?_
 obtain ⟨x293, l293, k293, e298⟩ := ixb e298
 conv => whnf
 refine index_addr rfl rfl (hasK (fd6_0.mono ((ld6_1.trans lk6).trans l273)).rd k293) l293 (lt_ofE t2_n4 l293 k293) ?_
 conv => whnf
 refine cond_f g283_52 ?_
 conv => whnf
 refine load_rd_l (((i6 : Int)).toNat) 0 _ _ (fd6_0.mono ((ld6_1.trans lk6).trans l273)).rd rfl (mp k293) rfl rfl ?_
 conv => whnf
 refine cond_f g283_52 ?_
 obtain ⟨h295, e298⟩ := chkb e298
 conv => whnf
 refine sl_part (l := t2.1) (lo := (some x293)) (hi := none) rfl rfl rfl hc46 h295 ?_
 conv => whnf
 refine cond_f g283_52 ?_
 obtain ⟨x296, q296, e298⟩ := bnd e298
 conv => whnf
 refine call_fn (Fn.lend Try.call17 (fun K296_0 l296_0 f296_0 => (Fn.lend Try.call17 (fun K296_1 l296_1 f296_1 => (law28_part_ok (allZ := true) q296 (f296_0.mono l296_1) rfl (f296_1.subC h295) rfl)) (by exact fun _ _ _ _ h => h))) (by exact fun _ _ _ _ h => h)) (.cons r0 (.cons r6 .nil)) ?_
 rintro _ K296 _ l296 ⟨_, rfl, _, rfl, rfl, rfl⟩
 conv => whnf
 refine ⟨⟨l296, (ConvH.of .nil), ci0⟩, ?_⟩
 conv => whnf
 refine cond_f g283_52 ?_
 conv => whnf
 refine un_not ?_
 conv => whnf
 refine cond_f g283_52 ?_
 conv => whnf
 refine clS2C r2 r2 k286 hc287 ?_
 conv => whnf
 refine cond_go rfl ?_
 conv => whnf
 refine cond_s (fun w298 => ?_) (fun w298 => ?_)
 replace hl6 := ift ((si e298).symm.trans (not_t (ni_t w298))) hl6
 obtain rfl := si hl6
 replace hm := elr hm
 obtain rfl := si hm
 conv => whnf
 refine EndStep.mk _ ((((((((lt0.trans lt901).trans l80).trans lt2).trans ld6_0).trans ld6_1).trans lk6).trans l273).trans l296) ⟨rfl, rfl⟩ (ConvH.of (.cons r9 .nil))
 replace hl6 := iff_ ((si e298).symm.trans (not_f (ni_f w298))) hl6
 conv => whnf
 refine int_in (cntz hx6 hk6) ?_
 conv => whnf
 refine RoundStep.mk (i6 + 1, x273.2.2.2, a273_1, c273_1, m273_2) ⟨rfl, trivial⟩ (by repeat (first | exact trivial | refine And.intro rfl ?_)) (ConvH.of (.cons r4 (.cons r4 (.cons r4 (.cons r0 (.cons r1 (.cons r2 (.cons r2 (.cons r2 .nil))))))))) ((lk6.trans l273).trans l296) (ltm hx6) ⟨h273_1, hl6⟩
 replace hl6 := iff_ ((si e267).symm.trans (not_f (ni_f w267))) hl6
 conv => whnf
 refine int_in (cntz hx6 hk6) ?_
 conv => whnf
 refine RoundStep.mk (i6 + 1, y6_0, ay6_0_0, cy6_0_0, my6_0_1) ⟨rfl, trivial⟩ (by repeat (first | exact trivial | refine And.intro rfl ?_)) (ConvH.of (.cons r0 (.cons r0 (.cons r0 (.cons r0 (.cons r0 (.cons r0 (.cons r0 (.cons r0 .nil))))))))) lk6 (ltm hx6) ⟨hy6_0_0, hl6⟩
 replace e267 := iff_ g261_50 e267
 conv => whnf
 refine cond_f g261_50 ?_
 conv => whnf
 refine cond_f g261_50 ?_
 conv => whnf
 refine cond_f g261_50 ?_
 conv => whnf
 refine cond_f g261_50 ?_
 conv => whnf
 refine cond_f g261_50 ?_
 conv => whnf
 refine CStep.ownLe r1 fun hc54 => ?_
 conv => whnf
 refine CStep.ownLe r4 fun hc55 => ?_
 conv => whnf
 refine CStep.ownLe r5 fun hc56 => ?_
 conv => whnf
 refine CStep.ownLe r6 fun hc57 => ?_
 conv => whnf
 refine cond_go rfl ?_
 conv => whnf
 refine cond_F ?_
 replace hl6 := iff_ (si e267).symm hl6
 conv => whnf
 refine int_in (cntz hx6 hk6) ?_
 conv => whnf
 refine RoundStep.mk (i6 + 1, y6_0, ay6_0_0, cy6_0_0, my6_0_1) ⟨rfl, trivial⟩ (by repeat (first | exact trivial | refine And.intro rfl ?_)) (ConvH.of (.cons r0 (.cons r0 (.cons r0 (.cons r0 (.cons r0 (.cons r0 (.cons r0 (.cons r0 .nil))))))))) lk6 (ltm hx6) ⟨hy6_0_0, hl6⟩
 rw [lty w6, law28_FanoutWhole_L6b.eq_1] at hl6
 conv => whnf
 refine cond_T ?_
 conv => whnf
 refine MeetStep.mk (y6_0, ay6_0_0, cy6_0_0, my6_0_1) trivial (by repeat (first | exact trivial | refine And.intro rfl ?_)) (ConvH.of (.cons r0 (.cons r0 (.cons r0 (.cons r0 (.cons r0 (.cons r0 (.cons r0 (.cons r0 .nil))))))))) lk6 ⟨hy6_0_0, (si hl6).symm⟩
 rintro ⟨t6, at6_0_0, ct6_0_0, mt6_0_1⟩ Kt6 lt6 ⟨ht6_0_0, rfl⟩ j6
 replace hm := elg hm
 obtain rfl := si hm
 conv => whnf
 refine EndStep.mk _ ((((((lt0.trans lt901).trans l80).trans lt2).trans ld6_0).trans ld6_1).trans lt6) ⟨rfl, rfl⟩ (ConvH.of (.cons r7 .nil))
