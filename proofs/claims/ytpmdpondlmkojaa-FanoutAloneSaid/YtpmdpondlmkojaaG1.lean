/- Functions of the program: mirrors, and that a call returns what the mirror says. Printed by gen.py. -/
import Derived.Test.YtpmdpondlmkojaaSL18
import Derived.KernelRfl
import Derived.Test.YtpmdpondlmkojaaProg
set_option linter.unusedVariables false
set_option linter.unusedSimpArgs false
open Go Go.SL Go.Proofs
set_option maxRecDepth 30000
structure S_law28_Step where
  What : UInt8
  ID : Int
  N : Int
  Data : Str
def S_law28_Step.R : Rp S_law28_Step := fun K cs x => ∃ a_0 : Option Addr, ∃ c_0 : Nat, cs = [.int .u8 (x.What.toNat : Int), .int .i64 x.ID, .int .i64 x.N, .slice a_0 x.Data.length c_0] ∧ RdC eU K a_0 c_0 1 x.Data
theorem S_law28_Step.R_ok : RpOK 4 S_law28_Step.R :=
  ⟨fun hk ⟨a_0, c_0, e, h_0⟩ => ⟨a_0, c_0, e, (h_0.mono hk)⟩, fun ⟨a_0, c_0, e, h_0⟩ => by simp [e], fun ⟨a_0, c_0, e, h_0⟩ v hv => by rw [e] at hv; simp at hv; rcases hv with rfl | rfl | rfl | rfl <;> rfl⟩
structure S_fanout_Stream where
  limit : Int
  state : Int
  data : Str
  offsets : (List (Int × Int))
theorem elT22 : ElT Try.prog 22 5 1 := ElT.mk' rfl rfl rfl rfl rfl
noncomputable def law28_large_L0 : List S_law28_Step → Nat → Int → Option (Int)
  | [], _, y0_0 => some y0_0
  | e0 :: xs0, i0, y0_0 =>
    law28_large_L0 xs0 (i0 + 1) (IntKind.i64.wrap (y0_0 + (e0.Data.length : Int)))
noncomputable def law28_large (script : (List S_law28_Step)) : Option (Bool) :=
  (chk (script.length ≤ szMax)).bind fun _ =>
  (law28_large_L0 script 0 (script.length : Int)).bind fun t0 =>
  some (decide (t0 > 3000) || decide ((script.length : Int) > 80))
set_option maxHeartbeats 8000000 in
theorem law28_large_ok {script : (List S_law28_Step)} {ap0_0 : Option Addr} {cp0_0 : Nat} {n0 : Nat} {K : Hp} {r : Bool}
    (hm : law28_large script = some r) (hp0_0 : LiC S_law28_Step.R K ap0_0 cp0_0 4 script) (en0 : n0 = script.length) :
    Fn Try.prog 21 [.slice ap0_0 n0 cp0_0] K [] (fun v K' H' => v = .bool r ∧ H' = []) := by
  subst en0
  refine Fn.enter Try.func21 Try.call21 rfl fun F => ?_
  unfold law28_large at hm
  conv => whnf
  refine RStep.of (len_slice rfl ?_)
  conv => whnf
  refine RStep.of (len_slice rfl ?_)
  obtain ⟨hk0, hm⟩ := chkb hm
  obtain ⟨s0, hl0, hm⟩ := bnd hm
  conv => whnf
  refine code_cut (σ := (Int)) [3, 5, 10, 11, 12, 13, 14, 15, 16, 17, 18, 19] (fun t0 => [(3, .int .i64 t0)]) (fun t0 => [F]) (fun zz K1 => match zz with | t0 => t0 = s0) ?_ ?_
  · refine block_go rfl ?_
    conv => whnf
    refine loop_rule (σ := Nat × Int) [3, 5, 10, 11, 12, 13, 14, 15, 16, 17, 18, 19] (fun (i0, y0_0) => [(10, .int .i64 (i0 : Int)), (3, .int .i64 y0_0)]) (fun (i0, y0_0) => [F]) (fun zz K1 => match zz with | (i0, y0_0) => law28_large_L0 (script.drop i0) i0 y0_0 = some s0) (fun zz => script.length - zz.1) (0, (script.length : Int)) rfl ⟨rfl, rfl, trivial⟩ (ConvH.of (.cons r0 .nil)) hl0 ?_
    clear hl0
    rintro ⟨i0, y0_0⟩ Kb0 lk0 hl0 j0
    conv at hl0 => whnf
    conv => whnf
    refine cond_go rfl ?_
    conv => whnf
    refine cond_s (fun w0 => ?_) (fun w0 => ?_)
    · obtain ⟨e0, hx0, hd0⟩ := ltx w0
      rw [hd0, law28_large_L0.eq_2] at hl0
      conv => whnf
      refine block_go rfl ?_
      conv => whnf
      refine RStep.ofN (index_addr rfl rfl (hasR (LiC.mono S_law28_Step.R_ok lk0 hp0_0).rd hx0) (nn _) (lt_ofN hx0) ?_)
      obtain ⟨ss13, cc13, hr13, hc13, hR13⟩ := LiR.get (LiC.mono S_law28_Step.R_ok lk0 hp0_0).rd hx0
      obtain ⟨a13_0, c13_0, rfl, h13_0⟩ := hR13
      conv => whnf
      refine RStep.of (load_rd_agg i0 _ hr13 rfl hc13 rfl ?_)
      conv => whnf
      refine alloc_rule rfl ?_
      intro b5
      conv => whnf
      refine store_rule r0 rfl ?_
      conv => whnf
      refine ⟨rfl, rfl, (Nat.le_of_ble_eq_true rfl), ?_⟩
      conv => whnf
      refine field_addr rfl ?_
      conv => whnf
      refine RStep.of (load1_s r0 rfl rfl ?_)
      conv => whnf
      refine RStep.of (len_slice rfl ?_)
      conv => whnf
      refine int_wrap ?_
      conv => whnf
      refine int_in (cntz hx0 hk0) ?_
      conv => whnf
      refine RoundStep.mk (i0 + 1, (IntKind.i64.wrap (y0_0 + (e0.Data.length : Int)))) ⟨rfl, rfl, trivial⟩ (by repeat (first | exact trivial | refine And.intro rfl ?_)) (ConvH.of (.cons r1 .nil)) lk0 (ltm hx0) hl0
    · rw [lty w0, law28_large_L0.eq_1] at hl0
      conv => whnf
      refine cond_T ?_
      conv => whnf
      refine MeetStep.mk (y0_0) ⟨rfl, trivial⟩ (by repeat (first | exact trivial | refine And.intro rfl ?_)) (ConvH.of (.cons r0 .nil)) lk0 (si hl0)
  · rintro t0 Kt0 lt0 rfl j0
    conv => whnf
    refine cond_s (fun g22_7 => ?_) (fun g22_7 => ?_)
    · conv => whnf
      refine cond_t g22_7 ?_
      conv => whnf
      refine cond_t g22_7 ?_
      conv => whnf
      refine cond_t g22_7 ?_
      obtain rfl := si hm
      conv => whnf
      refine EndStep.mk _ lt0 ⟨(by rw [← ((or_t g22_7)).symm] <;> rfl), rfl⟩ (ConvH.of (.cons r0 .nil))
    · conv => whnf
      refine cond_f g22_7 ?_
      conv => whnf
      refine RStep.of (len_slice rfl ?_)
      conv => whnf
      refine cond_f g22_7 ?_
      conv => whnf
      refine cond_f g22_7 ?_
      obtain rfl := si hm
      conv => whnf
      refine EndStep.mk _ lt0 ⟨(by rw [← (or_e (b := decide ((script.length : Int) > 80)) g22_7)] <;> rfl), rfl⟩ (ConvH.of (.cons r0 .nil))

noncomputable def fanout_New (limit : Int) : Option (Option S_fanout_Stream × Err) :=
  if (decide (limit < 1) || decide (limit > 65536)) then
  some (none, (some 1))
  else
  some ((some (⟨limit, 1, [], []⟩ : S_fanout_Stream)), none)
set_option maxHeartbeats 8000000 in
theorem fanout_New_ok {limit : Int} {K : Hp} {r : Option S_fanout_Stream × Err}
    (hm : fanout_New limit = some r)  :
    Fn Try.prog 11 [.int .i64 limit] K [] (fun v K' H' => match r.1 with | none => (v = .tuple #[.pointer none, errV 44 r.2] ∧ H' = []) | some ro => (∃ br_0 : Nat, ∃ ar_1 : Option Addr, ∃ cr_1 : Nat, ∃ mr_2 : Nat, v = .tuple #[.pointer (some ⟨br_0, 0, none⟩), errV 44 r.2] ∧ (0 < ro.data.length → Has ar_1) ∧ H' = [Cells br_0 77 [.int .i64 ro.limit, .int .i64 ro.state, .slice ar_1 ro.data.length cr_1, .map (some mr_2)], OwnL eU ar_1 5 1 cr_1 ro.data, MapE intK (fun x => .int .i64 x) mr_2 ro.offsets])) := by
  refine Fn.enter Try.func11 Try.call11 rfl fun F => ?_
  unfold fanout_New at hm
  conv => whnf
  refine cond_s (fun g6_1 => ?_) (fun g6_1 => ?_)
  · conv => whnf
    refine cond_t g6_1 ?_
    conv => whnf
    refine cond_t g6_1 ?_
    conv => whnf
    refine cond_go rfl ?_
    conv => whnf
    refine cond_T ?_
    replace hm := ift (or_t g6_1) hm
    conv => whnf
    refine mk_iface rfl ?_
    obtain rfl := si hm
    conv => whnf
    refine EndStep.mk _ (Hp.Le.refl _) ⟨rfl, rfl⟩ (ConvH.of (.cons r0 .nil))
  · conv => whnf
    refine cond_f g6_1 ?_
    conv => whnf
    refine cond_f g6_1 ?_
    conv => whnf
    refine cond_go rfl ?_
    conv => whnf
    refine cond_s (fun w9 => ?_) (fun w9 => ?_)
    · replace hm := ift (or_u g6_1 w9) hm
      conv => whnf
      refine mk_iface rfl ?_
      obtain rfl := si hm
      conv => whnf
      refine EndStep.mk _ (Hp.Le.refl _) ⟨rfl, rfl⟩ (ConvH.of (.cons r0 .nil))
    · replace hm := iff_ (or_f g6_1 w9) hm
      conv => whnf
      refine makeMap_rule intK (fun x => .int .i64 x) fun b12 => ?_
      conv => whnf
      refine build_struct rfl rfl ?_
      conv => whnf
      refine cond_T ?_
      conv => whnf
      refine cond_T ?_
      conv => whnf
      refine cond_T ?_
      conv => whnf
      refine box_rule ?_
      intro b14
      obtain rfl := si hm
      conv => whnf
      refine nilE eU 5 1 ?_
      refine EndStep.mk _ (Hp.Le.refl _) ⟨b14, none, 0, b12, rfl, (fun h => by simp at h), rfl⟩ (ConvH.of (.cons r1 (.cons r0 (.cons r0 (.cons r0 .nil)))))

noncomputable def fanout_Stream_open (s : S_fanout_Stream) : Option (Err) :=
  if decide (s.state ≠ 1) then
  some (some 6)
  else
  some none
set_option maxHeartbeats 8000000 in
theorem fanout_Stream_open_ok {s : S_fanout_Stream} {b0 : Nat} {ap0_0 : Option Addr} {cp0_0 : Nat} {mp0_1 : Nat} {K : Hp} {r : Err}
    (hm : fanout_Stream_open s = some r) (hp0_0 : (0 < s.data.length → Has ap0_0)) :
    Fn Try.prog 36 [.pointer (some ⟨b0, 0, none⟩)] K [Cells b0 77 [.int .i64 s.limit, .int .i64 s.state, .slice ap0_0 s.data.length cp0_0, .map (some mp0_1)], OwnL eU ap0_0 5 1 cp0_0 s.data, MapE intK (fun x => .int .i64 x) mp0_1 s.offsets] (fun v K' H' => v = errV 44 r ∧ H' = [Cells b0 77 [.int .i64 s.limit, .int .i64 s.state, .slice ap0_0 s.data.length cp0_0, .map (some mp0_1)], OwnL eU ap0_0 5 1 cp0_0 s.data, MapE intK (fun x => .int .i64 x) mp0_1 s.offsets]) := by
  refine Fn.enter Try.func36 Try.call36 rfl fun F => ?_
  unfold fanout_Stream_open at hm
  conv => whnf
  refine block_go rfl ?_
  conv => whnf
  refine eq_ptr_nil rfl ?_
  conv => whnf
  refine cond_go rfl ?_
  conv => whnf
  refine cond_F ?_
  conv => whnf
  refine nil_check ?_
  conv => whnf
  refine field_addr rfl ?_
  conv => whnf
  refine RStep.of (load1_s r0 rfl rfl ?_)
  conv => whnf
  refine neq_int ?_
  conv => whnf
  refine cond_go rfl ?_
  conv => whnf
  refine cond_s (fun w7 => ?_) (fun w7 => ?_)
  · replace hm := ift w7 hm
    conv => whnf
    refine mk_iface rfl ?_
    obtain rfl := si hm
    conv => whnf
    refine EndStep.mk _ (Hp.Le.refl _) ⟨rfl, rfl⟩ (ConvH.of (.cons r0 (.cons r0 (.cons r0 (.cons r0 .nil)))))
  · replace hm := iff_ w7 hm
    obtain rfl := si hm
    conv => whnf
    refine EndStep.mk _ (Hp.Le.refl _) ⟨rfl, rfl⟩ (ConvH.of (.cons r0 (.cons r0 (.cons r0 (.cons r0 .nil)))))

noncomputable def fanout_Stream_Write (s : S_fanout_Stream) (b : Str) : Option (Err × S_fanout_Stream) :=
  (fanout_Stream_open s).bind fun x7 =>
  if x7.isSome then
  some (x7, s)
  else
  (chk (InI ((s.data.length : Int) + (b.length : Int)))).bind fun _ =>
  if decide (((s.data.length : Int) + (b.length : Int)) > s.limit) then
  some ((some 5), s)
  else
  (chk (s.data.length + b.length ≤ lim)).bind fun _ =>
  some (none, (⟨s.limit, s.state, (s.data ++ b), s.offsets⟩ : S_fanout_Stream))
set_option maxHeartbeats 8000000 in
theorem fanout_Stream_Write_ok {s : S_fanout_Stream} {b : Str} {b0 : Nat} {ap0_0 : Option Addr} {cp0_0 : Nat} {mp0_1 : Nat} {ap1_0 : Option Addr} {cp1_0 : Nat} {n1 : Nat} {K : Hp} {r : Err × S_fanout_Stream}
    (hm : fanout_Stream_Write s b = some r) (hp0_0 : (0 < s.data.length → Has ap0_0)) (hp1_0 : RdC eU K ap1_0 cp1_0 1 b) (en1 : n1 = b.length) :
    Fn Try.prog 12 [.pointer (some ⟨b0, 0, none⟩), .slice ap1_0 n1 cp1_0] K [Cells b0 77 [.int .i64 s.limit, .int .i64 s.state, .slice ap0_0 s.data.length cp0_0, .map (some mp0_1)], OwnL eU ap0_0 5 1 cp0_0 s.data, MapE intK (fun x => .int .i64 x) mp0_1 s.offsets] (fun v K' H' => ∃ ar_0 : Option Addr, ∃ cr_0 : Nat, ∃ mr_1 : Nat, v = errV 44 r.1 ∧ (0 < r.2.data.length → Has ar_0) ∧ H' = [Cells b0 77 [.int .i64 r.2.limit, .int .i64 r.2.state, .slice ar_0 r.2.data.length cr_0, .map (some mr_1)], OwnL eU ar_0 5 1 cr_0 r.2.data, MapE intK (fun x => .int .i64 x) mr_1 r.2.offsets]) := by
  subst en1
  refine Fn.enter Try.func12 Try.call12 rfl fun F => ?_
  unfold fanout_Stream_Write at hm
  obtain ⟨x7, q7, hm⟩ := bnd hm
  conv => whnf
  refine call_fn (fanout_Stream_open_ok q7 hp0_0) (.cons r0 (.cons r0 (.cons r0 .nil))) ?_
  rintro _ K7 _ l7 ⟨rfl, rfl⟩
  conv => whnf
  refine neq_err rfl ?_
  conv => whnf
  refine cond_go rfl ?_
  conv => whnf
  refine cond_s (fun w9 => ?_) (fun w9 => ?_)
  · replace hm := ift w9 hm
    obtain rfl := si hm
    conv => whnf
    refine EndStep.mk _ l7 ⟨ap0_0, cp0_0, mp0_1, rfl, hp0_0, rfl⟩ (ConvH.of (.cons r0 (.cons r0 (.cons r0 (.cons r0 .nil)))))
  · replace hm := iff_ w9 hm
    conv => whnf
    refine ⟨⟨⟨[], false⟩, _, [(_, _)]⟩, by kernel_rfl, ⟨Hp.Le.refl _, (ConvH.of (.cons r0 .nil))⟩, ?_⟩
    conv => whnf
    refine nil_check ?_
    conv => whnf
    refine field_addr rfl ?_
    conv => whnf
    refine load1_l m0 rfl rfl ?_
    conv => whnf
    refine len_slice rfl ?_
    conv => whnf
    refine len_slice rfl ?_
    obtain ⟨h18, hm⟩ := chkb hm
    conv => whnf
    refine int_in h18 ?_
    conv => whnf
    refine nil_check ?_
    conv => whnf
    refine field_addr rfl ?_
    conv => whnf
    refine load1_l m0 rfl rfl ?_
    conv => whnf
    refine cond_go rfl ?_
    conv => whnf
    refine cond_s (fun w23 => ?_) (fun w23 => ?_)
    · replace hm := ift w23 hm
      conv => whnf
      refine mk_iface rfl ?_
      obtain rfl := si hm
      conv => whnf
      refine EndStep.mk _ l7 ⟨ap0_0, cp0_0, mp0_1, rfl, hp0_0, rfl⟩ (ConvH.of (.cons r0 (.cons r0 (.cons r0 (.cons r0 .nil)))))
    · replace hm := iff_ w23 hm
      conv => whnf
      refine nil_check ?_
      conv => whnf
      refine field_addr rfl ?_
      conv => whnf
      refine RStep.of (load1_s r0 rfl rfl ?_)
      obtain ⟨h31, hm⟩ := chkb hm
      conv => whnf
      refine apE rfl r1 elT22 (src_k rfl (hp1_0.mono l7).rd rfl) h31 ?_
      intro a31 c31 o31
      conv => whnf
      refine nil_check ?_
      conv => whnf
      refine field_addr rfl ?_
      conv => whnf
      refine store_rule r1 rfl ?_
      conv => whnf
      refine ⟨rfl, rfl, (Nat.le_of_ble_eq_true rfl), ?_⟩
      obtain rfl := si hm
      conv => whnf
      refine EndStep.mk _ l7 ⟨a31, c31, mp0_1, rfl, o31, rfl⟩ (ConvH.of (.cons r0 (.cons r0 (.cons r0 (.cons r0 .nil)))))

noncomputable def fanout_Stream_open_nil : Option (Err) :=
  some (some 3)
set_option maxHeartbeats 8000000 in
theorem fanout_Stream_open_nil_ok  {K : Hp} {r : Err}
    (hm : fanout_Stream_open_nil = some r)  :
    Fn Try.prog 36 [.pointer none] K [] (fun v K' H' => v = errV 44 r ∧ H' = []) := by
  refine Fn.enter Try.func36 Try.call36 rfl fun F => ?_
  unfold fanout_Stream_open_nil at hm
  conv => whnf
  refine block_go rfl ?_
  conv => whnf
  refine eq_nil_nil rfl ?_
  conv => whnf
  refine cond_go rfl ?_
  conv => whnf
  refine cond_T ?_
  conv => whnf
  refine mk_iface rfl ?_
  obtain rfl := si hm
  conv => whnf
  refine EndStep.mk _ (Hp.Le.refl _) ⟨rfl, rfl⟩ (ConvH.of (.cons r0 .nil))

noncomputable def fanout_Stream_Write_nil (b : Str) : Option (Err) :=
  (fanout_Stream_open_nil).bind fun x7 =>
  if x7.isSome then
  some x7
  else
  none
set_option maxHeartbeats 8000000 in
theorem fanout_Stream_Write_nil_ok {b : Str} {ap1_0 : Option Addr} {cp1_0 : Nat} {n1 : Nat} {K : Hp} {r : Err}
    (hm : fanout_Stream_Write_nil b = some r) (hp1_0 : RdC eU K ap1_0 cp1_0 1 b) (en1 : n1 = b.length) :
    Fn Try.prog 12 [.pointer none, .slice ap1_0 n1 cp1_0] K [] (fun v K' H' => v = errV 44 r ∧ H' = []) := by
  subst en1
  refine Fn.enter Try.func12 Try.call12 rfl fun F => ?_
  unfold fanout_Stream_Write_nil at hm
  obtain ⟨x7, q7, hm⟩ := bnd hm
  conv => whnf
  refine call_fn (fanout_Stream_open_nil_ok q7) .nil ?_
  rintro _ K7 _ l7 ⟨rfl, rfl⟩
  conv => whnf
  refine neq_err rfl ?_
  conv => whnf
  refine cond_go rfl ?_
  conv => whnf
  refine cond_s (fun w9 => ?_) (fun w9 => ?_)
  · replace hm := ift w9 hm
    obtain rfl := si hm
    conv => whnf
    refine EndStep.mk _ l7 ⟨rfl, rfl⟩ (ConvH.of (.cons r0 .nil))
  · replace hm := iff_ w9 hm
    conv => whnf
    refine ⟨⟨⟨[], false⟩, _, []⟩, by kernel_rfl, ⟨Hp.Le.refl _, (ConvH.of .nil)⟩, ?_⟩
    cases hm

noncomputable def fanout_Stream_Attach (s : S_fanout_Stream) (id : Int) (fromZ : Int) : Option (Err × S_fanout_Stream) :=
  if (mget s.offsets id).isSome then
  some ((some 4), s)
  else
  if (decide (fromZ < 0) || decide (fromZ > (s.data.length : Int))) then
  some ((some 1), s)
  else
  some (none, (⟨s.limit, s.state, s.data, (mset s.offsets id fromZ)⟩ : S_fanout_Stream))
set_option maxHeartbeats 8000000 in
theorem fanout_Stream_Attach_ok {s : S_fanout_Stream} {id : Int} {fromZ : Int} {b0 : Nat} {ap0_0 : Option Addr} {cp0_0 : Nat} {mp0_1 : Nat} {K : Hp} {r : Err × S_fanout_Stream}
    (hm : fanout_Stream_Attach s id fromZ = some r) (hp0_0 : (0 < s.data.length → Has ap0_0)) :
    Fn Try.prog 13 [.pointer (some ⟨b0, 0, none⟩), .int .i64 id, .int .i64 fromZ] K [Cells b0 77 [.int .i64 s.limit, .int .i64 s.state, .slice ap0_0 s.data.length cp0_0, .map (some mp0_1)], OwnL eU ap0_0 5 1 cp0_0 s.data, MapE intK (fun x => .int .i64 x) mp0_1 s.offsets] (fun v K' H' => ∃ ar_0 : Option Addr, ∃ cr_0 : Nat, ∃ mr_1 : Nat, v = errV 44 r.1 ∧ (0 < r.2.data.length → Has ar_0) ∧ H' = [Cells b0 77 [.int .i64 r.2.limit, .int .i64 r.2.state, .slice ar_0 r.2.data.length cr_0, .map (some mr_1)], OwnL eU ar_0 5 1 cr_0 r.2.data, MapE intK (fun x => .int .i64 x) mr_1 r.2.offsets]) := by
  refine Fn.enter Try.func13 Try.call13 rfl fun F => ?_
  unfold fanout_Stream_Attach at hm
  conv => whnf
  refine eq_ptr_nil rfl ?_
  conv => whnf
  refine cond_go rfl ?_
  conv => whnf
  refine cond_F ?_
  conv => whnf
  refine nil_check ?_
  conv => whnf
  refine field_addr rfl ?_
  conv => whnf
  refine RStep.of (load1_s r0 rfl rfl ?_)
  conv => whnf
  refine RStep.of (lookup_ok (kenc := intK) (venc := (fun x => .int .i64 x)) (z := 0) r2 rfl rfl (key_int rfl) ?_)
  conv => whnf
  refine cond_go rfl ?_
  conv => whnf
  refine cond_s (fun w21 => ?_) (fun w21 => ?_)
  · replace hm := ift w21 hm
    conv => whnf
    refine mk_iface rfl ?_
    obtain rfl := si hm
    conv => whnf
    refine EndStep.mk _ (Hp.Le.refl _) ⟨ap0_0, cp0_0, mp0_1, rfl, hp0_0, rfl⟩ (ConvH.of (.cons r0 (.cons r0 (.cons r0 (.cons r0 .nil)))))
  · replace hm := iff_ w21 hm
    conv => whnf
    refine cond_s (fun g25_6 => ?_) (fun g25_6 => ?_)
    · conv => whnf
      refine cond_t g25_6 ?_
      conv => whnf
      refine cond_t g25_6 ?_
      conv => whnf
      refine cond_t g25_6 ?_
      conv => whnf
      refine cond_t g25_6 ?_
      conv => whnf
      refine cond_t g25_6 ?_
      conv => whnf
      refine cond_t g25_6 ?_
      conv => whnf
      refine cond_t g25_6 ?_
      conv => whnf
      refine cond_go rfl ?_
      conv => whnf
      refine cond_T ?_
      replace hm := ift (or_t g25_6) hm
      conv => whnf
      refine mk_iface rfl ?_
      obtain rfl := si hm
      conv => whnf
      refine EndStep.mk _ (Hp.Le.refl _) ⟨ap0_0, cp0_0, mp0_1, rfl, hp0_0, rfl⟩ (ConvH.of (.cons r0 (.cons r0 (.cons r0 (.cons r0 .nil)))))
    · conv => whnf
      refine cond_f g25_6 ?_
      conv => whnf
      refine cond_f g25_6 ?_
      conv => whnf
      refine nil_check ?_
      conv => whnf
      refine cond_f g25_6 ?_
      conv => whnf
      refine field_addr rfl ?_
      conv => whnf
      refine cond_f g25_6 ?_
      conv => whnf
      refine RStep.of (load1_s r0 rfl rfl ?_)
      conv => whnf
      refine cond_f g25_6 ?_
      conv => whnf
      refine RStep.of (len_slice rfl ?_)
      conv => whnf
      refine cond_f g25_6 ?_
      conv => whnf
      refine cond_f g25_6 ?_
      conv => whnf
      refine cond_go rfl ?_
      conv => whnf
      refine cond_s (fun w33 => ?_) (fun w33 => ?_)
      · replace hm := ift (or_u g25_6 w33) hm
        conv => whnf
        refine mk_iface rfl ?_
        obtain rfl := si hm
        conv => whnf
        refine EndStep.mk _ (Hp.Le.refl _) ⟨ap0_0, cp0_0, mp0_1, rfl, hp0_0, rfl⟩ (ConvH.of (.cons r0 (.cons r0 (.cons r0 (.cons r0 .nil)))))
      · replace hm := iff_ (or_f g25_6 w33) hm
        conv => whnf
        refine nil_check ?_
        conv => whnf
        refine field_addr rfl ?_
        conv => whnf
        refine RStep.of (load1_s r0 rfl rfl ?_)
        conv => whnf
        refine update_rule (kenc := intK) (venc := (fun x => .int .i64 x)) fromZ rfl r2 rfl (key_int rfl) ?_
        obtain rfl := si hm
        conv => whnf
        refine EndStep.mk _ (Hp.Le.refl _) ⟨ap0_0, cp0_0, mp0_1, rfl, hp0_0, rfl⟩ (ConvH.of (.cons r1 (.cons r1 (.cons r0 (.cons r0 .nil)))))

noncomputable def fanout_Stream_Attach_nil (id : Int) (fromZ : Int) : Option (Err) :=
  some (some 3)
set_option maxHeartbeats 8000000 in
theorem fanout_Stream_Attach_nil_ok {id : Int} {fromZ : Int} {K : Hp} {r : Err}
    (hm : fanout_Stream_Attach_nil id fromZ = some r)  :
    Fn Try.prog 13 [.pointer none, .int .i64 id, .int .i64 fromZ] K [] (fun v K' H' => v = errV 44 r ∧ H' = []) := by
  refine Fn.enter Try.func13 Try.call13 rfl fun F => ?_
  unfold fanout_Stream_Attach_nil at hm
  conv => whnf
  refine eq_nil_nil rfl ?_
  conv => whnf
  refine cond_go rfl ?_
  conv => whnf
  refine cond_T ?_
  conv => whnf
  refine mk_iface rfl ?_
  obtain rfl := si hm
  conv => whnf
  refine EndStep.mk _ (Hp.Le.refl _) ⟨rfl, rfl⟩ (ConvH.of (.cons r0 .nil))

noncomputable def fanout_Stream_Read_nil (id : Int) (max : Int) : Option (Str × Int × Err) :=
  some ([], 0, (some 3))
set_option maxHeartbeats 8000000 in
theorem fanout_Stream_Read_nil_ok {id : Int} {max : Int} {K : Hp} {r : Str × Int × Err}
    (hm : fanout_Stream_Read_nil id max = some r)  :
    Fn Try.prog 14 [.pointer none, .int .i64 id, .int .i64 max] K [] (fun v K' H' => ∃ ar_0 : Option Addr, ∃ cr_0 : Nat, v = .tuple #[.slice ar_0 r.1.length cr_0, .int .i64 r.2.1, errV 44 r.2.2] ∧ (0 < r.1.length → Has ar_0) ∧ H' = [OwnL eU ar_0 5 1 cr_0 r.1]) := by
  refine Fn.enter Try.func14 Try.call14 rfl fun F => ?_
  unfold fanout_Stream_Read_nil at hm
  conv => whnf
  refine eq_nil_nil rfl ?_
  conv => whnf
  refine cond_go rfl ?_
  conv => whnf
  refine cond_T ?_
  conv => whnf
  refine mk_iface rfl ?_
  obtain rfl := si hm
  conv => whnf
  refine nilE eU 5 1 ?_
  refine EndStep.mk _ (Hp.Le.refl _) ⟨none, 0, rfl, (fun h => by simp at h), rfl⟩ (ConvH.of (.cons r0 (.cons r0 .nil)))

noncomputable def fanout_Stream_Read (s : S_fanout_Stream) (id : Int) (max : Int) : Option (Str × Int × Err × S_fanout_Stream) :=
  if (!(mget s.offsets id).isSome) then
  some ([], 0, (some 3), s)
  else
  if decide (s.state = 3) then
  some ([], 3, none, s)
  else
  if decide (max > 0) then
  (chk (InI ((s.data.length : Int) - ((mget s.offsets id).getD 0)))).bind fun _ =>
  (chk (InI (((mget s.offsets id).getD 0) + (min max ((s.data.length : Int) - ((mget s.offsets id).getD 0)))))).bind fun _ =>
  (chk (0 ≤ ((mget s.offsets id).getD 0) ∧ ((mget s.offsets id).getD 0) ≤ (((mget s.offsets id).getD 0) + (min max ((s.data.length : Int) - ((mget s.offsets id).getD 0)))) ∧ (((mget s.offsets id).getD 0) + (min max ((s.data.length : Int) - ((mget s.offsets id).getD 0)))) ≤ (s.data.length : Int))).bind fun _ =>
  (chk ((subL s.data ((mget s.offsets id).getD 0) (((mget s.offsets id).getD 0) + (min max ((s.data.length : Int) - ((mget s.offsets id).getD 0))))).length ≤ lim)).bind fun _ =>
  (chk (InI (((mget s.offsets id).getD 0) + (((subL s.data ((mget s.offsets id).getD 0) (((mget s.offsets id).getD 0) + (min max ((s.data.length : Int) - ((mget s.offsets id).getD 0))))).length) : Int)))).bind fun _ =>
  if (decide (s.state = 2) && decide ((((mget s.offsets id).getD 0) + (((subL s.data ((mget s.offsets id).getD 0) (((mget s.offsets id).getD 0) + (min max ((s.data.length : Int) - ((mget s.offsets id).getD 0))))).length) : Int)) = (s.data.length : Int))) then
  some ((subL s.data ((mget s.offsets id).getD 0) (((mget s.offsets id).getD 0) + (min max ((s.data.length : Int) - ((mget s.offsets id).getD 0))))), 2, none, (⟨s.limit, s.state, s.data, (mset s.offsets id (((mget s.offsets id).getD 0) + (((subL s.data ((mget s.offsets id).getD 0) (((mget s.offsets id).getD 0) + (min max ((s.data.length : Int) - ((mget s.offsets id).getD 0))))).length) : Int)))⟩ : S_fanout_Stream))
  else
  some ((subL s.data ((mget s.offsets id).getD 0) (((mget s.offsets id).getD 0) + (min max ((s.data.length : Int) - ((mget s.offsets id).getD 0))))), 1, none, (⟨s.limit, s.state, s.data, (mset s.offsets id (((mget s.offsets id).getD 0) + (((subL s.data ((mget s.offsets id).getD 0) (((mget s.offsets id).getD 0) + (min max ((s.data.length : Int) - ((mget s.offsets id).getD 0))))).length) : Int)))⟩ : S_fanout_Stream))
  else
  (chk (InI (((mget s.offsets id).getD 0) + 0))).bind fun _ =>
  if (decide (s.state = 2) && decide ((((mget s.offsets id).getD 0) + 0) = (s.data.length : Int))) then
  some ([], 2, none, (⟨s.limit, s.state, s.data, (mset s.offsets id (((mget s.offsets id).getD 0) + 0))⟩ : S_fanout_Stream))
  else
  some ([], 1, none, (⟨s.limit, s.state, s.data, (mset s.offsets id (((mget s.offsets id).getD 0) + 0))⟩ : S_fanout_Stream))
set_option maxHeartbeats 8000000 in
theorem fanout_Stream_Read_ok {s : S_fanout_Stream} {id : Int} {max : Int} {b0 : Nat} {ap0_0 : Option Addr} {cp0_0 : Nat} {mp0_1 : Nat} {K : Hp} {r : Str × Int × Err × S_fanout_Stream}
    (hm : fanout_Stream_Read s id max = some r) (hp0_0 : (0 < s.data.length → Has ap0_0)) :
    Fn Try.prog 14 [.pointer (some ⟨b0, 0, none⟩), .int .i64 id, .int .i64 max] K [Cells b0 77 [.int .i64 s.limit, .int .i64 s.state, .slice ap0_0 s.data.length cp0_0, .map (some mp0_1)], OwnL eU ap0_0 5 1 cp0_0 s.data, MapE intK (fun x => .int .i64 x) mp0_1 s.offsets] (fun v K' H' => ∃ ar_0 : Option Addr, ∃ cr_0 : Nat, ∃ ar_1 : Option Addr, ∃ cr_1 : Nat, ∃ mr_2 : Nat, v = .tuple #[.slice ar_0 r.1.length cr_0, .int .i64 r.2.1, errV 44 r.2.2.1] ∧ (0 < r.1.length → Has ar_0) ∧ (0 < r.2.2.2.data.length → Has ar_1) ∧ H' = [OwnL eU ar_0 5 1 cr_0 r.1, Cells b0 77 [.int .i64 r.2.2.2.limit, .int .i64 r.2.2.2.state, .slice ar_1 r.2.2.2.data.length cr_1, .map (some mr_2)], OwnL eU ar_1 5 1 cr_1 r.2.2.2.data, MapE intK (fun x => .int .i64 x) mr_2 r.2.2.2.offsets]) := by
  refine Fn.enter Try.func14 Try.call14 rfl fun F => ?_
  unfold fanout_Stream_Read at hm
  conv => whnf
  refine eq_ptr_nil rfl ?_
  conv => whnf
  refine cond_go rfl ?_
  conv => whnf
  refine cond_F ?_
  conv => whnf
  refine nil_check ?_
  conv => whnf
  refine field_addr rfl ?_
  conv => whnf
  refine RStep.of (load1_s r0 rfl rfl ?_)
  conv => whnf
  refine RStep.of (lookup_ok (kenc := intK) (venc := (fun x => .int .i64 x)) (z := 0) r2 rfl rfl (key_int rfl) ?_)
  conv => whnf
  refine un_not ?_
  conv => whnf
  refine cond_go rfl ?_
  conv => whnf
  refine cond_s (fun w25 => ?_) (fun w25 => ?_)
  · replace hm := ift (not_t (ni_t w25)) hm
    conv => whnf
    refine mk_iface rfl ?_
    obtain rfl := si hm
    conv => whnf
    refine nilE eU 5 1 ?_
    refine EndStep.mk _ (Hp.Le.refl _) ⟨none, 0, ap0_0, cp0_0, mp0_1, rfl, (fun h => by simp at h), hp0_0, rfl⟩ (ConvH.of (.cons r0 (.cons r0 (.cons r0 (.cons r0 (.cons r0 .nil))))))
  · replace hm := iff_ (not_f (ni_f w25)) hm
    conv => whnf
    refine nil_check ?_
    conv => whnf
    refine field_addr rfl ?_
    conv => whnf
    refine RStep.of (load1_s r0 rfl rfl ?_)
    conv => whnf
    refine eq_int ?_
    conv => whnf
    refine cond_go rfl ?_
    conv => whnf
    refine cond_s (fun w31 => ?_) (fun w31 => ?_)
    · replace hm := ift w31 hm
      obtain rfl := si hm
      conv => whnf
      refine nilE eU 5 1 ?_
      refine EndStep.mk _ (Hp.Le.refl _) ⟨none, 0, ap0_0, cp0_0, mp0_1, rfl, (fun h => by simp at h), hp0_0, rfl⟩ (ConvH.of (.cons r0 (.cons r0 (.cons r0 (.cons r0 (.cons r0 .nil))))))
    · replace hm := iff_ w31 hm
      conv => whnf
      refine CStep.ownLe r1 fun hc3 => ?_
      conv => whnf
      refine cond_go rfl ?_
      conv => whnf
      refine cond_s (fun w33 => ?_) (fun w33 => ?_)
      · replace hm := ift w33 hm
        conv => whnf
        refine ⟨⟨⟨[], false⟩, _, [(_, _)]⟩, by kernel_rfl, ⟨Hp.Le.refl _, (ConvH.of (.cons r0 .nil))⟩, ?_⟩
        conv => whnf
        refine nil_check ?_
        conv => whnf
        refine field_addr rfl ?_
        conv => whnf
        refine load1_l m0 rfl rfl ?_
        conv => whnf
        refine nil_check ?_
        conv => whnf
        refine field_addr rfl ?_
        conv => whnf
        refine load1_l m0 rfl rfl ?_
        conv => whnf
        refine len_slice rfl ?_
        obtain ⟨h48, hm⟩ := chkb hm
        conv => whnf
        refine int_in h48 ?_
        conv => whnf
        refine min_int ?_
        obtain ⟨h50, hm⟩ := chkb hm
        conv => whnf
        refine int_in h50 ?_
        obtain ⟨h51, hm⟩ := chkb hm
        conv => whnf
        refine sl_part (l := s.data) (lo := (some ((mget s.offsets id).getD 0))) (hi := (some (((mget s.offsets id).getD 0) + (min max ((s.data.length : Int) - ((mget s.offsets id).getD 0)))))) rfl rfl rfl hc3 h51 ?_
        obtain ⟨h52, hm⟩ := chkb hm
        conv => whnf
        refine apn (enc := eU) elT22 (src_part rfl r1 h51 rfl (fun _ => rfl) (fun _ => rfl)) h52 ?_
        intro a52 c52 o52
        conv => whnf
        refine ⟨⟨(Hp.Le.refl _), (ConvH.of (.cons r1 .nil))⟩, ?_⟩
        conv => whnf
        refine RStep.of (len_slice rfl ?_)
        obtain ⟨h56, hm⟩ := chkb hm
        conv => whnf
        refine int_in h56 ?_
        conv => whnf
        refine nil_check ?_
        conv => whnf
        refine field_addr rfl ?_
        conv => whnf
        refine RStep.of (load1_s r1 rfl rfl ?_)
        conv => whnf
        refine update_rule (kenc := intK) (venc := (fun x => .int .i64 x)) (((mget s.offsets id).getD 0) + (((subL s.data ((mget s.offsets id).getD 0) (((mget s.offsets id).getD 0) + (min max ((s.data.length : Int) - ((mget s.offsets id).getD 0))))).length) : Int)) rfl r3 rfl (key_int rfl) ?_
        conv => whnf
        refine nil_check ?_
        conv => whnf
        refine field_addr rfl ?_
        conv => whnf
        refine RStep.of (load1_s r2 rfl rfl ?_)
        conv => whnf
        refine eq_int ?_
        conv => whnf
        refine cond_s (fun g68_13 => ?_) (fun g68_13 => ?_)
        · conv => whnf
          refine cond_t g68_13 ?_
          conv => whnf
          refine cond_t g68_13 ?_
          conv => whnf
          refine nil_check ?_
          conv => whnf
          refine cond_t g68_13 ?_
          conv => whnf
          refine field_addr rfl ?_
          conv => whnf
          refine cond_t g68_13 ?_
          conv => whnf
          refine RStep.of (load1_s r2 rfl rfl ?_)
          conv => whnf
          refine cond_t g68_13 ?_
          conv => whnf
          refine RStep.of (len_slice rfl ?_)
          conv => whnf
          refine cond_t g68_13 ?_
          conv => whnf
          refine eq_int ?_
          conv => whnf
          refine cond_t g68_13 ?_
          conv => whnf
          refine cond_go rfl ?_
          conv => whnf
          refine cond_s (fun w76 => ?_) (fun w76 => ?_)
          · replace hm := ift (and_t g68_13 w76) hm
            obtain rfl := si hm
            conv => whnf
            refine EndStep.mk _ (Hp.Le.refl _) ⟨a52, c52, ap0_0, cp0_0, mp0_1, rfl, o52, hp0_0, rfl⟩ (ConvH.of (.cons r1 (.cons r1 (.cons r1 (.cons r0 (.cons r0 .nil))))))
          · replace hm := iff_ (and_g g68_13 w76) hm
            obtain rfl := si hm
            conv => whnf
            refine EndStep.mk _ (Hp.Le.refl _) ⟨a52, c52, ap0_0, cp0_0, mp0_1, rfl, o52, hp0_0, rfl⟩ (ConvH.of (.cons r1 (.cons r1 (.cons r1 (.cons r0 (.cons r0 .nil))))))
        · conv => whnf
          refine cond_f g68_13 ?_
          conv => whnf
          refine cond_f g68_13 ?_
          conv => whnf
          refine cond_f g68_13 ?_
          conv => whnf
          refine cond_f g68_13 ?_
          conv => whnf
          refine cond_f g68_13 ?_
          conv => whnf
          refine cond_f g68_13 ?_
          conv => whnf
          refine cond_f g68_13 ?_
          conv => whnf
          refine cond_go rfl ?_
          conv => whnf
          refine cond_F ?_
          replace hm := iff_ (and_f g68_13) hm
          obtain rfl := si hm
          conv => whnf
          refine EndStep.mk _ (Hp.Le.refl _) ⟨a52, c52, ap0_0, cp0_0, mp0_1, rfl, o52, hp0_0, rfl⟩ (ConvH.of (.cons r1 (.cons r1 (.cons r1 (.cons r0 (.cons r0 .nil))))))
      · replace hm := iff_ w33 hm
        conv => whnf
        refine RStep.of (len_slice rfl ?_)
        obtain ⟨h56, hm⟩ := chkb hm
        conv => whnf
        refine int_in h56 ?_
        conv => whnf
        refine nil_check ?_
        conv => whnf
        refine field_addr rfl ?_
        conv => whnf
        refine RStep.of (load1_s r0 rfl rfl ?_)
        conv => whnf
        refine update_rule (kenc := intK) (venc := (fun x => .int .i64 x)) (((mget s.offsets id).getD 0) + 0) rfl r2 rfl (key_int rfl) ?_
        conv => whnf
        refine nil_check ?_
        conv => whnf
        refine field_addr rfl ?_
        conv => whnf
        refine RStep.of (load1_s r1 rfl rfl ?_)
        conv => whnf
        refine eq_int ?_
        conv => whnf
        refine cond_s (fun g68_13 => ?_) (fun g68_13 => ?_)
        · conv => whnf
          refine cond_t g68_13 ?_
          conv => whnf
          refine cond_t g68_13 ?_
          conv => whnf
          refine nil_check ?_
          conv => whnf
          refine cond_t g68_13 ?_
          conv => whnf
          refine field_addr rfl ?_
          conv => whnf
          refine cond_t g68_13 ?_
          conv => whnf
          refine RStep.of (load1_s r1 rfl rfl ?_)
          conv => whnf
          refine cond_t g68_13 ?_
          conv => whnf
          refine RStep.of (len_slice rfl ?_)
          conv => whnf
          refine cond_t g68_13 ?_
          conv => whnf
          refine eq_int ?_
          conv => whnf
          refine cond_t g68_13 ?_
          conv => whnf
          refine cond_go rfl ?_
          conv => whnf
          refine cond_s (fun w76 => ?_) (fun w76 => ?_)
          · replace hm := ift (and_t g68_13 w76) hm
            obtain rfl := si hm
            conv => whnf
            refine nilE eU 5 1 ?_
            refine EndStep.mk _ (Hp.Le.refl _) ⟨none, 0, ap0_0, cp0_0, mp0_1, rfl, (fun h => by simp at h), hp0_0, rfl⟩ (ConvH.of (.cons r0 (.cons r1 (.cons r1 (.cons r0 (.cons r0 .nil))))))
          · replace hm := iff_ (and_g g68_13 w76) hm
            obtain rfl := si hm
            conv => whnf
            refine nilE eU 5 1 ?_
            refine EndStep.mk _ (Hp.Le.refl _) ⟨none, 0, ap0_0, cp0_0, mp0_1, rfl, (fun h => by simp at h), hp0_0, rfl⟩ (ConvH.of (.cons r0 (.cons r1 (.cons r1 (.cons r0 (.cons r0 .nil))))))
        · conv => whnf
          refine cond_f g68_13 ?_
          conv => whnf
          refine cond_f g68_13 ?_
          conv => whnf
          refine cond_f g68_13 ?_
          conv => whnf
          refine cond_f g68_13 ?_
          conv => whnf
          refine cond_f g68_13 ?_
          conv => whnf
          refine cond_f g68_13 ?_
          conv => whnf
          refine cond_f g68_13 ?_
          conv => whnf
          refine cond_go rfl ?_
          conv => whnf
          refine cond_F ?_
          replace hm := iff_ (and_f g68_13) hm
          obtain rfl := si hm
          conv => whnf
          refine nilE eU 5 1 ?_
          refine EndStep.mk _ (Hp.Le.refl _) ⟨none, 0, ap0_0, cp0_0, mp0_1, rfl, (fun h => by simp at h), hp0_0, rfl⟩ (ConvH.of (.cons r0 (.cons r1 (.cons r1 (.cons r0 (.cons r0 .nil))))))

noncomputable def law28_awake : Option (Bool) :=
  (fanout_New 10).bind fun x6 =>
  Option.elim x6.1 (
  if x6.2.isSome then
  some false
  else
  (fanout_Stream_Write_nil ([(97 : UInt8), (98 : UInt8), (99 : UInt8)] : Str)).bind fun x15 =>
  if x15.isSome then
  some false
  else
  (fanout_Stream_Attach_nil 1 1).bind fun x20 =>
  if x20.isSome then
  some false
  else
  (fanout_Stream_Read_nil 1 9).bind fun x25 =>
  (if x25.2.2.isNone then some (decide (x25.1 = ([98, 99] : Str))) else some false).bind fun x35 =>
  some (x35 && decide (x25.2.1 = 1)))
   fun o6 =>
  if x6.2.isSome then
  some false
  else
  (fanout_Stream_Write o6 ([(97 : UInt8), (98 : UInt8), (99 : UInt8)] : Str)).bind fun x15 =>
  if x15.1.isSome then
  some false
  else
  (fanout_Stream_Attach x15.2 1 1).bind fun x20 =>
  if x20.1.isSome then
  some false
  else
  (fanout_Stream_Read x20.2 1 9).bind fun x25 =>
  (if x25.2.2.1.isNone then some (decide (x25.1 = ([98, 99] : Str))) else some false).bind fun x35 =>
  some (x35 && decide (x25.2.1 = 1))
set_option maxHeartbeats 8000000 in
theorem law28_awake_ok  {K : Hp} {r : Bool}
    (hm : law28_awake = some r)  :
    Fn Try.prog 10 [] K [] (fun v K' H' => v = .bool r ∧ H' = []) := by
  refine Fn.enter Try.func10 Try.call10 rfl fun F => ?_
  unfold law28_awake at hm
  obtain ⟨x6, q6, hm⟩ := bnd hm
  conv => whnf
  refine call_fn (fanout_New_ok q6) .nil ?_
  rintro v6 K6 H6 l6 p6
  rcases hq6 : x6.1 with _ | o6
  · rw [hq6] at p6 hm
    obtain ⟨rfl, rfl⟩ := p6
    replace hm := oe_n hm
    conv => whnf
    refine neq_err rfl ?_
    conv => whnf
    refine cond_s (fun g11_2 => ?_) (fun g11_2 => ?_)
    · replace hm := ift g11_2 hm
      conv => whnf
      refine cond_t g11_2 ?_
      conv => whnf
      refine cond_t g11_2 ?_
      conv => whnf
      refine cond_t g11_2 ?_
      conv => whnf
      refine cond_t g11_2 ?_
      conv => whnf
      refine cond_t g11_2 ?_
      conv => whnf
      refine cond_T ?_
      conv => whnf
      refine cond_T ?_
      conv => whnf
      refine cond_T ?_
      conv => whnf
      refine cond_T ?_
      conv => whnf
      refine cond_go rfl ?_
      conv => whnf
      refine cond_T ?_
      obtain rfl := si hm
      conv => whnf
      refine EndStep.mk _ l6 ⟨rfl, rfl⟩ (ConvH.of (.cons r0 .nil))
    · replace hm := iff_ g11_2 hm
      conv => whnf
      refine cond_f g11_2 ?_
      conv => whnf
      refine bsO (len := 3) (enc := eU) (l := ([(97 : UInt8), (98 : UInt8), (99 : UInt8)] : Str)) (cl := [.int .u8 97, .int .u8 98, .int .u8 99]) elT22 rfl rfl (fun _ _ => rfl) rfl rfl rfl ?_ fun b13 => ?_
      · conv => whnf
        refine cond_T ?_
        conv => whnf
        refine cond_T ?_
        conv => whnf
        refine cond_T ?_
        conv => whnf
      conv => whnf
      refine cond_f g11_2 ?_
      conv => whnf
      refine cv_mark rfl rfl r0 ?_
      conv => whnf
      refine cond_f g11_2 ?_
      obtain ⟨x15, q15, hm⟩ := bnd hm
      conv => whnf
      refine call_fn (Fn.lend Try.call12 (fun K15_1 l15_1 f15_1 => (fanout_Stream_Write_nil_ok q15 f15_1 rfl)) (by exact fun _ _ _ _ h => h)) (.cons r0 .nil) ?_
      rintro _ K15 _ l15 ⟨_, rfl, rfl, rfl⟩
      conv => whnf
      refine cond_f g11_2 ?_
      conv => whnf
      refine neq_err rfl ?_
      conv => whnf
      refine cond_f g11_2 ?_
      conv => whnf
      refine cond_s (fun g18_2 => ?_) (fun g18_2 => ?_)
      · replace hm := ift g18_2 hm
        conv => whnf
        refine cond_t g18_2 ?_
        conv => whnf
        refine cond_t g18_2 ?_
        conv => whnf
        refine cond_t g18_2 ?_
        conv => whnf
        refine cond_go rfl ?_
        conv => whnf
        refine cond_T ?_
        obtain rfl := si hm
        conv => whnf
        refine EndStep.mk _ (l6.trans l15) ⟨rfl, rfl⟩ (ConvH.of (.cons r1 .nil))
      · replace hm := iff_ g18_2 hm
        conv => whnf
        refine cond_f g18_2 ?_
        obtain ⟨x20, q20, hm⟩ := bnd hm
        conv => whnf
        refine call_fn (fanout_Stream_Attach_nil_ok q20) .nil ?_
        rintro _ K20 _ l20 ⟨rfl, rfl⟩
        conv => whnf
        refine cond_f g18_2 ?_
        conv => whnf
        refine neq_err rfl ?_
        conv => whnf
        refine cond_f g18_2 ?_
        conv => whnf
        refine cond_go rfl ?_
        conv => whnf
        refine cond_s (fun w22 => ?_) (fun w22 => ?_)
        · replace hm := ift w22 hm
          obtain rfl := si hm
          conv => whnf
          refine EndStep.mk _ ((l6.trans l15).trans l20) ⟨rfl, rfl⟩ (ConvH.of (.cons r1 .nil))
        · replace hm := iff_ w22 hm
          obtain ⟨x25, q25, hm⟩ := bnd hm
          conv => whnf
          refine call_fn (fanout_Stream_Read_nil_ok q25) .nil ?_
          rintro _ K25 _ l25 ⟨a25_0, c25_0, rfl, h25_0, rfl⟩
          conv => whnf
          refine eq_err rfl ?_
          obtain ⟨x35, e35, hm⟩ := bnd hm
          conv => whnf
          refine cond_s (fun g31_5 => ?_) (fun g31_5 => ?_)
          · replace e35 := ift g31_5 e35
            conv => whnf
            refine cond_t g31_5 ?_
            conv => whnf
            refine RStep.of (cv_ownE rfl r0 rfl rfl rfl ?_)
            conv => whnf
            refine cond_t g31_5 ?_
            conv => whnf
            refine eq_str ?_
            conv => whnf
            refine cond_t g31_5 ?_
            conv => whnf
            refine cond_s (fun g36_5 => ?_) (fun g36_5 => ?_)
            · conv => whnf
              refine cond_t g36_5 ?_
              conv => whnf
              refine eq_int ?_
              conv => whnf
              refine cond_t g36_5 ?_
              obtain rfl := si hm
              conv => whnf
              refine EndStep.mk _ (((l6.trans l15).trans l20).trans l25) ⟨(by rw [← (and_e (b := decide (x25.2.1 = 1)) ((si e35).symm.trans g36_5))] <;> rfl), rfl⟩ (ConvH.of (.cons r2 .nil))
            · conv => whnf
              refine cond_f g36_5 ?_
              conv => whnf
              refine cond_f g36_5 ?_
              obtain rfl := si hm
              conv => whnf
              refine EndStep.mk _ (((l6.trans l15).trans l20).trans l25) ⟨(by rw [← ((and_f ((si e35).symm.trans g36_5))).symm] <;> rfl), rfl⟩ (ConvH.of (.cons r2 .nil))
          · replace e35 := iff_ g31_5 e35
            conv => whnf
            refine cond_f g31_5 ?_
            conv => whnf
            refine cond_f g31_5 ?_
            conv => whnf
            refine cond_f g31_5 ?_
            conv => whnf
            refine cond_F ?_
            conv => whnf
            refine cond_F ?_
            conv => whnf
            refine cond_F ?_
            obtain rfl := si hm
            conv => whnf
            refine EndStep.mk _ (((l6.trans l15).trans l20).trans l25) ⟨(by rw [← ((and_f (si e35).symm)).symm] <;> rfl), rfl⟩ (ConvH.of (.cons r2 .nil))
  · rw [hq6] at p6 hm
    obtain ⟨b6_0, a6_1, c6_1, m6_2, rfl, h6_1, rfl⟩ := p6
    replace hm := oe_s hm
    conv => whnf
    refine neq_err rfl ?_
    conv => whnf
    refine cond_s (fun g11_2 => ?_) (fun g11_2 => ?_)
    · replace hm := ift g11_2 hm
      conv => whnf
      refine cond_t g11_2 ?_
      conv => whnf
      refine cond_t g11_2 ?_
      conv => whnf
      refine cond_t g11_2 ?_
      conv => whnf
      refine cond_t g11_2 ?_
      conv => whnf
      refine cond_t g11_2 ?_
      conv => whnf
      refine cond_T ?_
      conv => whnf
      refine cond_T ?_
      conv => whnf
      refine cond_T ?_
      conv => whnf
      refine cond_T ?_
      conv => whnf
      refine cond_go rfl ?_
      conv => whnf
      refine cond_T ?_
      obtain rfl := si hm
      conv => whnf
      refine EndStep.mk _ l6 ⟨rfl, rfl⟩ (ConvH.of (.cons r3 .nil))
    · replace hm := iff_ g11_2 hm
      conv => whnf
      refine cond_f g11_2 ?_
      conv => whnf
      refine bsO (len := 3) (enc := eU) (l := ([(97 : UInt8), (98 : UInt8), (99 : UInt8)] : Str)) (cl := [.int .u8 97, .int .u8 98, .int .u8 99]) elT22 rfl rfl (fun _ _ => rfl) rfl rfl rfl ?_ fun b13 => ?_
      · conv => whnf
        refine cond_T ?_
        conv => whnf
        refine cond_T ?_
        conv => whnf
        refine cond_T ?_
        conv => whnf
      conv => whnf
      refine cond_f g11_2 ?_
      conv => whnf
      refine cv_mark rfl rfl r0 ?_
      conv => whnf
      refine cond_f g11_2 ?_
      obtain ⟨x15, q15, hm⟩ := bnd hm
      conv => whnf
      refine call_fn (Fn.lend Try.call12 (fun K15_1 l15_1 f15_1 => (fanout_Stream_Write_ok q15 h6_1 f15_1 rfl)) (by exact fun _ _ _ _ h => h)) (.cons r0 (.cons r0 (.cons r0 (.cons r0 .nil)))) ?_
      rintro _ K15 _ l15 ⟨_, rfl, a15_0, c15_0, m15_1, rfl, h15_0, rfl⟩
      conv => whnf
      refine cond_f g11_2 ?_
      conv => whnf
      refine neq_err rfl ?_
      conv => whnf
      refine cond_f g11_2 ?_
      conv => whnf
      refine cond_s (fun g18_2 => ?_) (fun g18_2 => ?_)
      · replace hm := ift g18_2 hm
        conv => whnf
        refine cond_t g18_2 ?_
        conv => whnf
        refine cond_t g18_2 ?_
        conv => whnf
        refine cond_t g18_2 ?_
        conv => whnf
        refine cond_go rfl ?_
        conv => whnf
        refine cond_T ?_
        obtain rfl := si hm
        conv => whnf
        refine EndStep.mk _ (l6.trans l15) ⟨rfl, rfl⟩ (ConvH.of (.cons r4 .nil))
      · replace hm := iff_ g18_2 hm
        conv => whnf
        refine cond_f g18_2 ?_
        obtain ⟨x20, q20, hm⟩ := bnd hm
        conv => whnf
        refine call_fn (fanout_Stream_Attach_ok q20 h15_0) (.cons r1 (.cons r1 (.cons r1 .nil))) ?_
        rintro _ K20 _ l20 ⟨a20_0, c20_0, m20_1, rfl, h20_0, rfl⟩
        conv => whnf
        refine cond_f g18_2 ?_
        conv => whnf
        refine neq_err rfl ?_
        conv => whnf
        refine cond_f g18_2 ?_
        conv => whnf
        refine cond_go rfl ?_
        conv => whnf
        refine cond_s (fun w22 => ?_) (fun w22 => ?_)
        · replace hm := ift w22 hm
          obtain rfl := si hm
          conv => whnf
          refine EndStep.mk _ ((l6.trans l15).trans l20) ⟨rfl, rfl⟩ (ConvH.of (.cons r4 .nil))
        · replace hm := iff_ w22 hm
          obtain ⟨x25, q25, hm⟩ := bnd hm
          conv => whnf
          refine call_fn (fanout_Stream_Read_ok q25 h20_0) (.cons r0 (.cons r0 (.cons r0 .nil))) ?_
          rintro _ K25 _ l25 ⟨a25_0, c25_0, a25_1, c25_1, m25_2, rfl, h25_0, h25_1, rfl⟩
          conv => whnf
          refine eq_err rfl ?_
          obtain ⟨x35, e35, hm⟩ := bnd hm
          conv => whnf
          refine cond_s (fun g31_5 => ?_) (fun g31_5 => ?_)
          · replace e35 := ift g31_5 e35
            conv => whnf
            refine cond_t g31_5 ?_
            conv => whnf
            refine RStep.of (cv_ownE rfl r0 rfl rfl rfl ?_)
            conv => whnf
            refine cond_t g31_5 ?_
            conv => whnf
            refine eq_str ?_
            conv => whnf
            refine cond_t g31_5 ?_
            conv => whnf
            refine cond_s (fun g36_5 => ?_) (fun g36_5 => ?_)
            · conv => whnf
              refine cond_t g36_5 ?_
              conv => whnf
              refine eq_int ?_
              conv => whnf
              refine cond_t g36_5 ?_
              obtain rfl := si hm
              conv => whnf
              refine EndStep.mk _ (((l6.trans l15).trans l20).trans l25) ⟨(by rw [← (and_e (b := decide (x25.2.1 = 1)) ((si e35).symm.trans g36_5))] <;> rfl), rfl⟩ (ConvH.of (.cons r5 .nil))
            · conv => whnf
              refine cond_f g36_5 ?_
              conv => whnf
              refine cond_f g36_5 ?_
              obtain rfl := si hm
              conv => whnf
              refine EndStep.mk _ (((l6.trans l15).trans l20).trans l25) ⟨(by rw [← ((and_f ((si e35).symm.trans g36_5))).symm] <;> rfl), rfl⟩ (ConvH.of (.cons r5 .nil))
          · replace e35 := iff_ g31_5 e35
            conv => whnf
            refine cond_f g31_5 ?_
            conv => whnf
            refine cond_f g31_5 ?_
            conv => whnf
            refine cond_f g31_5 ?_
            conv => whnf
            refine cond_F ?_
            conv => whnf
            refine cond_F ?_
            conv => whnf
            refine cond_F ?_
            obtain rfl := si hm
            conv => whnf
            refine EndStep.mk _ (((l6.trans l15).trans l20).trans l25) ⟨(by rw [← ((and_f (si e35).symm)).symm] <;> rfl), rfl⟩ (ConvH.of (.cons r5 .nil))

noncomputable def fanout_Stream_Detach_nil (id : Int) : Option (Bool) :=
  some false
set_option maxHeartbeats 8000000 in
theorem fanout_Stream_Detach_nil_ok {id : Int} {K : Hp} {r : Bool}
    (hm : fanout_Stream_Detach_nil id = some r)  :
    Fn Try.prog 25 [.pointer none, .int .i64 id] K [] (fun v K' H' => v = .bool r ∧ H' = []) := by
  refine Fn.enter Try.func25 Try.call25 rfl fun F => ?_
  unfold fanout_Stream_Detach_nil at hm
  conv => whnf
  refine eq_nil_nil rfl ?_
  conv => whnf
  refine cond_go rfl ?_
  conv => whnf
  refine cond_T ?_
  obtain rfl := si hm
  conv => whnf
  refine EndStep.mk _ (Hp.Le.refl _) ⟨rfl, rfl⟩ (ConvH.of (.cons r0 .nil))

noncomputable def fanout_Stream_End_nil : Option (Err) :=
  (fanout_Stream_open_nil).bind fun x5 =>
  if x5.isSome then
  some x5
  else
  none
set_option maxHeartbeats 8000000 in
theorem fanout_Stream_End_nil_ok  {K : Hp} {r : Err}
    (hm : fanout_Stream_End_nil = some r)  :
    Fn Try.prog 16 [.pointer none] K [] (fun v K' H' => v = errV 44 r ∧ H' = []) := by
  refine Fn.enter Try.func16 Try.call16 rfl fun F => ?_
  unfold fanout_Stream_End_nil at hm
  obtain ⟨x5, q5, hm⟩ := bnd hm
  conv => whnf
  refine call_fn (fanout_Stream_open_nil_ok q5) .nil ?_
  rintro _ K5 _ l5 ⟨rfl, rfl⟩
  conv => whnf
  refine neq_err rfl ?_
  conv => whnf
  refine cond_go rfl ?_
  conv => whnf
  refine cond_s (fun w7 => ?_) (fun w7 => ?_)
  · replace hm := ift w7 hm
    obtain rfl := si hm
    conv => whnf
    refine EndStep.mk _ l5 ⟨rfl, rfl⟩ (ConvH.of (.cons r0 .nil))
  · replace hm := iff_ w7 hm
    cases hm

noncomputable def fanout_Stream_Abort_nil : Option (Err) :=
  (fanout_Stream_open_nil).bind fun x5 =>
  if x5.isSome then
  some x5
  else
  none
set_option maxHeartbeats 8000000 in
theorem fanout_Stream_Abort_nil_ok  {K : Hp} {r : Err}
    (hm : fanout_Stream_Abort_nil = some r)  :
    Fn Try.prog 24 [.pointer none] K [] (fun v K' H' => v = errV 44 r ∧ H' = []) := by
  refine Fn.enter Try.func24 Try.call24 rfl fun F => ?_
  unfold fanout_Stream_Abort_nil at hm
  obtain ⟨x5, q5, hm⟩ := bnd hm
  conv => whnf
  refine call_fn (fanout_Stream_open_nil_ok q5) .nil ?_
  rintro _ K5 _ l5 ⟨rfl, rfl⟩
  conv => whnf
  refine neq_err rfl ?_
  conv => whnf
  refine cond_go rfl ?_
  conv => whnf
  refine cond_s (fun w7 => ?_) (fun w7 => ?_)
  · replace hm := ift w7 hm
    obtain rfl := si hm
    conv => whnf
    refine EndStep.mk _ l5 ⟨rfl, rfl⟩ (ConvH.of (.cons r0 .nil))
  · replace hm := iff_ w7 hm
    cases hm

noncomputable def law28_play_nil (x : S_law28_Step) : Option (Unit) :=
  if decide (((x.What % (12 : UInt8)).toNat : Int) = 3) then
  (fanout_Stream_Attach_nil x.ID x.N).bind fun x19 =>
  some ()
  else
  if decide (((x.What % (12 : UInt8)).toNat : Int) = 4) then
  (fanout_Stream_Attach_nil x.ID x.N).bind fun x19 =>
  some ()
  else
  if decide (((x.What % (12 : UInt8)).toNat : Int) = 5) then
  (fanout_Stream_Read_nil x.ID x.N).bind fun x30 =>
  some ()
  else
  if decide (((x.What % (12 : UInt8)).toNat : Int) = 6) then
  (fanout_Stream_Read_nil x.ID x.N).bind fun x30 =>
  some ()
  else
  if decide (((x.What % (12 : UInt8)).toNat : Int) = 7) then
  (fanout_Stream_Read_nil x.ID x.N).bind fun x30 =>
  some ()
  else
  if decide (((x.What % (12 : UInt8)).toNat : Int) = 8) then
  (fanout_Stream_Read_nil x.ID x.N).bind fun x30 =>
  some ()
  else
  if decide (((x.What % (12 : UInt8)).toNat : Int) = 9) then
  (fanout_Stream_Detach_nil x.ID).bind fun x36 =>
  some ()
  else
  if decide (((x.What % (12 : UInt8)).toNat : Int) = 10) then
  (fanout_Stream_End_nil).bind fun x40 =>
  some ()
  else
  if decide (((x.What % (12 : UInt8)).toNat : Int) = 11) then
  (fanout_Stream_Abort_nil).bind fun x44 =>
  some ()
  else
  (fanout_Stream_Write_nil x.Data).bind fun x10 =>
  some ()
set_option maxHeartbeats 8000000 in
theorem law28_play_nil_ok {x : S_law28_Step} {ap1_0 : Option Addr} {cp1_0 : Nat} {K : Hp} {r : Unit}
    (hm : law28_play_nil x = some r) (hp1_0 : RdC eU K ap1_0 cp1_0 1 x.Data) :
    Fn Try.prog 22 [.pointer none, .agg #[.int .u8 (x.What.toNat : Int), .int .i64 x.ID, .int .i64 x.N, .slice ap1_0 x.Data.length cp1_0]] K [] (fun v K' H' => v = .tuple #[] ∧ H' = []) := by
  refine Fn.enter Try.func22 Try.call22 rfl fun F => ?_
  unfold law28_play_nil at hm
  conv => whnf
  refine box_rule ?_
  intro b3
  conv => whnf
  refine field_addr rfl ?_
  conv => whnf
  refine RStep.of (load1_s r0 rfl rfl ?_)
  conv => whnf
  refine u8_rem (x := x.What) (y := (12 : UInt8)) rfl rfl (by decide) ?_
  conv => whnf
  refine block_go rfl ?_
  conv => whnf
  refine eq_int ?_
  conv => whnf
  refine cond_go rfl ?_
  conv => whnf
  refine cond_s (fun w11 => ?_) (fun w11 => ?_)
  · replace hm := ift w11 hm
    conv => whnf
    refine cond_go rfl ?_
    conv => whnf
    refine cond_t w11 ?_
    conv => whnf
    refine field_addr rfl ?_
    conv => whnf
    refine RStep.of (load1_s r0 rfl rfl ?_)
    conv => whnf
    refine field_addr rfl ?_
    conv => whnf
    refine RStep.of (load1_s r0 rfl rfl ?_)
    obtain ⟨x19, q19, hm⟩ := bnd hm
    conv => whnf
    refine call_fn (fanout_Stream_Attach_nil_ok q19) .nil ?_
    rintro _ K19 _ l19 ⟨rfl, rfl⟩
    obtain rfl := si hm
    conv => whnf
    refine EndStep.mk _ l19 ⟨rfl, rfl⟩ (ConvH.of (.cons r1 .nil))
  · replace hm := iff_ w11 hm
    conv => whnf
    refine eq_int ?_
    conv => whnf
    refine cond_go rfl ?_
    conv => whnf
    refine cond_s (fun w11 => ?_) (fun w11 => ?_)
    · replace hm := ift w11 hm
      conv => whnf
      refine field_addr rfl ?_
      conv => whnf
      refine RStep.of (load1_s r0 rfl rfl ?_)
      conv => whnf
      refine field_addr rfl ?_
      conv => whnf
      refine RStep.of (load1_s r0 rfl rfl ?_)
      obtain ⟨x19, q19, hm⟩ := bnd hm
      conv => whnf
      refine call_fn (fanout_Stream_Attach_nil_ok q19) .nil ?_
      rintro _ K19 _ l19 ⟨rfl, rfl⟩
      obtain rfl := si hm
      conv => whnf
      refine EndStep.mk _ l19 ⟨rfl, rfl⟩ (ConvH.of (.cons r1 .nil))
    · replace hm := iff_ w11 hm
      conv => whnf
      refine eq_int ?_
      conv => whnf
      refine cond_go rfl ?_
      conv => whnf
      refine cond_s (fun w20 => ?_) (fun w20 => ?_)
      · replace hm := ift w20 hm
        conv => whnf
        refine cond_go rfl ?_
        conv => whnf
        refine cond_t w20 ?_
        conv => whnf
        refine field_addr rfl ?_
        conv => whnf
        refine RStep.of (load1_s r0 rfl rfl ?_)
        conv => whnf
        refine field_addr rfl ?_
        conv => whnf
        refine RStep.of (load1_s r0 rfl rfl ?_)
        obtain ⟨x30, q30, hm⟩ := bnd hm
        conv => whnf
        refine call_fn (fanout_Stream_Read_nil_ok q30) .nil ?_
        rintro _ K30 _ l30 ⟨a30_0, c30_0, rfl, h30_0, rfl⟩
        obtain rfl := si hm
        conv => whnf
        refine EndStep.mk _ l30 ⟨rfl, rfl⟩ (ConvH.of (.cons r2 .nil))
      · replace hm := iff_ w20 hm
        conv => whnf
        refine eq_int ?_
        conv => whnf
        refine cond_go rfl ?_
        conv => whnf
        refine cond_s (fun w20 => ?_) (fun w20 => ?_)
        · replace hm := ift w20 hm
          conv => whnf
          refine cond_go rfl ?_
          conv => whnf
          refine cond_t w20 ?_
          conv => whnf
          refine field_addr rfl ?_
          conv => whnf
          refine RStep.of (load1_s r0 rfl rfl ?_)
          conv => whnf
          refine field_addr rfl ?_
          conv => whnf
          refine RStep.of (load1_s r0 rfl rfl ?_)
          obtain ⟨x30, q30, hm⟩ := bnd hm
          conv => whnf
          refine call_fn (fanout_Stream_Read_nil_ok q30) .nil ?_
          rintro _ K30 _ l30 ⟨a30_0, c30_0, rfl, h30_0, rfl⟩
          obtain rfl := si hm
          conv => whnf
          refine EndStep.mk _ l30 ⟨rfl, rfl⟩ (ConvH.of (.cons r2 .nil))
        · replace hm := iff_ w20 hm
          conv => whnf
          refine eq_int ?_
          conv => whnf
          refine cond_go rfl ?_
          conv => whnf
          refine cond_s (fun w20 => ?_) (fun w20 => ?_)
          · replace hm := ift w20 hm
            conv => whnf
            refine cond_go rfl ?_
            conv => whnf
            refine cond_t w20 ?_
            conv => whnf
            refine field_addr rfl ?_
            conv => whnf
            refine RStep.of (load1_s r0 rfl rfl ?_)
            conv => whnf
            refine field_addr rfl ?_
            conv => whnf
            refine RStep.of (load1_s r0 rfl rfl ?_)
            obtain ⟨x30, q30, hm⟩ := bnd hm
            conv => whnf
            refine call_fn (fanout_Stream_Read_nil_ok q30) .nil ?_
            rintro _ K30 _ l30 ⟨a30_0, c30_0, rfl, h30_0, rfl⟩
            obtain rfl := si hm
            conv => whnf
            refine EndStep.mk _ l30 ⟨rfl, rfl⟩ (ConvH.of (.cons r2 .nil))
          · replace hm := iff_ w20 hm
            conv => whnf
            refine eq_int ?_
            conv => whnf
            refine cond_go rfl ?_
            conv => whnf
            refine cond_s (fun w20 => ?_) (fun w20 => ?_)
            · replace hm := ift w20 hm
              conv => whnf
              refine field_addr rfl ?_
              conv => whnf
              refine RStep.of (load1_s r0 rfl rfl ?_)
              conv => whnf
              refine field_addr rfl ?_
              conv => whnf
              refine RStep.of (load1_s r0 rfl rfl ?_)
              obtain ⟨x30, q30, hm⟩ := bnd hm
              conv => whnf
              refine call_fn (fanout_Stream_Read_nil_ok q30) .nil ?_
              rintro _ K30 _ l30 ⟨a30_0, c30_0, rfl, h30_0, rfl⟩
              obtain rfl := si hm
              conv => whnf
              refine EndStep.mk _ l30 ⟨rfl, rfl⟩ (ConvH.of (.cons r2 .nil))
            · replace hm := iff_ w20 hm
              conv => whnf
              refine eq_int ?_
              conv => whnf
              refine cond_go rfl ?_
              conv => whnf
              refine cond_s (fun w31 => ?_) (fun w31 => ?_)
              · replace hm := ift w31 hm
                conv => whnf
                refine field_addr rfl ?_
                conv => whnf
                refine RStep.of (load1_s r0 rfl rfl ?_)
                obtain ⟨x36, q36, hm⟩ := bnd hm
                conv => whnf
                refine call_fn (fanout_Stream_Detach_nil_ok q36) .nil ?_
                rintro _ K36 _ l36 ⟨rfl, rfl⟩
                obtain rfl := si hm
                conv => whnf
                refine EndStep.mk _ l36 ⟨rfl, rfl⟩ (ConvH.of (.cons r1 .nil))
              · replace hm := iff_ w31 hm
                conv => whnf
                refine eq_int ?_
                conv => whnf
                refine cond_go rfl ?_
                conv => whnf
                refine cond_s (fun w37 => ?_) (fun w37 => ?_)
                · replace hm := ift w37 hm
                  obtain ⟨x40, q40, hm⟩ := bnd hm
                  conv => whnf
                  refine call_fn (fanout_Stream_End_nil_ok q40) .nil ?_
                  rintro _ K40 _ l40 ⟨rfl, rfl⟩
                  obtain rfl := si hm
                  conv => whnf
                  refine EndStep.mk _ l40 ⟨rfl, rfl⟩ (ConvH.of (.cons r1 .nil))
                · replace hm := iff_ w37 hm
                  conv => whnf
                  refine eq_int ?_
                  conv => whnf
                  refine cond_go rfl ?_
                  conv => whnf
                  refine cond_s (fun w41 => ?_) (fun w41 => ?_)
                  · replace hm := ift w41 hm
                    obtain ⟨x44, q44, hm⟩ := bnd hm
                    conv => whnf
                    refine call_fn (fanout_Stream_Abort_nil_ok q44) .nil ?_
                    rintro _ K44 _ l44 ⟨rfl, rfl⟩
                    obtain rfl := si hm
                    conv => whnf
                    refine EndStep.mk _ l44 ⟨rfl, rfl⟩ (ConvH.of (.cons r1 .nil))
                  · replace hm := iff_ w41 hm
                    conv => whnf
                    refine field_addr rfl ?_
                    conv => whnf
                    refine RStep.of (load1_s r0 rfl rfl ?_)
                    obtain ⟨x10, q10, hm⟩ := bnd hm
                    conv => whnf
                    refine call_fn (fanout_Stream_Write_nil_ok q10 hp1_0 rfl) .nil ?_
                    rintro _ K10 _ l10 ⟨rfl, rfl⟩
                    obtain rfl := si hm
                    conv => whnf
                    refine EndStep.mk _ l10 ⟨rfl, rfl⟩ (ConvH.of (.cons r1 .nil))

noncomputable def base_Num (e : Err) : Option (Int) :=
  if e.isNone then
  some 0
  else
  if (!e.isSome) then
  some (-1)
  else
  some (e.getD 0)
set_option maxHeartbeats 8000000 in
theorem base_Num_ok {e : Err} {K : Hp} {r : Int}
    (hm : base_Num e = some r)  :
    Fn Try.prog 23 [errV 44 e] K [] (fun v K' H' => v = .int .i64 r ∧ H' = []) := by
  refine Fn.enter Try.func23 Try.call23 rfl fun F => ?_
  unfold base_Num at hm
  conv => whnf
  refine eq_err rfl ?_
  conv => whnf
  refine cond_go rfl ?_
  conv => whnf
  refine cond_s (fun w6 => ?_) (fun w6 => ?_)
  · replace hm := ift w6 hm
    obtain rfl := si hm
    conv => whnf
    refine EndStep.mk _ (Hp.Le.refl _) ⟨rfl, rfl⟩ (ConvH.of (.cons r0 .nil))
  · replace hm := iff_ w6 hm
    conv => whnf
    refine asrt rfl rfl rfl ?_
    conv => whnf
    refine un_not ?_
    conv => whnf
    refine cond_go rfl ?_
    conv => whnf
    refine cond_s (fun w13 => ?_) (fun w13 => ?_)
    · replace hm := ift (not_t (ni_t w13)) hm
      obtain rfl := si hm
      conv => whnf
      refine EndStep.mk _ (Hp.Le.refl _) ⟨rfl, rfl⟩ (ConvH.of (.cons r0 .nil))
    · replace hm := iff_ (not_f (ni_f w13)) hm
      obtain rfl := si hm
      conv => whnf
      refine EndStep.mk _ (Hp.Le.refl _) ⟨rfl, rfl⟩ (ConvH.of (.cons r0 .nil))

noncomputable def base_Bytes (a : Str) (b : Str) : Option (Bool) :=
  some (decide (a = b))
set_option maxHeartbeats 8000000 in
theorem base_Bytes_ok {a : Str} {b : Str} {ap0_0 : Option Addr} {cp0_0 : Nat} {n0 : Nat} {ap1_0 : Option Addr} {cp1_0 : Nat} {n1 : Nat} {K : Hp} {r : Bool}
    (hm : base_Bytes a b = some r) (hp0_0 : RdC eU K ap0_0 cp0_0 1 a) (en0 : n0 = a.length) (hp1_0 : RdC eU K ap1_0 cp1_0 1 b) (en1 : n1 = b.length) :
    Fn Try.prog 15 [.slice ap0_0 n0 cp0_0, .slice ap1_0 n1 cp1_0] K [] (fun v K' H' => v = .bool r ∧ H' = []) := by
  subst en0
  subst en1
  refine Fn.enter Try.func15 Try.call15 rfl fun F => ?_
  unfold base_Bytes at hm
  conv => whnf
  refine RStep.of (cv_k rfl rfl rfl hp0_0.rd ?_)
  conv => whnf
  refine RStep.of (cv_k rfl rfl rfl hp1_0.rd ?_)
  conv => whnf
  refine eq_str ?_
  obtain rfl := si hm
  conv => whnf
  refine EndStep.mk _ (Hp.Le.refl _) ⟨rfl, rfl⟩ (ConvH.of (.cons r0 .nil))

noncomputable def fanout_Stream_Written_nil : Option (Int) :=
  some 0
set_option maxHeartbeats 8000000 in
theorem fanout_Stream_Written_nil_ok  {K : Hp} {r : Int}
    (hm : fanout_Stream_Written_nil = some r)  :
    Fn Try.prog 19 [.pointer none] K [] (fun v K' H' => v = .int .i64 r ∧ H' = []) := by
  refine Fn.enter Try.func19 Try.call19 rfl fun F => ?_
  unfold fanout_Stream_Written_nil at hm
  conv => whnf
  refine eq_nil_nil rfl ?_
  conv => whnf
  refine cond_go rfl ?_
  conv => whnf
  refine cond_T ?_
  obtain rfl := si hm
  conv => whnf
  refine EndStep.mk _ (Hp.Le.refl _) ⟨rfl, rfl⟩ (ConvH.of (.cons r0 .nil))

noncomputable def fanout_Stream_Detach (s : S_fanout_Stream) (id : Int) : Option (Bool × S_fanout_Stream) :=
  some ((mget s.offsets id).isSome, (⟨s.limit, s.state, s.data, (mdel s.offsets id)⟩ : S_fanout_Stream))
set_option maxHeartbeats 8000000 in
theorem fanout_Stream_Detach_ok {s : S_fanout_Stream} {id : Int} {b0 : Nat} {ap0_0 : Option Addr} {cp0_0 : Nat} {mp0_1 : Nat} {K : Hp} {r : Bool × S_fanout_Stream}
    (hm : fanout_Stream_Detach s id = some r) (hp0_0 : (0 < s.data.length → Has ap0_0)) :
    Fn Try.prog 25 [.pointer (some ⟨b0, 0, none⟩), .int .i64 id] K [Cells b0 77 [.int .i64 s.limit, .int .i64 s.state, .slice ap0_0 s.data.length cp0_0, .map (some mp0_1)], OwnL eU ap0_0 5 1 cp0_0 s.data, MapE intK (fun x => .int .i64 x) mp0_1 s.offsets] (fun v K' H' => ∃ ar_0 : Option Addr, ∃ cr_0 : Nat, ∃ mr_1 : Nat, v = .bool r.1 ∧ (0 < r.2.data.length → Has ar_0) ∧ H' = [Cells b0 77 [.int .i64 r.2.limit, .int .i64 r.2.state, .slice ar_0 r.2.data.length cr_0, .map (some mr_1)], OwnL eU ar_0 5 1 cr_0 r.2.data, MapE intK (fun x => .int .i64 x) mr_1 r.2.offsets]) := by
  refine Fn.enter Try.func25 Try.call25 rfl fun F => ?_
  unfold fanout_Stream_Detach at hm
  conv => whnf
  refine eq_ptr_nil rfl ?_
  conv => whnf
  refine cond_go rfl ?_
  conv => whnf
  refine cond_F ?_
  conv => whnf
  refine nil_check ?_
  conv => whnf
  refine field_addr rfl ?_
  conv => whnf
  refine RStep.of (load1_s r0 rfl rfl ?_)
  conv => whnf
  refine RStep.of (lookup_ok (kenc := intK) (venc := (fun x => .int .i64 x)) (z := 0) r2 rfl rfl (key_int rfl) ?_)
  conv => whnf
  refine nil_check ?_
  conv => whnf
  refine field_addr rfl ?_
  conv => whnf
  refine RStep.of (load1_s r0 rfl rfl ?_)
  conv => whnf
  refine delete_rule (kenc := intK) (venc := (fun x => .int .i64 x)) r2 rfl rfl (key_int rfl) ?_
  obtain rfl := si hm
  conv => whnf
  refine EndStep.mk _ (Hp.Le.refl _) ⟨ap0_0, cp0_0, mp0_1, rfl, hp0_0, rfl⟩ (ConvH.of (.cons r1 (.cons r1 (.cons r0 (.cons r0 .nil)))))

noncomputable def fanout_Stream_End (s : S_fanout_Stream) : Option (Err × S_fanout_Stream) :=
  (fanout_Stream_open s).bind fun x5 =>
  if x5.isSome then
  some (x5, s)
  else
  some (none, (⟨s.limit, 2, s.data, s.offsets⟩ : S_fanout_Stream))
set_option maxHeartbeats 8000000 in
theorem fanout_Stream_End_ok {s : S_fanout_Stream} {b0 : Nat} {ap0_0 : Option Addr} {cp0_0 : Nat} {mp0_1 : Nat} {K : Hp} {r : Err × S_fanout_Stream}
    (hm : fanout_Stream_End s = some r) (hp0_0 : (0 < s.data.length → Has ap0_0)) :
    Fn Try.prog 16 [.pointer (some ⟨b0, 0, none⟩)] K [Cells b0 77 [.int .i64 s.limit, .int .i64 s.state, .slice ap0_0 s.data.length cp0_0, .map (some mp0_1)], OwnL eU ap0_0 5 1 cp0_0 s.data, MapE intK (fun x => .int .i64 x) mp0_1 s.offsets] (fun v K' H' => ∃ ar_0 : Option Addr, ∃ cr_0 : Nat, ∃ mr_1 : Nat, v = errV 44 r.1 ∧ (0 < r.2.data.length → Has ar_0) ∧ H' = [Cells b0 77 [.int .i64 r.2.limit, .int .i64 r.2.state, .slice ar_0 r.2.data.length cr_0, .map (some mr_1)], OwnL eU ar_0 5 1 cr_0 r.2.data, MapE intK (fun x => .int .i64 x) mr_1 r.2.offsets]) := by
  refine Fn.enter Try.func16 Try.call16 rfl fun F => ?_
  unfold fanout_Stream_End at hm
  obtain ⟨x5, q5, hm⟩ := bnd hm
  conv => whnf
  refine call_fn (fanout_Stream_open_ok q5 hp0_0) (.cons r0 (.cons r0 (.cons r0 .nil))) ?_
  rintro _ K5 _ l5 ⟨rfl, rfl⟩
  conv => whnf
  refine neq_err rfl ?_
  conv => whnf
  refine cond_go rfl ?_
  conv => whnf
  refine cond_s (fun w7 => ?_) (fun w7 => ?_)
  · replace hm := ift w7 hm
    obtain rfl := si hm
    conv => whnf
    refine EndStep.mk _ l5 ⟨ap0_0, cp0_0, mp0_1, rfl, hp0_0, rfl⟩ (ConvH.of (.cons r0 (.cons r0 (.cons r0 (.cons r0 .nil)))))
  · replace hm := iff_ w7 hm
    conv => whnf
    refine nil_check ?_
    conv => whnf
    refine field_addr rfl ?_
    conv => whnf
    refine store_rule r0 rfl ?_
    conv => whnf
    refine ⟨rfl, rfl, (Nat.le_of_ble_eq_true rfl), ?_⟩
    obtain rfl := si hm
    conv => whnf
    refine EndStep.mk _ l5 ⟨ap0_0, cp0_0, mp0_1, rfl, hp0_0, rfl⟩ (ConvH.of (.cons r0 (.cons r0 (.cons r0 (.cons r0 .nil)))))

noncomputable def fanout_Stream_Abort (s : S_fanout_Stream) : Option (Err × S_fanout_Stream) :=
  (fanout_Stream_open s).bind fun x5 =>
  if x5.isSome then
  some (x5, s)
  else
  some (none, (⟨s.limit, 3, s.data, s.offsets⟩ : S_fanout_Stream))
set_option maxHeartbeats 8000000 in
theorem fanout_Stream_Abort_ok {s : S_fanout_Stream} {b0 : Nat} {ap0_0 : Option Addr} {cp0_0 : Nat} {mp0_1 : Nat} {K : Hp} {r : Err × S_fanout_Stream}
    (hm : fanout_Stream_Abort s = some r) (hp0_0 : (0 < s.data.length → Has ap0_0)) :
    Fn Try.prog 24 [.pointer (some ⟨b0, 0, none⟩)] K [Cells b0 77 [.int .i64 s.limit, .int .i64 s.state, .slice ap0_0 s.data.length cp0_0, .map (some mp0_1)], OwnL eU ap0_0 5 1 cp0_0 s.data, MapE intK (fun x => .int .i64 x) mp0_1 s.offsets] (fun v K' H' => ∃ ar_0 : Option Addr, ∃ cr_0 : Nat, ∃ mr_1 : Nat, v = errV 44 r.1 ∧ (0 < r.2.data.length → Has ar_0) ∧ H' = [Cells b0 77 [.int .i64 r.2.limit, .int .i64 r.2.state, .slice ar_0 r.2.data.length cr_0, .map (some mr_1)], OwnL eU ar_0 5 1 cr_0 r.2.data, MapE intK (fun x => .int .i64 x) mr_1 r.2.offsets]) := by
  refine Fn.enter Try.func24 Try.call24 rfl fun F => ?_
  unfold fanout_Stream_Abort at hm
  obtain ⟨x5, q5, hm⟩ := bnd hm
  conv => whnf
  refine call_fn (fanout_Stream_open_ok q5 hp0_0) (.cons r0 (.cons r0 (.cons r0 .nil))) ?_
  rintro _ K5 _ l5 ⟨rfl, rfl⟩
  conv => whnf
  refine neq_err rfl ?_
  conv => whnf
  refine cond_go rfl ?_
  conv => whnf
  refine cond_s (fun w7 => ?_) (fun w7 => ?_)
  · replace hm := ift w7 hm
    obtain rfl := si hm
    conv => whnf
    refine EndStep.mk _ l5 ⟨ap0_0, cp0_0, mp0_1, rfl, hp0_0, rfl⟩ (ConvH.of (.cons r0 (.cons r0 (.cons r0 (.cons r0 .nil)))))
  · replace hm := iff_ w7 hm
    conv => whnf
    refine nil_check ?_
    conv => whnf
    refine field_addr rfl ?_
    conv => whnf
    refine store_rule r0 rfl ?_
    conv => whnf
    refine ⟨rfl, rfl, (Nat.le_of_ble_eq_true rfl), ?_⟩
    obtain rfl := si hm
    conv => whnf
    refine EndStep.mk _ l5 ⟨ap0_0, cp0_0, mp0_1, rfl, hp0_0, rfl⟩ (ConvH.of (.cons r0 (.cons r0 (.cons r0 (.cons r0 .nil)))))

noncomputable def law28_play (s : S_fanout_Stream) (x : S_law28_Step) : Option (S_fanout_Stream) :=
  if decide (((x.What % (12 : UInt8)).toNat : Int) = 3) then
  (fanout_Stream_Attach s x.ID x.N).bind fun x19 =>
  some x19.2
  else
  if decide (((x.What % (12 : UInt8)).toNat : Int) = 4) then
  (fanout_Stream_Attach s x.ID x.N).bind fun x19 =>
  some x19.2
  else
  if decide (((x.What % (12 : UInt8)).toNat : Int) = 5) then
  (fanout_Stream_Read s x.ID x.N).bind fun x30 =>
  some x30.2.2.2
  else
  if decide (((x.What % (12 : UInt8)).toNat : Int) = 6) then
  (fanout_Stream_Read s x.ID x.N).bind fun x30 =>
  some x30.2.2.2
  else
  if decide (((x.What % (12 : UInt8)).toNat : Int) = 7) then
  (fanout_Stream_Read s x.ID x.N).bind fun x30 =>
  some x30.2.2.2
  else
  if decide (((x.What % (12 : UInt8)).toNat : Int) = 8) then
  (fanout_Stream_Read s x.ID x.N).bind fun x30 =>
  some x30.2.2.2
  else
  if decide (((x.What % (12 : UInt8)).toNat : Int) = 9) then
  (fanout_Stream_Detach s x.ID).bind fun x36 =>
  some x36.2
  else
  if decide (((x.What % (12 : UInt8)).toNat : Int) = 10) then
  (fanout_Stream_End s).bind fun x40 =>
  some x40.2
  else
  if decide (((x.What % (12 : UInt8)).toNat : Int) = 11) then
  (fanout_Stream_Abort s).bind fun x44 =>
  some x44.2
  else
  (fanout_Stream_Write s x.Data).bind fun x10 =>
  some x10.2
set_option maxHeartbeats 8000000 in
theorem law28_play_ok {s : S_fanout_Stream} {x : S_law28_Step} {b0 : Nat} {ap0_0 : Option Addr} {cp0_0 : Nat} {mp0_1 : Nat} {ap1_0 : Option Addr} {cp1_0 : Nat} {K : Hp} {r : S_fanout_Stream}
    (hm : law28_play s x = some r) (hp0_0 : (0 < s.data.length → Has ap0_0)) (hp1_0 : RdC eU K ap1_0 cp1_0 1 x.Data) :
    Fn Try.prog 22 [.pointer (some ⟨b0, 0, none⟩), .agg #[.int .u8 (x.What.toNat : Int), .int .i64 x.ID, .int .i64 x.N, .slice ap1_0 x.Data.length cp1_0]] K [Cells b0 77 [.int .i64 s.limit, .int .i64 s.state, .slice ap0_0 s.data.length cp0_0, .map (some mp0_1)], OwnL eU ap0_0 5 1 cp0_0 s.data, MapE intK (fun x => .int .i64 x) mp0_1 s.offsets] (fun v K' H' => ∃ ar_0 : Option Addr, ∃ cr_0 : Nat, ∃ mr_1 : Nat, v = .tuple #[] ∧ (0 < r.data.length → Has ar_0) ∧ H' = [Cells b0 77 [.int .i64 r.limit, .int .i64 r.state, .slice ar_0 r.data.length cr_0, .map (some mr_1)], OwnL eU ar_0 5 1 cr_0 r.data, MapE intK (fun x => .int .i64 x) mr_1 r.offsets]) := by
  refine Fn.enter Try.func22 Try.call22 rfl fun F => ?_
  unfold law28_play at hm
  conv => whnf
  refine box_rule ?_
  intro b3
  conv => whnf
  refine field_addr rfl ?_
  conv => whnf
  refine RStep.of (load1_s r0 rfl rfl ?_)
  conv => whnf
  refine u8_rem (x := x.What) (y := (12 : UInt8)) rfl rfl (by decide) ?_
  conv => whnf
  refine block_go rfl ?_
  conv => whnf
  refine eq_int ?_
  conv => whnf
  refine cond_go rfl ?_
  conv => whnf
  refine cond_s (fun w11 => ?_) (fun w11 => ?_)
  · replace hm := ift w11 hm
    conv => whnf
    refine cond_go rfl ?_
    conv => whnf
    refine cond_t w11 ?_
    conv => whnf
    refine field_addr rfl ?_
    conv => whnf
    refine RStep.of (load1_s r0 rfl rfl ?_)
    conv => whnf
    refine field_addr rfl ?_
    conv => whnf
    refine RStep.of (load1_s r0 rfl rfl ?_)
    obtain ⟨x19, q19, hm⟩ := bnd hm
    conv => whnf
    refine call_fn (fanout_Stream_Attach_ok q19 hp0_0) (.cons r1 (.cons r1 (.cons r1 .nil))) ?_
    rintro _ K19 _ l19 ⟨a19_0, c19_0, m19_1, rfl, h19_0, rfl⟩
    obtain rfl := si hm
    conv => whnf
    refine EndStep.mk _ l19 ⟨a19_0, c19_0, m19_1, rfl, h19_0, rfl⟩ (ConvH.of (.cons r0 (.cons r0 (.cons r0 (.cons r1 .nil)))))
  · replace hm := iff_ w11 hm
    conv => whnf
    refine eq_int ?_
    conv => whnf
    refine cond_go rfl ?_
    conv => whnf
    refine cond_s (fun w11 => ?_) (fun w11 => ?_)
    · replace hm := ift w11 hm
      conv => whnf
      refine field_addr rfl ?_
      conv => whnf
      refine RStep.of (load1_s r0 rfl rfl ?_)
      conv => whnf
      refine field_addr rfl ?_
      conv => whnf
      refine RStep.of (load1_s r0 rfl rfl ?_)
      obtain ⟨x19, q19, hm⟩ := bnd hm
      conv => whnf
      refine call_fn (fanout_Stream_Attach_ok q19 hp0_0) (.cons r1 (.cons r1 (.cons r1 .nil))) ?_
      rintro _ K19 _ l19 ⟨a19_0, c19_0, m19_1, rfl, h19_0, rfl⟩
      obtain rfl := si hm
      conv => whnf
      refine EndStep.mk _ l19 ⟨a19_0, c19_0, m19_1, rfl, h19_0, rfl⟩ (ConvH.of (.cons r0 (.cons r0 (.cons r0 (.cons r1 .nil)))))
    · replace hm := iff_ w11 hm
      conv => whnf
      refine eq_int ?_
      conv => whnf
      refine cond_go rfl ?_
      conv => whnf
      refine cond_s (fun w20 => ?_) (fun w20 => ?_)
      · replace hm := ift w20 hm
        conv => whnf
        refine cond_go rfl ?_
        conv => whnf
        refine cond_t w20 ?_
        conv => whnf
        refine field_addr rfl ?_
        conv => whnf
        refine RStep.of (load1_s r0 rfl rfl ?_)
        conv => whnf
        refine field_addr rfl ?_
        conv => whnf
        refine RStep.of (load1_s r0 rfl rfl ?_)
        obtain ⟨x30, q30, hm⟩ := bnd hm
        conv => whnf
        refine call_fn (fanout_Stream_Read_ok q30 hp0_0) (.cons r1 (.cons r1 (.cons r1 .nil))) ?_
        rintro _ K30 _ l30 ⟨a30_0, c30_0, a30_1, c30_1, m30_2, rfl, h30_0, h30_1, rfl⟩
        obtain rfl := si hm
        conv => whnf
        refine EndStep.mk _ l30 ⟨a30_1, c30_1, m30_2, rfl, h30_1, rfl⟩ (ConvH.of (.cons r1 (.cons r1 (.cons r1 (.cons r2 .nil)))))
      · replace hm := iff_ w20 hm
        conv => whnf
        refine eq_int ?_
        conv => whnf
        refine cond_go rfl ?_
        conv => whnf
        refine cond_s (fun w20 => ?_) (fun w20 => ?_)
        · replace hm := ift w20 hm
          conv => whnf
          refine cond_go rfl ?_
          conv => whnf
          refine cond_t w20 ?_
          conv => whnf
          refine field_addr rfl ?_
          conv => whnf
          refine RStep.of (load1_s r0 rfl rfl ?_)
          conv => whnf
          refine field_addr rfl ?_
          conv => whnf
          refine RStep.of (load1_s r0 rfl rfl ?_)
          obtain ⟨x30, q30, hm⟩ := bnd hm
          conv => whnf
          refine call_fn (fanout_Stream_Read_ok q30 hp0_0) (.cons r1 (.cons r1 (.cons r1 .nil))) ?_
          rintro _ K30 _ l30 ⟨a30_0, c30_0, a30_1, c30_1, m30_2, rfl, h30_0, h30_1, rfl⟩
          obtain rfl := si hm
          conv => whnf
          refine EndStep.mk _ l30 ⟨a30_1, c30_1, m30_2, rfl, h30_1, rfl⟩ (ConvH.of (.cons r1 (.cons r1 (.cons r1 (.cons r2 .nil)))))
        · replace hm := iff_ w20 hm
          conv => whnf
          refine eq_int ?_
          conv => whnf
          refine cond_go rfl ?_
          conv => whnf
          refine cond_s (fun w20 => ?_) (fun w20 => ?_)
          · replace hm := ift w20 hm
            conv => whnf
            refine cond_go rfl ?_
            conv => whnf
            refine cond_t w20 ?_
            conv => whnf
            refine field_addr rfl ?_
            conv => whnf
            refine RStep.of (load1_s r0 rfl rfl ?_)
            conv => whnf
            refine field_addr rfl ?_
            conv => whnf
            refine RStep.of (load1_s r0 rfl rfl ?_)
            obtain ⟨x30, q30, hm⟩ := bnd hm
            conv => whnf
            refine call_fn (fanout_Stream_Read_ok q30 hp0_0) (.cons r1 (.cons r1 (.cons r1 .nil))) ?_
            rintro _ K30 _ l30 ⟨a30_0, c30_0, a30_1, c30_1, m30_2, rfl, h30_0, h30_1, rfl⟩
            obtain rfl := si hm
            conv => whnf
            refine EndStep.mk _ l30 ⟨a30_1, c30_1, m30_2, rfl, h30_1, rfl⟩ (ConvH.of (.cons r1 (.cons r1 (.cons r1 (.cons r2 .nil)))))
          · replace hm := iff_ w20 hm
            conv => whnf
            refine eq_int ?_
            conv => whnf
            refine cond_go rfl ?_
            conv => whnf
            refine cond_s (fun w20 => ?_) (fun w20 => ?_)
            · replace hm := ift w20 hm
              conv => whnf
              refine field_addr rfl ?_
              conv => whnf
              refine RStep.of (load1_s r0 rfl rfl ?_)
              conv => whnf
              refine field_addr rfl ?_
              conv => whnf
              refine RStep.of (load1_s r0 rfl rfl ?_)
              obtain ⟨x30, q30, hm⟩ := bnd hm
              conv => whnf
              refine call_fn (fanout_Stream_Read_ok q30 hp0_0) (.cons r1 (.cons r1 (.cons r1 .nil))) ?_
              rintro _ K30 _ l30 ⟨a30_0, c30_0, a30_1, c30_1, m30_2, rfl, h30_0, h30_1, rfl⟩
              obtain rfl := si hm
              conv => whnf
              refine EndStep.mk _ l30 ⟨a30_1, c30_1, m30_2, rfl, h30_1, rfl⟩ (ConvH.of (.cons r1 (.cons r1 (.cons r1 (.cons r2 .nil)))))
            · replace hm := iff_ w20 hm
              conv => whnf
              refine eq_int ?_
              conv => whnf
              refine cond_go rfl ?_
              conv => whnf
              refine cond_s (fun w31 => ?_) (fun w31 => ?_)
              · replace hm := ift w31 hm
                conv => whnf
                refine field_addr rfl ?_
                conv => whnf
                refine RStep.of (load1_s r0 rfl rfl ?_)
                obtain ⟨x36, q36, hm⟩ := bnd hm
                conv => whnf
                refine call_fn (fanout_Stream_Detach_ok q36 hp0_0) (.cons r1 (.cons r1 (.cons r1 .nil))) ?_
                rintro _ K36 _ l36 ⟨a36_0, c36_0, m36_1, rfl, h36_0, rfl⟩
                obtain rfl := si hm
                conv => whnf
                refine EndStep.mk _ l36 ⟨a36_0, c36_0, m36_1, rfl, h36_0, rfl⟩ (ConvH.of (.cons r0 (.cons r0 (.cons r0 (.cons r1 .nil)))))
              · replace hm := iff_ w31 hm
                conv => whnf
                refine eq_int ?_
                conv => whnf
                refine cond_go rfl ?_
                conv => whnf
                refine cond_s (fun w37 => ?_) (fun w37 => ?_)
                · replace hm := ift w37 hm
                  obtain ⟨x40, q40, hm⟩ := bnd hm
                  conv => whnf
                  refine call_fn (fanout_Stream_End_ok q40 hp0_0) (.cons r1 (.cons r1 (.cons r1 .nil))) ?_
                  rintro _ K40 _ l40 ⟨a40_0, c40_0, m40_1, rfl, h40_0, rfl⟩
                  obtain rfl := si hm
                  conv => whnf
                  refine EndStep.mk _ l40 ⟨a40_0, c40_0, m40_1, rfl, h40_0, rfl⟩ (ConvH.of (.cons r0 (.cons r0 (.cons r0 (.cons r1 .nil)))))
                · replace hm := iff_ w37 hm
                  conv => whnf
                  refine eq_int ?_
                  conv => whnf
                  refine cond_go rfl ?_
                  conv => whnf
                  refine cond_s (fun w41 => ?_) (fun w41 => ?_)
                  · replace hm := ift w41 hm
                    obtain ⟨x44, q44, hm⟩ := bnd hm
                    conv => whnf
                    refine call_fn (fanout_Stream_Abort_ok q44 hp0_0) (.cons r1 (.cons r1 (.cons r1 .nil))) ?_
                    rintro _ K44 _ l44 ⟨a44_0, c44_0, m44_1, rfl, h44_0, rfl⟩
                    obtain rfl := si hm
                    conv => whnf
                    refine EndStep.mk _ l44 ⟨a44_0, c44_0, m44_1, rfl, h44_0, rfl⟩ (ConvH.of (.cons r0 (.cons r0 (.cons r0 (.cons r1 .nil)))))
                  · replace hm := iff_ w41 hm
                    conv => whnf
                    refine field_addr rfl ?_
                    conv => whnf
                    refine RStep.of (load1_s r0 rfl rfl ?_)
                    obtain ⟨x10, q10, hm⟩ := bnd hm
                    conv => whnf
                    refine call_fn (fanout_Stream_Write_ok q10 hp0_0 hp1_0 rfl) (.cons r1 (.cons r1 (.cons r1 .nil))) ?_
                    rintro _ K10 _ l10 ⟨a10_0, c10_0, m10_1, rfl, h10_0, rfl⟩
                    obtain rfl := si hm
                    conv => whnf
                    refine EndStep.mk _ l10 ⟨a10_0, c10_0, m10_1, rfl, h10_0, rfl⟩ (ConvH.of (.cons r0 (.cons r0 (.cons r0 (.cons r1 .nil)))))

noncomputable def fanout_Stream_Written (s : S_fanout_Stream) : Option (Int) :=
  some (s.data.length : Int)
set_option maxHeartbeats 8000000 in
theorem fanout_Stream_Written_ok {s : S_fanout_Stream} {b0 : Nat} {ap0_0 : Option Addr} {cp0_0 : Nat} {mp0_1 : Nat} {K : Hp} {r : Int}
    (hm : fanout_Stream_Written s = some r) (hp0_0 : (0 < s.data.length → Has ap0_0)) :
    Fn Try.prog 19 [.pointer (some ⟨b0, 0, none⟩)] K [Cells b0 77 [.int .i64 s.limit, .int .i64 s.state, .slice ap0_0 s.data.length cp0_0, .map (some mp0_1)], OwnL eU ap0_0 5 1 cp0_0 s.data, MapE intK (fun x => .int .i64 x) mp0_1 s.offsets] (fun v K' H' => v = .int .i64 r ∧ H' = [Cells b0 77 [.int .i64 s.limit, .int .i64 s.state, .slice ap0_0 s.data.length cp0_0, .map (some mp0_1)], OwnL eU ap0_0 5 1 cp0_0 s.data, MapE intK (fun x => .int .i64 x) mp0_1 s.offsets]) := by
  refine Fn.enter Try.func19 Try.call19 rfl fun F => ?_
  unfold fanout_Stream_Written at hm
  conv => whnf
  refine eq_ptr_nil rfl ?_
  conv => whnf
  refine cond_go rfl ?_
  conv => whnf
  refine cond_F ?_
  conv => whnf
  refine nil_check ?_
  conv => whnf
  refine field_addr rfl ?_
  conv => whnf
  refine RStep.of (load1_s r0 rfl rfl ?_)
  conv => whnf
  refine RStep.of (len_slice rfl ?_)
  obtain rfl := si hm
  conv => whnf
  refine EndStep.mk _ (Hp.Le.refl _) ⟨rfl, rfl⟩ (ConvH.of (.cons r0 (.cons r0 (.cons r0 (.cons r0 .nil)))))
