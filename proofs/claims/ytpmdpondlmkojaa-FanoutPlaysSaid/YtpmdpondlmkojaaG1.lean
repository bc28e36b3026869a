/- Functions of the program: mirrors, and that a call returns what the mirror says. Printed by gen.py. -/
import Derived.Test.YtpmdpondlmkojaaShelf
import Derived.Test.YtpmdpondlmkojaaSL22
import Derived.KernelRfl
import Derived.Test.YtpmdpondlmkojaaProg
set_option linter.unusedVariables false
set_option linter.unusedSimpArgs false
open Go Go.SL Go.Proofs
set_option maxRecDepth 1000000
structure S_law28_Step where
  What : UInt8
  ID : Int
  N : Int
  Data : Str
def S_law28_Step.R : Rp S_law28_Step := fun K cs x => ∃ a_0 : Option Addr, ∃ c_0 : Nat, cs = [.int .u8 (x.What.toNat : Int), .int .i64 x.ID, .int .i64 x.N, .slice a_0 x.Data.length c_0] ∧ RdC eU K a_0 c_0 1 x.Data
theorem S_law28_Step.R_ok : RpOK 4 S_law28_Step.R :=
  ⟨fun hk ⟨a_0, c_0, e, h_0⟩ => ⟨a_0, c_0, e, (h_0.mono hk)⟩, fun ⟨a_0, c_0, e, h_0⟩ => by simp [e], fun ⟨a_0, c_0, e, h_0⟩ v hv => by rw [e] at hv; simp at hv; rcases hv with rfl | rfl | rfl | rfl <;> rfl⟩
structure S_fanout_Stream where
  limit : Int
  state : Int
  data : Str
  offsets : (List (Int × Int))
structure S_ref28_Reader where
  ID : Int
  At : Int
abbrev S_ref28_Reader.enc (x : S_ref28_Reader) : List Value := [.int .i64 x.ID, .int .i64 x.At]
structure S_ref28_Stream where
  Limit : Int
  State : Int
  Data : Str
  Readers : (List S_ref28_Reader)
def S_ref28_Stream.R : Rp S_ref28_Stream := fun K cs x => ∃ a_0 : Option Addr, ∃ c_0 : Nat, ∃ a_1 : Option Addr, ∃ c_1 : Nat, cs = [.int .i64 x.Limit, .int .i64 x.State, .slice a_0 x.Data.length c_0, .slice a_1 x.Readers.length c_1] ∧ RdC eU K a_0 c_0 1 x.Data ∧ RdC S_ref28_Reader.enc K a_1 c_1 2 x.Readers
theorem S_ref28_Stream.R_ok : RpOK 4 S_ref28_Stream.R :=
  ⟨fun hk ⟨a_0, c_0, a_1, c_1, e, h_0, h_1⟩ => ⟨a_0, c_0, a_1, c_1, e, (h_0.mono hk), (h_1.mono hk)⟩, fun ⟨a_0, c_0, a_1, c_1, e, h_0, h_1⟩ => by simp [e], fun ⟨a_0, c_0, a_1, c_1, e, h_0, h_1⟩ v hv => by rw [e] at hv; simp at hv; rcases hv with rfl | rfl | rfl | rfl <;> rfl⟩
theorem elT22 : ElT Try.prog 22 5 1 := ElT.mk' rfl rfl rfl rfl rfl
theorem elT58 : ElT Try.prog 58 83 2 := ElT.mk' rfl rfl rfl rfl rfl
theorem elT36 : ElT Try.prog 36 3 1 := ElT.mk' rfl rfl rfl rfl rfl
noncomputable def law28_large_L0 : List S_law28_Step → Nat → Int → Option (Int)
  | [], _, y0_0 => some y0_0
  | e0 :: xs0, i0, y0_0 =>
    law28_large_L0 xs0 (i0 + 1) (IntKind.i64.wrap (y0_0 + (e0.Data.length : Int)))
noncomputable def law28_large (script : (List S_law28_Step)) : Option (Bool) :=
  (chk (script.length ≤ szMax)).bind fun _ =>
  (law28_large_L0 script 0 (script.length : Int)).bind fun t0 =>
  some (decide (t0 > 3000) || decide ((script.length : Int) > 80))
set_option maxHeartbeats 8000000 in
theorem law28_large_ok {script : (List S_law28_Step)} {ap0_0 : Option Addr} {cp0_0 : Nat} {n0 : Nat} {K : Hp} {r : Bool}
    (hm : law28_large script = some r) (hp0_0 : LiC S_law28_Step.R K ap0_0 cp0_0 4 script) (en0 : n0 = script.length) :
    Fn Try.prog 21 [.slice ap0_0 n0 cp0_0] K [] (fun v K' H' => v = .bool r ∧ H' = []) := by
  subst en0
  refine Fn.enter Try.func21 Try.call21 rfl fun F => ?_
  unfold law28_large at hm
  conv => whnf
  refine RStep.of (len_slice rfl ?_)
  conv => whnf
  refine RStep.of (len_slice rfl ?_)
  obtain ⟨hk0, hm⟩ := chkb hm
  obtain ⟨s0, hl0, hm⟩ := bnd hm
  conv => whnf
  refine code_cut (σ := (Int)) [3, 5, 10, 11, 12, 13, 14, 15, 16, 17, 18, 19] (fun t0 => [(3, .int .i64 t0)]) (fun t0 => [F]) (fun zz K1 => match zz with | t0 => t0 = s0) ?_ ?_
  · refine block_go rfl ?_
    conv => whnf
    refine loop_rule (σ := Nat × Int) [3, 5, 10, 11, 12, 13, 14, 15, 16, 17, 18, 19] (fun (i0, y0_0) => [(10, .int .i64 (i0 : Int)), (3, .int .i64 y0_0)]) (fun (i0, y0_0) => [F]) (fun zz K1 => match zz with | (i0, y0_0) => law28_large_L0 (script.drop i0) i0 y0_0 = some s0) (fun zz => script.length - zz.1) (0, (script.length : Int)) rfl ⟨rfl, rfl, trivial⟩ (ConvH.of (.cons r0 .nil)) hl0 ?_
    clear hl0
    rintro ⟨i0, y0_0⟩ Kb0 lk0 hl0 j0
    conv at hl0 => whnf
    conv => whnf
    refine cond_go rfl ?_
    conv => whnf
    refine cond_s (fun w0 => ?_) (fun w0 => ?_)
    · obtain ⟨e0, hx0, hd0⟩ := ltx w0
      rw [hd0, law28_large_L0.eq_2] at hl0
      conv => whnf
      refine block_go rfl ?_
      conv => whnf
      refine RStep.ofN (index_addr rfl rfl (hasR (LiC.mono S_law28_Step.R_ok lk0 hp0_0).rd hx0) (nn _) (lt_ofN hx0) ?_)
      obtain ⟨ss13, cc13, hr13, hc13, hR13⟩ := LiR.get (LiC.mono S_law28_Step.R_ok lk0 hp0_0).rd hx0
      obtain ⟨a13_0, c13_0, rfl, h13_0⟩ := hR13
      conv => whnf
      refine RStep.of (load_rd_agg i0 _ hr13 rfl hc13 rfl ?_)
      conv => whnf
      refine alloc_rule rfl ?_
      intro b5
      conv => whnf
      refine store_rule r0 rfl ?_
      conv => whnf
      refine ⟨rfl, rfl, (Nat.le_of_ble_eq_true rfl), ?_⟩
      conv => whnf
      refine field_addr rfl ?_
      conv => whnf
      refine RStep.of (load1_s r0 rfl rfl ?_)
      conv => whnf
      refine RStep.of (len_slice rfl ?_)
      conv => whnf
      refine int_wrap ?_
      conv => whnf
      refine int_in (cntz hx0 hk0) ?_
      conv => whnf
      refine RoundStep.mk (i0 + 1, (IntKind.i64.wrap (y0_0 + (e0.Data.length : Int)))) ⟨rfl, rfl, trivial⟩ (by repeat (first | exact trivial | refine And.intro rfl ?_)) (ConvH.of (.cons r1 .nil)) lk0 (ltm hx0) hl0
    · rw [lty w0, law28_large_L0.eq_1] at hl0
      conv => whnf
      refine cond_T ?_
      conv => whnf
      refine MeetStep.mk (y0_0) ⟨rfl, trivial⟩ (by repeat (first | exact trivial | refine And.intro rfl ?_)) (ConvH.of (.cons r0 .nil)) lk0 (si hl0)
  · rintro t0 Kt0 lt0 rfl j0
    conv => whnf
    refine cond_s (fun g22_7 => ?_) (fun g22_7 => ?_)
    · conv => whnf
      refine cond_t g22_7 ?_
      conv => whnf
      refine cond_t g22_7 ?_
      conv => whnf
      refine cond_t g22_7 ?_
      obtain rfl := si hm
      conv => whnf
      refine EndStep.mk _ lt0 ⟨(by rw [← ((or_t g22_7)).symm] <;> rfl), rfl⟩ (ConvH.of (.cons r0 .nil))
    · conv => whnf
      refine cond_f g22_7 ?_
      conv => whnf
      refine RStep.of (len_slice rfl ?_)
      conv => whnf
      refine cond_f g22_7 ?_
      conv => whnf
      refine cond_f g22_7 ?_
      obtain rfl := si hm
      conv => whnf
      refine EndStep.mk _ lt0 ⟨(by rw [← (or_e (b := decide ((script.length : Int) > 80)) g22_7)] <;> rfl), rfl⟩ (ConvH.of (.cons r0 .nil))

noncomputable def fanout_New (limit : Int) : Option (Option S_fanout_Stream × Err) :=
  if (decide (limit < 1) || decide (limit > 65536)) then
  some (none, (some 1))
  else
  some ((some (⟨limit, 1, [], []⟩ : S_fanout_Stream)), none)
set_option maxHeartbeats 8000000 in
theorem fanout_New_ok {limit : Int} {K : Hp} {r : Option S_fanout_Stream × Err}
    (hm : fanout_New limit = some r)  :
    Fn Try.prog 11 [.int .i64 limit] K [] (fun v K' H' => match r.1 with | none => (v = .tuple #[.pointer none, errV 44 r.2] ∧ H' = []) | some ro => (∃ br_0 : Nat, ∃ ar_1 : Option Addr, ∃ cr_1 : Nat, ∃ mr_2 : Nat, v = .tuple #[.pointer (some ⟨br_0, 0, none⟩), errV 44 r.2] ∧ (0 < ro.data.length → Has ar_1) ∧ H' = [Cells br_0 77 [.int .i64 ro.limit, .int .i64 ro.state, .slice ar_1 ro.data.length cr_1, .map (some mr_2)], OwnL eU ar_1 5 1 cr_1 ro.data, MapE intK (fun x => .int .i64 x) mr_2 ro.offsets])) := by
  refine Fn.enter Try.func11 Try.call11 rfl fun F => ?_
  unfold fanout_New at hm
  conv => whnf
  refine cond_s (fun g6_1 => ?_) (fun g6_1 => ?_)
  · conv => whnf
    refine cond_t g6_1 ?_
    conv => whnf
    refine cond_t g6_1 ?_
    conv => whnf
    refine cond_go rfl ?_
    conv => whnf
    refine cond_T ?_
    replace hm := ift (or_t g6_1) hm
    conv => whnf
    refine mk_iface rfl ?_
    obtain rfl := si hm
    conv => whnf
    refine EndStep.mk _ (Hp.Le.refl _) ⟨rfl, rfl⟩ (ConvH.of (.cons r0 .nil))
  · conv => whnf
    refine cond_f g6_1 ?_
    conv => whnf
    refine cond_f g6_1 ?_
    conv => whnf
    refine cond_go rfl ?_
    conv => whnf
    refine cond_s (fun w9 => ?_) (fun w9 => ?_)
    · replace hm := ift (or_u g6_1 w9) hm
      conv => whnf
      refine mk_iface rfl ?_
      obtain rfl := si hm
      conv => whnf
      refine EndStep.mk _ (Hp.Le.refl _) ⟨rfl, rfl⟩ (ConvH.of (.cons r0 .nil))
    · replace hm := iff_ (or_f g6_1 w9) hm
      conv => whnf
      refine makeMap_rule intK (fun x => .int .i64 x) fun b12 => ?_
      conv => whnf
      refine build_struct rfl rfl ?_
      conv => whnf
      refine cond_T ?_
      conv => whnf
      refine cond_T ?_
      conv => whnf
      refine cond_T ?_
      conv => whnf
      refine box_rule ?_
      intro b14
      obtain rfl := si hm
      conv => whnf
      refine nilE eU 5 1 ?_
      refine EndStep.mk _ (Hp.Le.refl _) ⟨b14, none, 0, b12, rfl, (fun h => by simp at h), rfl⟩ (ConvH.of (.cons r1 (.cons r0 (.cons r0 (.cons r0 .nil)))))

noncomputable def fanout_Stream_open (s : S_fanout_Stream) : Option (Err) :=
  if decide (s.state ≠ 1) then
  some (some 6)
  else
  some none
set_option maxHeartbeats 8000000 in
theorem fanout_Stream_open_ok {s : S_fanout_Stream} {b0 : Nat} {ap0_0 : Option Addr} {cp0_0 : Nat} {mp0_1 : Nat} {K : Hp} {r : Err}
    (hm : fanout_Stream_open s = some r) (hp0_0 : (0 < s.data.length → Has ap0_0)) :
    Fn Try.prog 36 [.pointer (some ⟨b0, 0, none⟩)] K [Cells b0 77 [.int .i64 s.limit, .int .i64 s.state, .slice ap0_0 s.data.length cp0_0, .map (some mp0_1)], OwnL eU ap0_0 5 1 cp0_0 s.data, MapE intK (fun x => .int .i64 x) mp0_1 s.offsets] (fun v K' H' => v = errV 44 r ∧ H' = [Cells b0 77 [.int .i64 s.limit, .int .i64 s.state, .slice ap0_0 s.data.length cp0_0, .map (some mp0_1)], OwnL eU ap0_0 5 1 cp0_0 s.data, MapE intK (fun x => .int .i64 x) mp0_1 s.offsets]) := by
  refine Fn.enter Try.func36 Try.call36 rfl fun F => ?_
  unfold fanout_Stream_open at hm
  conv => whnf
  refine block_go rfl ?_
  conv => whnf
  refine eq_ptr_nil rfl ?_
  conv => whnf
  refine cond_go rfl ?_
  conv => whnf
  refine cond_F ?_
  conv => whnf
  refine nil_check ?_
  conv => whnf
  refine field_addr rfl ?_
  conv => whnf
  refine RStep.of (load1_s r0 rfl rfl ?_)
  conv => whnf
  refine neq_int ?_
  conv => whnf
  refine cond_go rfl ?_
  conv => whnf
  refine cond_s (fun w7 => ?_) (fun w7 => ?_)
  · replace hm := ift w7 hm
    conv => whnf
    refine mk_iface rfl ?_
    obtain rfl := si hm
    conv => whnf
    refine EndStep.mk _ (Hp.Le.refl _) ⟨rfl, rfl⟩ (ConvH.of (.cons r0 (.cons r0 (.cons r0 (.cons r0 .nil)))))
  · replace hm := iff_ w7 hm
    obtain rfl := si hm
    conv => whnf
    refine EndStep.mk _ (Hp.Le.refl _) ⟨rfl, rfl⟩ (ConvH.of (.cons r0 (.cons r0 (.cons r0 (.cons r0 .nil)))))

noncomputable def fanout_Stream_Write (s : S_fanout_Stream) (b : Str) : Option (Err × S_fanout_Stream) :=
  (fanout_Stream_open s).bind fun x7 =>
  if x7.isSome then
  some (x7, s)
  else
  (chk (InI ((s.data.length : Int) + (b.length : Int)))).bind fun _ =>
  if decide (((s.data.length : Int) + (b.length : Int)) > s.limit) then
  some ((some 5), s)
  else
  (chk (s.data.length + b.length ≤ lim)).bind fun _ =>
  some (none, (⟨s.limit, s.state, (s.data ++ b), s.offsets⟩ : S_fanout_Stream))
set_option maxHeartbeats 8000000 in
theorem fanout_Stream_Write_ok {s : S_fanout_Stream} {b : Str} {b0 : Nat} {ap0_0 : Option Addr} {cp0_0 : Nat} {mp0_1 : Nat} {ap1_0 : Option Addr} {cp1_0 : Nat} {n1 : Nat} {K : Hp} {r : Err × S_fanout_Stream}
    (hm : fanout_Stream_Write s b = some r) (hp0_0 : (0 < s.data.length → Has ap0_0)) (hp1_0 : RdC eU K ap1_0 cp1_0 1 b) (en1 : n1 = b.length) :
    Fn Try.prog 12 [.pointer (some ⟨b0, 0, none⟩), .slice ap1_0 n1 cp1_0] K [Cells b0 77 [.int .i64 s.limit, .int .i64 s.state, .slice ap0_0 s.data.length cp0_0, .map (some mp0_1)], OwnL eU ap0_0 5 1 cp0_0 s.data, MapE intK (fun x => .int .i64 x) mp0_1 s.offsets] (fun v K' H' => ∃ ar_0 : Option Addr, ∃ cr_0 : Nat, ∃ mr_1 : Nat, v = errV 44 r.1 ∧ (0 < r.2.data.length → Has ar_0) ∧ H' = [Cells b0 77 [.int .i64 r.2.limit, .int .i64 r.2.state, .slice ar_0 r.2.data.length cr_0, .map (some mr_1)], OwnL eU ar_0 5 1 cr_0 r.2.data, MapE intK (fun x => .int .i64 x) mr_1 r.2.offsets]) := by
  subst en1
  refine Fn.enter Try.func12 Try.call12 rfl fun F => ?_
  unfold fanout_Stream_Write at hm
  obtain ⟨x7, q7, hm⟩ := bnd hm
  conv => whnf
  refine call_fn (fanout_Stream_open_ok q7 hp0_0) (.cons r0 (.cons r0 (.cons r0 .nil))) ?_
  rintro _ K7 _ l7 ⟨rfl, rfl⟩
  conv => whnf
  refine neq_err rfl ?_
  conv => whnf
  refine cond_go rfl ?_
  conv => whnf
  refine cond_s (fun w9 => ?_) (fun w9 => ?_)
  · replace hm := ift w9 hm
    obtain rfl := si hm
    conv => whnf
    refine EndStep.mk _ l7 ⟨ap0_0, cp0_0, mp0_1, rfl, hp0_0, rfl⟩ (ConvH.of (.cons r0 (.cons r0 (.cons r0 (.cons r0 .nil)))))
  · replace hm := iff_ w9 hm
    conv => whnf
    refine draw_go ⟨⟨[], false⟩, _, [(_, _)]⟩ (by kernel_rfl) ⟨Hp.Le.refl _, (ConvH.of (.cons r0 .nil))⟩ ?_
    conv => whnf
    refine nil_check ?_
    conv => whnf
    refine field_addr rfl ?_
    conv => whnf
    refine load1_l m0 rfl rfl ?_
    conv => whnf
    refine len_sliceN rfl ?_
    conv => whnf
    refine len_sliceN rfl ?_
    obtain ⟨h18, hm⟩ := chkb hm
    conv => whnf
    refine int_in h18 ?_
    conv => whnf
    refine nil_check ?_
    conv => whnf
    refine field_addr rfl ?_
    conv => whnf
    refine load1_l m0 rfl rfl ?_
    conv => whnf
    refine cond_go rfl ?_
    conv => whnf
    refine cond_s (fun w23 => ?_) (fun w23 => ?_)
    · replace hm := ift w23 hm
      conv => whnf
      refine mk_iface rfl ?_
      obtain rfl := si hm
      conv => whnf
      refine EndStep.mk _ l7 ⟨ap0_0, cp0_0, mp0_1, rfl, hp0_0, rfl⟩ (ConvH.of (.cons r0 (.cons r0 (.cons r0 (.cons r0 .nil)))))
    · replace hm := iff_ w23 hm
      conv => whnf
      refine nil_check ?_
      conv => whnf
      refine field_addr rfl ?_
      conv => whnf
      refine RStep.of (load1_s r0 rfl rfl ?_)
      obtain ⟨h31, hm⟩ := chkb hm
      conv => whnf
      refine apE rfl r1 elT22 (src_k rfl (hp1_0.mono l7).rd rfl) h31 ?_
      intro a31 c31 o31
      conv => whnf
      refine nil_check ?_
      conv => whnf
      refine field_addr rfl ?_
      conv => whnf
      refine store_rule r1 rfl ?_
      conv => whnf
      refine ⟨rfl, rfl, (Nat.le_of_ble_eq_true rfl), ?_⟩
      obtain rfl := si hm
      conv => whnf
      refine EndStep.mk _ l7 ⟨a31, c31, mp0_1, rfl, o31, rfl⟩ (ConvH.of (.cons r0 (.cons r0 (.cons r0 (.cons r0 .nil)))))

noncomputable def fanout_Stream_open_nil : Option (Err) :=
  some (some 3)
set_option maxHeartbeats 8000000 in
theorem fanout_Stream_open_nil_ok  {K : Hp} {r : Err}
    (hm : fanout_Stream_open_nil = some r)  :
    Fn Try.prog 36 [.pointer none] K [] (fun v K' H' => v = errV 44 r ∧ H' = []) := by
  refine Fn.enter Try.func36 Try.call36 rfl fun F => ?_
  unfold fanout_Stream_open_nil at hm
  conv => whnf
  refine block_go rfl ?_
  conv => whnf
  refine eq_nil_nil rfl ?_
  conv => whnf
  refine cond_go rfl ?_
  conv => whnf
  refine cond_T ?_
  conv => whnf
  refine mk_iface rfl ?_
  obtain rfl := si hm
  conv => whnf
  refine EndStep.mk _ (Hp.Le.refl _) ⟨rfl, rfl⟩ (ConvH.of (.cons r0 .nil))

noncomputable def fanout_Stream_Write_nil (b : Str) : Option (Err) :=
  (fanout_Stream_open_nil).bind fun x7 =>
  if x7.isSome then
  some x7
  else
  none
set_option maxHeartbeats 8000000 in
theorem fanout_Stream_Write_nil_ok {b : Str} {ap1_0 : Option Addr} {cp1_0 : Nat} {n1 : Nat} {K : Hp} {r : Err}
    (hm : fanout_Stream_Write_nil b = some r) (hp1_0 : RdC eU K ap1_0 cp1_0 1 b) (en1 : n1 = b.length) :
    Fn Try.prog 12 [.pointer none, .slice ap1_0 n1 cp1_0] K [] (fun v K' H' => v = errV 44 r ∧ H' = []) := by
  subst en1
  refine Fn.enter Try.func12 Try.call12 rfl fun F => ?_
  unfold fanout_Stream_Write_nil at hm
  obtain ⟨x7, q7, hm⟩ := bnd hm
  conv => whnf
  refine call_fn (fanout_Stream_open_nil_ok q7) .nil ?_
  rintro _ K7 _ l7 ⟨rfl, rfl⟩
  conv => whnf
  refine neq_err rfl ?_
  conv => whnf
  refine cond_go rfl ?_
  conv => whnf
  refine cond_s (fun w9 => ?_) (fun w9 => ?_)
  · replace hm := ift w9 hm
    obtain rfl := si hm
    conv => whnf
    refine EndStep.mk _ l7 ⟨rfl, rfl⟩ (ConvH.of (.cons r0 .nil))
  · replace hm := iff_ w9 hm
    conv => whnf
    refine draw_go ⟨⟨[], false⟩, _, []⟩ (by kernel_rfl) ⟨Hp.Le.refl _, (ConvH.of .nil)⟩ ?_
    cases hm

noncomputable def fanout_Stream_Attach (s : S_fanout_Stream) (id : Int) (fromZ : Int) : Option (Err × S_fanout_Stream) :=
  if (mget s.offsets id).isSome then
  some ((some 4), s)
  else
  if (decide (fromZ < 0) || decide (fromZ > (s.data.length : Int))) then
  some ((some 1), s)
  else
  some (none, (⟨s.limit, s.state, s.data, (mset s.offsets id fromZ)⟩ : S_fanout_Stream))
set_option maxHeartbeats 8000000 in
theorem fanout_Stream_Attach_ok {s : S_fanout_Stream} {id : Int} {fromZ : Int} {b0 : Nat} {ap0_0 : Option Addr} {cp0_0 : Nat} {mp0_1 : Nat} {K : Hp} {r : Err × S_fanout_Stream}
    (hm : fanout_Stream_Attach s id fromZ = some r) (hp0_0 : (0 < s.data.length → Has ap0_0)) :
    Fn Try.prog 13 [.pointer (some ⟨b0, 0, none⟩), .int .i64 id, .int .i64 fromZ] K [Cells b0 77 [.int .i64 s.limit, .int .i64 s.state, .slice ap0_0 s.data.length cp0_0, .map (some mp0_1)], OwnL eU ap0_0 5 1 cp0_0 s.data, MapE intK (fun x => .int .i64 x) mp0_1 s.offsets] (fun v K' H' => ∃ ar_0 : Option Addr, ∃ cr_0 : Nat, ∃ mr_1 : Nat, v = errV 44 r.1 ∧ (0 < r.2.data.length → Has ar_0) ∧ H' = [Cells b0 77 [.int .i64 r.2.limit, .int .i64 r.2.state, .slice ar_0 r.2.data.length cr_0, .map (some mr_1)], OwnL eU ar_0 5 1 cr_0 r.2.data, MapE intK (fun x => .int .i64 x) mr_1 r.2.offsets]) := by
  refine Fn.enter Try.func13 Try.call13 rfl fun F => ?_
  unfold fanout_Stream_Attach at hm
  conv => whnf
  refine eq_ptr_nil rfl ?_
  conv => whnf
  refine cond_go rfl ?_
  conv => whnf
  refine cond_F ?_
  conv => whnf
  refine nil_check ?_
  conv => whnf
  refine field_addr rfl ?_
  conv => whnf
  refine RStep.of (load1_s r0 rfl rfl ?_)
  conv => whnf
  refine RStep.of (lookup_ok (kenc := intK) (venc := (fun x => .int .i64 x)) (z := 0) r2 rfl rfl (key_int rfl) ?_)
  conv => whnf
  refine cond_go rfl ?_
  conv => whnf
  refine cond_s (fun w21 => ?_) (fun w21 => ?_)
  · replace hm := ift w21 hm
    conv => whnf
    refine mk_iface rfl ?_
    obtain rfl := si hm
    conv => whnf
    refine EndStep.mk _ (Hp.Le.refl _) ⟨ap0_0, cp0_0, mp0_1, rfl, hp0_0, rfl⟩ (ConvH.of (.cons r0 (.cons r0 (.cons r0 (.cons r0 .nil)))))
  · replace hm := iff_ w21 hm
    conv => whnf
    refine cond_s (fun g25_6 => ?_) (fun g25_6 => ?_)
    · conv => whnf
      refine cond_t g25_6 ?_
      conv => whnf
      refine cond_t g25_6 ?_
      conv => whnf
      refine cond_t g25_6 ?_
      conv => whnf
      refine cond_t g25_6 ?_
      conv => whnf
      refine cond_t g25_6 ?_
      conv => whnf
      refine cond_t g25_6 ?_
      conv => whnf
      refine cond_t g25_6 ?_
      conv => whnf
      refine cond_go rfl ?_
      conv => whnf
      refine cond_T ?_
      replace hm := ift (or_t g25_6) hm
      conv => whnf
      refine mk_iface rfl ?_
      obtain rfl := si hm
      conv => whnf
      refine EndStep.mk _ (Hp.Le.refl _) ⟨ap0_0, cp0_0, mp0_1, rfl, hp0_0, rfl⟩ (ConvH.of (.cons r0 (.cons r0 (.cons r0 (.cons r0 .nil)))))
    · conv => whnf
      refine cond_f g25_6 ?_
      conv => whnf
      refine cond_f g25_6 ?_
      conv => whnf
      refine nil_check ?_
      conv => whnf
      refine cond_f g25_6 ?_
      conv => whnf
      refine field_addr rfl ?_
      conv => whnf
      refine cond_f g25_6 ?_
      conv => whnf
      refine RStep.of (load1_s r0 rfl rfl ?_)
      conv => whnf
      refine cond_f g25_6 ?_
      conv => whnf
      refine RStep.of (len_slice rfl ?_)
      conv => whnf
      refine cond_f g25_6 ?_
      conv => whnf
      refine cond_f g25_6 ?_
      conv => whnf
      refine cond_go rfl ?_
      conv => whnf
      refine cond_s (fun w33 => ?_) (fun w33 => ?_)
      · replace hm := ift (or_u g25_6 w33) hm
        conv => whnf
        refine mk_iface rfl ?_
        obtain rfl := si hm
        conv => whnf
        refine EndStep.mk _ (Hp.Le.refl _) ⟨ap0_0, cp0_0, mp0_1, rfl, hp0_0, rfl⟩ (ConvH.of (.cons r0 (.cons r0 (.cons r0 (.cons r0 .nil)))))
      · replace hm := iff_ (or_f g25_6 w33) hm
        conv => whnf
        refine nil_check ?_
        conv => whnf
        refine field_addr rfl ?_
        conv => whnf
        refine RStep.of (load1_s r0 rfl rfl ?_)
        conv => whnf
        refine update_rule (kenc := intK) (venc := (fun x => .int .i64 x)) fromZ rfl r2 rfl (key_int rfl) ?_
        obtain rfl := si hm
        conv => whnf
        refine EndStep.mk _ (Hp.Le.refl _) ⟨ap0_0, cp0_0, mp0_1, rfl, hp0_0, rfl⟩ (ConvH.of (.cons r1 (.cons r1 (.cons r0 (.cons r0 .nil)))))

noncomputable def fanout_Stream_Attach_nil (id : Int) (fromZ : Int) : Option (Err) :=
  some (some 3)
set_option maxHeartbeats 8000000 in
theorem fanout_Stream_Attach_nil_ok {id : Int} {fromZ : Int} {K : Hp} {r : Err}
    (hm : fanout_Stream_Attach_nil id fromZ = some r)  :
    Fn Try.prog 13 [.pointer none, .int .i64 id, .int .i64 fromZ] K [] (fun v K' H' => v = errV 44 r ∧ H' = []) := by
  refine Fn.enter Try.func13 Try.call13 rfl fun F => ?_
  unfold fanout_Stream_Attach_nil at hm
  conv => whnf
  refine eq_nil_nil rfl ?_
  conv => whnf
  refine cond_go rfl ?_
  conv => whnf
  refine cond_T ?_
  conv => whnf
  refine mk_iface rfl ?_
  obtain rfl := si hm
  conv => whnf
  refine EndStep.mk _ (Hp.Le.refl _) ⟨rfl, rfl⟩ (ConvH.of (.cons r0 .nil))

noncomputable def fanout_Stream_Read_nil (id : Int) (max : Int) : Option (Str × Int × Err) :=
  some ([], 0, (some 3))
set_option maxHeartbeats 8000000 in
theorem fanout_Stream_Read_nil_ok {id : Int} {max : Int} {K : Hp} {r : Str × Int × Err}
    (hm : fanout_Stream_Read_nil id max = some r)  :
    Fn Try.prog 14 [.pointer none, .int .i64 id, .int .i64 max] K [] (fun v K' H' => ∃ ar_0 : Option Addr, ∃ cr_0 : Nat, v = .tuple #[.slice ar_0 r.1.length cr_0, .int .i64 r.2.1, errV 44 r.2.2] ∧ (0 < r.1.length → Has ar_0) ∧ H' = [OwnL eU ar_0 5 1 cr_0 r.1]) := by
  refine Fn.enter Try.func14 Try.call14 rfl fun F => ?_
  unfold fanout_Stream_Read_nil at hm
  conv => whnf
  refine eq_nil_nil rfl ?_
  conv => whnf
  refine cond_go rfl ?_
  conv => whnf
  refine cond_T ?_
  conv => whnf
  refine mk_iface rfl ?_
  obtain rfl := si hm
  conv => whnf
  refine nilE eU 5 1 ?_
  refine EndStep.mk _ (Hp.Le.refl _) ⟨none, 0, rfl, (fun h => by simp at h), rfl⟩ (ConvH.of (.cons r0 (.cons r0 .nil)))

noncomputable def fanout_Stream_Read (s : S_fanout_Stream) (id : Int) (max : Int) : Option (Str × Int × Err × S_fanout_Stream) :=
  if (!(mget s.offsets id).isSome) then
  some ([], 0, (some 3), s)
  else
  if decide (s.state = 3) then
  some ([], 3, none, s)
  else
  if decide (max > 0) then
  (chk (InI ((s.data.length : Int) - ((mget s.offsets id).getD 0)))).bind fun _ =>
  (chk (InI (((mget s.offsets id).getD 0) + (min max ((s.data.length : Int) - ((mget s.offsets id).getD 0)))))).bind fun _ =>
  (chk (0 ≤ ((mget s.offsets id).getD 0) ∧ ((mget s.offsets id).getD 0) ≤ (((mget s.offsets id).getD 0) + (min max ((s.data.length : Int) - ((mget s.offsets id).getD 0)))) ∧ (((mget s.offsets id).getD 0) + (min max ((s.data.length : Int) - ((mget s.offsets id).getD 0)))) ≤ (s.data.length : Int))).bind fun _ =>
  (chk ((subL s.data ((mget s.offsets id).getD 0) (((mget s.offsets id).getD 0) + (min max ((s.data.length : Int) - ((mget s.offsets id).getD 0))))).length ≤ lim)).bind fun _ =>
  (chk (InI (((mget s.offsets id).getD 0) + (((subL s.data ((mget s.offsets id).getD 0) (((mget s.offsets id).getD 0) + (min max ((s.data.length : Int) - ((mget s.offsets id).getD 0))))).length) : Int)))).bind fun _ =>
  if (decide (s.state = 2) && decide ((((mget s.offsets id).getD 0) + (((subL s.data ((mget s.offsets id).getD 0) (((mget s.offsets id).getD 0) + (min max ((s.data.length : Int) - ((mget s.offsets id).getD 0))))).length) : Int)) = (s.data.length : Int))) then
  some ((subL s.data ((mget s.offsets id).getD 0) (((mget s.offsets id).getD 0) + (min max ((s.data.length : Int) - ((mget s.offsets id).getD 0))))), 2, none, (⟨s.limit, s.state, s.data, (mset s.offsets id (((mget s.offsets id).getD 0) + (((subL s.data ((mget s.offsets id).getD 0) (((mget s.offsets id).getD 0) + (min max ((s.data.length : Int) - ((mget s.offsets id).getD 0))))).length) : Int)))⟩ : S_fanout_Stream))
  else
  some ((subL s.data ((mget s.offsets id).getD 0) (((mget s.offsets id).getD 0) + (min max ((s.data.length : Int) - ((mget s.offsets id).getD 0))))), 1, none, (⟨s.limit, s.state, s.data, (mset s.offsets id (((mget s.offsets id).getD 0) + (((subL s.data ((mget s.offsets id).getD 0) (((mget s.offsets id).getD 0) + (min max ((s.data.length : Int) - ((mget s.offsets id).getD 0))))).length) : Int)))⟩ : S_fanout_Stream))
  else
  (chk (InI (((mget s.offsets id).getD 0) + 0))).bind fun _ =>
  if (decide (s.state = 2) && decide ((((mget s.offsets id).getD 0) + 0) = (s.data.length : Int))) then
  some ([], 2, none, (⟨s.limit, s.state, s.data, (mset s.offsets id (((mget s.offsets id).getD 0) + 0))⟩ : S_fanout_Stream))
  else
  some ([], 1, none, (⟨s.limit, s.state, s.data, (mset s.offsets id (((mget s.offsets id).getD 0) + 0))⟩ : S_fanout_Stream))
set_option maxHeartbeats 8000000 in
theorem fanout_Stream_Read_ok {s : S_fanout_Stream} {id : Int} {max : Int} {b0 : Nat} {ap0_0 : Option Addr} {cp0_0 : Nat} {mp0_1 : Nat} {K : Hp} {r : Str × Int × Err × S_fanout_Stream}
    (hm : fanout_Stream_Read s id max = some r) (hp0_0 : (0 < s.data.length → Has ap0_0)) :
    Fn Try.prog 14 [.pointer (some ⟨b0, 0, none⟩), .int .i64 id, .int .i64 max] K [Cells b0 77 [.int .i64 s.limit, .int .i64 s.state, .slice ap0_0 s.data.length cp0_0, .map (some mp0_1)], OwnL eU ap0_0 5 1 cp0_0 s.data, MapE intK (fun x => .int .i64 x) mp0_1 s.offsets] (fun v K' H' => ∃ ar_0 : Option Addr, ∃ cr_0 : Nat, ∃ ar_1 : Option Addr, ∃ cr_1 : Nat, ∃ mr_2 : Nat, v = .tuple #[.slice ar_0 r.1.length cr_0, .int .i64 r.2.1, errV 44 r.2.2.1] ∧ (0 < r.1.length → Has ar_0) ∧ (0 < r.2.2.2.data.length → Has ar_1) ∧ H' = [OwnL eU ar_0 5 1 cr_0 r.1, Cells b0 77 [.int .i64 r.2.2.2.limit, .int .i64 r.2.2.2.state, .slice ar_1 r.2.2.2.data.length cr_1, .map (some mr_2)], OwnL eU ar_1 5 1 cr_1 r.2.2.2.data, MapE intK (fun x => .int .i64 x) mr_2 r.2.2.2.offsets]) := by
  refine Fn.enter Try.func14 Try.call14 rfl fun F => ?_
  unfold fanout_Stream_Read at hm
  conv => whnf
  refine eq_ptr_nil rfl ?_
  conv => whnf
  refine cond_go rfl ?_
  conv => whnf
  refine cond_F ?_
  conv => whnf
  refine nil_check ?_
  conv => whnf
  refine field_addr rfl ?_
  conv => whnf
  refine RStep.of (load1_s r0 rfl rfl ?_)
  conv => whnf
  refine RStep.of (lookup_ok (kenc := intK) (venc := (fun x => .int .i64 x)) (z := 0) r2 rfl rfl (key_int rfl) ?_)
  conv => whnf
  refine un_not ?_
  conv => whnf
  refine cond_go rfl ?_
  conv => whnf
  refine cond_s (fun w25 => ?_) (fun w25 => ?_)
  · replace hm := ift (not_t (ni_t w25)) hm
    conv => whnf
    refine mk_iface rfl ?_
    obtain rfl := si hm
    conv => whnf
    refine nilE eU 5 1 ?_
    refine EndStep.mk _ (Hp.Le.refl _) ⟨none, 0, ap0_0, cp0_0, mp0_1, rfl, (fun h => by simp at h), hp0_0, rfl⟩ (ConvH.of (.cons r0 (.cons r0 (.cons r0 (.cons r0 (.cons r0 .nil))))))
  · replace hm := iff_ (not_f (ni_f w25)) hm
    conv => whnf
    refine nil_check ?_
    conv => whnf
    refine field_addr rfl ?_
    conv => whnf
    refine RStep.of (load1_s r0 rfl rfl ?_)
    conv => whnf
    refine eq_int ?_
    conv => whnf
    refine cond_go rfl ?_
    conv => whnf
    refine cond_s (fun w31 => ?_) (fun w31 => ?_)
    · replace hm := ift w31 hm
      obtain rfl := si hm
      conv => whnf
      refine nilE eU 5 1 ?_
      refine EndStep.mk _ (Hp.Le.refl _) ⟨none, 0, ap0_0, cp0_0, mp0_1, rfl, (fun h => by simp at h), hp0_0, rfl⟩ (ConvH.of (.cons r0 (.cons r0 (.cons r0 (.cons r0 (.cons r0 .nil))))))
    · replace hm := iff_ w31 hm
      conv => whnf
      refine CStep.ownLe r1 fun hc3 => ?_
      conv => whnf
      refine cond_go rfl ?_
      conv => whnf
      refine cond_s (fun w33 => ?_) (fun w33 => ?_)
      · replace hm := ift w33 hm
        conv => whnf
        refine draw_go ⟨⟨[], false⟩, _, [(_, _)]⟩ (by kernel_rfl) ⟨Hp.Le.refl _, (ConvH.of (.cons r0 .nil))⟩ ?_
        conv => whnf
        refine nil_check ?_
        conv => whnf
        refine field_addr rfl ?_
        conv => whnf
        refine load1_l m0 rfl rfl ?_
        conv => whnf
        refine nil_check ?_
        conv => whnf
        refine field_addr rfl ?_
        conv => whnf
        refine load1_l m0 rfl rfl ?_
        conv => whnf
        refine len_sliceN rfl ?_
        obtain ⟨h48, hm⟩ := chkb hm
        conv => whnf
        refine int_in h48 ?_
        conv => whnf
        refine min_intN ?_
        obtain ⟨h50, hm⟩ := chkb hm
        conv => whnf
        refine int_in h50 ?_
        obtain ⟨h51, hm⟩ := chkb hm
        conv => whnf
        refine sl_part (l := s.data) (lo := (some ((mget s.offsets id).getD 0))) (hi := (some (((mget s.offsets id).getD 0) + (min max ((s.data.length : Int) - ((mget s.offsets id).getD 0)))))) rfl rfl rfl hc3 h51 ?_
        obtain ⟨h52, hm⟩ := chkb hm
        conv => whnf
        refine apn (enc := eU) elT22 (src_part rfl r1 h51 rfl (fun _ => rfl) (fun _ => rfl)) h52 ?_
        intro a52 c52 o52
        conv => whnf
        refine ⟨⟨(Hp.Le.refl _), (ConvH.of (.cons r1 .nil))⟩, ?_⟩
        conv => whnf
        refine RStep.of (len_slice rfl ?_)
        obtain ⟨h56, hm⟩ := chkb hm
        conv => whnf
        refine int_in h56 ?_
        conv => whnf
        refine nil_check ?_
        conv => whnf
        refine field_addr rfl ?_
        conv => whnf
        refine RStep.of (load1_s r1 rfl rfl ?_)
        conv => whnf
        refine update_rule (kenc := intK) (venc := (fun x => .int .i64 x)) (((mget s.offsets id).getD 0) + (((subL s.data ((mget s.offsets id).getD 0) (((mget s.offsets id).getD 0) + (min max ((s.data.length : Int) - ((mget s.offsets id).getD 0))))).length) : Int)) rfl r3 rfl (key_int rfl) ?_
        conv => whnf
        refine nil_check ?_
        conv => whnf
        refine field_addr rfl ?_
        conv => whnf
        refine RStep.of (load1_s r2 rfl rfl ?_)
        conv => whnf
        refine eq_int ?_
        conv => whnf
        refine cond_s (fun g68_13 => ?_) (fun g68_13 => ?_)
        · conv => whnf
          refine cond_t g68_13 ?_
          conv => whnf
          refine cond_t g68_13 ?_
          conv => whnf
          refine nil_check ?_
          conv => whnf
          refine cond_t g68_13 ?_
          conv => whnf
          refine field_addr rfl ?_
          conv => whnf
          refine cond_t g68_13 ?_
          conv => whnf
          refine RStep.of (load1_s r2 rfl rfl ?_)
          conv => whnf
          refine cond_t g68_13 ?_
          conv => whnf
          refine RStep.of (len_slice rfl ?_)
          conv => whnf
          refine cond_t g68_13 ?_
          conv => whnf
          refine eq_int ?_
          conv => whnf
          refine cond_t g68_13 ?_
          conv => whnf
          refine cond_go rfl ?_
          conv => whnf
          refine cond_s (fun w76 => ?_) (fun w76 => ?_)
          · replace hm := ift (and_t g68_13 w76) hm
            obtain rfl := si hm
            conv => whnf
            refine EndStep.mk _ (Hp.Le.refl _) ⟨a52, c52, ap0_0, cp0_0, mp0_1, rfl, o52, hp0_0, rfl⟩ (ConvH.of (.cons r1 (.cons r1 (.cons r1 (.cons r0 (.cons r0 .nil))))))
          · replace hm := iff_ (and_g g68_13 w76) hm
            obtain rfl := si hm
            conv => whnf
            refine EndStep.mk _ (Hp.Le.refl _) ⟨a52, c52, ap0_0, cp0_0, mp0_1, rfl, o52, hp0_0, rfl⟩ (ConvH.of (.cons r1 (.cons r1 (.cons r1 (.cons r0 (.cons r0 .nil))))))
        · conv => whnf
          refine cond_f g68_13 ?_
          conv => whnf
          refine cond_f g68_13 ?_
          conv => whnf
          refine cond_f g68_13 ?_
          conv => whnf
          refine cond_f g68_13 ?_
          conv => whnf
          refine cond_f g68_13 ?_
          conv => whnf
          refine cond_f g68_13 ?_
          conv => whnf
          refine cond_f g68_13 ?_
          conv => whnf
          refine cond_go rfl ?_
          conv => whnf
          refine cond_F ?_
          replace hm := iff_ (and_f g68_13) hm
          obtain rfl := si hm
          conv => whnf
          refine EndStep.mk _ (Hp.Le.refl _) ⟨a52, c52, ap0_0, cp0_0, mp0_1, rfl, o52, hp0_0, rfl⟩ (ConvH.of (.cons r1 (.cons r1 (.cons r1 (.cons r0 (.cons r0 .nil))))))
      · replace hm := iff_ w33 hm
        conv => whnf
        refine RStep.of (len_slice rfl ?_)
        obtain ⟨h56, hm⟩ := chkb hm
        conv => whnf
        refine int_in h56 ?_
        conv => whnf
        refine nil_check ?_
        conv => whnf
        refine field_addr rfl ?_
        conv => whnf
        refine RStep.of (load1_s r0 rfl rfl ?_)
        conv => whnf
        refine update_rule (kenc := intK) (venc := (fun x => .int .i64 x)) (((mget s.offsets id).getD 0) + 0) rfl r2 rfl (key_int rfl) ?_
        conv => whnf
        refine nil_check ?_
        conv => whnf
        refine field_addr rfl ?_
        conv => whnf
        refine RStep.of (load1_s r1 rfl rfl ?_)
        conv => whnf
        refine eq_int ?_
        conv => whnf
        refine cond_s (fun g68_13 => ?_) (fun g68_13 => ?_)
        · conv => whnf
          refine cond_t g68_13 ?_
          conv => whnf
          refine cond_t g68_13 ?_
          conv => whnf
          refine nil_check ?_
          conv => whnf
          refine cond_t g68_13 ?_
          conv => whnf
          refine field_addr rfl ?_
          conv => whnf
          refine cond_t g68_13 ?_
          conv => whnf
          refine RStep.of (load1_s r1 rfl rfl ?_)
          conv => whnf
          refine cond_t g68_13 ?_
          conv => whnf
          refine RStep.of (len_slice rfl ?_)
          conv => whnf
          refine cond_t g68_13 ?_
          conv => whnf
          refine eq_int ?_
          conv => whnf
          refine cond_t g68_13 ?_
          conv => whnf
          refine cond_go rfl ?_
          conv => whnf
          refine cond_s (fun w76 => ?_) (fun w76 => ?_)
          · replace hm := ift (and_t g68_13 w76) hm
            obtain rfl := si hm
            conv => whnf
            refine nilE eU 5 1 ?_
            refine EndStep.mk _ (Hp.Le.refl _) ⟨none, 0, ap0_0, cp0_0, mp0_1, rfl, (fun h => by simp at h), hp0_0, rfl⟩ (ConvH.of (.cons r0 (.cons r1 (.cons r1 (.cons r0 (.cons r0 .nil))))))
          · replace hm := iff_ (and_g g68_13 w76) hm
            obtain rfl := si hm
            conv => whnf
            refine nilE eU 5 1 ?_
            refine EndStep.mk _ (Hp.Le.refl _) ⟨none, 0, ap0_0, cp0_0, mp0_1, rfl, (fun h => by simp at h), hp0_0, rfl⟩ (ConvH.of (.cons r0 (.cons r1 (.cons r1 (.cons r0 (.cons r0 .nil))))))
        · conv => whnf
          refine cond_f g68_13 ?_
          conv => whnf
          refine cond_f g68_13 ?_
          conv => whnf
          refine cond_f g68_13 ?_
          conv => whnf
          refine cond_f g68_13 ?_
          conv => whnf
          refine cond_f g68_13 ?_
          conv => whnf
          refine cond_f g68_13 ?_
          conv => whnf
          refine cond_f g68_13 ?_
          conv => whnf
          refine cond_go rfl ?_
          conv => whnf
          refine cond_F ?_
          replace hm := iff_ (and_f g68_13) hm
          obtain rfl := si hm
          conv => whnf
          refine nilE eU 5 1 ?_
          refine EndStep.mk _ (Hp.Le.refl _) ⟨none, 0, ap0_0, cp0_0, mp0_1, rfl, (fun h => by simp at h), hp0_0, rfl⟩ (ConvH.of (.cons r0 (.cons r1 (.cons r1 (.cons r0 (.cons r0 .nil))))))

noncomputable def law28_awake : Option (Bool) :=
  (fanout_New 10).bind fun x6 =>
  Option.elim x6.1 (
  if x6.2.isSome then
  some false
  else
  (fanout_Stream_Write_nil ([(97 : UInt8), (98 : UInt8), (99 : UInt8)] : Str)).bind fun x15 =>
  if x15.isSome then
  some false
  else
  (fanout_Stream_Attach_nil 1 1).bind fun x20 =>
  if x20.isSome then
  some false
  else
  (fanout_Stream_Read_nil 1 9).bind fun x25 =>
  (if x25.2.2.isNone then some (decide (x25.1 = ([98, 99] : Str))) else some false).bind fun x35 =>
  some (x35 && decide (x25.2.1 = 1)))
   fun o6 =>
  if x6.2.isSome then
  some false
  else
  (fanout_Stream_Write o6 ([(97 : UInt8), (98 : UInt8), (99 : UInt8)] : Str)).bind fun x15 =>
  if x15.1.isSome then
  some false
  else
  (fanout_Stream_Attach x15.2 1 1).bind fun x20 =>
  if x20.1.isSome then
  some false
  else
  (fanout_Stream_Read x20.2 1 9).bind fun x25 =>
  (if x25.2.2.1.isNone then some (decide (x25.1 = ([98, 99] : Str))) else some false).bind fun x35 =>
  some (x35 && decide (x25.2.1 = 1))
set_option maxHeartbeats 8000000 in
theorem law28_awake_ok  {K : Hp} {r : Bool}
    (hm : law28_awake = some r)  :
    Fn Try.prog 10 [] K [] (fun v K' H' => v = .bool r ∧ H' = []) := by
  refine Fn.enter Try.func10 Try.call10 rfl fun F => ?_
  unfold law28_awake at hm
  obtain ⟨x6, q6, hm⟩ := bnd hm
  conv => whnf
  refine call_fn (fanout_New_ok q6) .nil ?_
  rintro v6 K6 H6 l6 p6
  rcases hq6 : x6.1 with _ | o6
  · rw [hq6] at p6 hm
    obtain ⟨rfl, rfl⟩ := p6
    replace hm := oe_n hm
    conv => whnf
    refine neq_err rfl ?_
    conv => whnf
    refine cond_s (fun g11_2 => ?_) (fun g11_2 => ?_)
    · replace hm := ift g11_2 hm
      conv => whnf
      refine cond_t g11_2 ?_
      conv => whnf
      refine cond_t g11_2 ?_
      conv => whnf
      refine cond_t g11_2 ?_
      conv => whnf
      refine cond_t g11_2 ?_
      conv => whnf
      refine cond_t g11_2 ?_
      conv => whnf
      refine cond_T ?_
      conv => whnf
      refine cond_T ?_
      conv => whnf
      refine cond_T ?_
      conv => whnf
      refine cond_T ?_
      conv => whnf
      refine cond_go rfl ?_
      conv => whnf
      refine cond_T ?_
      obtain rfl := si hm
      conv => whnf
      refine EndStep.mk _ l6 ⟨rfl, rfl⟩ (ConvH.of (.cons r0 .nil))
    · replace hm := iff_ g11_2 hm
      conv => whnf
      refine cond_f g11_2 ?_
      conv => whnf
      refine bsO (len := 3) (enc := eU) (l := ([(97 : UInt8), (98 : UInt8), (99 : UInt8)] : Str)) (cl := [.int .u8 97, .int .u8 98, .int .u8 99]) elT22 rfl rfl (fun _ _ => rfl) rfl rfl rfl ?_ fun b13 => ?_
      · conv => whnf
        refine cond_T ?_
        conv => whnf
        refine cond_T ?_
        conv => whnf
        refine cond_T ?_
        conv => whnf
      conv => whnf
      refine cond_f g11_2 ?_
      conv => whnf
      refine cv_mark rfl rfl r0 ?_
      conv => whnf
      refine cond_f g11_2 ?_
      obtain ⟨x15, q15, hm⟩ := bnd hm
      conv => whnf
      refine call_fn (Fn.lend Try.call12 (fun K15_1 l15_1 f15_1 => (fanout_Stream_Write_nil_ok q15 f15_1 rfl)) (by exact fun _ _ _ _ h => h)) (.cons r0 .nil) ?_
      rintro _ K15 _ l15 ⟨_, rfl, rfl, rfl⟩
      conv => whnf
      refine cond_f g11_2 ?_
      conv => whnf
      refine neq_err rfl ?_
      conv => whnf
      refine cond_f g11_2 ?_
      conv => whnf
      refine cond_s (fun g18_2 => ?_) (fun g18_2 => ?_)
      · replace hm := ift g18_2 hm
        conv => whnf
        refine cond_t g18_2 ?_
        conv => whnf
        refine cond_t g18_2 ?_
        conv => whnf
        refine cond_t g18_2 ?_
        conv => whnf
        refine cond_go rfl ?_
        conv => whnf
        refine cond_T ?_
        obtain rfl := si hm
        conv => whnf
        refine EndStep.mk _ (l6.trans l15) ⟨rfl, rfl⟩ (ConvH.of (.cons r1 .nil))
      · replace hm := iff_ g18_2 hm
        conv => whnf
        refine cond_f g18_2 ?_
        obtain ⟨x20, q20, hm⟩ := bnd hm
        conv => whnf
        refine call_fn (fanout_Stream_Attach_nil_ok q20) .nil ?_
        rintro _ K20 _ l20 ⟨rfl, rfl⟩
        conv => whnf
        refine cond_f g18_2 ?_
        conv => whnf
        refine neq_err rfl ?_
        conv => whnf
        refine cond_f g18_2 ?_
        conv => whnf
        refine cond_go rfl ?_
        conv => whnf
        refine cond_s (fun w22 => ?_) (fun w22 => ?_)
        · replace hm := ift w22 hm
          obtain rfl := si hm
          conv => whnf
          refine EndStep.mk _ ((l6.trans l15).trans l20) ⟨rfl, rfl⟩ (ConvH.of (.cons r1 .nil))
        · replace hm := iff_ w22 hm
          obtain ⟨x25, q25, hm⟩ := bnd hm
          conv => whnf
          refine call_fn (fanout_Stream_Read_nil_ok q25) .nil ?_
          rintro _ K25 _ l25 ⟨a25_0, c25_0, rfl, h25_0, rfl⟩
          conv => whnf
          refine eq_err rfl ?_
          obtain ⟨x35, e35, hm⟩ := bnd hm
          conv => whnf
          refine cond_s (fun g31_5 => ?_) (fun g31_5 => ?_)
          · replace e35 := ift g31_5 e35
            conv => whnf
            refine cond_t g31_5 ?_
            conv => whnf
            refine RStep.of (cv_ownE rfl r0 rfl rfl rfl ?_)
            conv => whnf
            refine cond_t g31_5 ?_
            conv => whnf
            refine eq_str ?_
            conv => whnf
            refine cond_t g31_5 ?_
            conv => whnf
            refine cond_s (fun g36_5 => ?_) (fun g36_5 => ?_)
            · conv => whnf
              refine cond_t g36_5 ?_
              conv => whnf
              refine eq_int ?_
              conv => whnf
              refine cond_t g36_5 ?_
              obtain rfl := si hm
              conv => whnf
              refine EndStep.mk _ (((l6.trans l15).trans l20).trans l25) ⟨(by rw [← (and_e (b := decide (x25.2.1 = 1)) ((si e35).symm.trans g36_5))] <;> rfl), rfl⟩ (ConvH.of (.cons r2 .nil))
            · conv => whnf
              refine cond_f g36_5 ?_
              conv => whnf
              refine cond_f g36_5 ?_
              obtain rfl := si hm
              conv => whnf
              refine EndStep.mk _ (((l6.trans l15).trans l20).trans l25) ⟨(by rw [← ((and_f ((si e35).symm.trans g36_5))).symm] <;> rfl), rfl⟩ (ConvH.of (.cons r2 .nil))
          · replace e35 := iff_ g31_5 e35
            conv => whnf
            refine cond_f g31_5 ?_
            conv => whnf
            refine cond_f g31_5 ?_
            conv => whnf
            refine cond_f g31_5 ?_
            conv => whnf
            refine cond_F ?_
            conv => whnf
            refine cond_F ?_
            conv => whnf
            refine cond_F ?_
            obtain rfl := si hm
            conv => whnf
            refine EndStep.mk _ (((l6.trans l15).trans l20).trans l25) ⟨(by rw [← ((and_f (si e35).symm)).symm] <;> rfl), rfl⟩ (ConvH.of (.cons r2 .nil))
  · rw [hq6] at p6 hm
    obtain ⟨b6_0, a6_1, c6_1, m6_2, rfl, h6_1, rfl⟩ := p6
    replace hm := oe_s hm
    conv => whnf
    refine neq_err rfl ?_
    conv => whnf
    refine cond_s (fun g11_2 => ?_) (fun g11_2 => ?_)
    · replace hm := ift g11_2 hm
      conv => whnf
      refine cond_t g11_2 ?_
      conv => whnf
      refine cond_t g11_2 ?_
      conv => whnf
      refine cond_t g11_2 ?_
      conv => whnf
      refine cond_t g11_2 ?_
      conv => whnf
      refine cond_t g11_2 ?_
      conv => whnf
      refine cond_T ?_
      conv => whnf
      refine cond_T ?_
      conv => whnf
      refine cond_T ?_
      conv => whnf
      refine cond_T ?_
      conv => whnf
      refine cond_go rfl ?_
      conv => whnf
      refine cond_T ?_
      obtain rfl := si hm
      conv => whnf
      refine EndStep.mk _ l6 ⟨rfl, rfl⟩ (ConvH.of (.cons r3 .nil))
    · replace hm := iff_ g11_2 hm
      conv => whnf
      refine cond_f g11_2 ?_
      conv => whnf
      refine bsO (len := 3) (enc := eU) (l := ([(97 : UInt8), (98 : UInt8), (99 : UInt8)] : Str)) (cl := [.int .u8 97, .int .u8 98, .int .u8 99]) elT22 rfl rfl (fun _ _ => rfl) rfl rfl rfl ?_ fun b13 => ?_
      · conv => whnf
        refine cond_T ?_
        conv => whnf
        refine cond_T ?_
        conv => whnf
        refine cond_T ?_
        conv => whnf
      conv => whnf
      refine cond_f g11_2 ?_
      conv => whnf
      refine cv_mark rfl rfl r0 ?_
      conv => whnf
      refine cond_f g11_2 ?_
      obtain ⟨x15, q15, hm⟩ := bnd hm
      conv => whnf
      refine call_fn (Fn.lend Try.call12 (fun K15_1 l15_1 f15_1 => (fanout_Stream_Write_ok q15 h6_1 f15_1 rfl)) (by exact fun _ _ _ _ h => h)) (.cons r0 (.cons r0 (.cons r0 (.cons r0 .nil)))) ?_
      rintro _ K15 _ l15 ⟨_, rfl, a15_0, c15_0, m15_1, rfl, h15_0, rfl⟩
      conv => whnf
      refine cond_f g11_2 ?_
      conv => whnf
      refine neq_err rfl ?_
      conv => whnf
      refine cond_f g11_2 ?_
      conv => whnf
      refine cond_s (fun g18_2 => ?_) (fun g18_2 => ?_)
      · replace hm := ift g18_2 hm
        conv => whnf
        refine cond_t g18_2 ?_
        conv => whnf
        refine cond_t g18_2 ?_
        conv => whnf
        refine cond_t g18_2 ?_
        conv => whnf
        refine cond_go rfl ?_
        conv => whnf
        refine cond_T ?_
        obtain rfl := si hm
        conv => whnf
        refine EndStep.mk _ (l6.trans l15) ⟨rfl, rfl⟩ (ConvH.of (.cons r4 .nil))
      · replace hm := iff_ g18_2 hm
        conv => whnf
        refine cond_f g18_2 ?_
        obtain ⟨x20, q20, hm⟩ := bnd hm
        conv => whnf
        refine call_fn (fanout_Stream_Attach_ok q20 h15_0) (.cons r1 (.cons r1 (.cons r1 .nil))) ?_
        rintro _ K20 _ l20 ⟨a20_0, c20_0, m20_1, rfl, h20_0, rfl⟩
        conv => whnf
        refine cond_f g18_2 ?_
        conv => whnf
        refine neq_err rfl ?_
        conv => whnf
        refine cond_f g18_2 ?_
        conv => whnf
        refine cond_go rfl ?_
        conv => whnf
        refine cond_s (fun w22 => ?_) (fun w22 => ?_)
        · replace hm := ift w22 hm
          obtain rfl := si hm
          conv => whnf
          refine EndStep.mk _ ((l6.trans l15).trans l20) ⟨rfl, rfl⟩ (ConvH.of (.cons r4 .nil))
        · replace hm := iff_ w22 hm
          obtain ⟨x25, q25, hm⟩ := bnd hm
          conv => whnf
          refine call_fn (fanout_Stream_Read_ok q25 h20_0) (.cons r0 (.cons r0 (.cons r0 .nil))) ?_
          rintro _ K25 _ l25 ⟨a25_0, c25_0, a25_1, c25_1, m25_2, rfl, h25_0, h25_1, rfl⟩
          conv => whnf
          refine eq_err rfl ?_
          obtain ⟨x35, e35, hm⟩ := bnd hm
          conv => whnf
          refine cond_s (fun g31_5 => ?_) (fun g31_5 => ?_)
          · replace e35 := ift g31_5 e35
            conv => whnf
            refine cond_t g31_5 ?_
            conv => whnf
            refine RStep.of (cv_ownE rfl r0 rfl rfl rfl ?_)
            conv => whnf
            refine cond_t g31_5 ?_
            conv => whnf
            refine eq_str ?_
            conv => whnf
            refine cond_t g31_5 ?_
            conv => whnf
            refine cond_s (fun g36_5 => ?_) (fun g36_5 => ?_)
            · conv => whnf
              refine cond_t g36_5 ?_
              conv => whnf
              refine eq_int ?_
              conv => whnf
              refine cond_t g36_5 ?_
              obtain rfl := si hm
              conv => whnf
              refine EndStep.mk _ (((l6.trans l15).trans l20).trans l25) ⟨(by rw [← (and_e (b := decide (x25.2.1 = 1)) ((si e35).symm.trans g36_5))] <;> rfl), rfl⟩ (ConvH.of (.cons r5 .nil))
            · conv => whnf
              refine cond_f g36_5 ?_
              conv => whnf
              refine cond_f g36_5 ?_
              obtain rfl := si hm
              conv => whnf
              refine EndStep.mk _ (((l6.trans l15).trans l20).trans l25) ⟨(by rw [← ((and_f ((si e35).symm.trans g36_5))).symm] <;> rfl), rfl⟩ (ConvH.of (.cons r5 .nil))
          · replace e35 := iff_ g31_5 e35
            conv => whnf
            refine cond_f g31_5 ?_
            conv => whnf
            refine cond_f g31_5 ?_
            conv => whnf
            refine cond_f g31_5 ?_
            conv => whnf
            refine cond_F ?_
            conv => whnf
            refine cond_F ?_
            conv => whnf
            refine cond_F ?_
            obtain rfl := si hm
            conv => whnf
            refine EndStep.mk _ (((l6.trans l15).trans l20).trans l25) ⟨(by rw [← ((and_f (si e35).symm)).symm] <;> rfl), rfl⟩ (ConvH.of (.cons r5 .nil))

noncomputable def ref28_New (limit : Int) : Option (S_ref28_Stream × Int) :=
  if (decide (limit < 1) || decide (limit > 65536)) then
  some ((⟨0, 0, [], []⟩ : S_ref28_Stream), 1)
  else
  some ((⟨limit, 1, [], []⟩ : S_ref28_Stream), 0)
set_option maxHeartbeats 8000000 in
theorem ref28_New_ok {limit : Int} {K : Hp} {r : S_ref28_Stream × Int}
    (hm : ref28_New limit = some r)  :
    Fn Try.prog 27 [.int .i64 limit] K [] (fun v K' H' => ∃ ar_0 : Option Addr, ∃ cr_0 : Nat, ∃ ar_1 : Option Addr, ∃ cr_1 : Nat, v = .tuple #[.agg #[.int .i64 r.1.Limit, .int .i64 r.1.State, .slice ar_0 r.1.Data.length cr_0, .slice ar_1 r.1.Readers.length cr_1], .int .i64 r.2] ∧ (0 < r.1.Data.length → Has ar_0) ∧ (0 < r.1.Readers.length → Has ar_1) ∧ H' = [OwnL eU ar_0 5 1 cr_0 r.1.Data, OwnL S_ref28_Reader.enc ar_1 83 2 cr_1 r.1.Readers]) := by
  refine Fn.enter Try.func27 Try.call27 rfl fun F => ?_
  unfold ref28_New at hm
  conv => whnf
  refine alloc_rule rfl ?_
  intro b2
  conv => whnf
  refine cond_s (fun g6_1 => ?_) (fun g6_1 => ?_)
  · conv => whnf
    refine cond_t g6_1 ?_
    conv => whnf
    refine cond_t g6_1 ?_
    conv => whnf
    refine cond_go rfl ?_
    conv => whnf
    refine cond_T ?_
    replace hm := ift (or_t g6_1) hm
    conv => whnf
    refine build_struct rfl rfl ?_
    conv => whnf
    refine store_rule r0 rfl ?_
    conv => whnf
    refine ⟨rfl, rfl, (Nat.le_of_ble_eq_true rfl), ?_⟩
    obtain rfl := si hm
    conv => whnf
    refine RStep.of (loadn_s r0 rfl (Nat.le_of_ble_eq_true rfl) ?_)
    conv => whnf
    refine nilE eU 5 1 ?_
    refine nilE S_ref28_Reader.enc 83 2 ?_
    refine EndStep.mk _ (Hp.Le.refl _) ⟨none, 0, none, 0, rfl, (fun h => by simp at h), (fun h => by simp at h), rfl⟩ (ConvH.of (.cons r1 (.cons r0 (.cons r1 .nil))))
  · conv => whnf
    refine cond_f g6_1 ?_
    conv => whnf
    refine cond_f g6_1 ?_
    conv => whnf
    refine cond_go rfl ?_
    conv => whnf
    refine cond_s (fun w9 => ?_) (fun w9 => ?_)
    · replace hm := ift (or_u g6_1 w9) hm
      conv => whnf
      refine build_struct rfl rfl ?_
      conv => whnf
      refine store_rule r0 rfl ?_
      conv => whnf
      refine ⟨rfl, rfl, (Nat.le_of_ble_eq_true rfl), ?_⟩
      obtain rfl := si hm
      conv => whnf
      refine RStep.of (loadn_s r0 rfl (Nat.le_of_ble_eq_true rfl) ?_)
      conv => whnf
      refine nilE eU 5 1 ?_
      refine nilE S_ref28_Reader.enc 83 2 ?_
      refine EndStep.mk _ (Hp.Le.refl _) ⟨none, 0, none, 0, rfl, (fun h => by simp at h), (fun h => by simp at h), rfl⟩ (ConvH.of (.cons r1 (.cons r0 (.cons r1 .nil))))
    · replace hm := iff_ (or_f g6_1 w9) hm
      conv => whnf
      refine build_struct rfl rfl ?_
      conv => whnf
      refine cond_T ?_
      conv => whnf
      refine cond_T ?_
      conv => whnf
      refine store_rule r0 rfl ?_
      conv => whnf
      refine ⟨rfl, rfl, (Nat.le_of_ble_eq_true rfl), ?_⟩
      obtain rfl := si hm
      conv => whnf
      refine RStep.of (loadn_s r0 rfl (Nat.le_of_ble_eq_true rfl) ?_)
      conv => whnf
      refine nilE eU 5 1 ?_
      refine nilE S_ref28_Reader.enc 83 2 ?_
      refine EndStep.mk _ (Hp.Le.refl _) ⟨none, 0, none, 0, rfl, (fun h => by simp at h), (fun h => by simp at h), rfl⟩ (ConvH.of (.cons r1 (.cons r0 (.cons r1 .nil))))

noncomputable def base_Num (e : Err) : Option (Int) :=
  if e.isNone then
  some 0
  else
  if (!e.isSome) then
  some (-1)
  else
  some (e.getD 0)
set_option maxHeartbeats 8000000 in
theorem base_Num_ok {e : Err} {K : Hp} {r : Int}
    (hm : base_Num e = some r)  :
    Fn Try.prog 23 [errV 44 e] K [] (fun v K' H' => v = .int .i64 r ∧ H' = []) := by
  refine Fn.enter Try.func23 Try.call23 rfl fun F => ?_
  unfold base_Num at hm
  conv => whnf
  refine eq_err rfl ?_
  conv => whnf
  refine cond_go rfl ?_
  conv => whnf
  refine cond_s (fun w6 => ?_) (fun w6 => ?_)
  · replace hm := ift w6 hm
    obtain rfl := si hm
    conv => whnf
    refine EndStep.mk _ (Hp.Le.refl _) ⟨rfl, rfl⟩ (ConvH.of (.cons r0 .nil))
  · replace hm := iff_ w6 hm
    conv => whnf
    refine asrt rfl rfl rfl ?_
    conv => whnf
    refine un_not ?_
    conv => whnf
    refine cond_go rfl ?_
    conv => whnf
    refine cond_s (fun w13 => ?_) (fun w13 => ?_)
    · replace hm := ift (not_t (ni_t w13)) hm
      obtain rfl := si hm
      conv => whnf
      refine EndStep.mk _ (Hp.Le.refl _) ⟨rfl, rfl⟩ (ConvH.of (.cons r0 .nil))
    · replace hm := iff_ (not_f (ni_f w13)) hm
      obtain rfl := si hm
      conv => whnf
      refine EndStep.mk _ (Hp.Le.refl _) ⟨rfl, rfl⟩ (ConvH.of (.cons r0 .nil))

noncomputable def ref28_place_L0 (s : S_ref28_Stream) (id : Int) : Nat → Int → Option (Int)
  | 0, _ => none
  | xs0 + 1, y0_0 =>
    (if decide (y0_0 < (s.Readers.length : Int)) then (ix s.Readers y0_0).bind fun x16 =>
    some (decide (x16.ID < id)) else some false).bind fun x21 =>
    if x21 then
    (chk (InI (y0_0 + 1))).bind fun _ =>
    ref28_place_L0 s id xs0 (y0_0 + 1)
    else
    some y0_0
noncomputable def ref28_place (n : Nat) (s : S_ref28_Stream) (id : Int) : Option (Int × Bool) :=
  (ref28_place_L0 s id n 0).bind fun t0 =>
  (if decide (t0 < (s.Readers.length : Int)) then (ix s.Readers t0).bind fun x34 =>
  some (decide (x34.ID = id)) else some false).bind fun x39 =>
  some (t0, x39)
set_option maxHeartbeats 8000000 in
theorem ref28_place_ok {n : Nat} {s : S_ref28_Stream} {id : Int} {ap0_0 : Option Addr} {cp0_0 : Nat} {ap0_1 : Option Addr} {cp0_1 : Nat} {K : Hp} {r : Int × Bool}
    (hm : ref28_place n s id = some r) (hp0_0 : RdC eU K ap0_0 cp0_0 1 s.Data) (hp0_1 : RdC S_ref28_Reader.enc K ap0_1 cp0_1 2 s.Readers) :
    Fn Try.prog 38 [.agg #[.int .i64 s.Limit, .int .i64 s.State, .slice ap0_0 s.Data.length cp0_0, .slice ap0_1 s.Readers.length cp0_1], .int .i64 id] K [] (fun v K' H' => v = .tuple #[.int .i64 r.1, .bool r.2] ∧ H' = []) := by
  refine Fn.enter Try.func38 Try.call38 rfl fun F => ?_
  unfold ref28_place at hm
  conv => whnf
  refine box_rule ?_
  intro b2
  obtain ⟨s0, hl0, hm⟩ := bnd hm
  conv => whnf
  refine code_cut (σ := (Int)) [6, 7, 8, 9, 10, 11, 12, 13, 14, 15, 16, 17, 18, 19, 20, 21, 22, 23] (fun t0 => [(6, .int .i64 t0)]) (fun t0 => [Cells b2 60 [.int .i64 s.Limit, .int .i64 s.State, .slice ap0_0 s.Data.length cp0_0, .slice ap0_1 s.Readers.length cp0_1], F]) (fun zz K1 => match zz with | t0 => t0 = s0) ?_ ?_
  · refine block_go rfl ?_
    conv => whnf
    refine loop_rule (σ := Nat × Int) [6, 7, 8, 9, 10, 11, 12, 13, 14, 15, 16, 17, 18, 19, 20, 21, 22, 23] (fun (i0, y0_0) => [(6, .int .i64 y0_0)]) (fun (i0, y0_0) => [Cells b2 60 [.int .i64 s.Limit, .int .i64 s.State, .slice ap0_0 s.Data.length cp0_0, .slice ap0_1 s.Readers.length cp0_1], F]) (fun zz K1 => match zz with | (i0, y0_0) => ref28_place_L0 s id i0 y0_0 = some s0) (fun zz => zz.1) (n, 0) rfl ⟨rfl, trivial⟩ (ConvH.of (.cons r0 (.cons r0 .nil))) hl0 ?_
    clear hl0
    rintro ⟨i0, y0_0⟩ Kb0 lk0 hl0 j0
    conv at hl0 => whnf
    cases i0 with
    | zero => rw [ref28_place_L0.eq_1] at hl0; cases hl0
    | succ i0 =>
      rw [ref28_place_L0.eq_2] at hl0
      conv => whnf
      refine field_addr rfl ?_
      conv => whnf
      refine RStep.of (load1_s r0 rfl rfl ?_)
      conv => whnf
      refine RStep.of (len_slice rfl ?_)
      obtain ⟨x21, e21, hl0⟩ := bnd hl0
      conv => whnf
      refine cond_s (fun g12_2 => ?_) (fun g12_2 => ?_)
      · replace e21 := ift g12_2 e21
        conv => whnf
        refine field_addr rfl ?_
        conv => whnf
        refine cond_t g12_2 ?_
        conv => whnf
        refine RStep.of (load1_s r0 rfl rfl ?_)
        conv => whnf
        refine cond_t g12_2 ?_
        conv => whnf
        refine cond_t g12_2 ?_
        obtain ⟨x16, l16, k16, e21⟩ := ixb e21
        conv => whnf
        refine RStep.ofN (index_addr rfl rfl (hasK (hp0_1.mono lk0).rd k16) l16 (lt_ofE rfl l16 k16) ?_)
        conv => whnf
        refine cond_t g12_2 ?_
        conv => whnf
        refine eptr_field rfl (hasK (hp0_1.mono lk0).rd k16) ?_
        conv => whnf
        refine cond_t g12_2 ?_
        conv => whnf
        refine RStep.of (load_rd ((y0_0).toNat) 0 _ _ (hp0_1.mono lk0).rd rfl (mp k16) rfl rfl ?_)
        conv => whnf
        refine cond_t g12_2 ?_
        conv => whnf
        refine cond_t g12_2 ?_
        conv => whnf
        refine cond_t g12_2 ?_
        conv => whnf
        refine cond_go rfl ?_
        conv => whnf
        refine cond_s (fun w21 => ?_) (fun w21 => ?_)
        · replace hl0 := ift ((si e21).symm.trans w21) hl0
          conv => whnf
          refine block_go rfl ?_
          obtain ⟨h23, hl0⟩ := chkb hl0
          conv => whnf
          refine int_in h23 ?_
          conv => whnf
          refine RoundStep.mk (i0, (y0_0 + 1)) ⟨rfl, trivial⟩ (by repeat (first | exact trivial | refine And.intro rfl ?_)) (ConvH.of (.cons r0 (.cons r0 .nil))) lk0 (Nat.lt_succ_self _) hl0
        · replace hl0 := iff_ ((si e21).symm.trans w21) hl0
          conv => whnf
          refine cond_T ?_
          conv => whnf
          refine MeetStep.mk (y0_0) ⟨rfl, trivial⟩ (by repeat (first | exact trivial | refine And.intro rfl ?_)) (ConvH.of (.cons r0 (.cons r0 .nil))) lk0 (si hl0)
      · replace e21 := iff_ g12_2 e21
        conv => whnf
        refine cond_f g12_2 ?_
        conv => whnf
        refine cond_f g12_2 ?_
        conv => whnf
        refine cond_f g12_2 ?_
        conv => whnf
        refine cond_f g12_2 ?_
        conv => whnf
        refine cond_f g12_2 ?_
        conv => whnf
        refine cond_f g12_2 ?_
        conv => whnf
        refine cond_f g12_2 ?_
        conv => whnf
        refine cond_f g12_2 ?_
        conv => whnf
        refine cond_go rfl ?_
        conv => whnf
        refine cond_F ?_
        replace hl0 := iff_ (si e21).symm hl0
        conv => whnf
        refine cond_T ?_
        conv => whnf
        refine MeetStep.mk (y0_0) ⟨rfl, trivial⟩ (by repeat (first | exact trivial | refine And.intro rfl ?_)) (ConvH.of (.cons r0 (.cons r0 .nil))) lk0 (si hl0)
  · rintro t0 Kt0 lt0 rfl j0
    conv => whnf
    refine draw_go ⟨⟨[], false⟩, _, [(_, _)]⟩ (by kernel_rfl) ⟨Hp.Le.refl _, (ConvH.of (.cons r0 .nil))⟩ ?_
    conv => whnf
    refine field_addr rfl ?_
    conv => whnf
    refine load1_l m0 rfl rfl ?_
    conv => whnf
    refine len_sliceN rfl ?_
    obtain ⟨x39, e39, hm⟩ := bnd hm
    conv => whnf
    refine cond_s (fun g30_4 => ?_) (fun g30_4 => ?_)
    · replace e39 := ift g30_4 e39
      conv => whnf
      refine field_addr rfl ?_
      conv => whnf
      refine cond_t g30_4 ?_
      conv => whnf
      refine load1_l m0 rfl rfl ?_
      conv => whnf
      refine cond_t g30_4 ?_
      conv => whnf
      refine cond_t g30_4 ?_
      obtain ⟨x34, l34, k34, e39⟩ := ixb e39
      conv => whnf
      refine index_addr rfl rfl (hasK (hp0_1.mono lt0).rd k34) l34 (lt_ofE rfl l34 k34) ?_
      conv => whnf
      refine cond_t g30_4 ?_
      conv => whnf
      refine eptr_field rfl (hasK (hp0_1.mono lt0).rd k34) ?_
      conv => whnf
      refine cond_t g30_4 ?_
      conv => whnf
      refine load_rd_l ((t0).toNat) 0 _ _ (hp0_1.mono lt0).rd rfl (mp k34) rfl rfl ?_
      conv => whnf
      refine cond_t g30_4 ?_
      conv => whnf
      refine cond_t g30_4 ?_
      conv => whnf
      refine eq_int ?_
      conv => whnf
      refine cond_t g30_4 ?_
      obtain rfl := si hm
      conv => whnf
      refine EndStep.mk _ lt0 ⟨(by rw [← (si e39)] <;> rfl), rfl⟩ (ConvH.of (.cons r1 .nil))
    · replace e39 := iff_ g30_4 e39
      conv => whnf
      refine cond_f g30_4 ?_
      conv => whnf
      refine cond_f g30_4 ?_
      conv => whnf
      refine cond_f g30_4 ?_
      conv => whnf
      refine cond_f g30_4 ?_
      conv => whnf
      refine cond_f g30_4 ?_
      conv => whnf
      refine cond_f g30_4 ?_
      conv => whnf
      refine cond_f g30_4 ?_
      conv => whnf
      refine cond_f g30_4 ?_
      obtain rfl := si hm
      conv => whnf
      refine EndStep.mk _ lt0 ⟨(by rw [← ((si e39).symm).symm] <;> rfl), rfl⟩ (ConvH.of (.cons r1 .nil))

noncomputable def ref28_Attach (n : Nat) (s : S_ref28_Stream) (id : Int) (fromZ : Int) : Option (S_ref28_Stream × Int) :=
  (ref28_place n s id).bind fun x13 =>
  if x13.2 then
  some (s, 4)
  else
  if (decide (fromZ < 0) || decide (fromZ > (s.Data.length : Int))) then
  some (s, 1)
  else
  (chk (0 ≤ (0 : Int) ∧ (0 : Int) ≤ x13.1 ∧ x13.1 ≤ (s.Readers.length : Int))).bind fun _ =>
  (chk ((subL s.Readers (0 : Int) x13.1).length ≤ lim)).bind fun _ =>
  (chk ((subL s.Readers (0 : Int) x13.1).length + [(⟨id, fromZ⟩ : S_ref28_Reader)].length ≤ lim)).bind fun _ =>
  (chk (0 ≤ x13.1 ∧ x13.1 ≤ (s.Readers.length : Int) ∧ (s.Readers.length : Int) ≤ (s.Readers.length : Int))).bind fun _ =>
  (chk (((subL s.Readers (0 : Int) x13.1) ++ [(⟨id, fromZ⟩ : S_ref28_Reader)]).length + (subL s.Readers x13.1 (s.Readers.length : Int)).length ≤ lim)).bind fun _ =>
  some ((⟨s.Limit, s.State, s.Data, (((subL s.Readers (0 : Int) x13.1) ++ [(⟨id, fromZ⟩ : S_ref28_Reader)]) ++ (subL s.Readers x13.1 (s.Readers.length : Int)))⟩ : S_ref28_Stream), 0)
set_option maxHeartbeats 8000000 in
theorem ref28_Attach_ok {n : Nat} {s : S_ref28_Stream} {id : Int} {fromZ : Int} {ap0_0 : Option Addr} {cp0_0 : Nat} {ap0_1 : Option Addr} {cp0_1 : Nat} {K : Hp} {r : S_ref28_Stream × Int}
    (hm : ref28_Attach n s id fromZ = some r) (hp0_0 : RdC eU K ap0_0 cp0_0 1 s.Data) (hp0_1 : RdC S_ref28_Reader.enc K ap0_1 cp0_1 2 s.Readers) :
    Fn Try.prog 28 [.agg #[.int .i64 s.Limit, .int .i64 s.State, .slice ap0_0 s.Data.length cp0_0, .slice ap0_1 s.Readers.length cp0_1], .int .i64 id, .int .i64 fromZ] K [] (fun v K' H' => ∃ ar_0 : Option Addr, ∃ cr_0 : Nat, ∃ ar_1 : Option Addr, ∃ cr_1 : Nat, v = .tuple #[.agg #[.int .i64 r.1.Limit, .int .i64 r.1.State, .slice ar_0 r.1.Data.length cr_0, .slice ar_1 r.1.Readers.length cr_1], .int .i64 r.2] ∧ RdC eU K' ar_0 cr_0 1 r.1.Data ∧ RdC S_ref28_Reader.enc K' ar_1 cr_1 2 r.1.Readers ∧ H' = []) := by
  refine Fn.enter Try.func28 Try.call28 rfl fun F => ?_
  unfold ref28_Attach at hm
  conv => whnf
  refine box_rule ?_
  intro b3
  conv => whnf
  refine alloc_rule rfl ?_
  intro b6
  conv => whnf
  refine RStep.of (loadn_s r1 rfl (Nat.le_of_ble_eq_true rfl) ?_)
  obtain ⟨x13, q13, hm⟩ := bnd hm
  conv => whnf
  refine call_fn (ref28_place_ok q13 hp0_0 hp0_1) .nil ?_
  rintro _ K13 _ l13 ⟨rfl, rfl⟩
  conv => whnf
  refine block_go rfl ?_
  conv => whnf
  refine cond_go rfl ?_
  conv => whnf
  refine cond_s (fun w16 => ?_) (fun w16 => ?_)
  · replace hm := ift w16 hm
    conv => whnf
    refine RStep.of (loadn_s r1 rfl (Nat.le_of_ble_eq_true rfl) ?_)
    conv => whnf
    refine store_rule r0 rfl ?_
    conv => whnf
    refine ⟨rfl, rfl, (Nat.le_of_ble_eq_true rfl), ?_⟩
    obtain rfl := si hm
    conv => whnf
    refine RStep.of (loadn_s r0 rfl (Nat.le_of_ble_eq_true rfl) ?_)
    conv => whnf
    refine EndStep.mk _ l13 ⟨ap0_0, cp0_0, ap0_1, cp0_1, rfl, (hp0_0.mono l13), (hp0_1.mono l13), rfl⟩ (ConvH.of (.cons r2 .nil))
  · replace hm := iff_ w16 hm
    conv => whnf
    refine cond_s (fun g22_4 => ?_) (fun g22_4 => ?_)
    · conv => whnf
      refine cond_t g22_4 ?_
      conv => whnf
      refine cond_t g22_4 ?_
      conv => whnf
      refine cond_t g22_4 ?_
      conv => whnf
      refine cond_t g22_4 ?_
      conv => whnf
      refine cond_t g22_4 ?_
      conv => whnf
      refine cond_go rfl ?_
      conv => whnf
      refine cond_T ?_
      replace hm := ift (or_t g22_4) hm
      conv => whnf
      refine RStep.of (loadn_s r1 rfl (Nat.le_of_ble_eq_true rfl) ?_)
      conv => whnf
      refine store_rule r0 rfl ?_
      conv => whnf
      refine ⟨rfl, rfl, (Nat.le_of_ble_eq_true rfl), ?_⟩
      obtain rfl := si hm
      conv => whnf
      refine RStep.of (loadn_s r0 rfl (Nat.le_of_ble_eq_true rfl) ?_)
      conv => whnf
      refine EndStep.mk _ l13 ⟨ap0_0, cp0_0, ap0_1, cp0_1, rfl, (hp0_0.mono l13), (hp0_1.mono l13), rfl⟩ (ConvH.of (.cons r2 .nil))
    · conv => whnf
      refine cond_f g22_4 ?_
      conv => whnf
      refine field_addr rfl ?_
      conv => whnf
      refine cond_f g22_4 ?_
      conv => whnf
      refine RStep.of (load1_s r1 rfl rfl ?_)
      conv => whnf
      refine cond_f g22_4 ?_
      conv => whnf
      refine RStep.of (len_slice rfl ?_)
      conv => whnf
      refine cond_f g22_4 ?_
      conv => whnf
      refine cond_f g22_4 ?_
      conv => whnf
      refine cond_go rfl ?_
      conv => whnf
      refine cond_s (fun w19 => ?_) (fun w19 => ?_)
      · replace hm := ift (or_u g22_4 w19) hm
        conv => whnf
        refine RStep.of (loadn_s r1 rfl (Nat.le_of_ble_eq_true rfl) ?_)
        conv => whnf
        refine store_rule r0 rfl ?_
        conv => whnf
        refine ⟨rfl, rfl, (Nat.le_of_ble_eq_true rfl), ?_⟩
        obtain rfl := si hm
        conv => whnf
        refine RStep.of (loadn_s r0 rfl (Nat.le_of_ble_eq_true rfl) ?_)
        conv => whnf
        refine EndStep.mk _ l13 ⟨ap0_0, cp0_0, ap0_1, cp0_1, rfl, (hp0_0.mono l13), (hp0_1.mono l13), rfl⟩ (ConvH.of (.cons r2 .nil))
      · replace hm := iff_ (or_f g22_4 w19) hm
        conv => whnf
        refine draw_go_F ⟨⟨[], false⟩, _, [(_, _)]⟩ 15 rfl (by kernel_rfl) ⟨Hp.Le.refl _, (ConvH.of (.cons r1 .nil))⟩ ?_
        conv => whnf
        refine bsA (cl := []) elT58 rfl rfl ?_ fun b30 => ?_
        · conv => whnf
        conv => whnf
        refine field_addr rfl ?_
        conv => whnf
        refine load1_l m0 rfl rfl ?_
        obtain ⟨h34, hm⟩ := chkb hm
        have h34_ := (hp0_1.mono l13).subC h34
        conv => whnf
        refine sl_sl (l := s.Readers) (lo := none) (hi := (some x13.1)) rfl rfl rfl (hp0_1.mono l13).le h34 ?_
        conv => whnf
        intro GG5
        obtain ⟨h35, hm⟩ := chkb hm
        conv => whnf
        refine ape (enc := S_ref28_Reader.enc) r0 elT58 (src_k rfl h34_.rd rfl) h35 ?_
        intro a35 c35 o35
        conv => whnf
        refine ⟨⟨(Hp.Le.refl _), (ConvH.of (.cons r2 .nil))⟩, ?_⟩
        refine ⟨_, .cons r4 .nil, ⟨(Hp.Le.refl _), (ConvH.of (.cons r2 .nil))⟩, ?_⟩
        conv => whnf
        refine build_struct rfl rfl ?_
        conv => whnf
        refine cond_T ?_
        conv => whnf
        refine cond_T ?_
        conv => whnf
        refine bsA (cl := [.int .i64 id, .int .i64 fromZ]) elT58 rfl rfl ?_ fun b39 => ?_
        · conv => whnf
          refine cond_T ?_
          conv => whnf
        conv => whnf
        intro GG10
        obtain ⟨h40, hm⟩ := chkb hm
        conv => whnf
        refine apE rfl r1 elT58 (src_lit rfl r0 rfl rfl (fun _ _ => rfl) rfl) h40 ?_
        intro a40 c40 o40
        conv => whnf
        refine ⟨⟨(Hp.Le.refl _), (ConvH.of (.cons r3 .nil))⟩, ?_⟩
        refine ⟨_, .cons r5 .nil, ⟨(Hp.Le.refl _), (ConvH.of (.cons r3 .nil))⟩, ?_⟩
        conv => whnf
        refine field_addr rfl ?_
        conv => whnf
        refine load1_l m0 rfl rfl ?_
        obtain ⟨h44, hm⟩ := chkb hm
        have h44_ := (hp0_1.mono l13).subC h44
        conv => whnf
        refine sl_sl (l := s.Readers) (lo := (some x13.1)) (hi := none) rfl rfl rfl (hp0_1.mono l13).le h44 ?_
        obtain ⟨h45, hm⟩ := chkb hm
        conv => whnf
        refine apE rfl r0 elT58 (src_k rfl h44_.rd rfl) h45 ?_
        intro a45 c45 o45
        conv => whnf
        refine ⟨⟨Hp.emp_le _, (ConvH.of .nil)⟩, ?_⟩
        conv => whnf
        refine field_addr rfl ?_
        conv => whnf
        refine store_rule r3 rfl ?_
        conv => whnf
        refine ⟨rfl, rfl, (Nat.le_of_ble_eq_true rfl), ?_⟩
        conv => whnf
        refine ⟨⟨Hp.emp_le _, (ConvH.of .nil)⟩, ?_⟩
        conv => whnf
        refine RStep.of (loadn_s r0 rfl (Nat.le_of_ble_eq_true rfl) ?_)
        conv => whnf
        refine store_rule r3 rfl ?_
        conv => whnf
        refine ⟨rfl, rfl, (Nat.le_of_ble_eq_true rfl), ?_⟩
        obtain rfl := si hm
        conv => whnf
        refine RStep.of (loadn_s r0 rfl (Nat.le_of_ble_eq_true rfl) ?_)
        conv => whnf
        refine fE r2 fun Kz2 lz2 fz2 => ?_
        refine EndStep.mk _ (l13.trans lz2) ⟨ap0_0, cp0_0, a45, c45, rfl, (hp0_0.mono (l13.trans lz2)), fz2, rfl⟩ (ConvH.of (.cons r3 .nil))

noncomputable def ref28_Read (n : Nat) (s : S_ref28_Stream) (id : Int) (most : Int) : Option (S_ref28_Stream × Str × Int × Int) :=
  (ref28_place n s id).bind fun x18 =>
  if (!x18.2) then
  some (s, [], 0, 3)
  else
  if decide (s.State = 3) then
  some (s, [], 3, 0)
  else
  (ix s.Readers x18.1).bind fun x31 =>
  (chk (InI (x31.At + (max 0 (min most 65536))))).bind fun _ =>
  (chk (([] : List S_ref28_Reader).length + s.Readers.length ≤ lim)).bind fun _ =>
  (ix (([] : List S_ref28_Reader) ++ s.Readers) x18.1).bind fun x52 =>
  if (decide (s.State = 2) && decide ((min (s.Data.length : Int) (x31.At + (max 0 (min most 65536)))) = (s.Data.length : Int))) then
  (chk (0 ≤ x31.At ∧ x31.At ≤ (min (s.Data.length : Int) (x31.At + (max 0 (min most 65536)))) ∧ (min (s.Data.length : Int) (x31.At + (max 0 (min most 65536)))) ≤ (s.Data.length : Int))).bind fun _ =>
  some ((⟨s.Limit, s.State, s.Data, ((([] : List S_ref28_Reader) ++ s.Readers).set ((x18.1).toNat) (⟨x52.ID, (min (s.Data.length : Int) (x31.At + (max 0 (min most 65536))))⟩ : S_ref28_Reader))⟩ : S_ref28_Stream), (subL s.Data x31.At (min (s.Data.length : Int) (x31.At + (max 0 (min most 65536))))), 2, 0)
  else
  (chk (0 ≤ x31.At ∧ x31.At ≤ (min (s.Data.length : Int) (x31.At + (max 0 (min most 65536)))) ∧ (min (s.Data.length : Int) (x31.At + (max 0 (min most 65536)))) ≤ (s.Data.length : Int))).bind fun _ =>
  some ((⟨s.Limit, s.State, s.Data, ((([] : List S_ref28_Reader) ++ s.Readers).set ((x18.1).toNat) (⟨x52.ID, (min (s.Data.length : Int) (x31.At + (max 0 (min most 65536))))⟩ : S_ref28_Reader))⟩ : S_ref28_Stream), (subL s.Data x31.At (min (s.Data.length : Int) (x31.At + (max 0 (min most 65536))))), 1, 0)
set_option maxHeartbeats 8000000 in
theorem ref28_Read_ok {n : Nat} {s : S_ref28_Stream} {id : Int} {most : Int} {ap0_0 : Option Addr} {cp0_0 : Nat} {ap0_1 : Option Addr} {cp0_1 : Nat} {K : Hp} {r : S_ref28_Stream × Str × Int × Int}
    (hm : ref28_Read n s id most = some r) (hp0_0 : RdC eU K ap0_0 cp0_0 1 s.Data) (hp0_1 : RdC S_ref28_Reader.enc K ap0_1 cp0_1 2 s.Readers) :
    Fn Try.prog 29 [.agg #[.int .i64 s.Limit, .int .i64 s.State, .slice ap0_0 s.Data.length cp0_0, .slice ap0_1 s.Readers.length cp0_1], .int .i64 id, .int .i64 most] K [] (fun v K' H' => ∃ ar_0 : Option Addr, ∃ cr_0 : Nat, ∃ ar_1 : Option Addr, ∃ cr_1 : Nat, ∃ ar_2 : Option Addr, ∃ cr_2 : Nat, v = .tuple #[.agg #[.int .i64 r.1.Limit, .int .i64 r.1.State, .slice ar_0 r.1.Data.length cr_0, .slice ar_1 r.1.Readers.length cr_1], .slice ar_2 r.2.1.length cr_2, .int .i64 r.2.2.1, .int .i64 r.2.2.2] ∧ RdC eU K' ar_0 cr_0 1 r.1.Data ∧ RdC S_ref28_Reader.enc K' ar_1 cr_1 2 r.1.Readers ∧ RdC eU K' ar_2 cr_2 1 r.2.1 ∧ H' = []) := by
  refine Fn.enter Try.func29 Try.call29 rfl fun F => ?_
  unfold ref28_Read at hm
  conv => whnf
  refine box_rule ?_
  intro b3
  conv => whnf
  refine alloc_rule rfl ?_
  intro b6
  conv => whnf
  refine RStep.of (loadn_s r1 rfl (Nat.le_of_ble_eq_true rfl) ?_)
  obtain ⟨x18, q18, hm⟩ := bnd hm
  conv => whnf
  refine call_fn (ref28_place_ok q18 hp0_0 hp0_1) .nil ?_
  rintro _ K18 _ l18 ⟨rfl, rfl⟩
  conv => whnf
  refine un_not ?_
  conv => whnf
  refine cond_go rfl ?_
  conv => whnf
  refine cond_s (fun w22 => ?_) (fun w22 => ?_)
  · replace hm := ift (not_t (ni_t w22)) hm
    conv => whnf
    refine RStep.of (loadn_s r1 rfl (Nat.le_of_ble_eq_true rfl) ?_)
    conv => whnf
    refine store_rule r0 rfl ?_
    conv => whnf
    refine ⟨rfl, rfl, (Nat.le_of_ble_eq_true rfl), ?_⟩
    obtain rfl := si hm
    conv => whnf
    refine RStep.of (loadn_s r0 rfl (Nat.le_of_ble_eq_true rfl) ?_)
    conv => whnf
    refine EndStep.mk _ l18 ⟨ap0_0, cp0_0, ap0_1, cp0_1, none, 0, rfl, (hp0_0.mono l18), (hp0_1.mono l18), RdC.nil, rfl⟩ (ConvH.of (.cons r2 .nil))
  · replace hm := iff_ (not_f (ni_f w22)) hm
    conv => whnf
    refine field_addr rfl ?_
    conv => whnf
    refine RStep.of (load1_s r1 rfl rfl ?_)
    conv => whnf
    refine eq_int ?_
    conv => whnf
    refine cond_go rfl ?_
    conv => whnf
    refine cond_s (fun w26 => ?_) (fun w26 => ?_)
    · replace hm := ift w26 hm
      conv => whnf
      refine RStep.of (loadn_s r1 rfl (Nat.le_of_ble_eq_true rfl) ?_)
      conv => whnf
      refine store_rule r0 rfl ?_
      conv => whnf
      refine ⟨rfl, rfl, (Nat.le_of_ble_eq_true rfl), ?_⟩
      obtain rfl := si hm
      conv => whnf
      refine RStep.of (loadn_s r0 rfl (Nat.le_of_ble_eq_true rfl) ?_)
      conv => whnf
      refine EndStep.mk _ l18 ⟨ap0_0, cp0_0, ap0_1, cp0_1, none, 0, rfl, (hp0_0.mono l18), (hp0_1.mono l18), RdC.nil, rfl⟩ (ConvH.of (.cons r2 .nil))
    · replace hm := iff_ w26 hm
      conv => whnf
      refine field_addr rfl ?_
      conv => whnf
      refine RStep.of (load1_s r1 rfl rfl ?_)
      obtain ⟨x31, l31, k31, hm⟩ := ixb hm
      conv => whnf
      refine RStep.ofN (index_addr rfl rfl (hasK (hp0_1.mono l18).rd k31) l31 (lt_ofE rfl l31 k31) ?_)
      conv => whnf
      refine eptr_field rfl (hasK (hp0_1.mono l18).rd k31) ?_
      conv => whnf
      refine RStep.of (load_rd ((x18.1).toNat) 1 _ _ (hp0_1.mono l18).rd rfl (mp k31) rfl rfl ?_)
      conv => whnf
      refine field_addr rfl ?_
      conv => whnf
      refine RStep.of (load1_s r1 rfl rfl ?_)
      conv => whnf
      refine RStep.of (len_slice rfl ?_)
      conv => whnf
      refine RStep.of (min_int ?_)
      conv => whnf
      refine RStep.of (max_int ?_)
      obtain ⟨h41, hm⟩ := chkb hm
      conv => whnf
      refine int_in h41 ?_
      conv => whnf
      refine RStep.of (min_int ?_)
      conv => whnf
      refine bsO (len := 0) (enc := S_ref28_Reader.enc) (l := ([] : List S_ref28_Reader)) (cl := []) elT58 rfl rfl (fun _ _ => rfl) rfl rfl rfl ?_ fun b43 => ?_
      · conv => whnf
      conv => whnf
      refine field_addr rfl ?_
      conv => whnf
      refine RStep.of (load1_s r2 rfl rfl ?_)
      obtain ⟨h46, hm⟩ := chkb hm
      conv => whnf
      refine apE rfl r0 elT58 (src_k rfl (hp0_1.mono l18).rd rfl) h46 ?_
      intro a46 c46 o46
      conv => whnf
      refine field_addr rfl ?_
      conv => whnf
      refine store_rule r2 rfl ?_
      conv => whnf
      refine ⟨rfl, rfl, (Nat.le_of_ble_eq_true rfl), ?_⟩
      conv => whnf
      refine field_addr rfl ?_
      conv => whnf
      refine RStep.of (load1_s r0 rfl rfl ?_)
      obtain ⟨x52, l52, k52, hm⟩ := ixb hm
      conv => whnf
      refine RStep.ofN (index_addr rfl rfl (hasO o46 k52) l52 (lt_ofE rfl l52 k52) ?_)
      conv => whnf
      refine eptr_field rfl (hasO o46 k52) ?_
      conv => whnf
      refine st_own (o := 1) (y := (⟨x52.ID, (min (s.Data.length : Int) (x31.At + (max 0 (min most 65536))))⟩ : S_ref28_Reader)) x52 r1 rfl k52 rfl (by (conv => whnf); exact ⟨rfl, rfl, (Nat.le_of_ble_eq_true rfl), rfl, rfl, rfl⟩) ?_
      conv => whnf
      refine field_addr rfl ?_
      conv => whnf
      refine RStep.of (load1_s r1 rfl rfl ?_)
      conv => whnf
      refine eq_int ?_
      conv => whnf
      refine cond_s (fun g57_11 => ?_) (fun g57_11 => ?_)
      · conv => whnf
        refine cond_t g57_11 ?_
        conv => whnf
        refine field_addr rfl ?_
        conv => whnf
        refine cond_t g57_11 ?_
        conv => whnf
        refine RStep.of (load1_s r1 rfl rfl ?_)
        conv => whnf
        refine cond_t g57_11 ?_
        conv => whnf
        refine RStep.of (len_slice rfl ?_)
        conv => whnf
        refine cond_t g57_11 ?_
        conv => whnf
        refine eq_int ?_
        conv => whnf
        refine cond_t g57_11 ?_
        conv => whnf
        refine cond_go rfl ?_
        conv => whnf
        refine cond_s (fun w63 => ?_) (fun w63 => ?_)
        · replace hm := ift (and_t g57_11 w63) hm
          conv => whnf
          refine draw_go ⟨⟨[], false⟩, _, [(_, _)]⟩ (by kernel_rfl) ⟨Hp.Le.refl _, (ConvH.of (.cons r1 .nil))⟩ ?_
          conv => whnf
          refine loadn_l m0 rfl (Nat.le_of_ble_eq_true rfl) ?_
          conv => whnf
          refine field_addr rfl ?_
          conv => whnf
          refine load1_l m0 rfl rfl ?_
          obtain ⟨h69, hm⟩ := chkb hm
          have h69_ := (hp0_0.mono l18).subC h69
          conv => whnf
          refine sl_sl (l := s.Data) (lo := (some x31.At)) (hi := (some (min (s.Data.length : Int) (x31.At + (max 0 (min most 65536)))))) rfl rfl rfl (hp0_0.mono l18).le h69 ?_
          conv => whnf
          refine store_rule r2 rfl ?_
          conv => whnf
          refine ⟨rfl, rfl, (Nat.le_of_ble_eq_true rfl), ?_⟩
          conv => whnf
          refine ⟨⟨(Hp.Le.refl _), (ConvH.of (.cons r2 .nil))⟩, ?_⟩
          obtain rfl := si hm
          conv => whnf
          refine RStep.of (loadn_s r0 rfl (Nat.le_of_ble_eq_true rfl) ?_)
          conv => whnf
          refine fE r1 fun Kz2 lz2 fz2 => ?_
          refine EndStep.mk _ (l18.trans lz2) ⟨ap0_0, cp0_0, a46, c46, (subA ap0_0 cp0_0 (Int.toNat x31.At) 1), (cp0_0 - (Int.toNat x31.At)), (by rw [← (show ((([] : List S_ref28_Reader) ++ s.Readers).set ((x18.1).toNat) (⟨x52.ID, (min (s.Data.length : Int) (x31.At + (max 0 (min most 65536))))⟩ : S_ref28_Reader)).length = (([] : List S_ref28_Reader) ++ s.Readers).length from Eq.symm (((rfl).trans List.length_set.symm)))] <;> rfl), (hp0_0.mono (l18.trans lz2)), fz2, (h69_.mono lz2), rfl⟩ (ConvH.of (.cons r2 .nil))
        · replace hm := iff_ (and_g g57_11 w63) hm
          conv => whnf
          refine draw_go ⟨⟨[], false⟩, _, [(_, _)]⟩ (by kernel_rfl) ⟨Hp.Le.refl _, (ConvH.of (.cons r1 .nil))⟩ ?_
          conv => whnf
          refine loadn_l m0 rfl (Nat.le_of_ble_eq_true rfl) ?_
          conv => whnf
          refine field_addr rfl ?_
          conv => whnf
          refine load1_l m0 rfl rfl ?_
          obtain ⟨h69, hm⟩ := chkb hm
          have h69_ := (hp0_0.mono l18).subC h69
          conv => whnf
          refine sl_sl (l := s.Data) (lo := (some x31.At)) (hi := (some (min (s.Data.length : Int) (x31.At + (max 0 (min most 65536)))))) rfl rfl rfl (hp0_0.mono l18).le h69 ?_
          conv => whnf
          refine store_rule r2 rfl ?_
          conv => whnf
          refine ⟨rfl, rfl, (Nat.le_of_ble_eq_true rfl), ?_⟩
          conv => whnf
          refine ⟨⟨(Hp.Le.refl _), (ConvH.of (.cons r2 .nil))⟩, ?_⟩
          obtain rfl := si hm
          conv => whnf
          refine RStep.of (loadn_s r0 rfl (Nat.le_of_ble_eq_true rfl) ?_)
          conv => whnf
          refine fE r1 fun Kz2 lz2 fz2 => ?_
          refine EndStep.mk _ (l18.trans lz2) ⟨ap0_0, cp0_0, a46, c46, (subA ap0_0 cp0_0 (Int.toNat x31.At) 1), (cp0_0 - (Int.toNat x31.At)), (by rw [← (show ((([] : List S_ref28_Reader) ++ s.Readers).set ((x18.1).toNat) (⟨x52.ID, (min (s.Data.length : Int) (x31.At + (max 0 (min most 65536))))⟩ : S_ref28_Reader)).length = (([] : List S_ref28_Reader) ++ s.Readers).length from Eq.symm (((rfl).trans List.length_set.symm)))] <;> rfl), (hp0_0.mono (l18.trans lz2)), fz2, (h69_.mono lz2), rfl⟩ (ConvH.of (.cons r2 .nil))
      · conv => whnf
        refine cond_f g57_11 ?_
        conv => whnf
        refine cond_f g57_11 ?_
        conv => whnf
        refine cond_f g57_11 ?_
        conv => whnf
        refine cond_f g57_11 ?_
        conv => whnf
        refine cond_f g57_11 ?_
        conv => whnf
        refine cond_go rfl ?_
        conv => whnf
        refine cond_F ?_
        replace hm := iff_ (and_f g57_11) hm
        conv => whnf
        refine draw_go ⟨⟨[], false⟩, _, [(_, _)]⟩ (by kernel_rfl) ⟨Hp.Le.refl _, (ConvH.of (.cons r1 .nil))⟩ ?_
        conv => whnf
        refine loadn_l m0 rfl (Nat.le_of_ble_eq_true rfl) ?_
        conv => whnf
        refine field_addr rfl ?_
        conv => whnf
        refine load1_l m0 rfl rfl ?_
        obtain ⟨h69, hm⟩ := chkb hm
        have h69_ := (hp0_0.mono l18).subC h69
        conv => whnf
        refine sl_sl (l := s.Data) (lo := (some x31.At)) (hi := (some (min (s.Data.length : Int) (x31.At + (max 0 (min most 65536)))))) rfl rfl rfl (hp0_0.mono l18).le h69 ?_
        conv => whnf
        refine store_rule r2 rfl ?_
        conv => whnf
        refine ⟨rfl, rfl, (Nat.le_of_ble_eq_true rfl), ?_⟩
        conv => whnf
        refine ⟨⟨(Hp.Le.refl _), (ConvH.of (.cons r2 .nil))⟩, ?_⟩
        obtain rfl := si hm
        conv => whnf
        refine RStep.of (loadn_s r0 rfl (Nat.le_of_ble_eq_true rfl) ?_)
        conv => whnf
        refine fE r1 fun Kz2 lz2 fz2 => ?_
        refine EndStep.mk _ (l18.trans lz2) ⟨ap0_0, cp0_0, a46, c46, (subA ap0_0 cp0_0 (Int.toNat x31.At) 1), (cp0_0 - (Int.toNat x31.At)), (by rw [← (show ((([] : List S_ref28_Reader) ++ s.Readers).set ((x18.1).toNat) (⟨x52.ID, (min (s.Data.length : Int) (x31.At + (max 0 (min most 65536))))⟩ : S_ref28_Reader)).length = (([] : List S_ref28_Reader) ++ s.Readers).length from Eq.symm (((rfl).trans List.length_set.symm)))] <;> rfl), (hp0_0.mono (l18.trans lz2)), fz2, (h69_.mono lz2), rfl⟩ (ConvH.of (.cons r2 .nil))

noncomputable def base_Bytes (a : Str) (b : Str) : Option (Bool) :=
  some (decide (a = b))
set_option maxHeartbeats 8000000 in
theorem base_Bytes_ok {a : Str} {b : Str} {ap0_0 : Option Addr} {cp0_0 : Nat} {n0 : Nat} {ap1_0 : Option Addr} {cp1_0 : Nat} {n1 : Nat} {K : Hp} {r : Bool}
    (hm : base_Bytes a b = some r) (hp0_0 : RdC eU K ap0_0 cp0_0 1 a) (en0 : n0 = a.length) (hp1_0 : RdC eU K ap1_0 cp1_0 1 b) (en1 : n1 = b.length) :
    Fn Try.prog 15 [.slice ap0_0 n0 cp0_0, .slice ap1_0 n1 cp1_0] K [] (fun v K' H' => v = .bool r ∧ H' = []) := by
  subst en0
  subst en1
  refine Fn.enter Try.func15 Try.call15 rfl fun F => ?_
  unfold base_Bytes at hm
  conv => whnf
  refine RStep.of (cv_k rfl rfl rfl hp0_0.rd ?_)
  conv => whnf
  refine RStep.of (cv_k rfl rfl rfl hp1_0.rd ?_)
  conv => whnf
  refine eq_str ?_
  obtain rfl := si hm
  conv => whnf
  refine EndStep.mk _ (Hp.Le.refl _) ⟨rfl, rfl⟩ (ConvH.of (.cons r0 .nil))

noncomputable def ref28_Detach (n : Nat) (s : S_ref28_Stream) (id : Int) : Option (S_ref28_Stream × Bool) :=
  (ref28_place n s id).bind fun x11 =>
  if x11.2 then
  (chk (0 ≤ (0 : Int) ∧ (0 : Int) ≤ x11.1 ∧ x11.1 ≤ (s.Readers.length : Int))).bind fun _ =>
  (chk (([] : List S_ref28_Reader).length + (subL s.Readers (0 : Int) x11.1).length ≤ lim)).bind fun _ =>
  (chk (InI (x11.1 + 1))).bind fun _ =>
  (chk (0 ≤ (x11.1 + 1) ∧ (x11.1 + 1) ≤ (s.Readers.length : Int) ∧ (s.Readers.length : Int) ≤ (s.Readers.length : Int))).bind fun _ =>
  (chk ((([] : List S_ref28_Reader) ++ (subL s.Readers (0 : Int) x11.1)).length + (subL s.Readers (x11.1 + 1) (s.Readers.length : Int)).length ≤ lim)).bind fun _ =>
  some ((⟨s.Limit, s.State, s.Data, ((([] : List S_ref28_Reader) ++ (subL s.Readers (0 : Int) x11.1)) ++ (subL s.Readers (x11.1 + 1) (s.Readers.length : Int)))⟩ : S_ref28_Stream), x11.2)
  else
  some (s, x11.2)
set_option maxHeartbeats 8000000 in
theorem ref28_Detach_ok {n : Nat} {s : S_ref28_Stream} {id : Int} {ap0_0 : Option Addr} {cp0_0 : Nat} {ap0_1 : Option Addr} {cp0_1 : Nat} {K : Hp} {r : S_ref28_Stream × Bool}
    (hm : ref28_Detach n s id = some r) (hp0_0 : RdC eU K ap0_0 cp0_0 1 s.Data) (hp0_1 : RdC S_ref28_Reader.enc K ap0_1 cp0_1 2 s.Readers) :
    Fn Try.prog 30 [.agg #[.int .i64 s.Limit, .int .i64 s.State, .slice ap0_0 s.Data.length cp0_0, .slice ap0_1 s.Readers.length cp0_1], .int .i64 id] K [] (fun v K' H' => ∃ ar_0 : Option Addr, ∃ cr_0 : Nat, ∃ ar_1 : Option Addr, ∃ cr_1 : Nat, v = .tuple #[.agg #[.int .i64 r.1.Limit, .int .i64 r.1.State, .slice ar_0 r.1.Data.length cr_0, .slice ar_1 r.1.Readers.length cr_1], .bool r.2] ∧ RdC eU K' ar_0 cr_0 1 r.1.Data ∧ RdC S_ref28_Reader.enc K' ar_1 cr_1 2 r.1.Readers ∧ H' = []) := by
  refine Fn.enter Try.func30 Try.call30 rfl fun F => ?_
  unfold ref28_Detach at hm
  conv => whnf
  refine box_rule ?_
  intro b2
  conv => whnf
  refine alloc_rule rfl ?_
  intro b4
  conv => whnf
  refine RStep.of (loadn_s r1 rfl (Nat.le_of_ble_eq_true rfl) ?_)
  obtain ⟨x11, q11, hm⟩ := bnd hm
  conv => whnf
  refine call_fn (ref28_place_ok q11 hp0_0 hp0_1) .nil ?_
  rintro _ K11 _ l11 ⟨rfl, rfl⟩
  conv => whnf
  refine cond_go rfl ?_
  conv => whnf
  refine cond_s (fun w14 => ?_) (fun w14 => ?_)
  · replace hm := ift w14 hm
    conv => whnf
    refine draw_go_tail ⟨⟨[], false⟩, _, [(_, _)]⟩ 11 rfl (by kernel_rfl) ⟨Hp.Le.refl _, (ConvH.of (.cons r1 .nil))⟩ ?_
    conv => whnf
    refine bsO (len := 0) (enc := S_ref28_Reader.enc) (l := ([] : List S_ref28_Reader)) (cl := []) elT58 rfl rfl (fun _ _ => rfl) rfl rfl rfl ?_ fun b15 => ?_
    · conv => whnf
    conv => whnf
    refine ⟨⟨(Hp.Le.refl _), (ConvH.of (.cons r2 .nil))⟩, ?_⟩
    conv => whnf
    refine field_addr rfl ?_
    conv => whnf
    refine load1_l m0 rfl rfl ?_
    obtain ⟨h19, hm⟩ := chkb hm
    have h19_ := (hp0_1.mono l11).subC h19
    conv => whnf
    refine sl_sl (l := s.Readers) (lo := none) (hi := (some x11.1)) rfl rfl rfl (hp0_1.mono l11).le h19 ?_
    obtain ⟨h20, hm⟩ := chkb hm
    conv => whnf
    refine apE rfl r0 elT58 (src_k rfl h19_.rd rfl) h20 ?_
    intro a20 c20 o20
    conv => whnf
    refine ⟨⟨(Hp.Le.refl _), (ConvH.of (.cons r2 .nil))⟩, ?_⟩
    conv => whnf
    refine field_addr rfl ?_
    conv => whnf
    refine load1_l m0 rfl rfl ?_
    obtain ⟨h24, hm⟩ := chkb hm
    conv => whnf
    refine int_in h24 ?_
    obtain ⟨h25, hm⟩ := chkb hm
    have h25_ := (hp0_1.mono l11).subC h25
    conv => whnf
    refine sl_sl (l := s.Readers) (lo := (some (x11.1 + 1))) (hi := none) rfl rfl rfl (hp0_1.mono l11).le h25 ?_
    obtain ⟨h26, hm⟩ := chkb hm
    conv => whnf
    refine apE rfl r0 elT58 (src_k rfl h25_.rd rfl) h26 ?_
    intro a26 c26 o26
    conv => whnf
    refine ⟨⟨Hp.emp_le _, (ConvH.of .nil)⟩, ?_⟩
    conv => whnf
    refine field_addr rfl ?_
    conv => whnf
    refine store_rule r2 rfl ?_
    conv => whnf
    refine ⟨rfl, rfl, (Nat.le_of_ble_eq_true rfl), ?_⟩
    conv => whnf
    refine ⟨⟨Hp.emp_le _, (ConvH.of .nil)⟩, ?_⟩
    conv => whnf
    refine RStep.of (loadn_s r0 rfl (Nat.le_of_ble_eq_true rfl) ?_)
    conv => whnf
    refine store_rule r2 rfl ?_
    conv => whnf
    refine ⟨rfl, rfl, (Nat.le_of_ble_eq_true rfl), ?_⟩
    obtain rfl := si hm
    conv => whnf
    refine RStep.of (loadn_s r0 rfl (Nat.le_of_ble_eq_true rfl) ?_)
    conv => whnf
    refine fE r2 fun Kz2 lz2 fz2 => ?_
    refine EndStep.mk _ (l11.trans lz2) ⟨ap0_0, cp0_0, a26, c26, rfl, (hp0_0.mono (l11.trans lz2)), fz2, rfl⟩ (ConvH.of (.cons r2 .nil))
  · replace hm := iff_ w14 hm
    conv => whnf
    refine RStep.of (loadn_s r1 rfl (Nat.le_of_ble_eq_true rfl) ?_)
    conv => whnf
    refine store_rule r0 rfl ?_
    conv => whnf
    refine ⟨rfl, rfl, (Nat.le_of_ble_eq_true rfl), ?_⟩
    obtain rfl := si hm
    conv => whnf
    refine RStep.of (loadn_s r0 rfl (Nat.le_of_ble_eq_true rfl) ?_)
    conv => whnf
    refine EndStep.mk _ l11 ⟨ap0_0, cp0_0, ap0_1, cp0_1, rfl, (hp0_0.mono l11), (hp0_1.mono l11), rfl⟩ (ConvH.of (.cons r2 .nil))

noncomputable def fanout_Stream_Detach_nil (id : Int) : Option (Bool) :=
  some false
set_option maxHeartbeats 8000000 in
theorem fanout_Stream_Detach_nil_ok {id : Int} {K : Hp} {r : Bool}
    (hm : fanout_Stream_Detach_nil id = some r)  :
    Fn Try.prog 25 [.pointer none, .int .i64 id] K [] (fun v K' H' => v = .bool r ∧ H' = []) := by
  refine Fn.enter Try.func25 Try.call25 rfl fun F => ?_
  unfold fanout_Stream_Detach_nil at hm
  conv => whnf
  refine eq_nil_nil rfl ?_
  conv => whnf
  refine cond_go rfl ?_
  conv => whnf
  refine cond_T ?_
  obtain rfl := si hm
  conv => whnf
  refine EndStep.mk _ (Hp.Le.refl _) ⟨rfl, rfl⟩ (ConvH.of (.cons r0 .nil))

noncomputable def ref28_Close (s : S_ref28_Stream) (state : Int) : Option (S_ref28_Stream × Int) :=
  if decide (s.State ≠ 1) then
  some (s, 6)
  else
  some ((⟨s.Limit, state, s.Data, s.Readers⟩ : S_ref28_Stream), 0)
set_option maxHeartbeats 8000000 in
theorem ref28_Close_ok {s : S_ref28_Stream} {state : Int} {ap0_0 : Option Addr} {cp0_0 : Nat} {ap0_1 : Option Addr} {cp0_1 : Nat} {K : Hp} {r : S_ref28_Stream × Int}
    (hm : ref28_Close s state = some r) (hp0_0 : RdC eU K ap0_0 cp0_0 1 s.Data) (hp0_1 : RdC S_ref28_Reader.enc K ap0_1 cp0_1 2 s.Readers) :
    Fn Try.prog 31 [.agg #[.int .i64 s.Limit, .int .i64 s.State, .slice ap0_0 s.Data.length cp0_0, .slice ap0_1 s.Readers.length cp0_1], .int .i64 state] K [] (fun v K' H' => ∃ ar_0 : Option Addr, ∃ cr_0 : Nat, ∃ ar_1 : Option Addr, ∃ cr_1 : Nat, v = .tuple #[.agg #[.int .i64 r.1.Limit, .int .i64 r.1.State, .slice ar_0 r.1.Data.length cr_0, .slice ar_1 r.1.Readers.length cr_1], .int .i64 r.2] ∧ RdC eU K' ar_0 cr_0 1 r.1.Data ∧ RdC S_ref28_Reader.enc K' ar_1 cr_1 2 r.1.Readers ∧ H' = []) := by
  refine Fn.enter Try.func31 Try.call31 rfl fun F => ?_
  unfold ref28_Close at hm
  conv => whnf
  refine box_rule ?_
  intro b2
  conv => whnf
  refine alloc_rule rfl ?_
  intro b4
  conv => whnf
  refine field_addr rfl ?_
  conv => whnf
  refine RStep.of (load1_s r1 rfl rfl ?_)
  conv => whnf
  refine neq_int ?_
  conv => whnf
  refine cond_go rfl ?_
  conv => whnf
  refine cond_s (fun w8 => ?_) (fun w8 => ?_)
  · replace hm := ift w8 hm
    conv => whnf
    refine RStep.of (loadn_s r1 rfl (Nat.le_of_ble_eq_true rfl) ?_)
    conv => whnf
    refine store_rule r0 rfl ?_
    conv => whnf
    refine ⟨rfl, rfl, (Nat.le_of_ble_eq_true rfl), ?_⟩
    obtain rfl := si hm
    conv => whnf
    refine RStep.of (loadn_s r0 rfl (Nat.le_of_ble_eq_true rfl) ?_)
    conv => whnf
    refine EndStep.mk _ (Hp.Le.refl _) ⟨ap0_0, cp0_0, ap0_1, cp0_1, rfl, hp0_0, hp0_1, rfl⟩ (ConvH.of (.cons r2 .nil))
  · replace hm := iff_ w8 hm
    conv => whnf
    refine field_addr rfl ?_
    conv => whnf
    refine store_rule r1 rfl ?_
    conv => whnf
    refine ⟨rfl, rfl, (Nat.le_of_ble_eq_true rfl), ?_⟩
    conv => whnf
    refine RStep.of (loadn_s r0 rfl (Nat.le_of_ble_eq_true rfl) ?_)
    conv => whnf
    refine store_rule r1 rfl ?_
    conv => whnf
    refine ⟨rfl, rfl, (Nat.le_of_ble_eq_true rfl), ?_⟩
    obtain rfl := si hm
    conv => whnf
    refine RStep.of (loadn_s r0 rfl (Nat.le_of_ble_eq_true rfl) ?_)
    conv => whnf
    refine EndStep.mk _ (Hp.Le.refl _) ⟨ap0_0, cp0_0, ap0_1, cp0_1, rfl, hp0_0, hp0_1, rfl⟩ (ConvH.of (.cons r2 .nil))

noncomputable def fanout_Stream_End_nil : Option (Err) :=
  (fanout_Stream_open_nil).bind fun x5 =>
  if x5.isSome then
  some x5
  else
  none
set_option maxHeartbeats 8000000 in
theorem fanout_Stream_End_nil_ok  {K : Hp} {r : Err}
    (hm : fanout_Stream_End_nil = some r)  :
    Fn Try.prog 16 [.pointer none] K [] (fun v K' H' => v = errV 44 r ∧ H' = []) := by
  refine Fn.enter Try.func16 Try.call16 rfl fun F => ?_
  unfold fanout_Stream_End_nil at hm
  obtain ⟨x5, q5, hm⟩ := bnd hm
  conv => whnf
  refine call_fn (fanout_Stream_open_nil_ok q5) .nil ?_
  rintro _ K5 _ l5 ⟨rfl, rfl⟩
  conv => whnf
  refine neq_err rfl ?_
  conv => whnf
  refine cond_go rfl ?_
  conv => whnf
  refine cond_s (fun w7 => ?_) (fun w7 => ?_)
  · replace hm := ift w7 hm
    obtain rfl := si hm
    conv => whnf
    refine EndStep.mk _ l5 ⟨rfl, rfl⟩ (ConvH.of (.cons r0 .nil))
  · replace hm := iff_ w7 hm
    cases hm

noncomputable def fanout_Stream_Abort_nil : Option (Err) :=
  (fanout_Stream_open_nil).bind fun x5 =>
  if x5.isSome then
  some x5
  else
  none
set_option maxHeartbeats 8000000 in
theorem fanout_Stream_Abort_nil_ok  {K : Hp} {r : Err}
    (hm : fanout_Stream_Abort_nil = some r)  :
    Fn Try.prog 24 [.pointer none] K [] (fun v K' H' => v = errV 44 r ∧ H' = []) := by
  refine Fn.enter Try.func24 Try.call24 rfl fun F => ?_
  unfold fanout_Stream_Abort_nil at hm
  obtain ⟨x5, q5, hm⟩ := bnd hm
  conv => whnf
  refine call_fn (fanout_Stream_open_nil_ok q5) .nil ?_
  rintro _ K5 _ l5 ⟨rfl, rfl⟩
  conv => whnf
  refine neq_err rfl ?_
  conv => whnf
  refine cond_go rfl ?_
  conv => whnf
  refine cond_s (fun w7 => ?_) (fun w7 => ?_)
  · replace hm := ift w7 hm
    obtain rfl := si hm
    conv => whnf
    refine EndStep.mk _ l5 ⟨rfl, rfl⟩ (ConvH.of (.cons r0 .nil))
  · replace hm := iff_ w7 hm
    cases hm

noncomputable def ref28_Write (s : S_ref28_Stream) (b : Str) : Option (S_ref28_Stream × Int) :=
  if decide (s.State ≠ 1) then
  some (s, 6)
  else
  (chk (InI ((s.Data.length : Int) + (b.length : Int)))).bind fun _ =>
  if decide (((s.Data.length : Int) + (b.length : Int)) > s.Limit) then
  some (s, 5)
  else
  (chk (([] : Str).length + s.Data.length ≤ lim)).bind fun _ =>
  (chk ((([] : Str) ++ s.Data).length + b.length ≤ lim)).bind fun _ =>
  some ((⟨s.Limit, s.State, ((([] : Str) ++ s.Data) ++ b), s.Readers⟩ : S_ref28_Stream), 0)
set_option maxHeartbeats 8000000 in
theorem ref28_Write_ok {s : S_ref28_Stream} {b : Str} {ap0_0 : Option Addr} {cp0_0 : Nat} {ap0_1 : Option Addr} {cp0_1 : Nat} {ap1_0 : Option Addr} {cp1_0 : Nat} {n1 : Nat} {K : Hp} {r : S_ref28_Stream × Int}
    (hm : ref28_Write s b = some r) (hp0_0 : RdC eU K ap0_0 cp0_0 1 s.Data) (hp0_1 : RdC S_ref28_Reader.enc K ap0_1 cp0_1 2 s.Readers) (hp1_0 : RdC eU K ap1_0 cp1_0 1 b) (en1 : n1 = b.length) :
    Fn Try.prog 32 [.agg #[.int .i64 s.Limit, .int .i64 s.State, .slice ap0_0 s.Data.length cp0_0, .slice ap0_1 s.Readers.length cp0_1], .slice ap1_0 n1 cp1_0] K [] (fun v K' H' => ∃ ar_0 : Option Addr, ∃ cr_0 : Nat, ∃ ar_1 : Option Addr, ∃ cr_1 : Nat, v = .tuple #[.agg #[.int .i64 r.1.Limit, .int .i64 r.1.State, .slice ar_0 r.1.Data.length cr_0, .slice ar_1 r.1.Readers.length cr_1], .int .i64 r.2] ∧ RdC eU K' ar_0 cr_0 1 r.1.Data ∧ RdC S_ref28_Reader.enc K' ar_1 cr_1 2 r.1.Readers ∧ H' = []) := by
  subst en1
  refine Fn.enter Try.func32 Try.call32 rfl fun F => ?_
  unfold ref28_Write at hm
  conv => whnf
  refine box_rule ?_
  intro b2
  conv => whnf
  refine alloc_rule rfl ?_
  intro b4
  conv => whnf
  refine block_go rfl ?_
  conv => whnf
  refine field_addr rfl ?_
  conv => whnf
  refine RStep.of (load1_s r1 rfl rfl ?_)
  conv => whnf
  refine neq_int ?_
  conv => whnf
  refine cond_go rfl ?_
  conv => whnf
  refine cond_s (fun w6 => ?_) (fun w6 => ?_)
  · replace hm := ift w6 hm
    conv => whnf
    refine RStep.of (loadn_s r1 rfl (Nat.le_of_ble_eq_true rfl) ?_)
    conv => whnf
    refine store_rule r0 rfl ?_
    conv => whnf
    refine ⟨rfl, rfl, (Nat.le_of_ble_eq_true rfl), ?_⟩
    obtain rfl := si hm
    conv => whnf
    refine RStep.of (loadn_s r0 rfl (Nat.le_of_ble_eq_true rfl) ?_)
    conv => whnf
    refine EndStep.mk _ (Hp.Le.refl _) ⟨ap0_0, cp0_0, ap0_1, cp0_1, rfl, hp0_0, hp0_1, rfl⟩ (ConvH.of (.cons r2 .nil))
  · replace hm := iff_ w6 hm
    conv => whnf
    refine field_addr rfl ?_
    conv => whnf
    refine RStep.of (load1_s r1 rfl rfl ?_)
    conv => whnf
    refine RStep.of (len_slice rfl ?_)
    conv => whnf
    refine RStep.of (len_slice rfl ?_)
    obtain ⟨h17, hm⟩ := chkb hm
    conv => whnf
    refine int_in h17 ?_
    conv => whnf
    refine field_addr rfl ?_
    conv => whnf
    refine RStep.of (load1_s r1 rfl rfl ?_)
    conv => whnf
    refine cond_go rfl ?_
    conv => whnf
    refine cond_s (fun w11 => ?_) (fun w11 => ?_)
    · replace hm := ift w11 hm
      conv => whnf
      refine RStep.of (loadn_s r1 rfl (Nat.le_of_ble_eq_true rfl) ?_)
      conv => whnf
      refine store_rule r0 rfl ?_
      conv => whnf
      refine ⟨rfl, rfl, (Nat.le_of_ble_eq_true rfl), ?_⟩
      obtain rfl := si hm
      conv => whnf
      refine RStep.of (loadn_s r0 rfl (Nat.le_of_ble_eq_true rfl) ?_)
      conv => whnf
      refine EndStep.mk _ (Hp.Le.refl _) ⟨ap0_0, cp0_0, ap0_1, cp0_1, rfl, hp0_0, hp0_1, rfl⟩ (ConvH.of (.cons r2 .nil))
    · replace hm := iff_ w11 hm
      conv => whnf
      refine bsO (len := 0) (enc := eU) (l := ([] : Str)) (cl := []) elT22 rfl rfl (fun _ _ => rfl) rfl rfl rfl ?_ fun b22 => ?_
      · conv => whnf
      conv => whnf
      refine field_addr rfl ?_
      conv => whnf
      refine RStep.of (load1_s r2 rfl rfl ?_)
      obtain ⟨h25, hm⟩ := chkb hm
      conv => whnf
      refine apE rfl r0 elT22 (src_k rfl hp0_0.rd rfl) h25 ?_
      intro a25 c25 o25
      obtain ⟨h27, hm⟩ := chkb hm
      conv => whnf
      refine apE rfl r0 elT22 (src_k rfl hp1_0.rd rfl) h27 ?_
      intro a27 c27 o27
      conv => whnf
      refine field_addr rfl ?_
      conv => whnf
      refine store_rule r2 rfl ?_
      conv => whnf
      refine ⟨rfl, rfl, (Nat.le_of_ble_eq_true rfl), ?_⟩
      conv => whnf
      refine RStep.of (loadn_s r0 rfl (Nat.le_of_ble_eq_true rfl) ?_)
      conv => whnf
      refine store_rule r2 rfl ?_
      conv => whnf
      refine ⟨rfl, rfl, (Nat.le_of_ble_eq_true rfl), ?_⟩
      obtain rfl := si hm
      conv => whnf
      refine RStep.of (loadn_s r0 rfl (Nat.le_of_ble_eq_true rfl) ?_)
      conv => whnf
      refine fE r2 fun Kz1 lz1 fz1 => ?_
      refine EndStep.mk _ lz1 ⟨a27, c27, ap0_1, cp0_1, rfl, fz1, (hp0_1.mono lz1), rfl⟩ (ConvH.of (.cons r2 .nil))

noncomputable def fanout_Stream_Readers_nil : Option ((List Int)) :=
  some []
set_option maxHeartbeats 8000000 in
theorem fanout_Stream_Readers_nil_ok  {K : Hp} {r : (List Int)}
    (hm : fanout_Stream_Readers_nil = some r)  :
    Fn Try.prog 26 [.pointer none] K [] (fun v K' H' => ∃ ar_0 : Option Addr, ∃ cr_0 : Nat, v = .slice ar_0 r.length cr_0 ∧ (0 < r.length → Has ar_0) ∧ H' = [OwnL eN ar_0 3 1 cr_0 r]) := by
  refine Fn.enter Try.func26 Try.call26 rfl fun F => ?_
  unfold fanout_Stream_Readers_nil at hm
  conv => whnf
  refine eq_nil_nil rfl ?_
  conv => whnf
  refine cond_go rfl ?_
  conv => whnf
  refine cond_T ?_
  obtain rfl := si hm
  conv => whnf
  refine nilE eN 3 1 ?_
  refine EndStep.mk _ (Hp.Le.refl _) ⟨none, 0, rfl, (fun h => by simp at h), rfl⟩ (ConvH.of (.cons r0 (.cons r0 .nil)))

noncomputable def ref28_IDs_L0 : List S_ref28_Reader → Nat → (List Int) → Option ((List Int))
  | [], _, y0_0 => some y0_0
  | e0 :: xs0, i0, y0_0 =>
    (chk (y0_0.length + [e0.ID].length ≤ lim)).bind fun _ =>
    ref28_IDs_L0 xs0 (i0 + 1) (y0_0 ++ [e0.ID])
noncomputable def ref28_IDs (s : S_ref28_Stream) : Option ((List Int)) :=
  (chk (s.Readers.length ≤ szMax)).bind fun _ =>
  (ref28_IDs_L0 s.Readers 0 []).bind fun t0 =>
  some t0
set_option maxHeartbeats 8000000 in
theorem ref28_IDs_ok {s : S_ref28_Stream} {ap0_0 : Option Addr} {cp0_0 : Nat} {ap0_1 : Option Addr} {cp0_1 : Nat} {K : Hp} {r : (List Int)}
    (hm : ref28_IDs s = some r) (hp0_0 : RdC eU K ap0_0 cp0_0 1 s.Data) (hp0_1 : RdC S_ref28_Reader.enc K ap0_1 cp0_1 2 s.Readers) :
    Fn Try.prog 34 [.agg #[.int .i64 s.Limit, .int .i64 s.State, .slice ap0_0 s.Data.length cp0_0, .slice ap0_1 s.Readers.length cp0_1]] K [] (fun v K' H' => ∃ ar_0 : Option Addr, ∃ cr_0 : Nat, v = .slice ar_0 r.length cr_0 ∧ (0 < r.length → Has ar_0) ∧ H' = [OwnL eN ar_0 3 1 cr_0 r]) := by
  refine Fn.enter Try.func34 Try.call34 rfl fun F => ?_
  unfold ref28_IDs at hm
  conv => whnf
  refine box_rule ?_
  intro b1
  conv => whnf
  refine field_addr rfl ?_
  conv => whnf
  refine RStep.of (load1_s r0 rfl rfl ?_)
  conv => whnf
  refine RStep.of (len_slice rfl ?_)
  obtain ⟨hk0, hm⟩ := chkb hm
  obtain ⟨s0, hl0, hm⟩ := bnd hm
  conv => whnf
  refine nilC eN 3 1 ?_
  refine code_cut (σ := ((List Int)) × Option Addr × Nat) [3, 5, 9, 10, 11, 12, 13, 14, 15, 16, 17, 18] (fun (t0, t0_a0, t0_c0) => [(3, .slice t0_a0 t0.length t0_c0)]) (fun (t0, t0_a0, t0_c0) => [OwnL eN t0_a0 3 1 t0_c0 t0, Cells b1 60 [.int .i64 s.Limit, .int .i64 s.State, .slice ap0_0 s.Data.length cp0_0, .slice ap0_1 s.Readers.length cp0_1], F]) (fun zz K1 => match zz with | (t0, t0_a0, t0_c0) => (0 < t0.length → Has t0_a0) ∧ t0 = s0) ?_ ?_
  · refine block_go rfl ?_
    conv => whnf
    refine loop_rule (σ := Nat × (List Int) × Option Addr × Nat) [3, 5, 9, 10, 11, 12, 13, 14, 15, 16, 17, 18] (fun (i0, y0_0, y0_a0, y0_c0) => [(9, .int .i64 (i0 : Int)), (3, .slice y0_a0 y0_0.length y0_c0)]) (fun (i0, y0_0, y0_a0, y0_c0) => [OwnL eN y0_a0 3 1 y0_c0 y0_0, Cells b1 60 [.int .i64 s.Limit, .int .i64 s.State, .slice ap0_0 s.Data.length cp0_0, .slice ap0_1 s.Readers.length cp0_1], F]) (fun zz K1 => match zz with | (i0, y0_0, y0_a0, y0_c0) => (0 < y0_0.length → Has y0_a0) ∧ ref28_IDs_L0 (s.Readers.drop i0) i0 y0_0 = some s0) (fun zz => s.Readers.length - zz.1) (0, [], none, 0) rfl ⟨rfl, rfl, trivial⟩ (ConvH.of (.cons r0 (.cons r0 (.cons r0 .nil)))) ⟨(fun h => by simp at h), hl0⟩ ?_
    clear hl0
    rintro ⟨i0, y0_0, y0_a0, y0_c0⟩ Kb0 lk0 ⟨y0_h0, hl0⟩ j0
    conv => whnf
    refine cond_go rfl ?_
    conv => whnf
    refine cond_s (fun w0 => ?_) (fun w0 => ?_)
    · obtain ⟨e0, hx0, hd0⟩ := ltx w0
      rw [hd0, ref28_IDs_L0.eq_2] at hl0
      conv => whnf
      refine block_go rfl ?_
      conv => whnf
      refine RStep.ofN (index_addr rfl rfl (hasK (hp0_1.mono lk0).rd hx0) (nn _) (lt_ofN hx0) ?_)
      conv => whnf
      refine RStep.of (load_rd_agg i0 _ (hp0_1.mono lk0).rd rfl (mp hx0) rfl ?_)
      conv => whnf
      refine alloc_rule rfl ?_
      intro b5
      conv => whnf
      refine store_rule r0 rfl ?_
      conv => whnf
      refine ⟨rfl, rfl, (Nat.le_of_ble_eq_true rfl), ?_⟩
      conv => whnf
      refine field_addr rfl ?_
      conv => whnf
      refine RStep.of (load1_s r0 rfl rfl ?_)
      conv => whnf
      refine bsO (len := 1) (enc := eN) (l := [e0.ID]) (cl := [.int .i64 e0.ID]) elT36 rfl rfl (fun _ _ => rfl) rfl rfl rfl ?_ fun b16 => ?_
      · conv => whnf
        refine cond_T ?_
        conv => whnf
      obtain ⟨h17, hl0⟩ := chkb hl0
      conv => whnf
      refine apE rfl r2 elT36 (src_own' rfl r0 rfl (fun _ => rfl) (fun _ => rfl)) h17 ?_
      intro a17 c17 o17
      conv => whnf
      refine int_in (cntz hx0 hk0) ?_
      conv => whnf
      refine RoundStep.mk (i0 + 1, (y0_0 ++ [e0.ID]), a17, c17) ⟨rfl, rfl, trivial⟩ (by repeat (first | exact trivial | refine And.intro rfl ?_)) (ConvH.of (.cons r0 (.cons r2 (.cons r2 .nil)))) lk0 (ltm hx0) ⟨o17, hl0⟩
    · rw [lty w0, ref28_IDs_L0.eq_1] at hl0
      conv => whnf
      refine cond_T ?_
      conv => whnf
      refine MeetStep.mk (y0_0, y0_a0, y0_c0) ⟨rfl, trivial⟩ (by repeat (first | exact trivial | refine And.intro rfl ?_)) (ConvH.of (.cons r0 (.cons r0 (.cons r0 .nil)))) lk0 ⟨y0_h0, (si hl0)⟩
  · rintro ⟨t0, t0_a0, t0_c0⟩ Kt0 lt0 ⟨t0_h0, rfl⟩ j0
    obtain rfl := si hm
    conv => whnf
    refine EndStep.mk _ lt0 ⟨t0_a0, t0_c0, rfl, t0_h0, rfl⟩ (ConvH.of (.cons r0 (.cons r1 .nil)))

noncomputable def base_Ints_L0 (b : (List Int)) : List Int → Nat → Option (Fl (Bool) (Unit))
  | [], _ => some (Fl.go ())
  | e0 :: xs0, i0 =>
    (ix b (i0 : Int)).bind fun x22 =>
    if decide (e0 ≠ x22) then
    some (Fl.ret false)
    else
    base_Ints_L0 b xs0 (i0 + 1)
noncomputable def base_Ints (a : (List Int)) (b : (List Int)) : Option (Bool) :=
  if decide ((a.length : Int) ≠ (b.length : Int)) then
  some false
  else
  (chk (a.length ≤ szMax)).bind fun _ =>
  (base_Ints_L0 b a 0).bind fun s0 => s0.el some fun t0 =>
  some true
set_option maxHeartbeats 8000000 in
theorem base_Ints_ok {a : (List Int)} {b : (List Int)} {ap0_0 : Option Addr} {cp0_0 : Nat} {n0 : Nat} {ap1_0 : Option Addr} {cp1_0 : Nat} {n1 : Nat} {K : Hp} {r : Bool}
    (hm : base_Ints a b = some r) (hp0_0 : RdC eN K ap0_0 cp0_0 1 a) (en0 : n0 = a.length) (hp1_0 : RdC eN K ap1_0 cp1_0 1 b) (en1 : n1 = b.length) :
    Fn Try.prog 33 [.slice ap0_0 n0 cp0_0, .slice ap1_0 n1 cp1_0] K [] (fun v K' H' => v = .bool r ∧ H' = []) := by
  subst en0
  subst en1
  refine Fn.enter Try.func33 Try.call33 rfl fun F => ?_
  unfold base_Ints at hm
  conv => whnf
  refine RStep.of (len_slice rfl ?_)
  conv => whnf
  refine RStep.of (len_slice rfl ?_)
  conv => whnf
  refine neq_int ?_
  conv => whnf
  refine cond_go rfl ?_
  conv => whnf
  refine cond_s (fun w10 => ?_) (fun w10 => ?_)
  · replace hm := ift w10 hm
    obtain rfl := si hm
    conv => whnf
    refine EndStep.mk _ (Hp.Le.refl _) ⟨rfl, rfl⟩ (ConvH.of (.cons r0 .nil))
  · replace hm := iff_ w10 hm
    conv => whnf
    refine RStep.of (len_slice rfl ?_)
    obtain ⟨hk0, hm⟩ := chkb hm
    obtain ⟨s0, hl0, hm⟩ := bnd hm
    conv => whnf
    refine code_cut (σ := (Unit)) [4, 5, 13, 14, 15, 16, 17, 18, 19, 20, 21, 22, 23, 24, 25] (fun t0 => []) (fun t0 => [F]) (fun zz K1 => match zz with | t0 => s0 = Fl.go t0) ?_ ?_
    · refine block_go rfl ?_
      conv => whnf
      refine loop_rule (σ := Nat) [4, 5, 13, 14, 15, 16, 17, 18, 19, 20, 21, 22, 23, 24, 25] (fun i0 => [(13, .int .i64 (i0 : Int))]) (fun i0 => [F]) (fun zz K1 => match zz with | i0 => base_Ints_L0 b (a.drop i0) i0 = some s0) (fun zz => a.length - zz) (0) rfl ⟨rfl, trivial⟩ (ConvH.of (.cons r0 .nil)) hl0 ?_
      clear hl0
      rintro i0 Kb0 lk0 hl0 j0
      conv at hl0 => whnf
      conv => whnf
      refine cond_go rfl ?_
      conv => whnf
      refine cond_s (fun w0 => ?_) (fun w0 => ?_)
      · obtain ⟨e0, hx0, hd0⟩ := ltx w0
        rw [hd0, base_Ints_L0.eq_2] at hl0
        conv => whnf
        refine block_go rfl ?_
        conv => whnf
        refine draw_go ⟨⟨[], false⟩, _, []⟩ (by kernel_rfl) ⟨Hp.Le.refl _, (ConvH.of .nil)⟩ ?_
        conv => whnf
        refine index_addr rfl rfl (hasK (hp0_0.mono lk0).rd hx0) (nn _) (lt_ofN hx0) ?_
        conv => whnf
        refine load_rd_l i0 0 _ _ (hp0_0.mono lk0).rd rfl (mp hx0) rfl rfl ?_
        obtain ⟨x22, l22, k22, hl0⟩ := ixb hl0
        conv => whnf
        refine index_addr rfl rfl (hasK (hp1_0.mono lk0).rd k22) l22 (lt_ofE rfl l22 k22) ?_
        conv => whnf
        refine load_rd_l (((i0 : Int)).toNat) 0 _ _ (hp1_0.mono lk0).rd rfl (mp k22) rfl rfl ?_
        conv => whnf
        refine neq_int ?_
        conv => whnf
        refine cond_go rfl ?_
        conv => whnf
        refine cond_s (fun w24 => ?_) (fun w24 => ?_)
        · replace hl0 := ift w24 hl0
          obtain rfl := si hl0
          replace hm := elr hm
          obtain rfl := si hm
          conv => whnf
          refine EndStep.mk _ lk0 ⟨rfl, rfl⟩ (ConvH.of (.cons r0 .nil))
        · replace hl0 := iff_ w24 hl0
          conv => whnf
          refine int_in (cntz hx0 hk0) ?_
          conv => whnf
          refine RoundStep.mk (i0 + 1) ⟨rfl, trivial⟩ (by repeat (first | exact trivial | refine And.intro rfl ?_)) (ConvH.of (.cons r0 .nil)) lk0 (ltm hx0) hl0
      · rw [lty w0, base_Ints_L0.eq_1] at hl0
        conv => whnf
        refine cond_T ?_
        conv => whnf
        refine MeetStep.mk (()) trivial (by repeat (first | exact trivial | refine And.intro rfl ?_)) (ConvH.of (.cons r0 .nil)) lk0 (si hl0).symm
    · rintro t0 Kt0 lt0 rfl j0
      replace hm := elg hm
      obtain rfl := si hm
      conv => whnf
      refine EndStep.mk _ lt0 ⟨rfl, rfl⟩ (ConvH.of (.cons r0 .nil))

noncomputable def fanout_Stream_Least_L0 (e0 : (Int × Int)) (y0_0 : Int) : Option (Int) :=
  some (min y0_0 e0.2)
noncomputable def fanout_Stream_Least (s : S_fanout_Stream) : Option (Int) :=
  perms s.offsets fun pl0 =>
  (mfold (fun e0 ss0 => fanout_Stream_Least_L0 e0 ss0) pl0 (s.data.length : Int)).bind fun t0 =>
  some t0
set_option maxHeartbeats 8000000 in
theorem fanout_Stream_Least_ok {s : S_fanout_Stream} {b0 : Nat} {ap0_0 : Option Addr} {cp0_0 : Nat} {mp0_1 : Nat} {K : Hp} {r : Int}
    (hm : fanout_Stream_Least s = some r) (hp0_0 : (0 < s.data.length → Has ap0_0)) :
    Fn Try.prog 20 [.pointer (some ⟨b0, 0, none⟩)] K [Cells b0 77 [.int .i64 s.limit, .int .i64 s.state, .slice ap0_0 s.data.length cp0_0, .map (some mp0_1)], OwnL eU ap0_0 5 1 cp0_0 s.data, MapE intK (fun x => .int .i64 x) mp0_1 s.offsets] (fun v K' H' => v = .int .i64 r ∧ H' = [Cells b0 77 [.int .i64 s.limit, .int .i64 s.state, .slice ap0_0 s.data.length cp0_0, .map (some mp0_1)], OwnL eU ap0_0 5 1 cp0_0 s.data, MapE intK (fun x => .int .i64 x) mp0_1 s.offsets]) := by
  refine Fn.enter Try.func20 Try.call20 rfl fun F => ?_
  unfold fanout_Stream_Least at hm
  conv => whnf
  refine eq_ptr_nil rfl ?_
  conv => whnf
  refine cond_go rfl ?_
  conv => whnf
  refine cond_F ?_
  conv => whnf
  refine nil_check ?_
  conv => whnf
  refine field_addr rfl ?_
  conv => whnf
  refine RStep.of (load1_s r0 rfl rfl ?_)
  conv => whnf
  refine RStep.of (len_slice rfl ?_)
  conv => whnf
  refine nil_check ?_
  conv => whnf
  refine field_addr rfl ?_
  conv => whnf
  refine RStep.of (load1_s r0 rfl rfl ?_)
  conv => whnf
  refine range_rule r2 rfl fun rb17 => ?_
  have hP0 := perms_all hm
  conv => whnf
  refine code_cut (σ := (Int)) [3, 5, 18, 19, 20, 21, 22, 23, 24] (fun t0 => [(3, .int .i64 t0)]) (fun t0 => [MapE intK (fun x => .int .i64 x) mp0_1 s.offsets, Cells b0 77 [.int .i64 s.limit, .int .i64 s.state, .slice ap0_0 s.data.length cp0_0, .map (some mp0_1)], OwnL eU ap0_0 5 1 cp0_0 s.data, F]) (fun zz K1 => match zz with | t0 => ∃ pl, pl.Perm s.offsets ∧ mfold (fun e0 ss0 => fanout_Stream_Least_L0 e0 ss0) pl (s.data.length : Int) = some t0) ?_ ?_
  · refine block_go rfl ?_
    conv => whnf
    refine loop_rule (σ := (List (Int × Int)) × Int) [3, 5, 18, 19, 20, 21, 22, 23, 24] (fun (vis0, y0_0) => [(3, .int .i64 y0_0)]) (fun (vis0, y0_0) => [MapIt intK (fun x => .int .i64 x) rb17 mp0_1 s.offsets vis0, Cells b0 77 [.int .i64 s.limit, .int .i64 s.state, .slice ap0_0 s.data.length cp0_0, .map (some mp0_1)], OwnL eU ap0_0 5 1 cp0_0 s.data, F]) (fun zz K1 => match zz with | (vis0, y0_0) => mfold (fun e0 ss0 => fanout_Stream_Least_L0 e0 ss0) vis0 (s.data.length : Int) = some y0_0) (fun zz => s.offsets.length - zz.1.length) ([], (s.data.length : Int)) rfl ⟨rfl, trivial⟩ (ConvH.of (.cons r0 (.cons r0 (.cons r0 (.cons r0 .nil))))) rfl ?_
    rintro ⟨vis0, y0_0⟩ Kb0 lk0 hv0 j0
    conv => whnf
    refine next_rule r0 (fun hp0 => ?_) (fun e0 rs0 hp0 => ?_)
    · conv => whnf
      refine cond_go rfl ?_
      conv => whnf
      refine cond_F ?_
      conv => whnf
      refine cond_T ?_
      conv => whnf
      refine MeetStep.mk (y0_0) ⟨rfl, trivial⟩ (by repeat (first | exact trivial | refine And.intro rfl ?_)) (ConvH.of (.cons r0 (.cons r0 (.cons r0 (.cons r0 .nil))))) lk0 ⟨_, hp0, hv0⟩
    · obtain ⟨z0, hB0⟩ := mnext hP0 hv0 hp0
      have hl0 : fanout_Stream_Least_L0 e0 y0_0 = some z0 := hB0
      unfold fanout_Stream_Least_L0 at hl0
      conv => whnf
      refine cond_go rfl ?_
      conv => whnf
      refine cond_T ?_
      conv => whnf
      refine block_go rfl ?_
      conv => whnf
      refine RStep.of (entry_rule r0 ?_)
      conv => whnf
      refine RStep.of (min_int ?_)
      conv => whnf
      refine RoundStep.mk (vis0 ++ [e0], (min y0_0 e0.2)) ⟨rfl, trivial⟩ (by repeat (first | exact trivial | refine And.intro rfl ?_)) (ConvH.of (.cons r0 (.cons r0 (.cons r0 (.cons r0 .nil))))) lk0 (ltmap hp0) ((mfold_snoc hv0).trans (hB0.trans hl0.symm))
  · rintro t0 Kt0 lt0 hx0 j0
    replace hm := mlast hP0 hx0
    obtain rfl := si hm
    conv => whnf
    refine EndStep.mk _ lt0 ⟨rfl, rfl⟩ (ConvH.of (.cons r1 (.cons r1 (.cons r0 (.cons r0 .nil)))))

noncomputable def fanout_Stream_Written (s : S_fanout_Stream) : Option (Int) :=
  some (s.data.length : Int)
set_option maxHeartbeats 8000000 in
theorem fanout_Stream_Written_ok {s : S_fanout_Stream} {b0 : Nat} {ap0_0 : Option Addr} {cp0_0 : Nat} {mp0_1 : Nat} {K : Hp} {r : Int}
    (hm : fanout_Stream_Written s = some r) (hp0_0 : (0 < s.data.length → Has ap0_0)) :
    Fn Try.prog 19 [.pointer (some ⟨b0, 0, none⟩)] K [Cells b0 77 [.int .i64 s.limit, .int .i64 s.state, .slice ap0_0 s.data.length cp0_0, .map (some mp0_1)], OwnL eU ap0_0 5 1 cp0_0 s.data, MapE intK (fun x => .int .i64 x) mp0_1 s.offsets] (fun v K' H' => v = .int .i64 r ∧ H' = [Cells b0 77 [.int .i64 s.limit, .int .i64 s.state, .slice ap0_0 s.data.length cp0_0, .map (some mp0_1)], OwnL eU ap0_0 5 1 cp0_0 s.data, MapE intK (fun x => .int .i64 x) mp0_1 s.offsets]) := by
  refine Fn.enter Try.func19 Try.call19 rfl fun F => ?_
  unfold fanout_Stream_Written at hm
  conv => whnf
  refine eq_ptr_nil rfl ?_
  conv => whnf
  refine cond_go rfl ?_
  conv => whnf
  refine cond_F ?_
  conv => whnf
  refine nil_check ?_
  conv => whnf
  refine field_addr rfl ?_
  conv => whnf
  refine RStep.of (load1_s r0 rfl rfl ?_)
  conv => whnf
  refine RStep.of (len_slice rfl ?_)
  obtain rfl := si hm
  conv => whnf
  refine EndStep.mk _ (Hp.Le.refl _) ⟨rfl, rfl⟩ (ConvH.of (.cons r0 (.cons r0 (.cons r0 (.cons r0 .nil)))))

noncomputable def fanout_Stream_Least_nil : Option (Int) :=
  some 0
set_option maxHeartbeats 8000000 in
theorem fanout_Stream_Least_nil_ok  {K : Hp} {r : Int}
    (hm : fanout_Stream_Least_nil = some r)  :
    Fn Try.prog 20 [.pointer none] K [] (fun v K' H' => v = .int .i64 r ∧ H' = []) := by
  refine Fn.enter Try.func20 Try.call20 rfl fun F => ?_
  unfold fanout_Stream_Least_nil at hm
  conv => whnf
  refine eq_nil_nil rfl ?_
  conv => whnf
  refine cond_go rfl ?_
  conv => whnf
  refine cond_T ?_
  obtain rfl := si hm
  conv => whnf
  refine EndStep.mk _ (Hp.Le.refl _) ⟨rfl, rfl⟩ (ConvH.of (.cons r0 .nil))

noncomputable def ref28_Least_L0 : List S_ref28_Reader → Nat → Int → Option (Int)
  | [], _, y0_0 => some y0_0
  | e0 :: xs0, i0, y0_0 =>
    ref28_Least_L0 xs0 (i0 + 1) (min y0_0 e0.At)
noncomputable def ref28_Least (s : S_ref28_Stream) : Option (Int) :=
  (chk (s.Readers.length ≤ szMax)).bind fun _ =>
  (ref28_Least_L0 s.Readers 0 (s.Data.length : Int)).bind fun t0 =>
  some t0
set_option maxHeartbeats 8000000 in
theorem ref28_Least_ok {s : S_ref28_Stream} {ap0_0 : Option Addr} {cp0_0 : Nat} {ap0_1 : Option Addr} {cp0_1 : Nat} {K : Hp} {r : Int}
    (hm : ref28_Least s = some r) (hp0_0 : RdC eU K ap0_0 cp0_0 1 s.Data) (hp0_1 : RdC S_ref28_Reader.enc K ap0_1 cp0_1 2 s.Readers) :
    Fn Try.prog 35 [.agg #[.int .i64 s.Limit, .int .i64 s.State, .slice ap0_0 s.Data.length cp0_0, .slice ap0_1 s.Readers.length cp0_1]] K [] (fun v K' H' => v = .int .i64 r ∧ H' = []) := by
  refine Fn.enter Try.func35 Try.call35 rfl fun F => ?_
  unfold ref28_Least at hm
  conv => whnf
  refine box_rule ?_
  intro b1
  conv => whnf
  refine field_addr rfl ?_
  conv => whnf
  refine RStep.of (load1_s r0 rfl rfl ?_)
  conv => whnf
  refine RStep.of (len_slice rfl ?_)
  conv => whnf
  refine field_addr rfl ?_
  conv => whnf
  refine RStep.of (load1_s r0 rfl rfl ?_)
  conv => whnf
  refine RStep.of (len_slice rfl ?_)
  obtain ⟨hk0, hm⟩ := chkb hm
  obtain ⟨s0, hl0, hm⟩ := bnd hm
  conv => whnf
  refine code_cut (σ := (Int)) [3, 5, 12, 13, 14, 15, 16, 17, 18, 19, 20] (fun t0 => [(3, .int .i64 t0)]) (fun t0 => [Cells b1 60 [.int .i64 s.Limit, .int .i64 s.State, .slice ap0_0 s.Data.length cp0_0, .slice ap0_1 s.Readers.length cp0_1], F]) (fun zz K1 => match zz with | t0 => t0 = s0) ?_ ?_
  · refine block_go rfl ?_
    conv => whnf
    refine loop_rule (σ := Nat × Int) [3, 5, 12, 13, 14, 15, 16, 17, 18, 19, 20] (fun (i0, y0_0) => [(12, .int .i64 (i0 : Int)), (3, .int .i64 y0_0)]) (fun (i0, y0_0) => [Cells b1 60 [.int .i64 s.Limit, .int .i64 s.State, .slice ap0_0 s.Data.length cp0_0, .slice ap0_1 s.Readers.length cp0_1], F]) (fun zz K1 => match zz with | (i0, y0_0) => ref28_Least_L0 (s.Readers.drop i0) i0 y0_0 = some s0) (fun zz => s.Readers.length - zz.1) (0, (s.Data.length : Int)) rfl ⟨rfl, rfl, trivial⟩ (ConvH.of (.cons r0 (.cons r0 .nil))) hl0 ?_
    clear hl0
    rintro ⟨i0, y0_0⟩ Kb0 lk0 hl0 j0
    conv at hl0 => whnf
    conv => whnf
    refine cond_go rfl ?_
    conv => whnf
    refine cond_s (fun w0 => ?_) (fun w0 => ?_)
    · obtain ⟨e0, hx0, hd0⟩ := ltx w0
      rw [hd0, ref28_Least_L0.eq_2] at hl0
      conv => whnf
      refine block_go rfl ?_
      conv => whnf
      refine RStep.ofN (index_addr rfl rfl (hasK (hp0_1.mono lk0).rd hx0) (nn _) (lt_ofN hx0) ?_)
      conv => whnf
      refine RStep.of (load_rd_agg i0 _ (hp0_1.mono lk0).rd rfl (mp hx0) rfl ?_)
      conv => whnf
      refine alloc_rule rfl ?_
      intro b5
      conv => whnf
      refine store_rule r0 rfl ?_
      conv => whnf
      refine ⟨rfl, rfl, (Nat.le_of_ble_eq_true rfl), ?_⟩
      conv => whnf
      refine field_addr rfl ?_
      conv => whnf
      refine RStep.of (load1_s r0 rfl rfl ?_)
      conv => whnf
      refine RStep.of (min_int ?_)
      conv => whnf
      refine int_in (cntz hx0 hk0) ?_
      conv => whnf
      refine RoundStep.mk (i0 + 1, (min y0_0 e0.At)) ⟨rfl, rfl, trivial⟩ (by repeat (first | exact trivial | refine And.intro rfl ?_)) (ConvH.of (.cons r1 (.cons r1 .nil))) lk0 (ltm hx0) hl0
    · rw [lty w0, ref28_Least_L0.eq_1] at hl0
      conv => whnf
      refine cond_T ?_
      conv => whnf
      refine MeetStep.mk (y0_0) ⟨rfl, trivial⟩ (by repeat (first | exact trivial | refine And.intro rfl ?_)) (ConvH.of (.cons r0 (.cons r0 .nil))) lk0 (si hl0)
  · rintro t0 Kt0 lt0 rfl j0
    obtain rfl := si hm
    conv => whnf
    refine EndStep.mk _ lt0 ⟨rfl, rfl⟩ (ConvH.of (.cons r1 .nil))

noncomputable def fanout_Stream_Written_nil : Option (Int) :=
  some 0
set_option maxHeartbeats 8000000 in
theorem fanout_Stream_Written_nil_ok  {K : Hp} {r : Int}
    (hm : fanout_Stream_Written_nil = some r)  :
    Fn Try.prog 19 [.pointer none] K [] (fun v K' H' => v = .int .i64 r ∧ H' = []) := by
  refine Fn.enter Try.func19 Try.call19 rfl fun F => ?_
  unfold fanout_Stream_Written_nil at hm
  conv => whnf
  refine eq_nil_nil rfl ?_
  conv => whnf
  refine cond_go rfl ?_
  conv => whnf
  refine cond_T ?_
  obtain rfl := si hm
  conv => whnf
  refine EndStep.mk _ (Hp.Le.refl _) ⟨rfl, rfl⟩ (ConvH.of (.cons r0 .nil))

noncomputable def fanout_Stream_Detach (s : S_fanout_Stream) (id : Int) : Option (Bool × S_fanout_Stream) :=
  some ((mget s.offsets id).isSome, (⟨s.limit, s.state, s.data, (mdel s.offsets id)⟩ : S_fanout_Stream))
set_option maxHeartbeats 8000000 in
theorem fanout_Stream_Detach_ok {s : S_fanout_Stream} {id : Int} {b0 : Nat} {ap0_0 : Option Addr} {cp0_0 : Nat} {mp0_1 : Nat} {K : Hp} {r : Bool × S_fanout_Stream}
    (hm : fanout_Stream_Detach s id = some r) (hp0_0 : (0 < s.data.length → Has ap0_0)) :
    Fn Try.prog 25 [.pointer (some ⟨b0, 0, none⟩), .int .i64 id] K [Cells b0 77 [.int .i64 s.limit, .int .i64 s.state, .slice ap0_0 s.data.length cp0_0, .map (some mp0_1)], OwnL eU ap0_0 5 1 cp0_0 s.data, MapE intK (fun x => .int .i64 x) mp0_1 s.offsets] (fun v K' H' => ∃ ar_0 : Option Addr, ∃ cr_0 : Nat, ∃ mr_1 : Nat, v = .bool r.1 ∧ (0 < r.2.data.length → Has ar_0) ∧ H' = [Cells b0 77 [.int .i64 r.2.limit, .int .i64 r.2.state, .slice ar_0 r.2.data.length cr_0, .map (some mr_1)], OwnL eU ar_0 5 1 cr_0 r.2.data, MapE intK (fun x => .int .i64 x) mr_1 r.2.offsets]) := by
  refine Fn.enter Try.func25 Try.call25 rfl fun F => ?_
  unfold fanout_Stream_Detach at hm
  conv => whnf
  refine eq_ptr_nil rfl ?_
  conv => whnf
  refine cond_go rfl ?_
  conv => whnf
  refine cond_F ?_
  conv => whnf
  refine nil_check ?_
  conv => whnf
  refine field_addr rfl ?_
  conv => whnf
  refine RStep.of (load1_s r0 rfl rfl ?_)
  conv => whnf
  refine RStep.of (lookup_ok (kenc := intK) (venc := (fun x => .int .i64 x)) (z := 0) r2 rfl rfl (key_int rfl) ?_)
  conv => whnf
  refine nil_check ?_
  conv => whnf
  refine field_addr rfl ?_
  conv => whnf
  refine RStep.of (load1_s r0 rfl rfl ?_)
  conv => whnf
  refine delete_rule (kenc := intK) (venc := (fun x => .int .i64 x)) r2 rfl rfl (key_int rfl) ?_
  obtain rfl := si hm
  conv => whnf
  refine EndStep.mk _ (Hp.Le.refl _) ⟨ap0_0, cp0_0, mp0_1, rfl, hp0_0, rfl⟩ (ConvH.of (.cons r1 (.cons r1 (.cons r0 (.cons r0 .nil)))))

noncomputable def fanout_Stream_End (s : S_fanout_Stream) : Option (Err × S_fanout_Stream) :=
  (fanout_Stream_open s).bind fun x5 =>
  if x5.isSome then
  some (x5, s)
  else
  some (none, (⟨s.limit, 2, s.data, s.offsets⟩ : S_fanout_Stream))
set_option maxHeartbeats 8000000 in
theorem fanout_Stream_End_ok {s : S_fanout_Stream} {b0 : Nat} {ap0_0 : Option Addr} {cp0_0 : Nat} {mp0_1 : Nat} {K : Hp} {r : Err × S_fanout_Stream}
    (hm : fanout_Stream_End s = some r) (hp0_0 : (0 < s.data.length → Has ap0_0)) :
    Fn Try.prog 16 [.pointer (some ⟨b0, 0, none⟩)] K [Cells b0 77 [.int .i64 s.limit, .int .i64 s.state, .slice ap0_0 s.data.length cp0_0, .map (some mp0_1)], OwnL eU ap0_0 5 1 cp0_0 s.data, MapE intK (fun x => .int .i64 x) mp0_1 s.offsets] (fun v K' H' => ∃ ar_0 : Option Addr, ∃ cr_0 : Nat, ∃ mr_1 : Nat, v = errV 44 r.1 ∧ (0 < r.2.data.length → Has ar_0) ∧ H' = [Cells b0 77 [.int .i64 r.2.limit, .int .i64 r.2.state, .slice ar_0 r.2.data.length cr_0, .map (some mr_1)], OwnL eU ar_0 5 1 cr_0 r.2.data, MapE intK (fun x => .int .i64 x) mr_1 r.2.offsets]) := by
  refine Fn.enter Try.func16 Try.call16 rfl fun F => ?_
  unfold fanout_Stream_End at hm
  obtain ⟨x5, q5, hm⟩ := bnd hm
  conv => whnf
  refine call_fn (fanout_Stream_open_ok q5 hp0_0) (.cons r0 (.cons r0 (.cons r0 .nil))) ?_
  rintro _ K5 _ l5 ⟨rfl, rfl⟩
  conv => whnf
  refine neq_err rfl ?_
  conv => whnf
  refine cond_go rfl ?_
  conv => whnf
  refine cond_s (fun w7 => ?_) (fun w7 => ?_)
  · replace hm := ift w7 hm
    obtain rfl := si hm
    conv => whnf
    refine EndStep.mk _ l5 ⟨ap0_0, cp0_0, mp0_1, rfl, hp0_0, rfl⟩ (ConvH.of (.cons r0 (.cons r0 (.cons r0 (.cons r0 .nil)))))
  · replace hm := iff_ w7 hm
    conv => whnf
    refine nil_check ?_
    conv => whnf
    refine field_addr rfl ?_
    conv => whnf
    refine store_rule r0 rfl ?_
    conv => whnf
    refine ⟨rfl, rfl, (Nat.le_of_ble_eq_true rfl), ?_⟩
    obtain rfl := si hm
    conv => whnf
    refine EndStep.mk _ l5 ⟨ap0_0, cp0_0, mp0_1, rfl, hp0_0, rfl⟩ (ConvH.of (.cons r0 (.cons r0 (.cons r0 (.cons r0 .nil)))))

noncomputable def fanout_Stream_Abort (s : S_fanout_Stream) : Option (Err × S_fanout_Stream) :=
  (fanout_Stream_open s).bind fun x5 =>
  if x5.isSome then
  some (x5, s)
  else
  some (none, (⟨s.limit, 3, s.data, s.offsets⟩ : S_fanout_Stream))
set_option maxHeartbeats 8000000 in
theorem fanout_Stream_Abort_ok {s : S_fanout_Stream} {b0 : Nat} {ap0_0 : Option Addr} {cp0_0 : Nat} {mp0_1 : Nat} {K : Hp} {r : Err × S_fanout_Stream}
    (hm : fanout_Stream_Abort s = some r) (hp0_0 : (0 < s.data.length → Has ap0_0)) :
    Fn Try.prog 24 [.pointer (some ⟨b0, 0, none⟩)] K [Cells b0 77 [.int .i64 s.limit, .int .i64 s.state, .slice ap0_0 s.data.length cp0_0, .map (some mp0_1)], OwnL eU ap0_0 5 1 cp0_0 s.data, MapE intK (fun x => .int .i64 x) mp0_1 s.offsets] (fun v K' H' => ∃ ar_0 : Option Addr, ∃ cr_0 : Nat, ∃ mr_1 : Nat, v = errV 44 r.1 ∧ (0 < r.2.data.length → Has ar_0) ∧ H' = [Cells b0 77 [.int .i64 r.2.limit, .int .i64 r.2.state, .slice ar_0 r.2.data.length cr_0, .map (some mr_1)], OwnL eU ar_0 5 1 cr_0 r.2.data, MapE intK (fun x => .int .i64 x) mr_1 r.2.offsets]) := by
  refine Fn.enter Try.func24 Try.call24 rfl fun F => ?_
  unfold fanout_Stream_Abort at hm
  obtain ⟨x5, q5, hm⟩ := bnd hm
  conv => whnf
  refine call_fn (fanout_Stream_open_ok q5 hp0_0) (.cons r0 (.cons r0 (.cons r0 .nil))) ?_
  rintro _ K5 _ l5 ⟨rfl, rfl⟩
  conv => whnf
  refine neq_err rfl ?_
  conv => whnf
  refine cond_go rfl ?_
  conv => whnf
  refine cond_s (fun w7 => ?_) (fun w7 => ?_)
  · replace hm := ift w7 hm
    obtain rfl := si hm
    conv => whnf
    refine EndStep.mk _ l5 ⟨ap0_0, cp0_0, mp0_1, rfl, hp0_0, rfl⟩ (ConvH.of (.cons r0 (.cons r0 (.cons r0 (.cons r0 .nil)))))
  · replace hm := iff_ w7 hm
    conv => whnf
    refine nil_check ?_
    conv => whnf
    refine field_addr rfl ?_
    conv => whnf
    refine store_rule r0 rfl ?_
    conv => whnf
    refine ⟨rfl, rfl, (Nat.le_of_ble_eq_true rfl), ?_⟩
    obtain rfl := si hm
    conv => whnf
    refine EndStep.mk _ l5 ⟨ap0_0, cp0_0, mp0_1, rfl, hp0_0, rfl⟩ (ConvH.of (.cons r0 (.cons r0 (.cons r0 (.cons r0 .nil)))))

noncomputable def fanout_Stream_Readers_L0 (e0 : (Int × Int)) (y0_0 : (List Int)) : Option ((List Int)) :=
  (chk (y0_0.length + [e0.1].length ≤ lim)).bind fun _ =>
  some (y0_0 ++ [e0.1])
noncomputable def fanout_Stream_Readers (s : S_fanout_Stream) : Option ((List Int)) :=
  perms s.offsets fun pl0 =>
  (mfold (fun e0 ss0 => fanout_Stream_Readers_L0 e0 ss0) pl0 []).bind fun t0 =>
  (sortIM t0).bind fun x21 =>
  some x21
set_option maxHeartbeats 8000000 in
theorem fanout_Stream_Readers_ok {s : S_fanout_Stream} {b0 : Nat} {ap0_0 : Option Addr} {cp0_0 : Nat} {mp0_1 : Nat} {K : Hp} {r : (List Int)}
    (hm : fanout_Stream_Readers s = some r) (hp0_0 : (0 < s.data.length → Has ap0_0)) :
    Fn Try.prog 26 [.pointer (some ⟨b0, 0, none⟩)] K [Cells b0 77 [.int .i64 s.limit, .int .i64 s.state, .slice ap0_0 s.data.length cp0_0, .map (some mp0_1)], OwnL eU ap0_0 5 1 cp0_0 s.data, MapE intK (fun x => .int .i64 x) mp0_1 s.offsets] (fun v K' H' => ∃ ar_0 : Option Addr, ∃ cr_0 : Nat, v = .slice ar_0 r.length cr_0 ∧ (0 < r.length → Has ar_0) ∧ H' = [OwnL eN ar_0 3 1 cr_0 r, Cells b0 77 [.int .i64 s.limit, .int .i64 s.state, .slice ap0_0 s.data.length cp0_0, .map (some mp0_1)], OwnL eU ap0_0 5 1 cp0_0 s.data, MapE intK (fun x => .int .i64 x) mp0_1 s.offsets]) := by
  refine Fn.enter Try.func26 Try.call26 rfl fun F => ?_
  unfold fanout_Stream_Readers at hm
  conv => whnf
  refine eq_ptr_nil rfl ?_
  conv => whnf
  refine cond_go rfl ?_
  conv => whnf
  refine cond_F ?_
  conv => whnf
  refine nil_check ?_
  conv => whnf
  refine field_addr rfl ?_
  conv => whnf
  refine RStep.of (load1_s r0 rfl rfl ?_)
  conv => whnf
  refine range_rule r2 rfl fun rb11 => ?_
  have hP0 := perms_all hm
  conv => whnf
  refine nilC eN 3 1 ?_
  refine code_cut (σ := ((List Int)) × Option Addr × Nat) [3, 4, 12, 13, 14, 15, 16, 17, 18, 19] (fun (t0, t0_a0, t0_c0) => [(3, .slice t0_a0 t0.length t0_c0)]) (fun (t0, t0_a0, t0_c0) => [OwnL eN t0_a0 3 1 t0_c0 t0, MapE intK (fun x => .int .i64 x) mp0_1 s.offsets, Cells b0 77 [.int .i64 s.limit, .int .i64 s.state, .slice ap0_0 s.data.length cp0_0, .map (some mp0_1)], OwnL eU ap0_0 5 1 cp0_0 s.data, F]) (fun zz K1 => match zz with | (t0, t0_a0, t0_c0) => (0 < t0.length → Has t0_a0) ∧ ∃ pl, pl.Perm s.offsets ∧ mfold (fun e0 ss0 => fanout_Stream_Readers_L0 e0 ss0) pl [] = some t0) ?_ ?_
  · refine block_go rfl ?_
    conv => whnf
    refine loop_rule (σ := (List (Int × Int)) × (List Int) × Option Addr × Nat) [3, 4, 12, 13, 14, 15, 16, 17, 18, 19] (fun (vis0, y0_0, y0_a0, y0_c0) => [(3, .slice y0_a0 y0_0.length y0_c0)]) (fun (vis0, y0_0, y0_a0, y0_c0) => [OwnL eN y0_a0 3 1 y0_c0 y0_0, MapIt intK (fun x => .int .i64 x) rb11 mp0_1 s.offsets vis0, Cells b0 77 [.int .i64 s.limit, .int .i64 s.state, .slice ap0_0 s.data.length cp0_0, .map (some mp0_1)], OwnL eU ap0_0 5 1 cp0_0 s.data, F]) (fun zz K1 => match zz with | (vis0, y0_0, y0_a0, y0_c0) => (0 < y0_0.length → Has y0_a0) ∧ mfold (fun e0 ss0 => fanout_Stream_Readers_L0 e0 ss0) vis0 [] = some y0_0) (fun zz => s.offsets.length - zz.1.length) ([], [], none, 0) rfl ⟨rfl, trivial⟩ (ConvH.of (.cons r0 (.cons r0 (.cons r0 (.cons r0 (.cons r0 .nil)))))) ⟨(fun h => by simp at h), rfl⟩ ?_
    rintro ⟨vis0, y0_0, y0_a0, y0_c0⟩ Kb0 lk0 ⟨y0_h0, hv0⟩ j0
    conv => whnf
    refine next_rule r1 (fun hp0 => ?_) (fun e0 rs0 hp0 => ?_)
    · conv => whnf
      refine cond_go rfl ?_
      conv => whnf
      refine cond_F ?_
      conv => whnf
      refine cond_T ?_
      conv => whnf
      refine MeetStep.mk (y0_0, y0_a0, y0_c0) ⟨rfl, trivial⟩ (by repeat (first | exact trivial | refine And.intro rfl ?_)) (ConvH.of (.cons r1 (.cons r0 (.cons r0 (.cons r0 (.cons r0 .nil)))))) lk0 ⟨y0_h0, ⟨_, hp0, hv0⟩⟩
    · obtain ⟨z0, hB0⟩ := mnext hP0 hv0 hp0
      have hl0 : fanout_Stream_Readers_L0 e0 y0_0 = some z0 := hB0
      unfold fanout_Stream_Readers_L0 at hl0
      conv => whnf
      refine cond_go rfl ?_
      conv => whnf
      refine cond_T ?_
      conv => whnf
      refine block_go rfl ?_
      conv => whnf
      refine RStep.of (entry_rule r0 ?_)
      conv => whnf
      refine bsO (len := 1) (enc := eN) (l := [e0.1]) (cl := [.int .i64 e0.1]) elT36 rfl rfl (fun _ _ => rfl) rfl rfl rfl ?_ fun b18 => ?_
      · conv => whnf
        refine cond_T ?_
        conv => whnf
      obtain ⟨h19, hl0⟩ := chkb hl0
      conv => whnf
      refine apE rfl r2 elT36 (src_own' rfl r0 rfl (fun _ => rfl) (fun _ => rfl)) h19 ?_
      intro a19 c19 o19
      conv => whnf
      refine RoundStep.mk (vis0 ++ [e0], (y0_0 ++ [e0.1]), a19, c19) ⟨rfl, trivial⟩ (by repeat (first | exact trivial | refine And.intro rfl ?_)) (ConvH.of (.cons r0 (.cons r1 (.cons r1 (.cons r1 (.cons r1 .nil)))))) lk0 (ltmap hp0) ⟨o19, ((mfold_snoc hv0).trans (hB0.trans hl0.symm))⟩
  · rintro ⟨t0, t0_a0, t0_c0⟩ Kt0 lt0 ⟨t0_h0, hx0⟩ j0
    replace hm := mlast hP0 hx0
    obtain ⟨x21, q21, hm⟩ := bnd hm
    conv => whnf
    refine call_fn (sort_int_ok q21 rfl) (.cons r0 .nil) ?_
    rintro _ K21 _ l21 ⟨rfl, rfl⟩
    obtain rfl := si hm
    conv => whnf
    refine EndStep.mk _ (lt0.trans l21) ⟨t0_a0, t0_c0, (by rw [← (show x21.length = t0.length from Eq.symm ((Eq.trans (rfl) (sortIM_len q21).symm)))] <;> rfl), (fun h => t0_h0 (by rw [sortIM_len q21] at h; exact h)), rfl⟩ (ConvH.of (.cons r0 (.cons r1 (.cons r1 (.cons r0 (.cons r0 .nil))))))
