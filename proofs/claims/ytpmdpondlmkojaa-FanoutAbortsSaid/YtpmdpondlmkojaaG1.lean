/- Functions of the program: mirrors, and that a call returns what the mirror says. Printed by gen.py. -/
import Derived.Test.YtpmdpondlmkojaaShelf
import Derived.Test.YtpmdpondlmkojaaSL22
import Derived.KernelRfl
import Derived.Test.YtpmdpondlmkojaaProg
set_option linter.unusedVariables false
set_option linter.unusedSimpArgs false
open Go Go.SL Go.Proofs
set_option maxRecDepth 30000
structure S_law28_Step where
  What : UInt8
  ID : Int
  N : Int
  Data : Str
def S_law28_Step.R : Rp S_law28_Step := fun K cs x => ∃ a_0 : Option Addr, ∃ c_0 : Nat, cs = [.int .u8 (x.What.toNat : Int), .int .i64 x.ID, .int .i64 x.N, .slice a_0 x.Data.length c_0] ∧ RdC eU K a_0 c_0 1 x.Data
theorem S_law28_Step.R_ok : RpOK 4 S_law28_Step.R :=
  ⟨fun hk ⟨a_0, c_0, e, h_0⟩ => ⟨a_0, c_0, e, (h_0.mono hk)⟩, fun ⟨a_0, c_0, e, h_0⟩ => by simp [e], fun ⟨a_0, c_0, e, h_0⟩ v hv => by rw [e] at hv; simp at hv; rcases hv with rfl | rfl | rfl | rfl <;> rfl⟩
structure S__2_int where
  f0 : Int
  f1 : Int
abbrev S__2_int.enc (x : S__2_int) : List Value := [.int .i64 x.f0, .int .i64 x.f1]
structure S_fanout_Stream where
  limit : Int
  state : Int
  data : Str
  offsets : (List (Int × Int))
theorem elT22 : ElT Try.prog 22 5 1 := ElT.mk' rfl rfl rfl rfl rfl
theorem elT36 : ElT Try.prog 36 3 1 := ElT.mk' rfl rfl rfl rfl rfl
noncomputable def law28_large_L0 : List S_law28_Step → Nat → Int → Option (Int)
  | [], _, y0_0 => some y0_0
  | e0 :: xs0, i0, y0_0 =>
    law28_large_L0 xs0 (i0 + 1) (IntKind.i64.wrap (y0_0 + (e0.Data.length : Int)))
noncomputable def law28_large (script : (List S_law28_Step)) : Option (Bool) :=
  (chk (script.length ≤ szMax)).bind fun _ =>
  (law28_large_L0 script 0 (script.length : Int)).bind fun t0 =>
  some (decide (t0 > 3000) || decide ((script.length : Int) > 80))
set_option maxHeartbeats 8000000 in
theorem law28_large_ok {script : (List S_law28_Step)} {ap0_0 : Option Addr} {cp0_0 : Nat} {n0 : Nat} {K : Hp} {r : Bool}
    (hm : law28_large script = some r) (hp0_0 : LiC S_law28_Step.R K ap0_0 cp0_0 4 script) (en0 : n0 = script.length) :
    Fn Try.prog 21 [.slice ap0_0 n0 cp0_0] K [] (fun v K' H' => v = .bool r ∧ H' = []) := by
  subst en0
  refine Fn.enter Try.func21 Try.call21 rfl fun F => ?_
  unfold law28_large at hm
  conv => whnf
  refine RStep.of (len_slice rfl ?_)
  conv => whnf
  refine RStep.of (len_slice rfl ?_)
  obtain ⟨hk0, hm⟩ := chkb hm
  obtain ⟨s0, hl0, hm⟩ := bnd hm
  conv => whnf
  refine code_cut (σ := (Int)) [3, 5, 10, 11, 12, 13, 14, 15, 16, 17, 18, 19] (fun t0 => [(3, .int .i64 t0)]) (fun t0 => [F]) (fun zz K1 => match zz with | t0 => t0 = s0) ?_ ?_
  · refine block_go rfl ?_
    conv => whnf
    refine loop_rule (σ := Nat × Int) [3, 5, 10, 11, 12, 13, 14, 15, 16, 17, 18, 19] (fun (i0, y0_0) => [(10, .int .i64 (i0 : Int)), (3, .int .i64 y0_0)]) (fun (i0, y0_0) => [F]) (fun zz K1 => match zz with | (i0, y0_0) => law28_large_L0 (script.drop i0) i0 y0_0 = some s0) (fun zz => script.length - zz.1) (0, (script.length : Int)) rfl ⟨rfl, rfl, trivial⟩ (ConvH.of (.cons r0 .nil)) hl0 ?_
    clear hl0
    rintro ⟨i0, y0_0⟩ Kb0 lk0 hl0 j0
    conv at hl0 => whnf
    conv => whnf
    refine cond_go rfl ?_
    conv => whnf
    refine cond_s (fun w0 => ?_) (fun w0 => ?_)
    · obtain ⟨e0, hx0, hd0⟩ := ltx w0
      rw [hd0, law28_large_L0.eq_2] at hl0
      conv => whnf
      refine block_go rfl ?_
      conv => whnf
      refine RStep.ofN (index_addr rfl rfl (hasR (LiC.mono S_law28_Step.R_ok lk0 hp0_0).rd hx0) (nn _) (lt_ofN hx0) ?_)
      obtain ⟨ss13, cc13, hr13, hc13, hR13⟩ := LiR.get (LiC.mono S_law28_Step.R_ok lk0 hp0_0).rd hx0
      obtain ⟨a13_0, c13_0, rfl, h13_0⟩ := hR13
      conv => whnf
      refine RStep.of (load_rd_agg i0 _ hr13 rfl hc13 rfl ?_)
      conv => whnf
      refine alloc_rule rfl ?_
      intro b5
      conv => whnf
      refine store_rule r0 rfl ?_
      conv => whnf
      refine ⟨rfl, rfl, (Nat.le_of_ble_eq_true rfl), ?_⟩
      conv => whnf
      refine field_addr rfl ?_
      conv => whnf
      refine RStep.of (load1_s r0 rfl rfl ?_)
      conv => whnf
      refine RStep.of (len_slice rfl ?_)
      conv => whnf
      refine int_wrap ?_
      conv => whnf
      refine int_in (cntz hx0 hk0) ?_
      conv => whnf
      refine RoundStep.mk (i0 + 1, (IntKind.i64.wrap (y0_0 + (e0.Data.length : Int)))) ⟨rfl, rfl, trivial⟩ (by repeat (first | exact trivial | refine And.intro rfl ?_)) (ConvH.of (.cons r1 .nil)) lk0 (ltm hx0) hl0
    · rw [lty w0, law28_large_L0.eq_1] at hl0
      conv => whnf
      refine cond_T ?_
      conv => whnf
      refine MeetStep.mk (y0_0) ⟨rfl, trivial⟩ (by repeat (first | exact trivial | refine And.intro rfl ?_)) (ConvH.of (.cons r0 .nil)) lk0 (si hl0)
  · rintro t0 Kt0 lt0 rfl j0
    conv => whnf
    refine cond_s (fun g22_7 => ?_) (fun g22_7 => ?_)
    · conv => whnf
      refine cond_t g22_7 ?_
      conv => whnf
      refine cond_t g22_7 ?_
      conv => whnf
      refine cond_t g22_7 ?_
      obtain rfl := si hm
      conv => whnf
      refine EndStep.mk _ lt0 ⟨(by rw [← ((or_t g22_7)).symm] <;> rfl), rfl⟩ (ConvH.of (.cons r0 .nil))
    · conv => whnf
      refine cond_f g22_7 ?_
      conv => whnf
      refine RStep.of (len_slice rfl ?_)
      conv => whnf
      refine cond_f g22_7 ?_
      conv => whnf
      refine cond_f g22_7 ?_
      obtain rfl := si hm
      conv => whnf
      refine EndStep.mk _ lt0 ⟨(by rw [← (or_e (b := decide ((script.length : Int) > 80)) g22_7)] <;> rfl), rfl⟩ (ConvH.of (.cons r0 .nil))

noncomputable def fanout_New (limit : Int) : Option (Option S_fanout_Stream × Err) :=
  if (decide (limit < 1) || decide (limit > 65536)) then
  some (none, (some 1))
  else
  some ((some (⟨limit, 1, [], []⟩ : S_fanout_Stream)), none)
set_option maxHeartbeats 8000000 in
theorem fanout_New_ok {limit : Int} {K : Hp} {r : Option S_fanout_Stream × Err}
    (hm : fanout_New limit = some r)  :
    Fn Try.prog 11 [.int .i64 limit] K [] (fun v K' H' => match r.1 with | none => (v = .tuple #[.pointer none, errV 44 r.2] ∧ H' = []) | some ro => (∃ br_0 : Nat, ∃ ar_1 : Option Addr, ∃ cr_1 : Nat, ∃ mr_2 : Nat, v = .tuple #[.pointer (some ⟨br_0, 0, none⟩), errV 44 r.2] ∧ (0 < ro.data.length → Has ar_1) ∧ H' = [Cells br_0 77 [.int .i64 ro.limit, .int .i64 ro.state, .slice ar_1 ro.data.length cr_1, .map (some mr_2)], OwnL eU ar_1 5 1 cr_1 ro.data, MapE intK (fun x => .int .i64 x) mr_2 ro.offsets])) := by
  refine Fn.enter Try.func11 Try.call11 rfl fun F => ?_
  unfold fanout_New at hm
  conv => whnf
  refine cond_s (fun g6_1 => ?_) (fun g6_1 => ?_)
  · conv => whnf
    refine cond_t g6_1 ?_
    conv => whnf
    refine cond_t g6_1 ?_
    conv => whnf
    refine cond_go rfl ?_
    conv => whnf
    refine cond_T ?_
    replace hm := ift (or_t g6_1) hm
    conv => whnf
    refine mk_iface rfl ?_
    obtain rfl := si hm
    conv => whnf
    refine EndStep.mk _ (Hp.Le.refl _) ⟨rfl, rfl⟩ (ConvH.of (.cons r0 .nil))
  · conv => whnf
    refine cond_f g6_1 ?_
    conv => whnf
    refine cond_f g6_1 ?_
    conv => whnf
    refine cond_go rfl ?_
    conv => whnf
    refine cond_s (fun w9 => ?_) (fun w9 => ?_)
    · replace hm := ift (or_u g6_1 w9) hm
      conv => whnf
      refine mk_iface rfl ?_
      obtain rfl := si hm
      conv => whnf
      refine EndStep.mk _ (Hp.Le.refl _) ⟨rfl, rfl⟩ (ConvH.of (.cons r0 .nil))
    · replace hm := iff_ (or_f g6_1 w9) hm
      conv => whnf
      refine makeMap_rule intK (fun x => .int .i64 x) fun b12 => ?_
      conv => whnf
      refine build_struct rfl rfl ?_
      conv => whnf
      refine cond_T ?_
      conv => whnf
      refine cond_T ?_
      conv => whnf
      refine cond_T ?_
      conv => whnf
      refine box_rule ?_
      intro b14
      obtain rfl := si hm
      conv => whnf
      refine nilE eU 5 1 ?_
      refine EndStep.mk _ (Hp.Le.refl _) ⟨b14, none, 0, b12, rfl, (fun h => by simp at h), rfl⟩ (ConvH.of (.cons r1 (.cons r0 (.cons r0 (.cons r0 .nil)))))

noncomputable def fanout_Stream_open (s : S_fanout_Stream) : Option (Err) :=
  if decide (s.state ≠ 1) then
  some (some 6)
  else
  some none
set_option maxHeartbeats 8000000 in
theorem fanout_Stream_open_ok {s : S_fanout_Stream} {b0 : Nat} {ap0_0 : Option Addr} {cp0_0 : Nat} {mp0_1 : Nat} {K : Hp} {r : Err}
    (hm : fanout_Stream_open s = some r) (hp0_0 : (0 < s.data.length → Has ap0_0)) :
    Fn Try.prog 36 [.pointer (some ⟨b0, 0, none⟩)] K [Cells b0 77 [.int .i64 s.limit, .int .i64 s.state, .slice ap0_0 s.data.length cp0_0, .map (some mp0_1)], OwnL eU ap0_0 5 1 cp0_0 s.data, MapE intK (fun x => .int .i64 x) mp0_1 s.offsets] (fun v K' H' => v = errV 44 r ∧ H' = [Cells b0 77 [.int .i64 s.limit, .int .i64 s.state, .slice ap0_0 s.data.length cp0_0, .map (some mp0_1)], OwnL eU ap0_0 5 1 cp0_0 s.data, MapE intK (fun x => .int .i64 x) mp0_1 s.offsets]) := by
  refine Fn.enter Try.func36 Try.call36 rfl fun F => ?_
  unfold fanout_Stream_open at hm
  conv => whnf
  refine block_go rfl ?_
  conv => whnf
  refine eq_ptr_nil rfl ?_
  conv => whnf
  refine cond_go rfl ?_
  conv => whnf
  refine cond_F ?_
  conv => whnf
  refine nil_check ?_
  conv => whnf
  refine field_addr rfl ?_
  conv => whnf
  refine RStep.of (load1_s r0 rfl rfl ?_)
  conv => whnf
  refine neq_int ?_
  conv => whnf
  refine cond_go rfl ?_
  conv => whnf
  refine cond_s (fun w7 => ?_) (fun w7 => ?_)
  · replace hm := ift w7 hm
    conv => whnf
    refine mk_iface rfl ?_
    obtain rfl := si hm
    conv => whnf
    refine EndStep.mk _ (Hp.Le.refl _) ⟨rfl, rfl⟩ (ConvH.of (.cons r0 (.cons r0 (.cons r0 (.cons r0 .nil)))))
  · replace hm := iff_ w7 hm
    obtain rfl := si hm
    conv => whnf
    refine EndStep.mk _ (Hp.Le.refl _) ⟨rfl, rfl⟩ (ConvH.of (.cons r0 (.cons r0 (.cons r0 (.cons r0 .nil)))))

noncomputable def fanout_Stream_Write (s : S_fanout_Stream) (b : Str) : Option (Err × S_fanout_Stream) :=
  (fanout_Stream_open s).bind fun x7 =>
  if x7.isSome then
  some (x7, s)
  else
  (chk (InI ((s.data.length : Int) + (b.length : Int)))).bind fun _ =>
  if decide (((s.data.length : Int) + (b.length : Int)) > s.limit) then
  some ((some 5), s)
  else
  (chk (s.data.length + b.length ≤ lim)).bind fun _ =>
  some (none, (⟨s.limit, s.state, (s.data ++ b), s.offsets⟩ : S_fanout_Stream))
set_option maxHeartbeats 8000000 in
theorem fanout_Stream_Write_ok {s : S_fanout_Stream} {b : Str} {b0 : Nat} {ap0_0 : Option Addr} {cp0_0 : Nat} {mp0_1 : Nat} {ap1_0 : Option Addr} {cp1_0 : Nat} {n1 : Nat} {K : Hp} {r : Err × S_fanout_Stream}
    (hm : fanout_Stream_Write s b = some r) (hp0_0 : (0 < s.data.length → Has ap0_0)) (hp1_0 : RdC eU K ap1_0 cp1_0 1 b) (en1 : n1 = b.length) :
    Fn Try.prog 12 [.pointer (some ⟨b0, 0, none⟩), .slice ap1_0 n1 cp1_0] K [Cells b0 77 [.int .i64 s.limit, .int .i64 s.state, .slice ap0_0 s.data.length cp0_0, .map (some mp0_1)], OwnL eU ap0_0 5 1 cp0_0 s.data, MapE intK (fun x => .int .i64 x) mp0_1 s.offsets] (fun v K' H' => ∃ ar_0 : Option Addr, ∃ cr_0 : Nat, ∃ mr_1 : Nat, v = errV 44 r.1 ∧ (0 < r.2.data.length → Has ar_0) ∧ H' = [Cells b0 77 [.int .i64 r.2.limit, .int .i64 r.2.state, .slice ar_0 r.2.data.length cr_0, .map (some mr_1)], OwnL eU ar_0 5 1 cr_0 r.2.data, MapE intK (fun x => .int .i64 x) mr_1 r.2.offsets]) := by
  subst en1
  refine Fn.enter Try.func12 Try.call12 rfl fun F => ?_
  unfold fanout_Stream_Write at hm
  obtain ⟨x7, q7, hm⟩ := bnd hm
  conv => whnf
  refine call_fn (fanout_Stream_open_ok q7 hp0_0) (.cons r0 (.cons r0 (.cons r0 .nil))) ?_
  rintro _ K7 _ l7 ⟨rfl, rfl⟩
  conv => whnf
  refine neq_err rfl ?_
  conv => whnf
  refine cond_go rfl ?_
  conv => whnf
  refine cond_s (fun w9 => ?_) (fun w9 => ?_)
  · replace hm := ift w9 hm
    obtain rfl := si hm
    conv => whnf
    refine EndStep.mk _ l7 ⟨ap0_0, cp0_0, mp0_1, rfl, hp0_0, rfl⟩ (ConvH.of (.cons r0 (.cons r0 (.cons r0 (.cons r0 .nil)))))
  · replace hm := iff_ w9 hm
    conv => whnf
    refine draw_go ⟨⟨[], false⟩, _, [(_, _)]⟩ (by kernel_rfl) ⟨Hp.Le.refl _, (ConvH.of (.cons r0 .nil))⟩ ?_
    conv => whnf
    refine nil_check ?_
    conv => whnf
    refine field_addr rfl ?_
    conv => whnf
    refine load1_l m0 rfl rfl ?_
    conv => whnf
    refine len_slice rfl ?_
    conv => whnf
    refine len_slice rfl ?_
    obtain ⟨h18, hm⟩ := chkb hm
    conv => whnf
    refine int_in h18 ?_
    conv => whnf
    refine nil_check ?_
    conv => whnf
    refine field_addr rfl ?_
    conv => whnf
    refine load1_l m0 rfl rfl ?_
    conv => whnf
    refine cond_go rfl ?_
    conv => whnf
    refine cond_s (fun w23 => ?_) (fun w23 => ?_)
    · replace hm := ift w23 hm
      conv => whnf
      refine mk_iface rfl ?_
      obtain rfl := si hm
      conv => whnf
      refine EndStep.mk _ l7 ⟨ap0_0, cp0_0, mp0_1, rfl, hp0_0, rfl⟩ (ConvH.of (.cons r0 (.cons r0 (.cons r0 (.cons r0 .nil)))))
    · replace hm := iff_ w23 hm
      conv => whnf
      refine nil_check ?_
      conv => whnf
      refine field_addr rfl ?_
      conv => whnf
      refine RStep.of (load1_s r0 rfl rfl ?_)
      obtain ⟨h31, hm⟩ := chkb hm
      conv => whnf
      refine apE rfl r1 elT22 (src_k rfl (hp1_0.mono l7).rd rfl) h31 ?_
      intro a31 c31 o31
      conv => whnf
      refine nil_check ?_
      conv => whnf
      refine field_addr rfl ?_
      conv => whnf
      refine store_rule r1 rfl ?_
      conv => whnf
      refine ⟨rfl, rfl, (Nat.le_of_ble_eq_true rfl), ?_⟩
      obtain rfl := si hm
      conv => whnf
      refine EndStep.mk _ l7 ⟨a31, c31, mp0_1, rfl, o31, rfl⟩ (ConvH.of (.cons r0 (.cons r0 (.cons r0 (.cons r0 .nil)))))

noncomputable def fanout_Stream_open_nil : Option (Err) :=
  some (some 3)
set_option maxHeartbeats 8000000 in
theorem fanout_Stream_open_nil_ok  {K : Hp} {r : Err}
    (hm : fanout_Stream_open_nil = some r)  :
    Fn Try.prog 36 [.pointer none] K [] (fun v K' H' => v = errV 44 r ∧ H' = []) := by
  refine Fn.enter Try.func36 Try.call36 rfl fun F => ?_
  unfold fanout_Stream_open_nil at hm
  conv => whnf
  refine block_go rfl ?_
  conv => whnf
  refine eq_nil_nil rfl ?_
  conv => whnf
  refine cond_go rfl ?_
  conv => whnf
  refine cond_T ?_
  conv => whnf
  refine mk_iface rfl ?_
  obtain rfl := si hm
  conv => whnf
  refine EndStep.mk _ (Hp.Le.refl _) ⟨rfl, rfl⟩ (ConvH.of (.cons r0 .nil))

noncomputable def fanout_Stream_Write_nil (b : Str) : Option (Err) :=
  (fanout_Stream_open_nil).bind fun x7 =>
  if x7.isSome then
  some x7
  else
  none
set_option maxHeartbeats 8000000 in
theorem fanout_Stream_Write_nil_ok {b : Str} {ap1_0 : Option Addr} {cp1_0 : Nat} {n1 : Nat} {K : Hp} {r : Err}
    (hm : fanout_Stream_Write_nil b = some r) (hp1_0 : RdC eU K ap1_0 cp1_0 1 b) (en1 : n1 = b.length) :
    Fn Try.prog 12 [.pointer none, .slice ap1_0 n1 cp1_0] K [] (fun v K' H' => v = errV 44 r ∧ H' = []) := by
  subst en1
  refine Fn.enter Try.func12 Try.call12 rfl fun F => ?_
  unfold fanout_Stream_Write_nil at hm
  obtain ⟨x7, q7, hm⟩ := bnd hm
  conv => whnf
  refine call_fn (fanout_Stream_open_nil_ok q7) .nil ?_
  rintro _ K7 _ l7 ⟨rfl, rfl⟩
  conv => whnf
  refine neq_err rfl ?_
  conv => whnf
  refine cond_go rfl ?_
  conv => whnf
  refine cond_s (fun w9 => ?_) (fun w9 => ?_)
  · replace hm := ift w9 hm
    obtain rfl := si hm
    conv => whnf
    refine EndStep.mk _ l7 ⟨rfl, rfl⟩ (ConvH.of (.cons r0 .nil))
  · replace hm := iff_ w9 hm
    conv => whnf
    refine draw_go ⟨⟨[], false⟩, _, []⟩ (by kernel_rfl) ⟨Hp.Le.refl _, (ConvH.of .nil)⟩ ?_
    cases hm

noncomputable def fanout_Stream_Attach (s : S_fanout_Stream) (id : Int) (fromZ : Int) : Option (Err × S_fanout_Stream) :=
  if (mget s.offsets id).isSome then
  some ((some 4), s)
  else
  if (decide (fromZ < 0) || decide (fromZ > (s.data.length : Int))) then
  some ((some 1), s)
  else
  some (none, (⟨s.limit, s.state, s.data, (mset s.offsets id fromZ)⟩ : S_fanout_Stream))
set_option maxHeartbeats 8000000 in
theorem fanout_Stream_Attach_ok {s : S_fanout_Stream} {id : Int} {fromZ : Int} {b0 : Nat} {ap0_0 : Option Addr} {cp0_0 : Nat} {mp0_1 : Nat} {K : Hp} {r : Err × S_fanout_Stream}
    (hm : fanout_Stream_Attach s id fromZ = some r) (hp0_0 : (0 < s.data.length → Has ap0_0)) :
    Fn Try.prog 13 [.pointer (some ⟨b0, 0, none⟩), .int .i64 id, .int .i64 fromZ] K [Cells b0 77 [.int .i64 s.limit, .int .i64 s.state, .slice ap0_0 s.data.length cp0_0, .map (some mp0_1)], OwnL eU ap0_0 5 1 cp0_0 s.data, MapE intK (fun x => .int .i64 x) mp0_1 s.offsets] (fun v K' H' => ∃ ar_0 : Option Addr, ∃ cr_0 : Nat, ∃ mr_1 : Nat, v = errV 44 r.1 ∧ (0 < r.2.data.length → Has ar_0) ∧ H' = [Cells b0 77 [.int .i64 r.2.limit, .int .i64 r.2.state, .slice ar_0 r.2.data.length cr_0, .map (some mr_1)], OwnL eU ar_0 5 1 cr_0 r.2.data, MapE intK (fun x => .int .i64 x) mr_1 r.2.offsets]) := by
  refine Fn.enter Try.func13 Try.call13 rfl fun F => ?_
  unfold fanout_Stream_Attach at hm
  conv => whnf
  refine eq_ptr_nil rfl ?_
  conv => whnf
  refine cond_go rfl ?_
  conv => whnf
  refine cond_F ?_
  conv => whnf
  refine nil_check ?_
  conv => whnf
  refine field_addr rfl ?_
  conv => whnf
  refine RStep.of (load1_s r0 rfl rfl ?_)
  conv => whnf
  refine RStep.of (lookup_ok (kenc := intK) (venc := (fun x => .int .i64 x)) (z := 0) r2 rfl rfl (key_int rfl) ?_)
  conv => whnf
  refine cond_go rfl ?_
  conv => whnf
  refine cond_s (fun w21 => ?_) (fun w21 => ?_)
  · replace hm := ift w21 hm
    conv => whnf
    refine mk_iface rfl ?_
    obtain rfl := si hm
    conv => whnf
    refine EndStep.mk _ (Hp.Le.refl _) ⟨ap0_0, cp0_0, mp0_1, rfl, hp0_0, rfl⟩ (ConvH.of (.cons r0 (.cons r0 (.cons r0 (.cons r0 .nil)))))
  · replace hm := iff_ w21 hm
    conv => whnf
    refine cond_s (fun g25_6 => ?_) (fun g25_6 => ?_)
    · conv => whnf
      refine cond_t g25_6 ?_
      conv => whnf
      refine cond_t g25_6 ?_
      conv => whnf
      refine cond_t g25_6 ?_
      conv => whnf
      refine cond_t g25_6 ?_
      conv => whnf
      refine cond_t g25_6 ?_
      conv => whnf
      refine cond_t g25_6 ?_
      conv => whnf
      refine cond_t g25_6 ?_
      conv => whnf
      refine cond_go rfl ?_
      conv => whnf
      refine cond_T ?_
      replace hm := ift (or_t g25_6) hm
      conv => whnf
      refine mk_iface rfl ?_
      obtain rfl := si hm
      conv => whnf
      refine EndStep.mk _ (Hp.Le.refl _) ⟨ap0_0, cp0_0, mp0_1, rfl, hp0_0, rfl⟩ (ConvH.of (.cons r0 (.cons r0 (.cons r0 (.cons r0 .nil)))))
    · conv => whnf
      refine cond_f g25_6 ?_
      conv => whnf
      refine cond_f g25_6 ?_
      conv => whnf
      refine nil_check ?_
      conv => whnf
      refine cond_f g25_6 ?_
      conv => whnf
      refine field_addr rfl ?_
      conv => whnf
      refine cond_f g25_6 ?_
      conv => whnf
      refine RStep.of (load1_s r0 rfl rfl ?_)
      conv => whnf
      refine cond_f g25_6 ?_
      conv => whnf
      refine RStep.of (len_slice rfl ?_)
      conv => whnf
      refine cond_f g25_6 ?_
      conv => whnf
      refine cond_f g25_6 ?_
      conv => whnf
      refine cond_go rfl ?_
      conv => whnf
      refine cond_s (fun w33 => ?_) (fun w33 => ?_)
      · replace hm := ift (or_u g25_6 w33) hm
        conv => whnf
        refine mk_iface rfl ?_
        obtain rfl := si hm
        conv => whnf
        refine EndStep.mk _ (Hp.Le.refl _) ⟨ap0_0, cp0_0, mp0_1, rfl, hp0_0, rfl⟩ (ConvH.of (.cons r0 (.cons r0 (.cons r0 (.cons r0 .nil)))))
      · replace hm := iff_ (or_f g25_6 w33) hm
        conv => whnf
        refine nil_check ?_
        conv => whnf
        refine field_addr rfl ?_
        conv => whnf
        refine RStep.of (load1_s r0 rfl rfl ?_)
        conv => whnf
        refine update_rule (kenc := intK) (venc := (fun x => .int .i64 x)) fromZ rfl r2 rfl (key_int rfl) ?_
        obtain rfl := si hm
        conv => whnf
        refine EndStep.mk _ (Hp.Le.refl _) ⟨ap0_0, cp0_0, mp0_1, rfl, hp0_0, rfl⟩ (ConvH.of (.cons r1 (.cons r1 (.cons r0 (.cons r0 .nil)))))

noncomputable def fanout_Stream_Attach_nil (id : Int) (fromZ : Int) : Option (Err) :=
  some (some 3)
set_option maxHeartbeats 8000000 in
theorem fanout_Stream_Attach_nil_ok {id : Int} {fromZ : Int} {K : Hp} {r : Err}
    (hm : fanout_Stream_Attach_nil id fromZ = some r)  :
    Fn Try.prog 13 [.pointer none, .int .i64 id, .int .i64 fromZ] K [] (fun v K' H' => v = errV 44 r ∧ H' = []) := by
  refine Fn.enter Try.func13 Try.call13 rfl fun F => ?_
  unfold fanout_Stream_Attach_nil at hm
  conv => whnf
  refine eq_nil_nil rfl ?_
  conv => whnf
  refine cond_go rfl ?_
  conv => whnf
  refine cond_T ?_
  conv => whnf
  refine mk_iface rfl ?_
  obtain rfl := si hm
  conv => whnf
  refine EndStep.mk _ (Hp.Le.refl _) ⟨rfl, rfl⟩ (ConvH.of (.cons r0 .nil))

noncomputable def fanout_Stream_Read_nil (id : Int) (max : Int) : Option (Str × Int × Err) :=
  some ([], 0, (some 3))
set_option maxHeartbeats 8000000 in
theorem fanout_Stream_Read_nil_ok {id : Int} {max : Int} {K : Hp} {r : Str × Int × Err}
    (hm : fanout_Stream_Read_nil id max = some r)  :
    Fn Try.prog 14 [.pointer none, .int .i64 id, .int .i64 max] K [] (fun v K' H' => ∃ ar_0 : Option Addr, ∃ cr_0 : Nat, v = .tuple #[.slice ar_0 r.1.length cr_0, .int .i64 r.2.1, errV 44 r.2.2] ∧ (0 < r.1.length → Has ar_0) ∧ H' = [OwnL eU ar_0 5 1 cr_0 r.1]) := by
  refine Fn.enter Try.func14 Try.call14 rfl fun F => ?_
  unfold fanout_Stream_Read_nil at hm
  conv => whnf
  refine eq_nil_nil rfl ?_
  conv => whnf
  refine cond_go rfl ?_
  conv => whnf
  refine cond_T ?_
  conv => whnf
  refine mk_iface rfl ?_
  obtain rfl := si hm
  conv => whnf
  refine nilE eU 5 1 ?_
  refine EndStep.mk _ (Hp.Le.refl _) ⟨none, 0, rfl, (fun h => by simp at h), rfl⟩ (ConvH.of (.cons r0 (.cons r0 .nil)))

noncomputable def fanout_Stream_Read (s : S_fanout_Stream) (id : Int) (max : Int) : Option (Str × Int × Err × S_fanout_Stream) :=
  if (!(mget s.offsets id).isSome) then
  some ([], 0, (some 3), s)
  else
  if decide (s.state = 3) then
  some ([], 3, none, s)
  else
  if decide (max > 0) then
  (chk (InI ((s.data.length : Int) - ((mget s.offsets id).getD 0)))).bind fun _ =>
  (chk (InI (((mget s.offsets id).getD 0) + (min max ((s.data.length : Int) - ((mget s.offsets id).getD 0)))))).bind fun _ =>
  (chk (0 ≤ ((mget s.offsets id).getD 0) ∧ ((mget s.offsets id).getD 0) ≤ (((mget s.offsets id).getD 0) + (min max ((s.data.length : Int) - ((mget s.offsets id).getD 0)))) ∧ (((mget s.offsets id).getD 0) + (min max ((s.data.length : Int) - ((mget s.offsets id).getD 0)))) ≤ (s.data.length : Int))).bind fun _ =>
  (chk ((subL s.data ((mget s.offsets id).getD 0) (((mget s.offsets id).getD 0) + (min max ((s.data.length : Int) - ((mget s.offsets id).getD 0))))).length ≤ lim)).bind fun _ =>
  (chk (InI (((mget s.offsets id).getD 0) + (((subL s.data ((mget s.offsets id).getD 0) (((mget s.offsets id).getD 0) + (min max ((s.data.length : Int) - ((mget s.offsets id).getD 0))))).length) : Int)))).bind fun _ =>
  if (decide (s.state = 2) && decide ((((mget s.offsets id).getD 0) + (((subL s.data ((mget s.offsets id).getD 0) (((mget s.offsets id).getD 0) + (min max ((s.data.length : Int) - ((mget s.offsets id).getD 0))))).length) : Int)) = (s.data.length : Int))) then
  some ((subL s.data ((mget s.offsets id).getD 0) (((mget s.offsets id).getD 0) + (min max ((s.data.length : Int) - ((mget s.offsets id).getD 0))))), 2, none, (⟨s.limit, s.state, s.data, (mset s.offsets id (((mget s.offsets id).getD 0) + (((subL s.data ((mget s.offsets id).getD 0) (((mget s.offsets id).getD 0) + (min max ((s.data.length : Int) - ((mget s.offsets id).getD 0))))).length) : Int)))⟩ : S_fanout_Stream))
  else
  some ((subL s.data ((mget s.offsets id).getD 0) (((mget s.offsets id).getD 0) + (min max ((s.data.length : Int) - ((mget s.offsets id).getD 0))))), 1, none, (⟨s.limit, s.state, s.data, (mset s.offsets id (((mget s.offsets id).getD 0) + (((subL s.data ((mget s.offsets id).getD 0) (((mget s.offsets id).getD 0) + (min max ((s.data.length : Int) - ((mget s.offsets id).getD 0))))).length) : Int)))⟩ : S_fanout_Stream))
  else
  (chk (InI (((mget s.offsets id).getD 0) + 0))).bind fun _ =>
  if (decide (s.state = 2) && decide ((((mget s.offsets id).getD 0) + 0) = (s.data.length : Int))) then
  some ([], 2, none, (⟨s.limit, s.state, s.data, (mset s.offsets id (((mget s.offsets id).getD 0) + 0))⟩ : S_fanout_Stream))
  else
  some ([], 1, none, (⟨s.limit, s.state, s.data, (mset s.offsets id (((mget s.offsets id).getD 0) + 0))⟩ : S_fanout_Stream))
set_option maxHeartbeats 8000000 in
theorem fanout_Stream_Read_ok {s : S_fanout_Stream} {id : Int} {max : Int} {b0 : Nat} {ap0_0 : Option Addr} {cp0_0 : Nat} {mp0_1 : Nat} {K : Hp} {r : Str × Int × Err × S_fanout_Stream}
    (hm : fanout_Stream_Read s id max = some r) (hp0_0 : (0 < s.data.length → Has ap0_0)) :
    Fn Try.prog 14 [.pointer (some ⟨b0, 0, none⟩), .int .i64 id, .int .i64 max] K [Cells b0 77 [.int .i64 s.limit, .int .i64 s.state, .slice ap0_0 s.data.length cp0_0, .map (some mp0_1)], OwnL eU ap0_0 5 1 cp0_0 s.data, MapE intK (fun x => .int .i64 x) mp0_1 s.offsets] (fun v K' H' => ∃ ar_0 : Option Addr, ∃ cr_0 : Nat, ∃ ar_1 : Option Addr, ∃ cr_1 : Nat, ∃ mr_2 : Nat, v = .tuple #[.slice ar_0 r.1.length cr_0, .int .i64 r.2.1, errV 44 r.2.2.1] ∧ (0 < r.1.length → Has ar_0) ∧ (0 < r.2.2.2.data.length → Has ar_1) ∧ H' = [OwnL eU ar_0 5 1 cr_0 r.1, Cells b0 77 [.int .i64 r.2.2.2.limit, .int .i64 r.2.2.2.state, .slice ar_1 r.2.2.2.data.length cr_1, .map (some mr_2)], OwnL eU ar_1 5 1 cr_1 r.2.2.2.data, MapE intK (fun x => .int .i64 x) mr_2 r.2.2.2.offsets]) := by
  refine Fn.enter Try.func14 Try.call14 rfl fun F => ?_
  unfold fanout_Stream_Read at hm
  conv => whnf
  refine eq_ptr_nil rfl ?_
  conv => whnf
  refine cond_go rfl ?_
  conv => whnf
  refine cond_F ?_
  conv => whnf
  refine nil_check ?_
  conv => whnf
  refine field_addr rfl ?_
  conv => whnf
  refine RStep.of (load1_s r0 rfl rfl ?_)
  conv => whnf
  refine RStep.of (lookup_ok (kenc := intK) (venc := (fun x => .int .i64 x)) (z := 0) r2 rfl rfl (key_int rfl) ?_)
  conv => whnf
  refine un_not ?_
  conv => whnf
  refine cond_go rfl ?_
  conv => whnf
  refine cond_s (fun w25 => ?_) (fun w25 => ?_)
  · replace hm := ift (not_t (ni_t w25)) hm
    conv => whnf
    refine mk_iface rfl ?_
    obtain rfl := si hm
    conv => whnf
    refine nilE eU 5 1 ?_
    refine EndStep.mk _ (Hp.Le.refl _) ⟨none, 0, ap0_0, cp0_0, mp0_1, rfl, (fun h => by simp at h), hp0_0, rfl⟩ (ConvH.of (.cons r0 (.cons r0 (.cons r0 (.cons r0 (.cons r0 .nil))))))
  · replace hm := iff_ (not_f (ni_f w25)) hm
    conv => whnf
    refine nil_check ?_
    conv => whnf
    refine field_addr rfl ?_
    conv => whnf
    refine RStep.of (load1_s r0 rfl rfl ?_)
    conv => whnf
    refine eq_int ?_
    conv => whnf
    refine cond_go rfl ?_
    conv => whnf
    refine cond_s (fun w31 => ?_) (fun w31 => ?_)
    · replace hm := ift w31 hm
      obtain rfl := si hm
      conv => whnf
      refine nilE eU 5 1 ?_
      refine EndStep.mk _ (Hp.Le.refl _) ⟨none, 0, ap0_0, cp0_0, mp0_1, rfl, (fun h => by simp at h), hp0_0, rfl⟩ (ConvH.of (.cons r0 (.cons r0 (.cons r0 (.cons r0 (.cons r0 .nil))))))
    · replace hm := iff_ w31 hm
      conv => whnf
      refine CStep.ownLe r1 fun hc3 => ?_
      conv => whnf
      refine cond_go rfl ?_
      conv => whnf
      refine cond_s (fun w33 => ?_) (fun w33 => ?_)
      · replace hm := ift w33 hm
        conv => whnf
        refine draw_go ⟨⟨[], false⟩, _, [(_, _)]⟩ (by kernel_rfl) ⟨Hp.Le.refl _, (ConvH.of (.cons r0 .nil))⟩ ?_
        conv => whnf
        refine nil_check ?_
        conv => whnf
        refine field_addr rfl ?_
        conv => whnf
        refine load1_l m0 rfl rfl ?_
        conv => whnf
        refine nil_check ?_
        conv => whnf
        refine field_addr rfl ?_
        conv => whnf
        refine load1_l m0 rfl rfl ?_
        conv => whnf
        refine len_slice rfl ?_
        obtain ⟨h48, hm⟩ := chkb hm
        conv => whnf
        refine int_in h48 ?_
        conv => whnf
        refine min_int ?_
        obtain ⟨h50, hm⟩ := chkb hm
        conv => whnf
        refine int_in h50 ?_
        obtain ⟨h51, hm⟩ := chkb hm
        conv => whnf
        refine sl_part (l := s.data) (lo := (some ((mget s.offsets id).getD 0))) (hi := (some (((mget s.offsets id).getD 0) + (min max ((s.data.length : Int) - ((mget s.offsets id).getD 0)))))) rfl rfl rfl hc3 h51 ?_
        obtain ⟨h52, hm⟩ := chkb hm
        conv => whnf
        refine apn (enc := eU) elT22 (src_part rfl r1 h51 rfl (fun _ => rfl) (fun _ => rfl)) h52 ?_
        intro a52 c52 o52
        conv => whnf
        refine ⟨⟨(Hp.Le.refl _), (ConvH.of (.cons r1 .nil))⟩, ?_⟩
        conv => whnf
        refine RStep.of (len_slice rfl ?_)
        obtain ⟨h56, hm⟩ := chkb hm
        conv => whnf
        refine int_in h56 ?_
        conv => whnf
        refine nil_check ?_
        conv => whnf
        refine field_addr rfl ?_
        conv => whnf
        refine RStep.of (load1_s r1 rfl rfl ?_)
        conv => whnf
        refine update_rule (kenc := intK) (venc := (fun x => .int .i64 x)) (((mget s.offsets id).getD 0) + (((subL s.data ((mget s.offsets id).getD 0) (((mget s.offsets id).getD 0) + (min max ((s.data.length : Int) - ((mget s.offsets id).getD 0))))).length) : Int)) rfl r3 rfl (key_int rfl) ?_
        conv => whnf
        refine nil_check ?_
        conv => whnf
        refine field_addr rfl ?_
        conv => whnf
        refine RStep.of (load1_s r2 rfl rfl ?_)
        conv => whnf
        refine eq_int ?_
        conv => whnf
        refine cond_s (fun g68_13 => ?_) (fun g68_13 => ?_)
        · conv => whnf
          refine cond_t g68_13 ?_
          conv => whnf
          refine cond_t g68_13 ?_
          conv => whnf
          refine nil_check ?_
          conv => whnf
          refine cond_t g68_13 ?_
          conv => whnf
          refine field_addr rfl ?_
          conv => whnf
          refine cond_t g68_13 ?_
          conv => whnf
          refine RStep.of (load1_s r2 rfl rfl ?_)
          conv => whnf
          refine cond_t g68_13 ?_
          conv => whnf
          refine RStep.of (len_slice rfl ?_)
          conv => whnf
          refine cond_t g68_13 ?_
          conv => whnf
          refine eq_int ?_
          conv => whnf
          refine cond_t g68_13 ?_
          conv => whnf
          refine cond_go rfl ?_
          conv => whnf
          refine cond_s (fun w76 => ?_) (fun w76 => ?_)
          · replace hm := ift (and_t g68_13 w76) hm
            obtain rfl := si hm
            conv => whnf
            refine EndStep.mk _ (Hp.Le.refl _) ⟨a52, c52, ap0_0, cp0_0, mp0_1, rfl, o52, hp0_0, rfl⟩ (ConvH.of (.cons r1 (.cons r1 (.cons r1 (.cons r0 (.cons r0 .nil))))))
          · replace hm := iff_ (and_g g68_13 w76) hm
            obtain rfl := si hm
            conv => whnf
            refine EndStep.mk _ (Hp.Le.refl _) ⟨a52, c52, ap0_0, cp0_0, mp0_1, rfl, o52, hp0_0, rfl⟩ (ConvH.of (.cons r1 (.cons r1 (.cons r1 (.cons r0 (.cons r0 .nil))))))
        · conv => whnf
          refine cond_f g68_13 ?_
          conv => whnf
          refine cond_f g68_13 ?_
          conv => whnf
          refine cond_f g68_13 ?_
          conv => whnf
          refine cond_f g68_13 ?_
          conv => whnf
          refine cond_f g68_13 ?_
          conv => whnf
          refine cond_f g68_13 ?_
          conv => whnf
          refine cond_f g68_13 ?_
          conv => whnf
          refine cond_go rfl ?_
          conv => whnf
          refine cond_F ?_
          replace hm := iff_ (and_f g68_13) hm
          obtain rfl := si hm
          conv => whnf
          refine EndStep.mk _ (Hp.Le.refl _) ⟨a52, c52, ap0_0, cp0_0, mp0_1, rfl, o52, hp0_0, rfl⟩ (ConvH.of (.cons r1 (.cons r1 (.cons r1 (.cons r0 (.cons r0 .nil))))))
      · replace hm := iff_ w33 hm
        conv => whnf
        refine RStep.of (len_slice rfl ?_)
        obtain ⟨h56, hm⟩ := chkb hm
        conv => whnf
        refine int_in h56 ?_
        conv => whnf
        refine nil_check ?_
        conv => whnf
        refine field_addr rfl ?_
        conv => whnf
        refine RStep.of (load1_s r0 rfl rfl ?_)
        conv => whnf
        refine update_rule (kenc := intK) (venc := (fun x => .int .i64 x)) (((mget s.offsets id).getD 0) + 0) rfl r2 rfl (key_int rfl) ?_
        conv => whnf
        refine nil_check ?_
        conv => whnf
        refine field_addr rfl ?_
        conv => whnf
        refine RStep.of (load1_s r1 rfl rfl ?_)
        conv => whnf
        refine eq_int ?_
        conv => whnf
        refine cond_s (fun g68_13 => ?_) (fun g68_13 => ?_)
        · conv => whnf
          refine cond_t g68_13 ?_
          conv => whnf
          refine cond_t g68_13 ?_
          conv => whnf
          refine nil_check ?_
          conv => whnf
          refine cond_t g68_13 ?_
          conv => whnf
          refine field_addr rfl ?_
          conv => whnf
          refine cond_t g68_13 ?_
          conv => whnf
          refine RStep.of (load1_s r1 rfl rfl ?_)
          conv => whnf
          refine cond_t g68_13 ?_
          conv => whnf
          refine RStep.of (len_slice rfl ?_)
          conv => whnf
          refine cond_t g68_13 ?_
          conv => whnf
          refine eq_int ?_
          conv => whnf
          refine cond_t g68_13 ?_
          conv => whnf
          refine cond_go rfl ?_
          conv => whnf
          refine cond_s (fun w76 => ?_) (fun w76 => ?_)
          · replace hm := ift (and_t g68_13 w76) hm
            obtain rfl := si hm
            conv => whnf
            refine nilE eU 5 1 ?_
            refine EndStep.mk _ (Hp.Le.refl _) ⟨none, 0, ap0_0, cp0_0, mp0_1, rfl, (fun h => by simp at h), hp0_0, rfl⟩ (ConvH.of (.cons r0 (.cons r1 (.cons r1 (.cons r0 (.cons r0 .nil))))))
          · replace hm := iff_ (and_g g68_13 w76) hm
            obtain rfl := si hm
            conv => whnf
            refine nilE eU 5 1 ?_
            refine EndStep.mk _ (Hp.Le.refl _) ⟨none, 0, ap0_0, cp0_0, mp0_1, rfl, (fun h => by simp at h), hp0_0, rfl⟩ (ConvH.of (.cons r0 (.cons r1 (.cons r1 (.cons r0 (.cons r0 .nil))))))
        · conv => whnf
          refine cond_f g68_13 ?_
          conv => whnf
          refine cond_f g68_13 ?_
          conv => whnf
          refine cond_f g68_13 ?_
          conv => whnf
          refine cond_f g68_13 ?_
          conv => whnf
          refine cond_f g68_13 ?_
          conv => whnf
          refine cond_f g68_13 ?_
          conv => whnf
          refine cond_f g68_13 ?_
          conv => whnf
          refine cond_go rfl ?_
          conv => whnf
          refine cond_F ?_
          replace hm := iff_ (and_f g68_13) hm
          obtain rfl := si hm
          conv => whnf
          refine nilE eU 5 1 ?_
          refine EndStep.mk _ (Hp.Le.refl _) ⟨none, 0, ap0_0, cp0_0, mp0_1, rfl, (fun h => by simp at h), hp0_0, rfl⟩ (ConvH.of (.cons r0 (.cons r1 (.cons r1 (.cons r0 (.cons r0 .nil))))))

noncomputable def law28_awake : Option (Bool) :=
  (fanout_New 10).bind fun x6 =>
  Option.elim x6.1 (
  if x6.2.isSome then
  some false
  else
  (fanout_Stream_Write_nil ([(97 : UInt8), (98 : UInt8), (99 : UInt8)] : Str)).bind fun x15 =>
  if x15.isSome then
  some false
  else
  (fanout_Stream_Attach_nil 1 1).bind fun x20 =>
  if x20.isSome then
  some false
  else
  (fanout_Stream_Read_nil 1 9).bind fun x25 =>
  (if x25.2.2.isNone then some (decide (x25.1 = ([98, 99] : Str))) else some false).bind fun x35 =>
  some (x35 && decide (x25.2.1 = 1)))
   fun o6 =>
  if x6.2.isSome then
  some false
  else
  (fanout_Stream_Write o6 ([(97 : UInt8), (98 : UInt8), (99 : UInt8)] : Str)).bind fun x15 =>
  if x15.1.isSome then
  some false
  else
  (fanout_Stream_Attach x15.2 1 1).bind fun x20 =>
  if x20.1.isSome then
  some false
  else
  (fanout_Stream_Read x20.2 1 9).bind fun x25 =>
  (if x25.2.2.1.isNone then some (decide (x25.1 = ([98, 99] : Str))) else some false).bind fun x35 =>
  some (x35 && decide (x25.2.1 = 1))
set_option maxHeartbeats 8000000 in
theorem law28_awake_ok  {K : Hp} {r : Bool}
    (hm : law28_awake = some r)  :
    Fn Try.prog 10 [] K [] (fun v K' H' => v = .bool r ∧ H' = []) := by
  refine Fn.enter Try.func10 Try.call10 rfl fun F => ?_
  unfold law28_awake at hm
  obtain ⟨x6, q6, hm⟩ := bnd hm
  conv => whnf
  refine call_fn (fanout_New_ok q6) .nil ?_
  rintro v6 K6 H6 l6 p6
  rcases hq6 : x6.1 with _ | o6
  · rw [hq6] at p6 hm
    obtain ⟨rfl, rfl⟩ := p6
    replace hm := oe_n hm
    conv => whnf
    refine neq_err rfl ?_
    conv => whnf
    refine cond_s (fun g11_2 => ?_) (fun g11_2 => ?_)
    · replace hm := ift g11_2 hm
      conv => whnf
      refine cond_t g11_2 ?_
      conv => whnf
      refine cond_t g11_2 ?_
      conv => whnf
      refine cond_t g11_2 ?_
      conv => whnf
      refine cond_t g11_2 ?_
      conv => whnf
      refine cond_t g11_2 ?_
      conv => whnf
      refine cond_T ?_
      conv => whnf
      refine cond_T ?_
      conv => whnf
      refine cond_T ?_
      conv => whnf
      refine cond_T ?_
      conv => whnf
      refine cond_go rfl ?_
      conv => whnf
      refine cond_T ?_
      obtain rfl := si hm
      conv => whnf
      refine EndStep.mk _ l6 ⟨rfl, rfl⟩ (ConvH.of (.cons r0 .nil))
    · replace hm := iff_ g11_2 hm
      conv => whnf
      refine cond_f g11_2 ?_
      conv => whnf
      refine bsO (len := 3) (enc := eU) (l := ([(97 : UInt8), (98 : UInt8), (99 : UInt8)] : Str)) (cl := [.int .u8 97, .int .u8 98, .int .u8 99]) elT22 rfl rfl (fun _ _ => rfl) rfl rfl rfl ?_ fun b13 => ?_
      · conv => whnf
        refine cond_T ?_
        conv => whnf
        refine cond_T ?_
        conv => whnf
        refine cond_T ?_
        conv => whnf
      conv => whnf
      refine cond_f g11_2 ?_
      conv => whnf
      refine cv_mark rfl rfl r0 ?_
      conv => whnf
      refine cond_f g11_2 ?_
      obtain ⟨x15, q15, hm⟩ := bnd hm
      conv => whnf
      refine call_fn (Fn.lend Try.call12 (fun K15_1 l15_1 f15_1 => (fanout_Stream_Write_nil_ok q15 f15_1 rfl)) (by exact fun _ _ _ _ h => h)) (.cons r0 .nil) ?_
      rintro _ K15 _ l15 ⟨_, rfl, rfl, rfl⟩
      conv => whnf
      refine cond_f g11_2 ?_
      conv => whnf
      refine neq_err rfl ?_
      conv => whnf
      refine cond_f g11_2 ?_
      conv => whnf
      refine cond_s (fun g18_2 => ?_) (fun g18_2 => ?_)
      · replace hm := ift g18_2 hm
        conv => whnf
        refine cond_t g18_2 ?_
        conv => whnf
        refine cond_t g18_2 ?_
        conv => whnf
        refine cond_t g18_2 ?_
        conv => whnf
        refine cond_go rfl ?_
        conv => whnf
        refine cond_T ?_
        obtain rfl := si hm
        conv => whnf
        refine EndStep.mk _ (l6.trans l15) ⟨rfl, rfl⟩ (ConvH.of (.cons r1 .nil))
      · replace hm := iff_ g18_2 hm
        conv => whnf
        refine cond_f g18_2 ?_
        obtain ⟨x20, q20, hm⟩ := bnd hm
        conv => whnf
        refine call_fn (fanout_Stream_Attach_nil_ok q20) .nil ?_
        rintro _ K20 _ l20 ⟨rfl, rfl⟩
        conv => whnf
        refine cond_f g18_2 ?_
        conv => whnf
        refine neq_err rfl ?_
        conv => whnf
        refine cond_f g18_2 ?_
        conv => whnf
        refine cond_go rfl ?_
        conv => whnf
        refine cond_s (fun w22 => ?_) (fun w22 => ?_)
        · replace hm := ift w22 hm
          obtain rfl := si hm
          conv => whnf
          refine EndStep.mk _ ((l6.trans l15).trans l20) ⟨rfl, rfl⟩ (ConvH.of (.cons r1 .nil))
        · replace hm := iff_ w22 hm
          obtain ⟨x25, q25, hm⟩ := bnd hm
          conv => whnf
          refine call_fn (fanout_Stream_Read_nil_ok q25) .nil ?_
          rintro _ K25 _ l25 ⟨a25_0, c25_0, rfl, h25_0, rfl⟩
          conv => whnf
          refine eq_err rfl ?_
          obtain ⟨x35, e35, hm⟩ := bnd hm
          conv => whnf
          refine cond_s (fun g31_5 => ?_) (fun g31_5 => ?_)
          · replace e35 := ift g31_5 e35
            conv => whnf
            refine cond_t g31_5 ?_
            conv => whnf
            refine RStep.of (cv_ownE rfl r0 rfl rfl rfl ?_)
            conv => whnf
            refine cond_t g31_5 ?_
            conv => whnf
            refine eq_str ?_
            conv => whnf
            refine cond_t g31_5 ?_
            conv => whnf
            refine cond_s (fun g36_5 => ?_) (fun g36_5 => ?_)
            · conv => whnf
              refine cond_t g36_5 ?_
              conv => whnf
              refine eq_int ?_
              conv => whnf
              refine cond_t g36_5 ?_
              obtain rfl := si hm
              conv => whnf
              refine EndStep.mk _ (((l6.trans l15).trans l20).trans l25) ⟨(by rw [← (and_e (b := decide (x25.2.1 = 1)) ((si e35).symm.trans g36_5))] <;> rfl), rfl⟩ (ConvH.of (.cons r2 .nil))
            · conv => whnf
              refine cond_f g36_5 ?_
              conv => whnf
              refine cond_f g36_5 ?_
              obtain rfl := si hm
              conv => whnf
              refine EndStep.mk _ (((l6.trans l15).trans l20).trans l25) ⟨(by rw [← ((and_f ((si e35).symm.trans g36_5))).symm] <;> rfl), rfl⟩ (ConvH.of (.cons r2 .nil))
          · replace e35 := iff_ g31_5 e35
            conv => whnf
            refine cond_f g31_5 ?_
            conv => whnf
            refine cond_f g31_5 ?_
            conv => whnf
            refine cond_f g31_5 ?_
            conv => whnf
            refine cond_F ?_
            conv => whnf
            refine cond_F ?_
            conv => whnf
            refine cond_F ?_
            obtain rfl := si hm
            conv => whnf
            refine EndStep.mk _ (((l6.trans l15).trans l20).trans l25) ⟨(by rw [← ((and_f (si e35).symm)).symm] <;> rfl), rfl⟩ (ConvH.of (.cons r2 .nil))
  · rw [hq6] at p6 hm
    obtain ⟨b6_0, a6_1, c6_1, m6_2, rfl, h6_1, rfl⟩ := p6
    replace hm := oe_s hm
    conv => whnf
    refine neq_err rfl ?_
    conv => whnf
    refine cond_s (fun g11_2 => ?_) (fun g11_2 => ?_)
    · replace hm := ift g11_2 hm
      conv => whnf
      refine cond_t g11_2 ?_
      conv => whnf
      refine cond_t g11_2 ?_
      conv => whnf
      refine cond_t g11_2 ?_
      conv => whnf
      refine cond_t g11_2 ?_
      conv => whnf
      refine cond_t g11_2 ?_
      conv => whnf
      refine cond_T ?_
      conv => whnf
      refine cond_T ?_
      conv => whnf
      refine cond_T ?_
      conv => whnf
      refine cond_T ?_
      conv => whnf
      refine cond_go rfl ?_
      conv => whnf
      refine cond_T ?_
      obtain rfl := si hm
      conv => whnf
      refine EndStep.mk _ l6 ⟨rfl, rfl⟩ (ConvH.of (.cons r3 .nil))
    · replace hm := iff_ g11_2 hm
      conv => whnf
      refine cond_f g11_2 ?_
      conv => whnf
      refine bsO (len := 3) (enc := eU) (l := ([(97 : UInt8), (98 : UInt8), (99 : UInt8)] : Str)) (cl := [.int .u8 97, .int .u8 98, .int .u8 99]) elT22 rfl rfl (fun _ _ => rfl) rfl rfl rfl ?_ fun b13 => ?_
      · conv => whnf
        refine cond_T ?_
        conv => whnf
        refine cond_T ?_
        conv => whnf
        refine cond_T ?_
        conv => whnf
      conv => whnf
      refine cond_f g11_2 ?_
      conv => whnf
      refine cv_mark rfl rfl r0 ?_
      conv => whnf
      refine cond_f g11_2 ?_
      obtain ⟨x15, q15, hm⟩ := bnd hm
      conv => whnf
      refine call_fn (Fn.lend Try.call12 (fun K15_1 l15_1 f15_1 => (fanout_Stream_Write_ok q15 h6_1 f15_1 rfl)) (by exact fun _ _ _ _ h => h)) (.cons r0 (.cons r0 (.cons r0 (.cons r0 .nil)))) ?_
      rintro _ K15 _ l15 ⟨_, rfl, a15_0, c15_0, m15_1, rfl, h15_0, rfl⟩
      conv => whnf
      refine cond_f g11_2 ?_
      conv => whnf
      refine neq_err rfl ?_
      conv => whnf
      refine cond_f g11_2 ?_
      conv => whnf
      refine cond_s (fun g18_2 => ?_) (fun g18_2 => ?_)
      · replace hm := ift g18_2 hm
        conv => whnf
        refine cond_t g18_2 ?_
        conv => whnf
        refine cond_t g18_2 ?_
        conv => whnf
        refine cond_t g18_2 ?_
        conv => whnf
        refine cond_go rfl ?_
        conv => whnf
        refine cond_T ?_
        obtain rfl := si hm
        conv => whnf
        refine EndStep.mk _ (l6.trans l15) ⟨rfl, rfl⟩ (ConvH.of (.cons r4 .nil))
      · replace hm := iff_ g18_2 hm
        conv => whnf
        refine cond_f g18_2 ?_
        obtain ⟨x20, q20, hm⟩ := bnd hm
        conv => whnf
        refine call_fn (fanout_Stream_Attach_ok q20 h15_0) (.cons r1 (.cons r1 (.cons r1 .nil))) ?_
        rintro _ K20 _ l20 ⟨a20_0, c20_0, m20_1, rfl, h20_0, rfl⟩
        conv => whnf
        refine cond_f g18_2 ?_
        conv => whnf
        refine neq_err rfl ?_
        conv => whnf
        refine cond_f g18_2 ?_
        conv => whnf
        refine cond_go rfl ?_
        conv => whnf
        refine cond_s (fun w22 => ?_) (fun w22 => ?_)
        · replace hm := ift w22 hm
          obtain rfl := si hm
          conv => whnf
          refine EndStep.mk _ ((l6.trans l15).trans l20) ⟨rfl, rfl⟩ (ConvH.of (.cons r4 .nil))
        · replace hm := iff_ w22 hm
          obtain ⟨x25, q25, hm⟩ := bnd hm
          conv => whnf
          refine call_fn (fanout_Stream_Read_ok q25 h20_0) (.cons r0 (.cons r0 (.cons r0 .nil))) ?_
          rintro _ K25 _ l25 ⟨a25_0, c25_0, a25_1, c25_1, m25_2, rfl, h25_0, h25_1, rfl⟩
          conv => whnf
          refine eq_err rfl ?_
          obtain ⟨x35, e35, hm⟩ := bnd hm
          conv => whnf
          refine cond_s (fun g31_5 => ?_) (fun g31_5 => ?_)
          · replace e35 := ift g31_5 e35
            conv => whnf
            refine cond_t g31_5 ?_
            conv => whnf
            refine RStep.of (cv_ownE rfl r0 rfl rfl rfl ?_)
            conv => whnf
            refine cond_t g31_5 ?_
            conv => whnf
            refine eq_str ?_
            conv => whnf
            refine cond_t g31_5 ?_
            conv => whnf
            refine cond_s (fun g36_5 => ?_) (fun g36_5 => ?_)
            · conv => whnf
              refine cond_t g36_5 ?_
              conv => whnf
              refine eq_int ?_
              conv => whnf
              refine cond_t g36_5 ?_
              obtain rfl := si hm
              conv => whnf
              refine EndStep.mk _ (((l6.trans l15).trans l20).trans l25) ⟨(by rw [← (and_e (b := decide (x25.2.1 = 1)) ((si e35).symm.trans g36_5))] <;> rfl), rfl⟩ (ConvH.of (.cons r5 .nil))
            · conv => whnf
              refine cond_f g36_5 ?_
              conv => whnf
              refine cond_f g36_5 ?_
              obtain rfl := si hm
              conv => whnf
              refine EndStep.mk _ (((l6.trans l15).trans l20).trans l25) ⟨(by rw [← ((and_f ((si e35).symm.trans g36_5))).symm] <;> rfl), rfl⟩ (ConvH.of (.cons r5 .nil))
          · replace e35 := iff_ g31_5 e35
            conv => whnf
            refine cond_f g31_5 ?_
            conv => whnf
            refine cond_f g31_5 ?_
            conv => whnf
            refine cond_f g31_5 ?_
            conv => whnf
            refine cond_F ?_
            conv => whnf
            refine cond_F ?_
            conv => whnf
            refine cond_F ?_
            obtain rfl := si hm
            conv => whnf
            refine EndStep.mk _ (((l6.trans l15).trans l20).trans l25) ⟨(by rw [← ((and_f (si e35).symm)).symm] <;> rfl), rfl⟩ (ConvH.of (.cons r5 .nil))

noncomputable def fanout_Stream_Detach_nil (id : Int) : Option (Bool) :=
  some false
set_option maxHeartbeats 8000000 in
theorem fanout_Stream_Detach_nil_ok {id : Int} {K : Hp} {r : Bool}
    (hm : fanout_Stream_Detach_nil id = some r)  :
    Fn Try.prog 25 [.pointer none, .int .i64 id] K [] (fun v K' H' => v = .bool r ∧ H' = []) := by
  refine Fn.enter Try.func25 Try.call25 rfl fun F => ?_
  unfold fanout_Stream_Detach_nil at hm
  conv => whnf
  refine eq_nil_nil rfl ?_
  conv => whnf
  refine cond_go rfl ?_
  conv => whnf
  refine cond_T ?_
  obtain rfl := si hm
  conv => whnf
  refine EndStep.mk _ (Hp.Le.refl _) ⟨rfl, rfl⟩ (ConvH.of (.cons r0 .nil))

noncomputable def fanout_Stream_End_nil : Option (Err) :=
  (fanout_Stream_open_nil).bind fun x5 =>
  if x5.isSome then
  some x5
  else
  none
set_option maxHeartbeats 8000000 in
theorem fanout_Stream_End_nil_ok  {K : Hp} {r : Err}
    (hm : fanout_Stream_End_nil = some r)  :
    Fn Try.prog 16 [.pointer none] K [] (fun v K' H' => v = errV 44 r ∧ H' = []) := by
  refine Fn.enter Try.func16 Try.call16 rfl fun F => ?_
  unfold fanout_Stream_End_nil at hm
  obtain ⟨x5, q5, hm⟩ := bnd hm
  conv => whnf
  refine call_fn (fanout_Stream_open_nil_ok q5) .nil ?_
  rintro _ K5 _ l5 ⟨rfl, rfl⟩
  conv => whnf
  refine neq_err rfl ?_
  conv => whnf
  refine cond_go rfl ?_
  conv => whnf
  refine cond_s (fun w7 => ?_) (fun w7 => ?_)
  · replace hm := ift w7 hm
    obtain rfl := si hm
    conv => whnf
    refine EndStep.mk _ l5 ⟨rfl, rfl⟩ (ConvH.of (.cons r0 .nil))
  · replace hm := iff_ w7 hm
    cases hm

noncomputable def fanout_Stream_Abort_nil : Option (Err) :=
  (fanout_Stream_open_nil).bind fun x5 =>
  if x5.isSome then
  some x5
  else
  none
set_option maxHeartbeats 8000000 in
theorem fanout_Stream_Abort_nil_ok  {K : Hp} {r : Err}
    (hm : fanout_Stream_Abort_nil = some r)  :
    Fn Try.prog 24 [.pointer none] K [] (fun v K' H' => v = errV 44 r ∧ H' = []) := by
  refine Fn.enter Try.func24 Try.call24 rfl fun F => ?_
  unfold fanout_Stream_Abort_nil at hm
  obtain ⟨x5, q5, hm⟩ := bnd hm
  conv => whnf
  refine call_fn (fanout_Stream_open_nil_ok q5) .nil ?_
  rintro _ K5 _ l5 ⟨rfl, rfl⟩
  conv => whnf
  refine neq_err rfl ?_
  conv => whnf
  refine cond_go rfl ?_
  conv => whnf
  refine cond_s (fun w7 => ?_) (fun w7 => ?_)
  · replace hm := ift w7 hm
    obtain rfl := si hm
    conv => whnf
    refine EndStep.mk _ l5 ⟨rfl, rfl⟩ (ConvH.of (.cons r0 .nil))
  · replace hm := iff_ w7 hm
    cases hm

noncomputable def law28_play_nil (x : S_law28_Step) : Option (Unit) :=
  if decide (((x.What % (12 : UInt8)).toNat : Int) = 3) then
  (fanout_Stream_Attach_nil x.ID x.N).bind fun x19 =>
  some ()
  else
  if decide (((x.What % (12 : UInt8)).toNat : Int) = 4) then
  (fanout_Stream_Attach_nil x.ID x.N).bind fun x19 =>
  some ()
  else
  if decide (((x.What % (12 : UInt8)).toNat : Int) = 5) then
  (fanout_Stream_Read_nil x.ID x.N).bind fun x30 =>
  some ()
  else
  if decide (((x.What % (12 : UInt8)).toNat : Int) = 6) then
  (fanout_Stream_Read_nil x.ID x.N).bind fun x30 =>
  some ()
  else
  if decide (((x.What % (12 : UInt8)).toNat : Int) = 7) then
  (fanout_Stream_Read_nil x.ID x.N).bind fun x30 =>
  some ()
  else
  if decide (((x.What % (12 : UInt8)).toNat : Int) = 8) then
  (fanout_Stream_Read_nil x.ID x.N).bind fun x30 =>
  some ()
  else
  if decide (((x.What % (12 : UInt8)).toNat : Int) = 9) then
  (fanout_Stream_Detach_nil x.ID).bind fun x36 =>
  some ()
  else
  if decide (((x.What % (12 : UInt8)).toNat : Int) = 10) then
  (fanout_Stream_End_nil).bind fun x40 =>
  some ()
  else
  if decide (((x.What % (12 : UInt8)).toNat : Int) = 11) then
  (fanout_Stream_Abort_nil).bind fun x44 =>
  some ()
  else
  (fanout_Stream_Write_nil x.Data).bind fun x10 =>
  some ()
set_option maxHeartbeats 8000000 in
theorem law28_play_nil_ok {x : S_law28_Step} {ap1_0 : Option Addr} {cp1_0 : Nat} {K : Hp} {r : Unit}
    (hm : law28_play_nil x = some r) (hp1_0 : RdC eU K ap1_0 cp1_0 1 x.Data) :
    Fn Try.prog 22 [.pointer none, .agg #[.int .u8 (x.What.toNat : Int), .int .i64 x.ID, .int .i64 x.N, .slice ap1_0 x.Data.length cp1_0]] K [] (fun v K' H' => v = .tuple #[] ∧ H' = []) := by
  refine Fn.enter Try.func22 Try.call22 rfl fun F => ?_
  unfold law28_play_nil at hm
  conv => whnf
  refine box_rule ?_
  intro b3
  conv => whnf
  refine field_addr rfl ?_
  conv => whnf
  refine RStep.of (load1_s r0 rfl rfl ?_)
  conv => whnf
  refine u8_rem (x := x.What) (y := (12 : UInt8)) rfl rfl (by decide) ?_
  conv => whnf
  refine block_go rfl ?_
  conv => whnf
  refine eq_int ?_
  conv => whnf
  refine cond_go rfl ?_
  conv => whnf
  refine cond_s (fun w11 => ?_) (fun w11 => ?_)
  · replace hm := ift w11 hm
    conv => whnf
    refine cond_go rfl ?_
    conv => whnf
    refine cond_t w11 ?_
    conv => whnf
    refine field_addr rfl ?_
    conv => whnf
    refine RStep.of (load1_s r0 rfl rfl ?_)
    conv => whnf
    refine field_addr rfl ?_
    conv => whnf
    refine RStep.of (load1_s r0 rfl rfl ?_)
    obtain ⟨x19, q19, hm⟩ := bnd hm
    conv => whnf
    refine call_fn (fanout_Stream_Attach_nil_ok q19) .nil ?_
    rintro _ K19 _ l19 ⟨rfl, rfl⟩
    obtain rfl := si hm
    conv => whnf
    refine EndStep.mk _ l19 ⟨rfl, rfl⟩ (ConvH.of (.cons r1 .nil))
  · replace hm := iff_ w11 hm
    conv => whnf
    refine eq_int ?_
    conv => whnf
    refine cond_go rfl ?_
    conv => whnf
    refine cond_s (fun w11 => ?_) (fun w11 => ?_)
    · replace hm := ift w11 hm
      conv => whnf
      refine field_addr rfl ?_
      conv => whnf
      refine RStep.of (load1_s r0 rfl rfl ?_)
      conv => whnf
      refine field_addr rfl ?_
      conv => whnf
      refine RStep.of (load1_s r0 rfl rfl ?_)
      obtain ⟨x19, q19, hm⟩ := bnd hm
      conv => whnf
      refine call_fn (fanout_Stream_Attach_nil_ok q19) .nil ?_
      rintro _ K19 _ l19 ⟨rfl, rfl⟩
      obtain rfl := si hm
      conv => whnf
      refine EndStep.mk _ l19 ⟨rfl, rfl⟩ (ConvH.of (.cons r1 .nil))
    · replace hm := iff_ w11 hm
      conv => whnf
      refine eq_int ?_
      conv => whnf
      refine cond_go rfl ?_
      conv => whnf
      refine cond_s (fun w20 => ?_) (fun w20 => ?_)
      · replace hm := ift w20 hm
        conv => whnf
        refine cond_go rfl ?_
        conv => whnf
        refine cond_t w20 ?_
        conv => whnf
        refine field_addr rfl ?_
        conv => whnf
        refine RStep.of (load1_s r0 rfl rfl ?_)
        conv => whnf
        refine field_addr rfl ?_
        conv => whnf
        refine RStep.of (load1_s r0 rfl rfl ?_)
        obtain ⟨x30, q30, hm⟩ := bnd hm
        conv => whnf
        refine call_fn (fanout_Stream_Read_nil_ok q30) .nil ?_
        rintro _ K30 _ l30 ⟨a30_0, c30_0, rfl, h30_0, rfl⟩
        obtain rfl := si hm
        conv => whnf
        refine EndStep.mk _ l30 ⟨rfl, rfl⟩ (ConvH.of (.cons r2 .nil))
      · replace hm := iff_ w20 hm
        conv => whnf
        refine eq_int ?_
        conv => whnf
        refine cond_go rfl ?_
        conv => whnf
        refine cond_s (fun w20 => ?_) (fun w20 => ?_)
        · replace hm := ift w20 hm
          conv => whnf
          refine cond_go rfl ?_
          conv => whnf
          refine cond_t w20 ?_
          conv => whnf
          refine field_addr rfl ?_
          conv => whnf
          refine RStep.of (load1_s r0 rfl rfl ?_)
          conv => whnf
          refine field_addr rfl ?_
          conv => whnf
          refine RStep.of (load1_s r0 rfl rfl ?_)
          obtain ⟨x30, q30, hm⟩ := bnd hm
          conv => whnf
          refine call_fn (fanout_Stream_Read_nil_ok q30) .nil ?_
          rintro _ K30 _ l30 ⟨a30_0, c30_0, rfl, h30_0, rfl⟩
          obtain rfl := si hm
          conv => whnf
          refine EndStep.mk _ l30 ⟨rfl, rfl⟩ (ConvH.of (.cons r2 .nil))
        · replace hm := iff_ w20 hm
          conv => whnf
          refine eq_int ?_
          conv => whnf
          refine cond_go rfl ?_
          conv => whnf
          refine cond_s (fun w20 => ?_) (fun w20 => ?_)
          · replace hm := ift w20 hm
            conv => whnf
            refine cond_go rfl ?_
            conv => whnf
            refine cond_t w20 ?_
            conv => whnf
            refine field_addr rfl ?_
            conv => whnf
            refine RStep.of (load1_s r0 rfl rfl ?_)
            conv => whnf
            refine field_addr rfl ?_
            conv => whnf
            refine RStep.of (load1_s r0 rfl rfl ?_)
            obtain ⟨x30, q30, hm⟩ := bnd hm
            conv => whnf
            refine call_fn (fanout_Stream_Read_nil_ok q30) .nil ?_
            rintro _ K30 _ l30 ⟨a30_0, c30_0, rfl, h30_0, rfl⟩
            obtain rfl := si hm
            conv => whnf
            refine EndStep.mk _ l30 ⟨rfl, rfl⟩ (ConvH.of (.cons r2 .nil))
          · replace hm := iff_ w20 hm
            conv => whnf
            refine eq_int ?_
            conv => whnf
            refine cond_go rfl ?_
            conv => whnf
            refine cond_s (fun w20 => ?_) (fun w20 => ?_)
            · replace hm := ift w20 hm
              conv => whnf
              refine field_addr rfl ?_
              conv => whnf
              refine RStep.of (load1_s r0 rfl rfl ?_)
              conv => whnf
              refine field_addr rfl ?_
              conv => whnf
              refine RStep.of (load1_s r0 rfl rfl ?_)
              obtain ⟨x30, q30, hm⟩ := bnd hm
              conv => whnf
              refine call_fn (fanout_Stream_Read_nil_ok q30) .nil ?_
              rintro _ K30 _ l30 ⟨a30_0, c30_0, rfl, h30_0, rfl⟩
              obtain rfl := si hm
              conv => whnf
              refine EndStep.mk _ l30 ⟨rfl, rfl⟩ (ConvH.of (.cons r2 .nil))
            · replace hm := iff_ w20 hm
              conv => whnf
              refine eq_int ?_
              conv => whnf
              refine cond_go rfl ?_
              conv => whnf
              refine cond_s (fun w31 => ?_) (fun w31 => ?_)
              · replace hm := ift w31 hm
                conv => whnf
                refine field_addr rfl ?_
                conv => whnf
                refine RStep.of (load1_s r0 rfl rfl ?_)
                obtain ⟨x36, q36, hm⟩ := bnd hm
                conv => whnf
                refine call_fn (fanout_Stream_Detach_nil_ok q36) .nil ?_
                rintro _ K36 _ l36 ⟨rfl, rfl⟩
                obtain rfl := si hm
                conv => whnf
                refine EndStep.mk _ l36 ⟨rfl, rfl⟩ (ConvH.of (.cons r1 .nil))
              · replace hm := iff_ w31 hm
                conv => whnf
                refine eq_int ?_
                conv => whnf
                refine cond_go rfl ?_
                conv => whnf
                refine cond_s (fun w37 => ?_) (fun w37 => ?_)
                · replace hm := ift w37 hm
                  obtain ⟨x40, q40, hm⟩ := bnd hm
                  conv => whnf
                  refine call_fn (fanout_Stream_End_nil_ok q40) .nil ?_
                  rintro _ K40 _ l40 ⟨rfl, rfl⟩
                  obtain rfl := si hm
                  conv => whnf
                  refine EndStep.mk _ l40 ⟨rfl, rfl⟩ (ConvH.of (.cons r1 .nil))
                · replace hm := iff_ w37 hm
                  conv => whnf
                  refine eq_int ?_
                  conv => whnf
                  refine cond_go rfl ?_
                  conv => whnf
                  refine cond_s (fun w41 => ?_) (fun w41 => ?_)
                  · replace hm := ift w41 hm
                    obtain ⟨x44, q44, hm⟩ := bnd hm
                    conv => whnf
                    refine call_fn (fanout_Stream_Abort_nil_ok q44) .nil ?_
                    rintro _ K44 _ l44 ⟨rfl, rfl⟩
                    obtain rfl := si hm
                    conv => whnf
                    refine EndStep.mk _ l44 ⟨rfl, rfl⟩ (ConvH.of (.cons r1 .nil))
                  · replace hm := iff_ w41 hm
                    conv => whnf
                    refine field_addr rfl ?_
                    conv => whnf
                    refine RStep.of (load1_s r0 rfl rfl ?_)
                    obtain ⟨x10, q10, hm⟩ := bnd hm
                    conv => whnf
                    refine call_fn (fanout_Stream_Write_nil_ok q10 hp1_0 rfl) .nil ?_
                    rintro _ K10 _ l10 ⟨rfl, rfl⟩
                    obtain rfl := si hm
                    conv => whnf
                    refine EndStep.mk _ l10 ⟨rfl, rfl⟩ (ConvH.of (.cons r1 .nil))

noncomputable def base_Num (e : Err) : Option (Int) :=
  if e.isNone then
  some 0
  else
  if (!e.isSome) then
  some (-1)
  else
  some (e.getD 0)
set_option maxHeartbeats 8000000 in
theorem base_Num_ok {e : Err} {K : Hp} {r : Int}
    (hm : base_Num e = some r)  :
    Fn Try.prog 23 [errV 44 e] K [] (fun v K' H' => v = .int .i64 r ∧ H' = []) := by
  refine Fn.enter Try.func23 Try.call23 rfl fun F => ?_
  unfold base_Num at hm
  conv => whnf
  refine eq_err rfl ?_
  conv => whnf
  refine cond_go rfl ?_
  conv => whnf
  refine cond_s (fun w6 => ?_) (fun w6 => ?_)
  · replace hm := ift w6 hm
    obtain rfl := si hm
    conv => whnf
    refine EndStep.mk _ (Hp.Le.refl _) ⟨rfl, rfl⟩ (ConvH.of (.cons r0 .nil))
  · replace hm := iff_ w6 hm
    conv => whnf
    refine asrt rfl rfl rfl ?_
    conv => whnf
    refine un_not ?_
    conv => whnf
    refine cond_go rfl ?_
    conv => whnf
    refine cond_s (fun w13 => ?_) (fun w13 => ?_)
    · replace hm := ift (not_t (ni_t w13)) hm
      obtain rfl := si hm
      conv => whnf
      refine EndStep.mk _ (Hp.Le.refl _) ⟨rfl, rfl⟩ (ConvH.of (.cons r0 .nil))
    · replace hm := iff_ (not_f (ni_f w13)) hm
      obtain rfl := si hm
      conv => whnf
      refine EndStep.mk _ (Hp.Le.refl _) ⟨rfl, rfl⟩ (ConvH.of (.cons r0 .nil))

noncomputable def base_Is (e : Err) (want : Int) : Option (Bool) :=
  (base_Num e).bind fun x6 =>
  some (decide (x6 = want) && decide (want ≠ 0))
set_option maxHeartbeats 8000000 in
theorem base_Is_ok {e : Err} {want : Int} {K : Hp} {r : Bool}
    (hm : base_Is e want = some r)  :
    Fn Try.prog 18 [errV 44 e, .int .i64 want] K [] (fun v K' H' => v = .bool r ∧ H' = []) := by
  refine Fn.enter Try.func18 Try.call18 rfl fun F => ?_
  unfold base_Is at hm
  obtain ⟨x6, q6, hm⟩ := bnd hm
  conv => whnf
  refine call_fn (base_Num_ok q6) .nil ?_
  rintro _ K6 _ l6 ⟨rfl, rfl⟩
  conv => whnf
  refine eq_int ?_
  conv => whnf
  refine cond_s (fun g9_1 => ?_) (fun g9_1 => ?_)
  · conv => whnf
    refine cond_t g9_1 ?_
    conv => whnf
    refine neq_int ?_
    conv => whnf
    refine cond_t g9_1 ?_
    obtain rfl := si hm
    conv => whnf
    refine EndStep.mk _ l6 ⟨(by rw [← (and_e (b := decide (want ≠ 0)) g9_1)] <;> rfl), rfl⟩ (ConvH.of (.cons r0 .nil))
  · conv => whnf
    refine cond_f g9_1 ?_
    conv => whnf
    refine cond_f g9_1 ?_
    obtain rfl := si hm
    conv => whnf
    refine EndStep.mk _ l6 ⟨(by rw [← ((and_f g9_1)).symm] <;> rfl), rfl⟩ (ConvH.of (.cons r0 .nil))

noncomputable def fanout_Stream_End (s : S_fanout_Stream) : Option (Err × S_fanout_Stream) :=
  (fanout_Stream_open s).bind fun x5 =>
  if x5.isSome then
  some (x5, s)
  else
  some (none, (⟨s.limit, 2, s.data, s.offsets⟩ : S_fanout_Stream))
set_option maxHeartbeats 8000000 in
theorem fanout_Stream_End_ok {s : S_fanout_Stream} {b0 : Nat} {ap0_0 : Option Addr} {cp0_0 : Nat} {mp0_1 : Nat} {K : Hp} {r : Err × S_fanout_Stream}
    (hm : fanout_Stream_End s = some r) (hp0_0 : (0 < s.data.length → Has ap0_0)) :
    Fn Try.prog 16 [.pointer (some ⟨b0, 0, none⟩)] K [Cells b0 77 [.int .i64 s.limit, .int .i64 s.state, .slice ap0_0 s.data.length cp0_0, .map (some mp0_1)], OwnL eU ap0_0 5 1 cp0_0 s.data, MapE intK (fun x => .int .i64 x) mp0_1 s.offsets] (fun v K' H' => ∃ ar_0 : Option Addr, ∃ cr_0 : Nat, ∃ mr_1 : Nat, v = errV 44 r.1 ∧ (0 < r.2.data.length → Has ar_0) ∧ H' = [Cells b0 77 [.int .i64 r.2.limit, .int .i64 r.2.state, .slice ar_0 r.2.data.length cr_0, .map (some mr_1)], OwnL eU ar_0 5 1 cr_0 r.2.data, MapE intK (fun x => .int .i64 x) mr_1 r.2.offsets]) := by
  refine Fn.enter Try.func16 Try.call16 rfl fun F => ?_
  unfold fanout_Stream_End at hm
  obtain ⟨x5, q5, hm⟩ := bnd hm
  conv => whnf
  refine call_fn (fanout_Stream_open_ok q5 hp0_0) (.cons r0 (.cons r0 (.cons r0 .nil))) ?_
  rintro _ K5 _ l5 ⟨rfl, rfl⟩
  conv => whnf
  refine neq_err rfl ?_
  conv => whnf
  refine cond_go rfl ?_
  conv => whnf
  refine cond_s (fun w7 => ?_) (fun w7 => ?_)
  · replace hm := ift w7 hm
    obtain rfl := si hm
    conv => whnf
    refine EndStep.mk _ l5 ⟨ap0_0, cp0_0, mp0_1, rfl, hp0_0, rfl⟩ (ConvH.of (.cons r0 (.cons r0 (.cons r0 (.cons r0 .nil)))))
  · replace hm := iff_ w7 hm
    conv => whnf
    refine nil_check ?_
    conv => whnf
    refine field_addr rfl ?_
    conv => whnf
    refine store_rule r0 rfl ?_
    conv => whnf
    refine ⟨rfl, rfl, (Nat.le_of_ble_eq_true rfl), ?_⟩
    obtain rfl := si hm
    conv => whnf
    refine EndStep.mk _ l5 ⟨ap0_0, cp0_0, mp0_1, rfl, hp0_0, rfl⟩ (ConvH.of (.cons r0 (.cons r0 (.cons r0 (.cons r0 .nil)))))

noncomputable def fanout_Stream_Abort (s : S_fanout_Stream) : Option (Err × S_fanout_Stream) :=
  (fanout_Stream_open s).bind fun x5 =>
  if x5.isSome then
  some (x5, s)
  else
  some (none, (⟨s.limit, 3, s.data, s.offsets⟩ : S_fanout_Stream))
set_option maxHeartbeats 8000000 in
theorem fanout_Stream_Abort_ok {s : S_fanout_Stream} {b0 : Nat} {ap0_0 : Option Addr} {cp0_0 : Nat} {mp0_1 : Nat} {K : Hp} {r : Err × S_fanout_Stream}
    (hm : fanout_Stream_Abort s = some r) (hp0_0 : (0 < s.data.length → Has ap0_0)) :
    Fn Try.prog 24 [.pointer (some ⟨b0, 0, none⟩)] K [Cells b0 77 [.int .i64 s.limit, .int .i64 s.state, .slice ap0_0 s.data.length cp0_0, .map (some mp0_1)], OwnL eU ap0_0 5 1 cp0_0 s.data, MapE intK (fun x => .int .i64 x) mp0_1 s.offsets] (fun v K' H' => ∃ ar_0 : Option Addr, ∃ cr_0 : Nat, ∃ mr_1 : Nat, v = errV 44 r.1 ∧ (0 < r.2.data.length → Has ar_0) ∧ H' = [Cells b0 77 [.int .i64 r.2.limit, .int .i64 r.2.state, .slice ar_0 r.2.data.length cr_0, .map (some mr_1)], OwnL eU ar_0 5 1 cr_0 r.2.data, MapE intK (fun x => .int .i64 x) mr_1 r.2.offsets]) := by
  refine Fn.enter Try.func24 Try.call24 rfl fun F => ?_
  unfold fanout_Stream_Abort at hm
  obtain ⟨x5, q5, hm⟩ := bnd hm
  conv => whnf
  refine call_fn (fanout_Stream_open_ok q5 hp0_0) (.cons r0 (.cons r0 (.cons r0 .nil))) ?_
  rintro _ K5 _ l5 ⟨rfl, rfl⟩
  conv => whnf
  refine neq_err rfl ?_
  conv => whnf
  refine cond_go rfl ?_
  conv => whnf
  refine cond_s (fun w7 => ?_) (fun w7 => ?_)
  · replace hm := ift w7 hm
    obtain rfl := si hm
    conv => whnf
    refine EndStep.mk _ l5 ⟨ap0_0, cp0_0, mp0_1, rfl, hp0_0, rfl⟩ (ConvH.of (.cons r0 (.cons r0 (.cons r0 (.cons r0 .nil)))))
  · replace hm := iff_ w7 hm
    conv => whnf
    refine nil_check ?_
    conv => whnf
    refine field_addr rfl ?_
    conv => whnf
    refine store_rule r0 rfl ?_
    conv => whnf
    refine ⟨rfl, rfl, (Nat.le_of_ble_eq_true rfl), ?_⟩
    obtain rfl := si hm
    conv => whnf
    refine EndStep.mk _ l5 ⟨ap0_0, cp0_0, mp0_1, rfl, hp0_0, rfl⟩ (ConvH.of (.cons r0 (.cons r0 (.cons r0 (.cons r0 .nil)))))

noncomputable def fanout_Stream_Readers_nil : Option ((List Int)) :=
  some []
set_option maxHeartbeats 8000000 in
theorem fanout_Stream_Readers_nil_ok  {K : Hp} {r : (List Int)}
    (hm : fanout_Stream_Readers_nil = some r)  :
    Fn Try.prog 26 [.pointer none] K [] (fun v K' H' => ∃ ar_0 : Option Addr, ∃ cr_0 : Nat, v = .slice ar_0 r.length cr_0 ∧ (0 < r.length → Has ar_0) ∧ H' = [OwnL eN ar_0 3 1 cr_0 r]) := by
  refine Fn.enter Try.func26 Try.call26 rfl fun F => ?_
  unfold fanout_Stream_Readers_nil at hm
  conv => whnf
  refine eq_nil_nil rfl ?_
  conv => whnf
  refine cond_go rfl ?_
  conv => whnf
  refine cond_T ?_
  obtain rfl := si hm
  conv => whnf
  refine nilE eN 3 1 ?_
  refine EndStep.mk _ (Hp.Le.refl _) ⟨none, 0, rfl, (fun h => by simp at h), rfl⟩ (ConvH.of (.cons r0 (.cons r0 .nil)))

noncomputable def fanout_Stream_Detach (s : S_fanout_Stream) (id : Int) : Option (Bool × S_fanout_Stream) :=
  some ((mget s.offsets id).isSome, (⟨s.limit, s.state, s.data, (mdel s.offsets id)⟩ : S_fanout_Stream))
set_option maxHeartbeats 8000000 in
theorem fanout_Stream_Detach_ok {s : S_fanout_Stream} {id : Int} {b0 : Nat} {ap0_0 : Option Addr} {cp0_0 : Nat} {mp0_1 : Nat} {K : Hp} {r : Bool × S_fanout_Stream}
    (hm : fanout_Stream_Detach s id = some r) (hp0_0 : (0 < s.data.length → Has ap0_0)) :
    Fn Try.prog 25 [.pointer (some ⟨b0, 0, none⟩), .int .i64 id] K [Cells b0 77 [.int .i64 s.limit, .int .i64 s.state, .slice ap0_0 s.data.length cp0_0, .map (some mp0_1)], OwnL eU ap0_0 5 1 cp0_0 s.data, MapE intK (fun x => .int .i64 x) mp0_1 s.offsets] (fun v K' H' => ∃ ar_0 : Option Addr, ∃ cr_0 : Nat, ∃ mr_1 : Nat, v = .bool r.1 ∧ (0 < r.2.data.length → Has ar_0) ∧ H' = [Cells b0 77 [.int .i64 r.2.limit, .int .i64 r.2.state, .slice ar_0 r.2.data.length cr_0, .map (some mr_1)], OwnL eU ar_0 5 1 cr_0 r.2.data, MapE intK (fun x => .int .i64 x) mr_1 r.2.offsets]) := by
  refine Fn.enter Try.func25 Try.call25 rfl fun F => ?_
  unfold fanout_Stream_Detach at hm
  conv => whnf
  refine eq_ptr_nil rfl ?_
  conv => whnf
  refine cond_go rfl ?_
  conv => whnf
  refine cond_F ?_
  conv => whnf
  refine nil_check ?_
  conv => whnf
  refine field_addr rfl ?_
  conv => whnf
  refine RStep.of (load1_s r0 rfl rfl ?_)
  conv => whnf
  refine RStep.of (lookup_ok (kenc := intK) (venc := (fun x => .int .i64 x)) (z := 0) r2 rfl rfl (key_int rfl) ?_)
  conv => whnf
  refine nil_check ?_
  conv => whnf
  refine field_addr rfl ?_
  conv => whnf
  refine RStep.of (load1_s r0 rfl rfl ?_)
  conv => whnf
  refine delete_rule (kenc := intK) (venc := (fun x => .int .i64 x)) r2 rfl rfl (key_int rfl) ?_
  obtain rfl := si hm
  conv => whnf
  refine EndStep.mk _ (Hp.Le.refl _) ⟨ap0_0, cp0_0, mp0_1, rfl, hp0_0, rfl⟩ (ConvH.of (.cons r1 (.cons r1 (.cons r0 (.cons r0 .nil)))))

noncomputable def law28_play (s : S_fanout_Stream) (x : S_law28_Step) : Option (S_fanout_Stream) :=
  if decide (((x.What % (12 : UInt8)).toNat : Int) = 3) then
  (fanout_Stream_Attach s x.ID x.N).bind fun x19 =>
  some x19.2
  else
  if decide (((x.What % (12 : UInt8)).toNat : Int) = 4) then
  (fanout_Stream_Attach s x.ID x.N).bind fun x19 =>
  some x19.2
  else
  if decide (((x.What % (12 : UInt8)).toNat : Int) = 5) then
  (fanout_Stream_Read s x.ID x.N).bind fun x30 =>
  some x30.2.2.2
  else
  if decide (((x.What % (12 : UInt8)).toNat : Int) = 6) then
  (fanout_Stream_Read s x.ID x.N).bind fun x30 =>
  some x30.2.2.2
  else
  if decide (((x.What % (12 : UInt8)).toNat : Int) = 7) then
  (fanout_Stream_Read s x.ID x.N).bind fun x30 =>
  some x30.2.2.2
  else
  if decide (((x.What % (12 : UInt8)).toNat : Int) = 8) then
  (fanout_Stream_Read s x.ID x.N).bind fun x30 =>
  some x30.2.2.2
  else
  if decide (((x.What % (12 : UInt8)).toNat : Int) = 9) then
  (fanout_Stream_Detach s x.ID).bind fun x36 =>
  some x36.2
  else
  if decide (((x.What % (12 : UInt8)).toNat : Int) = 10) then
  (fanout_Stream_End s).bind fun x40 =>
  some x40.2
  else
  if decide (((x.What % (12 : UInt8)).toNat : Int) = 11) then
  (fanout_Stream_Abort s).bind fun x44 =>
  some x44.2
  else
  (fanout_Stream_Write s x.Data).bind fun x10 =>
  some x10.2
set_option maxHeartbeats 8000000 in
theorem law28_play_ok {s : S_fanout_Stream} {x : S_law28_Step} {b0 : Nat} {ap0_0 : Option Addr} {cp0_0 : Nat} {mp0_1 : Nat} {ap1_0 : Option Addr} {cp1_0 : Nat} {K : Hp} {r : S_fanout_Stream}
    (hm : law28_play s x = some r) (hp0_0 : (0 < s.data.length → Has ap0_0)) (hp1_0 : RdC eU K ap1_0 cp1_0 1 x.Data) :
    Fn Try.prog 22 [.pointer (some ⟨b0, 0, none⟩), .agg #[.int .u8 (x.What.toNat : Int), .int .i64 x.ID, .int .i64 x.N, .slice ap1_0 x.Data.length cp1_0]] K [Cells b0 77 [.int .i64 s.limit, .int .i64 s.state, .slice ap0_0 s.data.length cp0_0, .map (some mp0_1)], OwnL eU ap0_0 5 1 cp0_0 s.data, MapE intK (fun x => .int .i64 x) mp0_1 s.offsets] (fun v K' H' => ∃ ar_0 : Option Addr, ∃ cr_0 : Nat, ∃ mr_1 : Nat, v = .tuple #[] ∧ (0 < r.data.length → Has ar_0) ∧ H' = [Cells b0 77 [.int .i64 r.limit, .int .i64 r.state, .slice ar_0 r.data.length cr_0, .map (some mr_1)], OwnL eU ar_0 5 1 cr_0 r.data, MapE intK (fun x => .int .i64 x) mr_1 r.offsets]) := by
  refine Fn.enter Try.func22 Try.call22 rfl fun F => ?_
  unfold law28_play at hm
  conv => whnf
  refine box_rule ?_
  intro b3
  conv => whnf
  refine field_addr rfl ?_
  conv => whnf
  refine RStep.of (load1_s r0 rfl rfl ?_)
  conv => whnf
  refine u8_rem (x := x.What) (y := (12 : UInt8)) rfl rfl (by decide) ?_
  conv => whnf
  refine block_go rfl ?_
  conv => whnf
  refine eq_int ?_
  conv => whnf
  refine cond_go rfl ?_
  conv => whnf
  refine cond_s (fun w11 => ?_) (fun w11 => ?_)
  · replace hm := ift w11 hm
    conv => whnf
    refine cond_go rfl ?_
    conv => whnf
    refine cond_t w11 ?_
    conv => whnf
    refine field_addr rfl ?_
    conv => whnf
    refine RStep.of (load1_s r0 rfl rfl ?_)
    conv => whnf
    refine field_addr rfl ?_
    conv => whnf
    refine RStep.of (load1_s r0 rfl rfl ?_)
    obtain ⟨x19, q19, hm⟩ := bnd hm
    conv => whnf
    refine call_fn (fanout_Stream_Attach_ok q19 hp0_0) (.cons r1 (.cons r1 (.cons r1 .nil))) ?_
    rintro _ K19 _ l19 ⟨a19_0, c19_0, m19_1, rfl, h19_0, rfl⟩
    obtain rfl := si hm
    conv => whnf
    refine EndStep.mk _ l19 ⟨a19_0, c19_0, m19_1, rfl, h19_0, rfl⟩ (ConvH.of (.cons r0 (.cons r0 (.cons r0 (.cons r1 .nil)))))
  · replace hm := iff_ w11 hm
    conv => whnf
    refine eq_int ?_
    conv => whnf
    refine cond_go rfl ?_
    conv => whnf
    refine cond_s (fun w11 => ?_) (fun w11 => ?_)
    · replace hm := ift w11 hm
      conv => whnf
      refine field_addr rfl ?_
      conv => whnf
      refine RStep.of (load1_s r0 rfl rfl ?_)
      conv => whnf
      refine field_addr rfl ?_
      conv => whnf
      refine RStep.of (load1_s r0 rfl rfl ?_)
      obtain ⟨x19, q19, hm⟩ := bnd hm
      conv => whnf
      refine call_fn (fanout_Stream_Attach_ok q19 hp0_0) (.cons r1 (.cons r1 (.cons r1 .nil))) ?_
      rintro _ K19 _ l19 ⟨a19_0, c19_0, m19_1, rfl, h19_0, rfl⟩
      obtain rfl := si hm
      conv => whnf
      refine EndStep.mk _ l19 ⟨a19_0, c19_0, m19_1, rfl, h19_0, rfl⟩ (ConvH.of (.cons r0 (.cons r0 (.cons r0 (.cons r1 .nil)))))
    · replace hm := iff_ w11 hm
      conv => whnf
      refine eq_int ?_
      conv => whnf
      refine cond_go rfl ?_
      conv => whnf
      refine cond_s (fun w20 => ?_) (fun w20 => ?_)
      · replace hm := ift w20 hm
        conv => whnf
        refine cond_go rfl ?_
        conv => whnf
        refine cond_t w20 ?_
        conv => whnf
        refine field_addr rfl ?_
        conv => whnf
        refine RStep.of (load1_s r0 rfl rfl ?_)
        conv => whnf
        refine field_addr rfl ?_
        conv => whnf
        refine RStep.of (load1_s r0 rfl rfl ?_)
        obtain ⟨x30, q30, hm⟩ := bnd hm
        conv => whnf
        refine call_fn (fanout_Stream_Read_ok q30 hp0_0) (.cons r1 (.cons r1 (.cons r1 .nil))) ?_
        rintro _ K30 _ l30 ⟨a30_0, c30_0, a30_1, c30_1, m30_2, rfl, h30_0, h30_1, rfl⟩
        obtain rfl := si hm
        conv => whnf
        refine EndStep.mk _ l30 ⟨a30_1, c30_1, m30_2, rfl, h30_1, rfl⟩ (ConvH.of (.cons r1 (.cons r1 (.cons r1 (.cons r2 .nil)))))
      · replace hm := iff_ w20 hm
        conv => whnf
        refine eq_int ?_
        conv => whnf
        refine cond_go rfl ?_
        conv => whnf
        refine cond_s (fun w20 => ?_) (fun w20 => ?_)
        · replace hm := ift w20 hm
          conv => whnf
          refine cond_go rfl ?_
          conv => whnf
          refine cond_t w20 ?_
          conv => whnf
          refine field_addr rfl ?_
          conv => whnf
          refine RStep.of (load1_s r0 rfl rfl ?_)
          conv => whnf
          refine field_addr rfl ?_
          conv => whnf
          refine RStep.of (load1_s r0 rfl rfl ?_)
          obtain ⟨x30, q30, hm⟩ := bnd hm
          conv => whnf
          refine call_fn (fanout_Stream_Read_ok q30 hp0_0) (.cons r1 (.cons r1 (.cons r1 .nil))) ?_
          rintro _ K30 _ l30 ⟨a30_0, c30_0, a30_1, c30_1, m30_2, rfl, h30_0, h30_1, rfl⟩
          obtain rfl := si hm
          conv => whnf
          refine EndStep.mk _ l30 ⟨a30_1, c30_1, m30_2, rfl, h30_1, rfl⟩ (ConvH.of (.cons r1 (.cons r1 (.cons r1 (.cons r2 .nil)))))
        · replace hm := iff_ w20 hm
          conv => whnf
          refine eq_int ?_
          conv => whnf
          refine cond_go rfl ?_
          conv => whnf
          refine cond_s (fun w20 => ?_) (fun w20 => ?_)
          · replace hm := ift w20 hm
            conv => whnf
            refine cond_go rfl ?_
            conv => whnf
            refine cond_t w20 ?_
            conv => whnf
            refine field_addr rfl ?_
            conv => whnf
            refine RStep.of (load1_s r0 rfl rfl ?_)
            conv => whnf
            refine field_addr rfl ?_
            conv => whnf
            refine RStep.of (load1_s r0 rfl rfl ?_)
            obtain ⟨x30, q30, hm⟩ := bnd hm
            conv => whnf
            refine call_fn (fanout_Stream_Read_ok q30 hp0_0) (.cons r1 (.cons r1 (.cons r1 .nil))) ?_
            rintro _ K30 _ l30 ⟨a30_0, c30_0, a30_1, c30_1, m30_2, rfl, h30_0, h30_1, rfl⟩
            obtain rfl := si hm
            conv => whnf
            refine EndStep.mk _ l30 ⟨a30_1, c30_1, m30_2, rfl, h30_1, rfl⟩ (ConvH.of (.cons r1 (.cons r1 (.cons r1 (.cons r2 .nil)))))
          · replace hm := iff_ w20 hm
            conv => whnf
            refine eq_int ?_
            conv => whnf
            refine cond_go rfl ?_
            conv => whnf
            refine cond_s (fun w20 => ?_) (fun w20 => ?_)
            · replace hm := ift w20 hm
              conv => whnf
              refine field_addr rfl ?_
              conv => whnf
              refine RStep.of (load1_s r0 rfl rfl ?_)
              conv => whnf
              refine field_addr rfl ?_
              conv => whnf
              refine RStep.of (load1_s r0 rfl rfl ?_)
              obtain ⟨x30, q30, hm⟩ := bnd hm
              conv => whnf
              refine call_fn (fanout_Stream_Read_ok q30 hp0_0) (.cons r1 (.cons r1 (.cons r1 .nil))) ?_
              rintro _ K30 _ l30 ⟨a30_0, c30_0, a30_1, c30_1, m30_2, rfl, h30_0, h30_1, rfl⟩
              obtain rfl := si hm
              conv => whnf
              refine EndStep.mk _ l30 ⟨a30_1, c30_1, m30_2, rfl, h30_1, rfl⟩ (ConvH.of (.cons r1 (.cons r1 (.cons r1 (.cons r2 .nil)))))
            · replace hm := iff_ w20 hm
              conv => whnf
              refine eq_int ?_
              conv => whnf
              refine cond_go rfl ?_
              conv => whnf
              refine cond_s (fun w31 => ?_) (fun w31 => ?_)
              · replace hm := ift w31 hm
                conv => whnf
                refine field_addr rfl ?_
                conv => whnf
                refine RStep.of (load1_s r0 rfl rfl ?_)
                obtain ⟨x36, q36, hm⟩ := bnd hm
                conv => whnf
                refine call_fn (fanout_Stream_Detach_ok q36 hp0_0) (.cons r1 (.cons r1 (.cons r1 .nil))) ?_
                rintro _ K36 _ l36 ⟨a36_0, c36_0, m36_1, rfl, h36_0, rfl⟩
                obtain rfl := si hm
                conv => whnf
                refine EndStep.mk _ l36 ⟨a36_0, c36_0, m36_1, rfl, h36_0, rfl⟩ (ConvH.of (.cons r0 (.cons r0 (.cons r0 (.cons r1 .nil)))))
              · replace hm := iff_ w31 hm
                conv => whnf
                refine eq_int ?_
                conv => whnf
                refine cond_go rfl ?_
                conv => whnf
                refine cond_s (fun w37 => ?_) (fun w37 => ?_)
                · replace hm := ift w37 hm
                  obtain ⟨x40, q40, hm⟩ := bnd hm
                  conv => whnf
                  refine call_fn (fanout_Stream_End_ok q40 hp0_0) (.cons r1 (.cons r1 (.cons r1 .nil))) ?_
                  rintro _ K40 _ l40 ⟨a40_0, c40_0, m40_1, rfl, h40_0, rfl⟩
                  obtain rfl := si hm
                  conv => whnf
                  refine EndStep.mk _ l40 ⟨a40_0, c40_0, m40_1, rfl, h40_0, rfl⟩ (ConvH.of (.cons r0 (.cons r0 (.cons r0 (.cons r1 .nil)))))
                · replace hm := iff_ w37 hm
                  conv => whnf
                  refine eq_int ?_
                  conv => whnf
                  refine cond_go rfl ?_
                  conv => whnf
                  refine cond_s (fun w41 => ?_) (fun w41 => ?_)
                  · replace hm := ift w41 hm
                    obtain ⟨x44, q44, hm⟩ := bnd hm
                    conv => whnf
                    refine call_fn (fanout_Stream_Abort_ok q44 hp0_0) (.cons r1 (.cons r1 (.cons r1 .nil))) ?_
                    rintro _ K44 _ l44 ⟨a44_0, c44_0, m44_1, rfl, h44_0, rfl⟩
                    obtain rfl := si hm
                    conv => whnf
                    refine EndStep.mk _ l44 ⟨a44_0, c44_0, m44_1, rfl, h44_0, rfl⟩ (ConvH.of (.cons r0 (.cons r0 (.cons r0 (.cons r1 .nil)))))
                  · replace hm := iff_ w41 hm
                    conv => whnf
                    refine field_addr rfl ?_
                    conv => whnf
                    refine RStep.of (load1_s r0 rfl rfl ?_)
                    obtain ⟨x10, q10, hm⟩ := bnd hm
                    conv => whnf
                    refine call_fn (fanout_Stream_Write_ok q10 hp0_0 hp1_0 rfl) (.cons r1 (.cons r1 (.cons r1 .nil))) ?_
                    rintro _ K10 _ l10 ⟨a10_0, c10_0, m10_1, rfl, h10_0, rfl⟩
                    obtain rfl := si hm
                    conv => whnf
                    refine EndStep.mk _ l10 ⟨a10_0, c10_0, m10_1, rfl, h10_0, rfl⟩ (ConvH.of (.cons r0 (.cons r0 (.cons r0 (.cons r1 .nil)))))

noncomputable def fanout_Stream_Readers_L0 (e0 : (Int × Int)) (y0_0 : (List Int)) : Option ((List Int)) :=
  (chk (y0_0.length + [e0.1].length ≤ lim)).bind fun _ =>
  some (y0_0 ++ [e0.1])
noncomputable def fanout_Stream_Readers (s : S_fanout_Stream) : Option ((List Int)) :=
  perms s.offsets fun pl0 =>
  (mfold (fun e0 ss0 => fanout_Stream_Readers_L0 e0 ss0) pl0 []).bind fun t0 =>
  (sortIM t0).bind fun x21 =>
  some x21
set_option maxHeartbeats 8000000 in
theorem fanout_Stream_Readers_ok {s : S_fanout_Stream} {b0 : Nat} {ap0_0 : Option Addr} {cp0_0 : Nat} {mp0_1 : Nat} {K : Hp} {r : (List Int)}
    (hm : fanout_Stream_Readers s = some r) (hp0_0 : (0 < s.data.length → Has ap0_0)) :
    Fn Try.prog 26 [.pointer (some ⟨b0, 0, none⟩)] K [Cells b0 77 [.int .i64 s.limit, .int .i64 s.state, .slice ap0_0 s.data.length cp0_0, .map (some mp0_1)], OwnL eU ap0_0 5 1 cp0_0 s.data, MapE intK (fun x => .int .i64 x) mp0_1 s.offsets] (fun v K' H' => ∃ ar_0 : Option Addr, ∃ cr_0 : Nat, v = .slice ar_0 r.length cr_0 ∧ (0 < r.length → Has ar_0) ∧ H' = [OwnL eN ar_0 3 1 cr_0 r, Cells b0 77 [.int .i64 s.limit, .int .i64 s.state, .slice ap0_0 s.data.length cp0_0, .map (some mp0_1)], OwnL eU ap0_0 5 1 cp0_0 s.data, MapE intK (fun x => .int .i64 x) mp0_1 s.offsets]) := by
  refine Fn.enter Try.func26 Try.call26 rfl fun F => ?_
  unfold fanout_Stream_Readers at hm
  conv => whnf
  refine eq_ptr_nil rfl ?_
  conv => whnf
  refine cond_go rfl ?_
  conv => whnf
  refine cond_F ?_
  conv => whnf
  refine nil_check ?_
  conv => whnf
  refine field_addr rfl ?_
  conv => whnf
  refine RStep.of (load1_s r0 rfl rfl ?_)
  conv => whnf
  refine range_rule r2 rfl fun rb11 => ?_
  have hP0 := perms_all hm
  conv => whnf
  refine nilC eN 3 1 ?_
  refine code_cut (σ := ((List Int)) × Option Addr × Nat) [3, 4, 12, 13, 14, 15, 16, 17, 18, 19] (fun (t0, t0_a0, t0_c0) => [(3, .slice t0_a0 t0.length t0_c0)]) (fun (t0, t0_a0, t0_c0) => [OwnL eN t0_a0 3 1 t0_c0 t0, MapE intK (fun x => .int .i64 x) mp0_1 s.offsets, Cells b0 77 [.int .i64 s.limit, .int .i64 s.state, .slice ap0_0 s.data.length cp0_0, .map (some mp0_1)], OwnL eU ap0_0 5 1 cp0_0 s.data, F]) (fun zz K1 => match zz with | (t0, t0_a0, t0_c0) => (0 < t0.length → Has t0_a0) ∧ ∃ pl, pl.Perm s.offsets ∧ mfold (fun e0 ss0 => fanout_Stream_Readers_L0 e0 ss0) pl [] = some t0) ?_ ?_
  · refine block_go rfl ?_
    conv => whnf
    refine loop_rule (σ := (List (Int × Int)) × (List Int) × Option Addr × Nat) [3, 4, 12, 13, 14, 15, 16, 17, 18, 19] (fun (vis0, y0_0, y0_a0, y0_c0) => [(3, .slice y0_a0 y0_0.length y0_c0)]) (fun (vis0, y0_0, y0_a0, y0_c0) => [OwnL eN y0_a0 3 1 y0_c0 y0_0, MapIt intK (fun x => .int .i64 x) rb11 mp0_1 s.offsets vis0, Cells b0 77 [.int .i64 s.limit, .int .i64 s.state, .slice ap0_0 s.data.length cp0_0, .map (some mp0_1)], OwnL eU ap0_0 5 1 cp0_0 s.data, F]) (fun zz K1 => match zz with | (vis0, y0_0, y0_a0, y0_c0) => (0 < y0_0.length → Has y0_a0) ∧ mfold (fun e0 ss0 => fanout_Stream_Readers_L0 e0 ss0) vis0 [] = some y0_0) (fun zz => s.offsets.length - zz.1.length) ([], [], none, 0) rfl ⟨rfl, trivial⟩ (ConvH.of (.cons r0 (.cons r0 (.cons r0 (.cons r0 (.cons r0 .nil)))))) ⟨(fun h => by simp at h), rfl⟩ ?_
    rintro ⟨vis0, y0_0, y0_a0, y0_c0⟩ Kb0 lk0 ⟨y0_h0, hv0⟩ j0
    conv => whnf
    refine next_rule r1 (fun hp0 => ?_) (fun e0 rs0 hp0 => ?_)
    · conv => whnf
      refine cond_go rfl ?_
      conv => whnf
      refine cond_F ?_
      conv => whnf
      refine cond_T ?_
      conv => whnf
      refine MeetStep.mk (y0_0, y0_a0, y0_c0) ⟨rfl, trivial⟩ (by repeat (first | exact trivial | refine And.intro rfl ?_)) (ConvH.of (.cons r1 (.cons r0 (.cons r0 (.cons r0 (.cons r0 .nil)))))) lk0 ⟨y0_h0, ⟨_, hp0, hv0⟩⟩
    · obtain ⟨z0, hB0⟩ := mnext hP0 hv0 hp0
      have hl0 : fanout_Stream_Readers_L0 e0 y0_0 = some z0 := hB0
      unfold fanout_Stream_Readers_L0 at hl0
      conv => whnf
      refine cond_go rfl ?_
      conv => whnf
      refine cond_T ?_
      conv => whnf
      refine block_go rfl ?_
      conv => whnf
      refine RStep.of (entry_rule r0 ?_)
      conv => whnf
      refine bsO (len := 1) (enc := eN) (l := [e0.1]) (cl := [.int .i64 e0.1]) elT36 rfl rfl (fun _ _ => rfl) rfl rfl rfl ?_ fun b18 => ?_
      · conv => whnf
        refine cond_T ?_
        conv => whnf
      obtain ⟨h19, hl0⟩ := chkb hl0
      conv => whnf
      refine apE rfl r2 elT36 (src_own' rfl r0 rfl (fun _ => rfl) (fun _ => rfl)) h19 ?_
      intro a19 c19 o19
      conv => whnf
      refine RoundStep.mk (vis0 ++ [e0], (y0_0 ++ [e0.1]), a19, c19) ⟨rfl, trivial⟩ (by repeat (first | exact trivial | refine And.intro rfl ?_)) (ConvH.of (.cons r0 (.cons r1 (.cons r1 (.cons r1 (.cons r1 .nil)))))) lk0 (ltmap hp0) ⟨o19, ((mfold_snoc hv0).trans (hB0.trans hl0.symm))⟩
  · rintro ⟨t0, t0_a0, t0_c0⟩ Kt0 lt0 ⟨t0_h0, hx0⟩ j0
    replace hm := mlast hP0 hx0
    obtain ⟨x21, q21, hm⟩ := bnd hm
    conv => whnf
    refine call_fn (sort_int_ok q21 rfl) (.cons r0 .nil) ?_
    rintro _ K21 _ l21 ⟨rfl, rfl⟩
    obtain rfl := si hm
    conv => whnf
    refine EndStep.mk _ (lt0.trans l21) ⟨t0_a0, t0_c0, (by rw [← (show x21.length = t0.length from Eq.symm ((Eq.trans (rfl) (sortIM_len q21).symm)))] <;> rfl), (fun h => t0_h0 (by rw [sortIM_len q21] at h; exact h)), rfl⟩ (ConvH.of (.cons r0 (.cons r1 (.cons r1 (.cons r0 (.cons r0 .nil))))))

noncomputable def law28_FanoutAborts_L0 : List S_law28_Step → Nat → Option (Unit)
  | [], _ => some ()
  | e0 :: xs0, i0 =>
    (law28_play_nil e0).bind fun x36 =>
    law28_FanoutAborts_L0 xs0 (i0 + 1)
noncomputable def law28_FanoutAborts_L2 : List Int → Nat → Option (Fl (Bool) (Unit))
  | [], _ => some (Fl.go ())
  | e2 :: xs2, i2 =>
    (fanout_Stream_Read_nil e2 100).bind fun x96 =>
    if ((x96.2.2.isSome || decide ((x96.1.length : Int) ≠ 0)) || decide (x96.2.1 ≠ 3)) then
    some (Fl.ret false)
    else
    law28_FanoutAborts_L2 xs2 (i2 + 1)
noncomputable def law28_FanoutAborts_L0b : List S_law28_Step → Nat → S_fanout_Stream → Option (S_fanout_Stream)
  | [], _, y0_0 => some y0_0
  | e0 :: xs0, i0, y0_0 =>
    (law28_play y0_0 e0).bind fun x36 =>
    law28_FanoutAborts_L0b xs0 (i0 + 1) x36
noncomputable def law28_FanoutAborts_L2b : List Int → Nat → S_fanout_Stream → Option (Fl (Bool) (S_fanout_Stream))
  | [], _, y2_0 => some (Fl.go y2_0)
  | e2 :: xs2, i2, y2_0 =>
    (fanout_Stream_Read y2_0 e2 100).bind fun x96 =>
    if ((x96.2.2.1.isSome || decide ((x96.1.length : Int) ≠ 0)) || decide (x96.2.1 ≠ 3)) then
    some (Fl.ret false)
    else
    law28_FanoutAborts_L2b xs2 (i2 + 1) x96.2.2.2
noncomputable def law28_FanoutAborts (script : (List S_law28_Step)) (ids : S__2_int) : Option (Bool) :=
  (law28_large script).bind fun x15 =>
  (if x15 then some true else (law28_awake).bind fun x17 =>
  some (!x17)).bind fun x19 =>
  if x19 then
  (law28_large script).bind fun x21 =>
  some x21
  else
  (fanout_New 65536).bind fun x23 =>
  Option.elim x23.1 (
  if x23.2.isSome then
  some false
  else
  (chk (script.length ≤ szMax)).bind fun _ =>
  (law28_FanoutAborts_L0 script 0).bind fun t0 =>
  (fanout_Stream_Abort_nil).bind fun x39 =>
  if x39.isSome then
  (base_Is x39 6).bind fun x43 =>
  if x43 then
  (fanout_Stream_End_nil).bind fun x46 =>
  (base_Is x46 6).bind fun x47 =>
  if x47 then
  (fanout_Stream_Write_nil []).bind fun x51 =>
  (base_Is x51 6).bind fun x52 =>
  some x52
  else
  some false
  else
  some false
  else
  (fanout_Stream_Detach_nil ids.f0).bind fun x57 =>
  (fanout_Stream_Attach_nil ids.f0 0).bind fun x61 =>
  if x61.isSome then
  some false
  else
  (fanout_Stream_Write_nil ([(1 : UInt8)] : Str)).bind fun x66 =>
  (base_Is x66 6).bind fun x67 =>
  if (!x67) then
  some false
  else
  (fanout_Stream_End_nil).bind fun x72 =>
  (base_Is x72 6).bind fun x73 =>
  if (!x73) then
  some false
  else
  (fanout_Stream_Abort_nil).bind fun x78 =>
  (base_Is x78 6).bind fun x79 =>
  if (!x79) then
  some false
  else
  (fanout_Stream_Readers_nil).bind fun x83 =>
  (chk (x83.length + [ids.f0].length ≤ lim)).bind fun _ =>
  (chk ((x83 ++ [ids.f0]).length ≤ szMax)).bind fun _ =>
  (law28_FanoutAborts_L2 (x83 ++ [ids.f0]) 0).bind fun s2 => s2.el some fun t2 =>
  some true)
   fun o23 =>
  if x23.2.isSome then
  some false
  else
  (chk (script.length ≤ szMax)).bind fun _ =>
  (law28_FanoutAborts_L0b script 0 o23).bind fun t0 =>
  (fanout_Stream_Abort t0).bind fun x39 =>
  if x39.1.isSome then
  (base_Is x39.1 6).bind fun x43 =>
  if x43 then
  (fanout_Stream_End x39.2).bind fun x46 =>
  (base_Is x46.1 6).bind fun x47 =>
  if x47 then
  (fanout_Stream_Write x46.2 []).bind fun x51 =>
  (base_Is x51.1 6).bind fun x52 =>
  some x52
  else
  some false
  else
  some false
  else
  (fanout_Stream_Detach x39.2 ids.f0).bind fun x57 =>
  (fanout_Stream_Attach x57.2 ids.f0 0).bind fun x61 =>
  if x61.1.isSome then
  some false
  else
  (fanout_Stream_Write x61.2 ([(1 : UInt8)] : Str)).bind fun x66 =>
  (base_Is x66.1 6).bind fun x67 =>
  if (!x67) then
  some false
  else
  (fanout_Stream_End x66.2).bind fun x72 =>
  (base_Is x72.1 6).bind fun x73 =>
  if (!x73) then
  some false
  else
  (fanout_Stream_Abort x72.2).bind fun x78 =>
  (base_Is x78.1 6).bind fun x79 =>
  if (!x79) then
  some false
  else
  (fanout_Stream_Readers x78.2).bind fun x83 =>
  (chk (x83.length + [ids.f0].length ≤ lim)).bind fun _ =>
  (chk ((x83 ++ [ids.f0]).length ≤ szMax)).bind fun _ =>
  (law28_FanoutAborts_L2b (x83 ++ [ids.f0]) 0 x78.2).bind fun s2 => s2.el some fun t2 =>
  some true
set_option maxHeartbeats 8000000 in
theorem law28_FanoutAborts_ok {script : (List S_law28_Step)} {ids : S__2_int} {ap0_0 : Option Addr} {cp0_0 : Nat} {n0 : Nat} {K : Hp} {r : Bool}
    (hm : law28_FanoutAborts script ids = some r) (hp0_0 : LiC S_law28_Step.R K ap0_0 cp0_0 4 script) (en0 : n0 = script.length) :
    Fn Try.prog 7 [.slice ap0_0 n0 cp0_0, .agg #[.int .i64 ids.f0, .int .i64 ids.f1]] K [] (fun v K' H' => v = .bool r ∧ H' = []) := by
  subst en0
  refine Fn.enter Try.func7 Try.call7 rfl fun F => ?_
  unfold law28_FanoutAborts at hm
  conv => whnf
  refine box_rule ?_
  intro b3
  obtain ⟨x15, q15, hm⟩ := bnd hm
  conv => whnf
  refine call_fn (law28_large_ok q15 hp0_0 rfl) .nil ?_
  rintro _ K15 _ l15 ⟨rfl, rfl⟩
  obtain ⟨x19, e19, hm⟩ := bnd hm
  conv => whnf
  refine cond_s (fun g16_1 => ?_) (fun g16_1 => ?_)
  · replace e19 := ift g16_1 e19
    conv => whnf
    refine cond_t g16_1 ?_
    conv => whnf
    refine cond_t g16_1 ?_
    conv => whnf
    refine cond_go rfl ?_
    conv => whnf
    refine cond_T ?_
    replace hm := ift (si e19).symm hm
    obtain ⟨x21, q21, hm⟩ := bnd hm
    conv => whnf
    refine call_fn (law28_large_ok q21 (LiC.mono S_law28_Step.R_ok l15 hp0_0) rfl) .nil ?_
    rintro _ K21 _ l21 ⟨rfl, rfl⟩
    obtain rfl := si hm
    conv => whnf
    refine EndStep.mk _ (l15.trans l21) ⟨rfl, rfl⟩ (ConvH.of (.cons r1 .nil))
  · replace e19 := iff_ g16_1 e19
    obtain ⟨x17, q17, e19⟩ := bnd e19
    conv => whnf
    refine call_fn (law28_awake_ok q17) .nil ?_
    rintro _ K17 _ l17 ⟨rfl, rfl⟩
    conv => whnf
    refine cond_f g16_1 ?_
    conv => whnf
    refine un_not ?_
    conv => whnf
    refine cond_f g16_1 ?_
    conv => whnf
    refine cond_go rfl ?_
    conv => whnf
    refine cond_s (fun w19 => ?_) (fun w19 => ?_)
    · replace hm := ift ((si e19).symm.trans (not_t (ni_t w19))) hm
      obtain ⟨x21, q21, hm⟩ := bnd hm
      conv => whnf
      refine call_fn (law28_large_ok q21 (LiC.mono S_law28_Step.R_ok (l15.trans l17) hp0_0) rfl) .nil ?_
      rintro _ K21 _ l21 ⟨rfl, rfl⟩
      obtain rfl := si hm
      conv => whnf
      refine EndStep.mk _ ((l15.trans l17).trans l21) ⟨rfl, rfl⟩ (ConvH.of (.cons r1 .nil))
    · replace hm := iff_ ((si e19).symm.trans (not_f (ni_f w19))) hm
      obtain ⟨x23, q23, hm⟩ := bnd hm
      conv => whnf
      refine call_fn (fanout_New_ok q23) .nil ?_
      rintro v23 K23 H23 l23 p23
      rcases hq23 : x23.1 with _ | o23
      · rw [hq23] at p23 hm
        obtain ⟨rfl, rfl⟩ := p23
        replace hm := oe_n hm
        conv => whnf
        refine neq_err rfl ?_
        conv => whnf
        refine cond_go rfl ?_
        conv => whnf
        refine cond_s (fun w27 => ?_) (fun w27 => ?_)
        · replace hm := ift w27 hm
          obtain rfl := si hm
          conv => whnf
          refine EndStep.mk _ ((l15.trans l17).trans l23) ⟨rfl, rfl⟩ (ConvH.of (.cons r1 .nil))
        · replace hm := iff_ w27 hm
          conv => whnf
          refine RStep.of (len_slice rfl ?_)
          obtain ⟨hk0, hm⟩ := chkb hm
          obtain ⟨s0, hl0, hm⟩ := bnd hm
          conv => whnf
          refine code_cut (σ := (Unit)) [8, 30, 31, 32, 33, 34, 35, 36, 37] (fun t0 => []) (fun t0 => [Cells b3 54 [.int .i64 ids.f0, .int .i64 ids.f1], F]) (fun zz K1 => match zz with | t0 => t0 = s0) ?_ ?_
          · refine block_go rfl ?_
            conv => whnf
            refine loop_rule (σ := Nat) [8, 30, 31, 32, 33, 34, 35, 36, 37] (fun i0 => [(30, .int .i64 (i0 : Int))]) (fun i0 => [Cells b3 54 [.int .i64 ids.f0, .int .i64 ids.f1], F]) (fun zz K1 => match zz with | i0 => law28_FanoutAborts_L0 (script.drop i0) i0 = some s0) (fun zz => script.length - zz) (0) rfl ⟨rfl, trivial⟩ (ConvH.of (.cons r0 (.cons r0 .nil))) hl0 ?_
            clear hl0
            rintro i0 Kb0 lk0 hl0 j0
            conv at hl0 => whnf
            conv => whnf
            refine cond_go rfl ?_
            conv => whnf
            refine cond_s (fun w0 => ?_) (fun w0 => ?_)
            · obtain ⟨e0, hx0, hd0⟩ := ltx w0
              rw [hd0, law28_FanoutAborts_L0.eq_2] at hl0
              conv => whnf
              refine block_go rfl ?_
              conv => whnf
              refine RStep.ofN (index_addr rfl rfl (hasR (LiC.mono S_law28_Step.R_ok (((l15.trans l17).trans l23).trans lk0) hp0_0).rd hx0) (nn _) (lt_ofN hx0) ?_)
              obtain ⟨ss33, cc33, hr33, hc33, hR33⟩ := LiR.get (LiC.mono S_law28_Step.R_ok (((l15.trans l17).trans l23).trans lk0) hp0_0).rd hx0
              obtain ⟨a33_0, c33_0, rfl, h33_0⟩ := hR33
              conv => whnf
              refine RStep.of (load_rd_agg i0 _ hr33 rfl hc33 rfl ?_)
              conv => whnf
              refine alloc_rule rfl ?_
              intro b8
              conv => whnf
              refine store_rule r0 rfl ?_
              conv => whnf
              refine ⟨rfl, rfl, (Nat.le_of_ble_eq_true rfl), ?_⟩
              conv => whnf
              refine RStep.of (loadn_s r0 rfl (Nat.le_of_ble_eq_true rfl) ?_)
              obtain ⟨x36, q36, hl0⟩ := bnd hl0
              conv => whnf
              refine call_fn (law28_play_nil_ok q36 h33_0) .nil ?_
              rintro _ K36 _ l36 ⟨rfl, rfl⟩
              conv => whnf
              refine int_in (cntz hx0 hk0) ?_
              conv => whnf
              refine RoundStep.mk (i0 + 1) ⟨rfl, trivial⟩ (by repeat (first | exact trivial | refine And.intro rfl ?_)) (ConvH.of (.cons r1 (.cons r1 .nil))) (lk0.trans l36) (ltm hx0) hl0
            · rw [lty w0, law28_FanoutAborts_L0.eq_1] at hl0
              conv => whnf
              refine cond_T ?_
              conv => whnf
              refine MeetStep.mk (()) trivial (by repeat (first | exact trivial | refine And.intro rfl ?_)) (ConvH.of (.cons r0 (.cons r0 .nil))) lk0 (si hl0)
          · rintro t0 Kt0 lt0 rfl j0
            obtain ⟨x39, q39, hm⟩ := bnd hm
            conv => whnf
            refine call_fn (fanout_Stream_Abort_nil_ok q39) .nil ?_
            rintro _ K39 _ l39 ⟨rfl, rfl⟩
            conv => whnf
            refine neq_err rfl ?_
            conv => whnf
            refine cond_go rfl ?_
            conv => whnf
            refine cond_s (fun w41 => ?_) (fun w41 => ?_)
            · replace hm := ift w41 hm
              obtain ⟨x43, q43, hm⟩ := bnd hm
              conv => whnf
              refine call_fn (base_Is_ok q43) .nil ?_
              rintro _ K43 _ l43 ⟨rfl, rfl⟩
              conv => whnf
              refine cond_s (fun g44_13 => ?_) (fun g44_13 => ?_)
              · replace hm := ift g44_13 hm
                conv => whnf
                refine cond_t g44_13 ?_
                obtain ⟨x46, q46, hm⟩ := bnd hm
                conv => whnf
                refine call_fn (fanout_Stream_End_nil_ok q46) .nil ?_
                rintro _ K46 _ l46 ⟨rfl, rfl⟩
                conv => whnf
                refine cond_t g44_13 ?_
                obtain ⟨x47, q47, hm⟩ := bnd hm
                conv => whnf
                refine call_fn (base_Is_ok q47) .nil ?_
                rintro _ K47 _ l47 ⟨rfl, rfl⟩
                conv => whnf
                refine cond_t g44_13 ?_
                conv => whnf
                refine cond_s (fun g49_13 => ?_) (fun g49_13 => ?_)
                · replace hm := ift g49_13 hm
                  conv => whnf
                  refine cond_t g49_13 ?_
                  obtain ⟨x51, q51, hm⟩ := bnd hm
                  conv => whnf
                  refine call_fn (fanout_Stream_Write_nil_ok q51 RdC.nil rfl) .nil ?_
                  rintro _ K51 _ l51 ⟨rfl, rfl⟩
                  conv => whnf
                  refine cond_t g49_13 ?_
                  obtain ⟨x52, q52, hm⟩ := bnd hm
                  conv => whnf
                  refine call_fn (base_Is_ok q52) .nil ?_
                  rintro _ K52 _ l52 ⟨rfl, rfl⟩
                  conv => whnf
                  refine cond_t g49_13 ?_
                  obtain rfl := si hm
                  conv => whnf
                  refine EndStep.mk _ (((((((((l15.trans l17).trans l23).trans lt0).trans l39).trans l43).trans l46).trans l47).trans l51).trans l52) ⟨rfl, rfl⟩ (ConvH.of (.cons r1 .nil))
                · replace hm := iff_ g49_13 hm
                  conv => whnf
                  refine cond_f g49_13 ?_
                  conv => whnf
                  refine cond_f g49_13 ?_
                  conv => whnf
                  refine cond_f g49_13 ?_
                  obtain rfl := si hm
                  conv => whnf
                  refine EndStep.mk _ (((((((l15.trans l17).trans l23).trans lt0).trans l39).trans l43).trans l46).trans l47) ⟨rfl, rfl⟩ (ConvH.of (.cons r1 .nil))
              · replace hm := iff_ g44_13 hm
                conv => whnf
                refine cond_f g44_13 ?_
                conv => whnf
                refine cond_f g44_13 ?_
                conv => whnf
                refine cond_f g44_13 ?_
                conv => whnf
                refine cond_F ?_
                conv => whnf
                refine cond_F ?_
                conv => whnf
                refine cond_F ?_
                conv => whnf
                refine cond_F ?_
                obtain rfl := si hm
                conv => whnf
                refine EndStep.mk _ (((((l15.trans l17).trans l23).trans lt0).trans l39).trans l43) ⟨rfl, rfl⟩ (ConvH.of (.cons r1 .nil))
            · replace hm := iff_ w41 hm
              conv => whnf
              refine RStep.ofN (arr_addr 0 rfl rfl rfl rfl ?_)
              conv => whnf
              refine RStep.of (load1_s r0 rfl rfl ?_)
              obtain ⟨x57, q57, hm⟩ := bnd hm
              conv => whnf
              refine call_fn (fanout_Stream_Detach_nil_ok q57) .nil ?_
              rintro _ K57 _ l57 ⟨rfl, rfl⟩
              conv => whnf
              refine RStep.ofN (arr_addr 0 rfl rfl rfl rfl ?_)
              conv => whnf
              refine RStep.of (load1_s r0 rfl rfl ?_)
              obtain ⟨x61, q61, hm⟩ := bnd hm
              conv => whnf
              refine call_fn (fanout_Stream_Attach_nil_ok q61) .nil ?_
              rintro _ K61 _ l61 ⟨rfl, rfl⟩
              conv => whnf
              refine neq_err rfl ?_
              conv => whnf
              refine cond_s (fun g63_15 => ?_) (fun g63_15 => ?_)
              · replace hm := ift g63_15 hm
                conv => whnf
                refine cond_t g63_15 ?_
                conv => whnf
                refine cond_t g63_15 ?_
                conv => whnf
                refine cond_t g63_15 ?_
                conv => whnf
                refine cond_t g63_15 ?_
                conv => whnf
                refine cond_t g63_15 ?_
                conv => whnf
                refine cond_T ?_
                conv => whnf
                refine cond_T ?_
                conv => whnf
                refine cond_T ?_
                conv => whnf
                refine cond_T ?_
                conv => whnf
                refine cond_T ?_
                conv => whnf
                refine cond_T ?_
                conv => whnf
                refine cond_T ?_
                conv => whnf
                refine cond_T ?_
                conv => whnf
                refine cond_T ?_
                conv => whnf
                refine cond_T ?_
                conv => whnf
                refine cond_go rfl ?_
                conv => whnf
                refine cond_T ?_
                obtain rfl := si hm
                conv => whnf
                refine EndStep.mk _ ((((((l15.trans l17).trans l23).trans lt0).trans l39).trans l57).trans l61) ⟨rfl, rfl⟩ (ConvH.of (.cons r1 .nil))
              · replace hm := iff_ g63_15 hm
                conv => whnf
                refine cond_f g63_15 ?_
                conv => whnf
                refine bsO (len := 1) (enc := eU) (l := ([(1 : UInt8)] : Str)) (cl := [.int .u8 1]) elT22 rfl rfl (fun _ _ => rfl) rfl rfl rfl ?_ fun b65 => ?_
                · conv => whnf
                  refine cond_T ?_
                  conv => whnf
                conv => whnf
                refine cond_f g63_15 ?_
                obtain ⟨x66, q66, hm⟩ := bnd hm
                conv => whnf
                refine call_fn (Fn.lend Try.call12 (fun K66_1 l66_1 f66_1 => (fanout_Stream_Write_nil_ok q66 f66_1 rfl)) (by exact fun _ _ _ _ h => h)) (.cons r0 .nil) ?_
                rintro _ K66 _ l66 ⟨_, rfl, rfl, rfl⟩
                conv => whnf
                refine cond_f g63_15 ?_
                obtain ⟨x67, q67, hm⟩ := bnd hm
                conv => whnf
                refine call_fn (base_Is_ok q67) .nil ?_
                rintro _ K67 _ l67 ⟨rfl, rfl⟩
                conv => whnf
                refine cond_f g63_15 ?_
                conv => whnf
                refine un_not ?_
                conv => whnf
                refine cond_f g63_15 ?_
                conv => whnf
                refine cond_s (fun g70_15 => ?_) (fun g70_15 => ?_)
                · replace hm := ift (not_t (ni_t g70_15)) hm
                  conv => whnf
                  refine cond_t g70_15 ?_
                  conv => whnf
                  refine cond_t g70_15 ?_
                  conv => whnf
                  refine cond_t g70_15 ?_
                  conv => whnf
                  refine cond_t g70_15 ?_
                  conv => whnf
                  refine cond_T ?_
                  conv => whnf
                  refine cond_T ?_
                  conv => whnf
                  refine cond_T ?_
                  conv => whnf
                  refine cond_T ?_
                  conv => whnf
                  refine cond_T ?_
                  conv => whnf
                  refine cond_go rfl ?_
                  conv => whnf
                  refine cond_T ?_
                  obtain rfl := si hm
                  conv => whnf
                  refine EndStep.mk _ ((((((((l15.trans l17).trans l23).trans lt0).trans l39).trans l57).trans l61).trans l66).trans l67) ⟨rfl, rfl⟩ (ConvH.of (.cons r2 .nil))
                · replace hm := iff_ (not_f (ni_f g70_15)) hm
                  conv => whnf
                  refine cond_f g70_15 ?_
                  obtain ⟨x72, q72, hm⟩ := bnd hm
                  conv => whnf
                  refine call_fn (fanout_Stream_End_nil_ok q72) .nil ?_
                  rintro _ K72 _ l72 ⟨rfl, rfl⟩
                  conv => whnf
                  refine cond_f g70_15 ?_
                  obtain ⟨x73, q73, hm⟩ := bnd hm
                  conv => whnf
                  refine call_fn (base_Is_ok q73) .nil ?_
                  rintro _ K73 _ l73 ⟨rfl, rfl⟩
                  conv => whnf
                  refine cond_f g70_15 ?_
                  conv => whnf
                  refine un_not ?_
                  conv => whnf
                  refine cond_f g70_15 ?_
                  conv => whnf
                  refine cond_s (fun g76_15 => ?_) (fun g76_15 => ?_)
                  · replace hm := ift (not_t (ni_t g76_15)) hm
                    conv => whnf
                    refine cond_t g76_15 ?_
                    conv => whnf
                    refine cond_t g76_15 ?_
                    conv => whnf
                    refine cond_t g76_15 ?_
                    conv => whnf
                    refine cond_t g76_15 ?_
                    conv => whnf
                    refine cond_go rfl ?_
                    conv => whnf
                    refine cond_T ?_
                    obtain rfl := si hm
                    conv => whnf
                    refine EndStep.mk _ ((((((((((l15.trans l17).trans l23).trans lt0).trans l39).trans l57).trans l61).trans l66).trans l67).trans l72).trans l73) ⟨rfl, rfl⟩ (ConvH.of (.cons r2 .nil))
                  · replace hm := iff_ (not_f (ni_f g76_15)) hm
                    conv => whnf
                    refine cond_f g76_15 ?_
                    obtain ⟨x78, q78, hm⟩ := bnd hm
                    conv => whnf
                    refine call_fn (fanout_Stream_Abort_nil_ok q78) .nil ?_
                    rintro _ K78 _ l78 ⟨rfl, rfl⟩
                    conv => whnf
                    refine cond_f g76_15 ?_
                    obtain ⟨x79, q79, hm⟩ := bnd hm
                    conv => whnf
                    refine call_fn (base_Is_ok q79) .nil ?_
                    rintro _ K79 _ l79 ⟨rfl, rfl⟩
                    conv => whnf
                    refine cond_f g76_15 ?_
                    conv => whnf
                    refine un_not ?_
                    conv => whnf
                    refine cond_f g76_15 ?_
                    conv => whnf
                    refine cond_go rfl ?_
                    conv => whnf
                    refine cond_s (fun w81 => ?_) (fun w81 => ?_)
                    · replace hm := ift (not_t (ni_t w81)) hm
                      obtain rfl := si hm
                      conv => whnf
                      refine EndStep.mk _ ((((((((((((l15.trans l17).trans l23).trans lt0).trans l39).trans l57).trans l61).trans l66).trans l67).trans l72).trans l73).trans l78).trans l79) ⟨rfl, rfl⟩ (ConvH.of (.cons r2 .nil))
                    · replace hm := iff_ (not_f (ni_f w81)) hm
                      conv => whnf
                      refine draw_go_F ⟨⟨[], false⟩, _, [(_, _)]⟩ 8 rfl (by kernel_rfl) ⟨Hp.Le.refl _, (ConvH.of (.cons r1 .nil))⟩ ?_
                      conv => whnf
                      intro GG1
                      obtain ⟨x83, q83, hm⟩ := bnd hm
                      conv => whnf
                      refine call_fn (fanout_Stream_Readers_nil_ok q83) .nil ?_
                      rintro _ K83 _ l83 ⟨a83_0, c83_0, rfl, h83_0, rfl⟩
                      conv => whnf
                      refine ⟨⟨l83, (ConvH.of (.cons r2 .nil))⟩, ?_⟩
                      refine ⟨_, .cons r4 .nil, ⟨l83, (ConvH.of (.cons r2 .nil))⟩, ?_⟩
                      conv => whnf
                      refine arr_addr 0 rfl rfl rfl rfl ?_
                      conv => whnf
                      refine load1_l m0 rfl rfl ?_
                      conv => whnf
                      refine bsA (cl := [.int .i64 ids.f0]) elT36 rfl rfl ?_ fun b86 => ?_
                      · conv => whnf
                        refine cond_T ?_
                        conv => whnf
                      conv => whnf
                      intro GG5
                      obtain ⟨h87, hm⟩ := chkb hm
                      conv => whnf
                      refine apE rfl r1 elT36 (src_lit rfl r0 rfl rfl (fun _ _ => rfl) rfl) h87 ?_
                      intro a87 c87 o87
                      conv => whnf
                      refine ⟨⟨l83, (ConvH.of (.cons r3 .nil))⟩, ?_⟩
                      refine ⟨_, .cons r5 .nil, ⟨l83, (ConvH.of (.cons r3 .nil))⟩, ?_⟩
                      conv => whnf
                      refine len_slice rfl ?_
                      obtain ⟨hk2, hm⟩ := chkb hm
                      obtain ⟨s2, hl2, hm⟩ := bnd hm
                      conv => whnf
                      refine code_cut (σ := (Unit)) [4, 10, 11, 12, 13, 89, 90, 91, 92, 93, 94, 95, 96, 97, 98, 99, 100, 101, 102, 103, 104, 105, 106, 107, 108, 109, 110, 111] (fun t2 => []) (fun t2 => [OwnL eN a87 3 1 c87 (x83 ++ [ids.f0]), Cells b86 3 [.int .i64 ids.f0], OwnL eU (some ⟨b65, 0, none⟩) 5 1 1 ([(1 : UInt8)] : Str), Cells b3 54 [.int .i64 ids.f0, .int .i64 ids.f1], F]) (fun zz K1 => match zz with | t2 => s2 = Fl.go t2) ?_ ?_
                      · refine block_go rfl ?_
                        conv => whnf
                        refine loop_rule (σ := Nat) [4, 10, 11, 12, 13, 89, 90, 91, 92, 93, 94, 95, 96, 97, 98, 99, 100, 101, 102, 103, 104, 105, 106, 107, 108, 109, 110, 111] (fun i2 => [(89, .int .i64 (i2 : Int))]) (fun i2 => [OwnL eN a87 3 1 c87 (x83 ++ [ids.f0]), Cells b86 3 [.int .i64 ids.f0], OwnL eU (some ⟨b65, 0, none⟩) 5 1 1 ([(1 : UInt8)] : Str), Cells b3 54 [.int .i64 ids.f0, .int .i64 ids.f1], F]) (fun zz K1 => match zz with | i2 => law28_FanoutAborts_L2 ((x83 ++ [ids.f0]).drop i2) i2 = some s2) (fun zz => (x83 ++ [ids.f0]).length - zz) (0) rfl ⟨rfl, trivial⟩ (ConvH.of (.cons r0 (.cons r0 (.cons r0 (.cons r0 (.cons r0 .nil)))))) hl2 ?_
                        clear hl2
                        rintro i2 Kb2 lk2 hl2 j2
                        conv at hl2 => whnf
                        conv => whnf
                        refine cond_go rfl ?_
                        conv => whnf
                        refine cond_s (fun w2 => ?_) (fun w2 => ?_)
                        · obtain ⟨e2, hx2, hd2⟩ := ltx w2
                          rw [hd2, law28_FanoutAborts_L2.eq_2] at hl2
                          conv => whnf
                          refine block_go rfl ?_
                          conv => whnf
                          refine RStep.ofN (index_addr rfl rfl (hasO o87 hx2) (nn _) (lt_ofNE rfl hx2) ?_)
                          conv => whnf
                          refine RStep.of (ld_own (i := i2) (o := 0) r0 rfl hx2 rfl rfl ?_)
                          obtain ⟨x96, q96, hl2⟩ := bnd hl2
                          conv => whnf
                          refine call_fn (fanout_Stream_Read_nil_ok q96) .nil ?_
                          rintro _ K96 _ l96 ⟨a96_0, c96_0, rfl, h96_0, rfl⟩
                          conv => whnf
                          refine neq_err rfl ?_
                          conv => whnf
                          refine cond_s (fun g102_21 => ?_) (fun g102_21 => ?_)
                          · conv => whnf
                            refine cond_t g102_21 ?_
                            conv => whnf
                            refine cond_t g102_21 ?_
                            conv => whnf
                            refine cond_t g102_21 ?_
                            conv => whnf
                            refine cond_T ?_
                            conv => whnf
                            refine cond_T ?_
                            conv => whnf
                            refine cond_T ?_
                            conv => whnf
                            refine cond_go rfl ?_
                            conv => whnf
                            refine cond_T ?_
                            replace hl2 := ift (or_t (or_t g102_21)) hl2
                            obtain rfl := si hl2
                            replace hm := elr hm
                            obtain rfl := si hm
                            conv => whnf
                            refine EndStep.mk _ (((((((((((((((l15.trans l17).trans l23).trans lt0).trans l39).trans l57).trans l61).trans l66).trans l67).trans l72).trans l73).trans l78).trans l79).trans l83).trans lk2).trans l96) ⟨rfl, rfl⟩ (ConvH.of (.cons r5 .nil))
                          · conv => whnf
                            refine cond_f g102_21 ?_
                            conv => whnf
                            refine RStep.of (len_slice rfl ?_)
                            conv => whnf
                            refine cond_f g102_21 ?_
                            conv => whnf
                            refine neq_int ?_
                            conv => whnf
                            refine cond_f g102_21 ?_
                            conv => whnf
                            refine cond_s (fun g107_21 => ?_) (fun g107_21 => ?_)
                            · conv => whnf
                              refine cond_t g107_21 ?_
                              conv => whnf
                              refine cond_t g107_21 ?_
                              conv => whnf
                              refine cond_go rfl ?_
                              conv => whnf
                              refine cond_T ?_
                              replace hl2 := ift (or_t (or_u g102_21 g107_21)) hl2
                              obtain rfl := si hl2
                              replace hm := elr hm
                              obtain rfl := si hm
                              conv => whnf
                              refine EndStep.mk _ (((((((((((((((l15.trans l17).trans l23).trans lt0).trans l39).trans l57).trans l61).trans l66).trans l67).trans l72).trans l73).trans l78).trans l79).trans l83).trans lk2).trans l96) ⟨rfl, rfl⟩ (ConvH.of (.cons r5 .nil))
                            · conv => whnf
                              refine cond_f g107_21 ?_
                              conv => whnf
                              refine neq_int ?_
                              conv => whnf
                              refine cond_f g107_21 ?_
                              conv => whnf
                              refine cond_go rfl ?_
                              conv => whnf
                              refine cond_s (fun w110 => ?_) (fun w110 => ?_)
                              · replace hl2 := ift (or_u (or_f g102_21 g107_21) w110) hl2
                                obtain rfl := si hl2
                                replace hm := elr hm
                                obtain rfl := si hm
                                conv => whnf
                                refine EndStep.mk _ (((((((((((((((l15.trans l17).trans l23).trans lt0).trans l39).trans l57).trans l61).trans l66).trans l67).trans l72).trans l73).trans l78).trans l79).trans l83).trans lk2).trans l96) ⟨rfl, rfl⟩ (ConvH.of (.cons r5 .nil))
                              · replace hl2 := iff_ (or_f (or_f g102_21 g107_21) w110) hl2
                                conv => whnf
                                refine int_in (cntz hx2 hk2) ?_
                                conv => whnf
                                refine RoundStep.mk (i2 + 1) ⟨rfl, trivial⟩ (by repeat (first | exact trivial | refine And.intro rfl ?_)) (ConvH.of (.cons r1 (.cons r1 (.cons r1 (.cons r1 (.cons r1 .nil)))))) (lk2.trans l96) (ltm hx2) hl2
                        · rw [lty w2, law28_FanoutAborts_L2.eq_1] at hl2
                          conv => whnf
                          refine cond_T ?_
                          conv => whnf
                          refine MeetStep.mk (()) trivial (by repeat (first | exact trivial | refine And.intro rfl ?_)) (ConvH.of (.cons r0 (.cons r0 (.cons r0 (.cons r0 (.cons r0 .nil)))))) lk2 (si hl2).symm
                      · rintro t2 Kt2 lt2 rfl j2
                        replace hm := elg hm
                        obtain rfl := si hm
                        conv => whnf
                        refine EndStep.mk _ ((((((((((((((l15.trans l17).trans l23).trans lt0).trans l39).trans l57).trans l61).trans l66).trans l67).trans l72).trans l73).trans l78).trans l79).trans l83).trans lt2) ⟨rfl, rfl⟩ (ConvH.of (.cons r4 .nil))
      · rw [hq23] at p23 hm
        obtain ⟨b23_0, a23_1, c23_1, m23_2, rfl, h23_1, rfl⟩ := p23
        replace hm := oe_s hm
        conv => whnf
        refine neq_err rfl ?_
        conv => whnf
        refine cond_go rfl ?_
        conv => whnf
        refine cond_s (fun w27 => ?_) (fun w27 => ?_)
        · replace hm := ift w27 hm
          obtain rfl := si hm
          conv => whnf
          refine EndStep.mk _ ((l15.trans l17).trans l23) ⟨rfl, rfl⟩ (ConvH.of (.cons r4 .nil))
        · replace hm := iff_ w27 hm
          conv => whnf
          refine RStep.of (len_slice rfl ?_)
          obtain ⟨hk0, hm⟩ := chkb hm
          obtain ⟨s0, hl0, hm⟩ := bnd hm
          conv => whnf
          refine code_cut (σ := (S_fanout_Stream) × Option Addr × Nat × Nat) [8, 30, 31, 32, 33, 34, 35, 36, 37] (fun (t0, at0_0_0, ct0_0_0, mt0_0_1) => []) (fun (t0, at0_0_0, ct0_0_0, mt0_0_1) => [Cells b23_0 77 [.int .i64 t0.limit, .int .i64 t0.state, .slice at0_0_0 t0.data.length ct0_0_0, .map (some mt0_0_1)], OwnL eU at0_0_0 5 1 ct0_0_0 t0.data, MapE intK (fun x => .int .i64 x) mt0_0_1 t0.offsets, Cells b3 54 [.int .i64 ids.f0, .int .i64 ids.f1], F]) (fun zz K1 => match zz with | (t0, at0_0_0, ct0_0_0, mt0_0_1) => (0 < t0.data.length → Has at0_0_0) ∧ t0 = s0) ?_ ?_
          · refine block_go rfl ?_
            conv => whnf
            refine loop_rule (σ := Nat × S_fanout_Stream × Option Addr × Nat × Nat) [8, 30, 31, 32, 33, 34, 35, 36, 37] (fun (i0, y0_0, ay0_0_0, cy0_0_0, my0_0_1) => [(30, .int .i64 (i0 : Int))]) (fun (i0, y0_0, ay0_0_0, cy0_0_0, my0_0_1) => [Cells b23_0 77 [.int .i64 y0_0.limit, .int .i64 y0_0.state, .slice ay0_0_0 y0_0.data.length cy0_0_0, .map (some my0_0_1)], OwnL eU ay0_0_0 5 1 cy0_0_0 y0_0.data, MapE intK (fun x => .int .i64 x) my0_0_1 y0_0.offsets, Cells b3 54 [.int .i64 ids.f0, .int .i64 ids.f1], F]) (fun zz K1 => match zz with | (i0, y0_0, ay0_0_0, cy0_0_0, my0_0_1) => (0 < y0_0.data.length → Has ay0_0_0) ∧ law28_FanoutAborts_L0b (script.drop i0) i0 y0_0 = some s0) (fun zz => script.length - zz.1) (0, o23, a23_1, c23_1, m23_2) rfl ⟨rfl, trivial⟩ (ConvH.of (.cons r0 (.cons r0 (.cons r0 (.cons r0 (.cons r0 .nil)))))) ⟨h23_1, hl0⟩ ?_
            clear hl0
            rintro ⟨i0, y0_0, ay0_0_0, cy0_0_0, my0_0_1⟩ Kb0 lk0 ⟨hy0_0_0, hl0⟩ j0
            conv => whnf
            refine cond_go rfl ?_
            conv => whnf
            refine cond_s (fun w0 => ?_) (fun w0 => ?_)
            · obtain ⟨e0, hx0, hd0⟩ := ltx w0
              rw [hd0, law28_FanoutAborts_L0b.eq_2] at hl0
              conv => whnf
              refine block_go rfl ?_
              conv => whnf
              refine RStep.ofN (index_addr rfl rfl (hasR (LiC.mono S_law28_Step.R_ok (((l15.trans l17).trans l23).trans lk0) hp0_0).rd hx0) (nn _) (lt_ofN hx0) ?_)
              obtain ⟨ss33, cc33, hr33, hc33, hR33⟩ := LiR.get (LiC.mono S_law28_Step.R_ok (((l15.trans l17).trans l23).trans lk0) hp0_0).rd hx0
              obtain ⟨a33_0, c33_0, rfl, h33_0⟩ := hR33
              conv => whnf
              refine RStep.of (load_rd_agg i0 _ hr33 rfl hc33 rfl ?_)
              conv => whnf
              refine alloc_rule rfl ?_
              intro b8
              conv => whnf
              refine store_rule r0 rfl ?_
              conv => whnf
              refine ⟨rfl, rfl, (Nat.le_of_ble_eq_true rfl), ?_⟩
              conv => whnf
              refine RStep.of (loadn_s r0 rfl (Nat.le_of_ble_eq_true rfl) ?_)
              obtain ⟨x36, q36, hl0⟩ := bnd hl0
              conv => whnf
              refine call_fn (law28_play_ok q36 hy0_0_0 h33_0) (.cons r1 (.cons r1 (.cons r1 .nil))) ?_
              rintro _ K36 _ l36 ⟨a36_0, c36_0, m36_1, rfl, h36_0, rfl⟩
              conv => whnf
              refine int_in (cntz hx0 hk0) ?_
              conv => whnf
              refine RoundStep.mk (i0 + 1, x36, a36_0, c36_0, m36_1) ⟨rfl, trivial⟩ (by repeat (first | exact trivial | refine And.intro rfl ?_)) (ConvH.of (.cons r0 (.cons r0 (.cons r0 (.cons r1 (.cons r1 .nil)))))) (lk0.trans l36) (ltm hx0) ⟨h36_0, hl0⟩
            · rw [lty w0, law28_FanoutAborts_L0b.eq_1] at hl0
              conv => whnf
              refine cond_T ?_
              conv => whnf
              refine MeetStep.mk (y0_0, ay0_0_0, cy0_0_0, my0_0_1) trivial (by repeat (first | exact trivial | refine And.intro rfl ?_)) (ConvH.of (.cons r0 (.cons r0 (.cons r0 (.cons r0 (.cons r0 .nil)))))) lk0 ⟨hy0_0_0, (si hl0)⟩
          · rintro ⟨t0, at0_0_0, ct0_0_0, mt0_0_1⟩ Kt0 lt0 ⟨ht0_0_0, rfl⟩ j0
            obtain ⟨x39, q39, hm⟩ := bnd hm
            conv => whnf
            refine call_fn (fanout_Stream_Abort_ok q39 ht0_0_0) (.cons r0 (.cons r0 (.cons r0 .nil))) ?_
            rintro _ K39 _ l39 ⟨a39_0, c39_0, m39_1, rfl, h39_0, rfl⟩
            conv => whnf
            refine neq_err rfl ?_
            conv => whnf
            refine cond_go rfl ?_
            conv => whnf
            refine cond_s (fun w41 => ?_) (fun w41 => ?_)
            · replace hm := ift w41 hm
              obtain ⟨x43, q43, hm⟩ := bnd hm
              conv => whnf
              refine call_fn (base_Is_ok q43) .nil ?_
              rintro _ K43 _ l43 ⟨rfl, rfl⟩
              conv => whnf
              refine cond_s (fun g44_13 => ?_) (fun g44_13 => ?_)
              · replace hm := ift g44_13 hm
                conv => whnf
                refine cond_t g44_13 ?_
                obtain ⟨x46, q46, hm⟩ := bnd hm
                conv => whnf
                refine call_fn (fanout_Stream_End_ok q46 h39_0) (.cons r0 (.cons r0 (.cons r0 .nil))) ?_
                rintro _ K46 _ l46 ⟨a46_0, c46_0, m46_1, rfl, h46_0, rfl⟩
                conv => whnf
                refine cond_t g44_13 ?_
                obtain ⟨x47, q47, hm⟩ := bnd hm
                conv => whnf
                refine call_fn (base_Is_ok q47) .nil ?_
                rintro _ K47 _ l47 ⟨rfl, rfl⟩
                conv => whnf
                refine cond_t g44_13 ?_
                conv => whnf
                refine cond_s (fun g49_13 => ?_) (fun g49_13 => ?_)
                · replace hm := ift g49_13 hm
                  conv => whnf
                  refine cond_t g49_13 ?_
                  obtain ⟨x51, q51, hm⟩ := bnd hm
                  conv => whnf
                  refine call_fn (fanout_Stream_Write_ok q51 h46_0 RdC.nil rfl) (.cons r0 (.cons r0 (.cons r0 .nil))) ?_
                  rintro _ K51 _ l51 ⟨a51_0, c51_0, m51_1, rfl, h51_0, rfl⟩
                  conv => whnf
                  refine cond_t g49_13 ?_
                  obtain ⟨x52, q52, hm⟩ := bnd hm
                  conv => whnf
                  refine call_fn (base_Is_ok q52) .nil ?_
                  rintro _ K52 _ l52 ⟨rfl, rfl⟩
                  conv => whnf
                  refine cond_t g49_13 ?_
                  obtain rfl := si hm
                  conv => whnf
                  refine EndStep.mk _ (((((((((l15.trans l17).trans l23).trans lt0).trans l39).trans l43).trans l46).trans l47).trans l51).trans l52) ⟨rfl, rfl⟩ (ConvH.of (.cons r4 .nil))
                · replace hm := iff_ g49_13 hm
                  conv => whnf
                  refine cond_f g49_13 ?_
                  conv => whnf
                  refine cond_f g49_13 ?_
                  conv => whnf
                  refine cond_f g49_13 ?_
                  obtain rfl := si hm
                  conv => whnf
                  refine EndStep.mk _ (((((((l15.trans l17).trans l23).trans lt0).trans l39).trans l43).trans l46).trans l47) ⟨rfl, rfl⟩ (ConvH.of (.cons r4 .nil))
              · replace hm := iff_ g44_13 hm
                conv => whnf
                refine cond_f g44_13 ?_
                conv => whnf
                refine cond_f g44_13 ?_
                conv => whnf
                refine cond_f g44_13 ?_
                conv => whnf
                refine cond_F ?_
                conv => whnf
                refine cond_F ?_
                conv => whnf
                refine cond_F ?_
                conv => whnf
                refine cond_F ?_
                obtain rfl := si hm
                conv => whnf
                refine EndStep.mk _ (((((l15.trans l17).trans l23).trans lt0).trans l39).trans l43) ⟨rfl, rfl⟩ (ConvH.of (.cons r4 .nil))
            · replace hm := iff_ w41 hm
              conv => whnf
              refine RStep.ofN (arr_addr 0 rfl rfl rfl rfl ?_)
              conv => whnf
              refine RStep.of (load1_s r3 rfl rfl ?_)
              obtain ⟨x57, q57, hm⟩ := bnd hm
              conv => whnf
              refine call_fn (fanout_Stream_Detach_ok q57 h39_0) (.cons r0 (.cons r0 (.cons r0 .nil))) ?_
              rintro _ K57 _ l57 ⟨a57_0, c57_0, m57_1, rfl, h57_0, rfl⟩
              conv => whnf
              refine RStep.ofN (arr_addr 0 rfl rfl rfl rfl ?_)
              conv => whnf
              refine RStep.of (load1_s r3 rfl rfl ?_)
              obtain ⟨x61, q61, hm⟩ := bnd hm
              conv => whnf
              refine call_fn (fanout_Stream_Attach_ok q61 h57_0) (.cons r0 (.cons r0 (.cons r0 .nil))) ?_
              rintro _ K61 _ l61 ⟨a61_0, c61_0, m61_1, rfl, h61_0, rfl⟩
              conv => whnf
              refine neq_err rfl ?_
              conv => whnf
              refine cond_s (fun g63_15 => ?_) (fun g63_15 => ?_)
              · replace hm := ift g63_15 hm
                conv => whnf
                refine cond_t g63_15 ?_
                conv => whnf
                refine cond_t g63_15 ?_
                conv => whnf
                refine cond_t g63_15 ?_
                conv => whnf
                refine cond_t g63_15 ?_
                conv => whnf
                refine cond_t g63_15 ?_
                conv => whnf
                refine cond_T ?_
                conv => whnf
                refine cond_T ?_
                conv => whnf
                refine cond_T ?_
                conv => whnf
                refine cond_T ?_
                conv => whnf
                refine cond_T ?_
                conv => whnf
                refine cond_T ?_
                conv => whnf
                refine cond_T ?_
                conv => whnf
                refine cond_T ?_
                conv => whnf
                refine cond_T ?_
                conv => whnf
                refine cond_T ?_
                conv => whnf
                refine cond_go rfl ?_
                conv => whnf
                refine cond_T ?_
                obtain rfl := si hm
                conv => whnf
                refine EndStep.mk _ ((((((l15.trans l17).trans l23).trans lt0).trans l39).trans l57).trans l61) ⟨rfl, rfl⟩ (ConvH.of (.cons r4 .nil))
              · replace hm := iff_ g63_15 hm
                conv => whnf
                refine cond_f g63_15 ?_
                conv => whnf
                refine bsO (len := 1) (enc := eU) (l := ([(1 : UInt8)] : Str)) (cl := [.int .u8 1]) elT22 rfl rfl (fun _ _ => rfl) rfl rfl rfl ?_ fun b65 => ?_
                · conv => whnf
                  refine cond_T ?_
                  conv => whnf
                conv => whnf
                refine cond_f g63_15 ?_
                obtain ⟨x66, q66, hm⟩ := bnd hm
                conv => whnf
                refine call_fn (Fn.lend Try.call12 (fun K66_1 l66_1 f66_1 => (fanout_Stream_Write_ok q66 h61_0 f66_1 rfl)) (by exact fun _ _ _ _ h => h)) (.cons r0 (.cons r0 (.cons r0 (.cons r0 .nil)))) ?_
                rintro _ K66 _ l66 ⟨_, rfl, a66_0, c66_0, m66_1, rfl, h66_0, rfl⟩
                conv => whnf
                refine cond_f g63_15 ?_
                obtain ⟨x67, q67, hm⟩ := bnd hm
                conv => whnf
                refine call_fn (base_Is_ok q67) .nil ?_
                rintro _ K67 _ l67 ⟨rfl, rfl⟩
                conv => whnf
                refine cond_f g63_15 ?_
                conv => whnf
                refine un_not ?_
                conv => whnf
                refine cond_f g63_15 ?_
                conv => whnf
                refine cond_s (fun g70_15 => ?_) (fun g70_15 => ?_)
                · replace hm := ift (not_t (ni_t g70_15)) hm
                  conv => whnf
                  refine cond_t g70_15 ?_
                  conv => whnf
                  refine cond_t g70_15 ?_
                  conv => whnf
                  refine cond_t g70_15 ?_
                  conv => whnf
                  refine cond_t g70_15 ?_
                  conv => whnf
                  refine cond_T ?_
                  conv => whnf
                  refine cond_T ?_
                  conv => whnf
                  refine cond_T ?_
                  conv => whnf
                  refine cond_T ?_
                  conv => whnf
                  refine cond_T ?_
                  conv => whnf
                  refine cond_go rfl ?_
                  conv => whnf
                  refine cond_T ?_
                  obtain rfl := si hm
                  conv => whnf
                  refine EndStep.mk _ ((((((((l15.trans l17).trans l23).trans lt0).trans l39).trans l57).trans l61).trans l66).trans l67) ⟨rfl, rfl⟩ (ConvH.of (.cons r5 .nil))
                · replace hm := iff_ (not_f (ni_f g70_15)) hm
                  conv => whnf
                  refine cond_f g70_15 ?_
                  obtain ⟨x72, q72, hm⟩ := bnd hm
                  conv => whnf
                  refine call_fn (fanout_Stream_End_ok q72 h66_0) (.cons r1 (.cons r1 (.cons r1 .nil))) ?_
                  rintro _ K72 _ l72 ⟨a72_0, c72_0, m72_1, rfl, h72_0, rfl⟩
                  conv => whnf
                  refine cond_f g70_15 ?_
                  obtain ⟨x73, q73, hm⟩ := bnd hm
                  conv => whnf
                  refine call_fn (base_Is_ok q73) .nil ?_
                  rintro _ K73 _ l73 ⟨rfl, rfl⟩
                  conv => whnf
                  refine cond_f g70_15 ?_
                  conv => whnf
                  refine un_not ?_
                  conv => whnf
                  refine cond_f g70_15 ?_
                  conv => whnf
                  refine cond_s (fun g76_15 => ?_) (fun g76_15 => ?_)
                  · replace hm := ift (not_t (ni_t g76_15)) hm
                    conv => whnf
                    refine cond_t g76_15 ?_
                    conv => whnf
                    refine cond_t g76_15 ?_
                    conv => whnf
                    refine cond_t g76_15 ?_
                    conv => whnf
                    refine cond_t g76_15 ?_
                    conv => whnf
                    refine cond_go rfl ?_
                    conv => whnf
                    refine cond_T ?_
                    obtain rfl := si hm
                    conv => whnf
                    refine EndStep.mk _ ((((((((((l15.trans l17).trans l23).trans lt0).trans l39).trans l57).trans l61).trans l66).trans l67).trans l72).trans l73) ⟨rfl, rfl⟩ (ConvH.of (.cons r5 .nil))
                  · replace hm := iff_ (not_f (ni_f g76_15)) hm
                    conv => whnf
                    refine cond_f g76_15 ?_
                    obtain ⟨x78, q78, hm⟩ := bnd hm
                    conv => whnf
                    refine call_fn (fanout_Stream_Abort_ok q78 h72_0) (.cons r0 (.cons r0 (.cons r0 .nil))) ?_
                    rintro _ K78 _ l78 ⟨a78_0, c78_0, m78_1, rfl, h78_0, rfl⟩
                    conv => whnf
                    refine cond_f g76_15 ?_
                    obtain ⟨x79, q79, hm⟩ := bnd hm
                    conv => whnf
                    refine call_fn (base_Is_ok q79) .nil ?_
                    rintro _ K79 _ l79 ⟨rfl, rfl⟩
                    conv => whnf
                    refine cond_f g76_15 ?_
                    conv => whnf
                    refine un_not ?_
                    conv => whnf
                    refine cond_f g76_15 ?_
                    conv => whnf
                    refine cond_go rfl ?_
                    conv => whnf
                    refine cond_s (fun w81 => ?_) (fun w81 => ?_)
                    · replace hm := ift (not_t (ni_t w81)) hm
                      obtain rfl := si hm
                      conv => whnf
                      refine EndStep.mk _ ((((((((((((l15.trans l17).trans l23).trans lt0).trans l39).trans l57).trans l61).trans l66).trans l67).trans l72).trans l73).trans l78).trans l79) ⟨rfl, rfl⟩ (ConvH.of (.cons r5 .nil))
                    · replace hm := iff_ (not_f (ni_f w81)) hm
                      conv => whnf
                      refine draw_go_F ⟨⟨[], false⟩, _, [(_, _)]⟩ 8 rfl (by kernel_rfl) ⟨Hp.Le.refl _, (ConvH.of (.cons r4 .nil))⟩ ?_
                      conv => whnf
                      intro GG1
                      obtain ⟨x83, q83, hm⟩ := bnd hm
                      conv => whnf
                      refine call_fn (fanout_Stream_Readers_ok q83 h78_0) (.cons r0 (.cons r0 (.cons r0 .nil))) ?_
                      rintro _ K83 _ l83 ⟨a83_0, c83_0, rfl, h83_0, rfl⟩
                      conv => whnf
                      refine ⟨⟨l83, (ConvH.of (.cons r5 .nil))⟩, ?_⟩
                      refine ⟨_, .cons r7 .nil, ⟨l83, (ConvH.of (.cons r5 .nil))⟩, ?_⟩
                      conv => whnf
                      refine arr_addr 0 rfl rfl rfl rfl ?_
                      conv => whnf
                      refine load1_l m0 rfl rfl ?_
                      conv => whnf
                      refine bsA (cl := [.int .i64 ids.f0]) elT36 rfl rfl ?_ fun b86 => ?_
                      · conv => whnf
                        refine cond_T ?_
                        conv => whnf
                      conv => whnf
                      intro GG5
                      obtain ⟨h87, hm⟩ := chkb hm
                      conv => whnf
                      refine apE rfl r1 elT36 (src_lit rfl r0 rfl rfl (fun _ _ => rfl) rfl) h87 ?_
                      intro a87 c87 o87
                      conv => whnf
                      refine ⟨⟨l83, (ConvH.of (.cons r6 .nil))⟩, ?_⟩
                      refine ⟨_, .cons r8 .nil, ⟨l83, (ConvH.of (.cons r6 .nil))⟩, ?_⟩
                      conv => whnf
                      refine len_slice rfl ?_
                      obtain ⟨hk2, hm⟩ := chkb hm
                      obtain ⟨s2, hl2, hm⟩ := bnd hm
                      conv => whnf
                      refine code_cut (σ := (S_fanout_Stream) × Option Addr × Nat × Nat) [4, 10, 11, 12, 13, 89, 90, 91, 92, 93, 94, 95, 96, 97, 98, 99, 100, 101, 102, 103, 104, 105, 106, 107, 108, 109, 110, 111] (fun (t2, at2_0_0, ct2_0_0, mt2_0_1) => []) (fun (t2, at2_0_0, ct2_0_0, mt2_0_1) => [Cells b23_0 77 [.int .i64 t2.limit, .int .i64 t2.state, .slice at2_0_0 t2.data.length ct2_0_0, .map (some mt2_0_1)], OwnL eU at2_0_0 5 1 ct2_0_0 t2.data, MapE intK (fun x => .int .i64 x) mt2_0_1 t2.offsets, OwnL eN a87 3 1 c87 (x83 ++ [ids.f0]), Cells b86 3 [.int .i64 ids.f0], OwnL eU (some ⟨b65, 0, none⟩) 5 1 1 ([(1 : UInt8)] : Str), Cells b3 54 [.int .i64 ids.f0, .int .i64 ids.f1], F]) (fun zz K1 => match zz with | (t2, at2_0_0, ct2_0_0, mt2_0_1) => (0 < t2.data.length → Has at2_0_0) ∧ s2 = Fl.go t2) ?_ ?_
                      · refine block_go rfl ?_
                        conv => whnf
                        refine loop_rule (σ := Nat × S_fanout_Stream × Option Addr × Nat × Nat) [4, 10, 11, 12, 13, 89, 90, 91, 92, 93, 94, 95, 96, 97, 98, 99, 100, 101, 102, 103, 104, 105, 106, 107, 108, 109, 110, 111] (fun (i2, y2_0, ay2_0_0, cy2_0_0, my2_0_1) => [(89, .int .i64 (i2 : Int))]) (fun (i2, y2_0, ay2_0_0, cy2_0_0, my2_0_1) => [Cells b23_0 77 [.int .i64 y2_0.limit, .int .i64 y2_0.state, .slice ay2_0_0 y2_0.data.length cy2_0_0, .map (some my2_0_1)], OwnL eU ay2_0_0 5 1 cy2_0_0 y2_0.data, MapE intK (fun x => .int .i64 x) my2_0_1 y2_0.offsets, OwnL eN a87 3 1 c87 (x83 ++ [ids.f0]), Cells b86 3 [.int .i64 ids.f0], OwnL eU (some ⟨b65, 0, none⟩) 5 1 1 ([(1 : UInt8)] : Str), Cells b3 54 [.int .i64 ids.f0, .int .i64 ids.f1], F]) (fun zz K1 => match zz with | (i2, y2_0, ay2_0_0, cy2_0_0, my2_0_1) => (0 < y2_0.data.length → Has ay2_0_0) ∧ law28_FanoutAborts_L2b ((x83 ++ [ids.f0]).drop i2) i2 y2_0 = some s2) (fun zz => (x83 ++ [ids.f0]).length - zz.1) (0, x78.2, a78_0, c78_0, m78_1) rfl ⟨rfl, trivial⟩ (ConvH.of (.cons r2 (.cons r2 (.cons r2 (.cons r0 (.cons r0 (.cons r0 (.cons r0 (.cons r0 .nil))))))))) ⟨h78_0, hl2⟩ ?_
                        clear hl2
                        rintro ⟨i2, y2_0, ay2_0_0, cy2_0_0, my2_0_1⟩ Kb2 lk2 ⟨hy2_0_0, hl2⟩ j2
                        conv => whnf
                        refine cond_go rfl ?_
                        conv => whnf
                        refine cond_s (fun w2 => ?_) (fun w2 => ?_)
                        · obtain ⟨e2, hx2, hd2⟩ := ltx w2
                          rw [hd2, law28_FanoutAborts_L2b.eq_2] at hl2
                          conv => whnf
                          refine block_go rfl ?_
                          conv => whnf
                          refine RStep.ofN (index_addr rfl rfl (hasO o87 hx2) (nn _) (lt_ofNE rfl hx2) ?_)
                          conv => whnf
                          refine RStep.of (ld_own (i := i2) (o := 0) r3 rfl hx2 rfl rfl ?_)
                          obtain ⟨x96, q96, hl2⟩ := bnd hl2
                          conv => whnf
                          refine call_fn (fanout_Stream_Read_ok q96 hy2_0_0) (.cons r0 (.cons r0 (.cons r0 .nil))) ?_
                          rintro _ K96 _ l96 ⟨a96_0, c96_0, a96_1, c96_1, m96_2, rfl, h96_0, h96_1, rfl⟩
                          conv => whnf
                          refine neq_err rfl ?_
                          conv => whnf
                          refine cond_s (fun g102_21 => ?_) (fun g102_21 => ?_)
                          · conv => whnf
                            refine cond_t g102_21 ?_
                            conv => whnf
                            refine cond_t g102_21 ?_
                            conv => whnf
                            refine cond_t g102_21 ?_
                            conv => whnf
                            refine cond_T ?_
                            conv => whnf
                            refine cond_T ?_
                            conv => whnf
                            refine cond_T ?_
                            conv => whnf
                            refine cond_go rfl ?_
                            conv => whnf
                            refine cond_T ?_
                            replace hl2 := ift (or_t (or_t g102_21)) hl2
                            obtain rfl := si hl2
                            replace hm := elr hm
                            obtain rfl := si hm
                            conv => whnf
                            refine EndStep.mk _ (((((((((((((((l15.trans l17).trans l23).trans lt0).trans l39).trans l57).trans l61).trans l66).trans l67).trans l72).trans l73).trans l78).trans l79).trans l83).trans lk2).trans l96) ⟨rfl, rfl⟩ (ConvH.of (.cons r8 .nil))
                          · conv => whnf
                            refine cond_f g102_21 ?_
                            conv => whnf
                            refine RStep.of (len_slice rfl ?_)
                            conv => whnf
                            refine cond_f g102_21 ?_
                            conv => whnf
                            refine neq_int ?_
                            conv => whnf
                            refine cond_f g102_21 ?_
                            conv => whnf
                            refine cond_s (fun g107_21 => ?_) (fun g107_21 => ?_)
                            · conv => whnf
                              refine cond_t g107_21 ?_
                              conv => whnf
                              refine cond_t g107_21 ?_
                              conv => whnf
                              refine cond_go rfl ?_
                              conv => whnf
                              refine cond_T ?_
                              replace hl2 := ift (or_t (or_u g102_21 g107_21)) hl2
                              obtain rfl := si hl2
                              replace hm := elr hm
                              obtain rfl := si hm
                              conv => whnf
                              refine EndStep.mk _ (((((((((((((((l15.trans l17).trans l23).trans lt0).trans l39).trans l57).trans l61).trans l66).trans l67).trans l72).trans l73).trans l78).trans l79).trans l83).trans lk2).trans l96) ⟨rfl, rfl⟩ (ConvH.of (.cons r8 .nil))
                            · conv => whnf
                              refine cond_f g107_21 ?_
                              conv => whnf
                              refine neq_int ?_
                              conv => whnf
                              refine cond_f g107_21 ?_
                              conv => whnf
                              refine cond_go rfl ?_
                              conv => whnf
                              refine cond_s (fun w110 => ?_) (fun w110 => ?_)
                              · replace hl2 := ift (or_u (or_f g102_21 g107_21) w110) hl2
                                obtain rfl := si hl2
                                replace hm := elr hm
                                obtain rfl := si hm
                                conv => whnf
                                refine EndStep.mk _ (((((((((((((((l15.trans l17).trans l23).trans lt0).trans l39).trans l57).trans l61).trans l66).trans l67).trans l72).trans l73).trans l78).trans l79).trans l83).trans lk2).trans l96) ⟨rfl, rfl⟩ (ConvH.of (.cons r8 .nil))
                              · replace hl2 := iff_ (or_f (or_f g102_21 g107_21) w110) hl2
                                conv => whnf
                                refine int_in (cntz hx2 hk2) ?_
                                conv => whnf
                                refine RoundStep.mk (i2 + 1, x96.2.2.2, a96_1, c96_1, m96_2) ⟨rfl, trivial⟩ (by repeat (first | exact trivial | refine And.intro rfl ?_)) (ConvH.of (.cons r1 (.cons r1 (.cons r1 (.cons r1 (.cons r1 (.cons r1 (.cons r1 (.cons r1 .nil))))))))) (lk2.trans l96) (ltm hx2) ⟨h96_1, hl2⟩
                        · rw [lty w2, law28_FanoutAborts_L2b.eq_1] at hl2
                          conv => whnf
                          refine cond_T ?_
                          conv => whnf
                          refine MeetStep.mk (y2_0, ay2_0_0, cy2_0_0, my2_0_1) trivial (by repeat (first | exact trivial | refine And.intro rfl ?_)) (ConvH.of (.cons r0 (.cons r0 (.cons r0 (.cons r0 (.cons r0 (.cons r0 (.cons r0 (.cons r0 .nil))))))))) lk2 ⟨hy2_0_0, (si hl2).symm⟩
                      · rintro ⟨t2, at2_0_0, ct2_0_0, mt2_0_1⟩ Kt2 lt2 ⟨ht2_0_0, rfl⟩ j2
                        replace hm := elg hm
                        obtain rfl := si hm
                        conv => whnf
                        refine EndStep.mk _ ((((((((((((((l15.trans l17).trans l23).trans lt0).trans l39).trans l57).trans l61).trans l66).trans l67).trans l72).trans l73).trans l78).trans l79).trans l83).trans lt2) ⟨rfl, rfl⟩ (ConvH.of (.cons r7 .nil))
