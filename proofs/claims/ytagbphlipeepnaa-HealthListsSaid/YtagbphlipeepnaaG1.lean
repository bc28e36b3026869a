/- Functions of the program: mirrors, and that a call returns what the mirror says. Printed by gen.py. -/
import Derived.Test.YtagbphlipeepnaaShelf
import Derived.Test.YtagbphlipeepnaaSL19
import Derived.KernelRfl
import Derived.Test.YtagbphlipeepnaaProg
set_option linter.unusedVariables false
set_option linter.unusedSimpArgs false
open Go Go.SL Go.Proofs
set_option maxRecDepth 30000
structure S_law32_Limits where
  Rise : Int
  Fall : Int
abbrev S_law32_Limits.enc (x : S_law32_Limits) : List Value := [.int .i64 x.Rise, .int .i64 x.Fall]
structure S_law32_Step where
  What : UInt8
  Node : UInt8
abbrev S_law32_Step.enc (x : S_law32_Step) : List Value := [.int .u8 (x.What.toNat : Int), .int .u8 (x.Node.toNat : Int)]
structure S_health_status where
  state : Int
  run : Int
abbrev S_health_status.enc (x : S_health_status) : List Value := [.int .i64 x.state, .int .i64 x.run]
structure S_health_Checks where
  rise : Int
  fall : Int
  nodes : (List (Str × S_health_status))
  drained : (List (Str × Bool))
structure S_ref32_Node where
  Name : Str
  Reports : (List Bool)
  Drained : Bool
def S_ref32_Node.R : Rp S_ref32_Node := fun K cs x => ∃ a_0 : Option Addr, ∃ c_0 : Nat, cs = [str x.Name, .slice a_0 x.Reports.length c_0, .bool x.Drained] ∧ RdC eB K a_0 c_0 1 x.Reports
theorem S_ref32_Node.R_ok : RpOK 3 S_ref32_Node.R :=
  ⟨fun hk ⟨a_0, c_0, e, h_0⟩ => ⟨a_0, c_0, e, (h_0.mono hk)⟩, fun ⟨a_0, c_0, e, h_0⟩ => by simp [e], fun ⟨a_0, c_0, e, h_0⟩ v hv => by rw [e] at hv; simp at hv; rcases hv with rfl | rfl | rfl <;> rfl⟩
theorem elT54 : ElT Try.prog 54 9 1 := ElT.mk' rfl rfl rfl rfl rfl
theorem elT45 : ElT Try.prog 45 4 1 := ElT.mk' rfl rfl rfl rfl rfl
theorem elT44 : ElT Try.prog 44 47 3 := ElT.mk' rfl rfl rfl rfl rfl
noncomputable def health_New (rise : Int) (fall : Int) : Option (Option S_health_Checks × Err) :=
  if (((decide (rise < 1) || decide (rise > 100)) || decide (fall < 1)) || decide (fall > 100)) then
  some (none, (some 1))
  else
  some ((some (⟨rise, fall, [], []⟩ : S_health_Checks)), none)
set_option maxHeartbeats 8000000 in
theorem health_New_ok {rise : Int} {fall : Int} {K : Hp} {r : Option S_health_Checks × Err}
    (hm : health_New rise fall = some r)  :
    Fn Try.prog 11 [.int .i64 rise, .int .i64 fall] K [] (fun v K' H' => match r.1 with | none => (v = .tuple #[.pointer none, errV 43 r.2] ∧ H' = []) | some ro => (∃ br_0 : Nat, ∃ mr_1 : Nat, ∃ mr_2 : Nat, v = .tuple #[.pointer (some ⟨br_0, 0, none⟩), errV 43 r.2] ∧ H' = [Cells br_0 64 [.int .i64 ro.rise, .int .i64 ro.fall, .map (some mr_1), .map (some mr_2)], MapE strK (fun x => .agg (S_health_status.enc x).toArray) mr_1 ro.nodes, MapE strK (fun x => .bool x) mr_2 ro.drained])) := by
  refine Fn.enter Try.func11 Try.call11 rfl fun F => ?_
  unfold health_New at hm
  conv => whnf
  refine cond_s (fun g8_1 => ?_) (fun g8_1 => ?_)
  · conv => whnf
    refine cond_t g8_1 ?_
    conv => whnf
    refine cond_t g8_1 ?_
    conv => whnf
    refine cond_T ?_
    conv => whnf
    refine cond_T ?_
    conv => whnf
    refine cond_T ?_
    conv => whnf
    refine cond_T ?_
    conv => whnf
    refine cond_T ?_
    conv => whnf
    refine cond_T ?_
    conv => whnf
    refine cond_go rfl ?_
    conv => whnf
    refine cond_T ?_
    replace hm := ift (or_t (or_t (or_t g8_1))) hm
    conv => whnf
    refine mk_iface rfl ?_
    obtain rfl := si hm
    conv => whnf
    refine EndStep.mk _ (Hp.Le.refl _) ⟨rfl, rfl⟩ (ConvH.of (.cons r0 .nil))
  · conv => whnf
    refine cond_f g8_1 ?_
    conv => whnf
    refine cond_f g8_1 ?_
    conv => whnf
    refine cond_s (fun g12_1 => ?_) (fun g12_1 => ?_)
    · conv => whnf
      refine cond_t g12_1 ?_
      conv => whnf
      refine cond_t g12_1 ?_
      conv => whnf
      refine cond_T ?_
      conv => whnf
      refine cond_T ?_
      conv => whnf
      refine cond_T ?_
      conv => whnf
      refine cond_go rfl ?_
      conv => whnf
      refine cond_T ?_
      replace hm := ift (or_t (or_t (or_u g8_1 g12_1))) hm
      conv => whnf
      refine mk_iface rfl ?_
      obtain rfl := si hm
      conv => whnf
      refine EndStep.mk _ (Hp.Le.refl _) ⟨rfl, rfl⟩ (ConvH.of (.cons r0 .nil))
    · conv => whnf
      refine cond_f g12_1 ?_
      conv => whnf
      refine cond_f g12_1 ?_
      conv => whnf
      refine cond_s (fun g16_1 => ?_) (fun g16_1 => ?_)
      · conv => whnf
        refine cond_t g16_1 ?_
        conv => whnf
        refine cond_t g16_1 ?_
        conv => whnf
        refine cond_go rfl ?_
        conv => whnf
        refine cond_T ?_
        replace hm := ift (or_t (or_u (or_f g8_1 g12_1) g16_1)) hm
        conv => whnf
        refine mk_iface rfl ?_
        obtain rfl := si hm
        conv => whnf
        refine EndStep.mk _ (Hp.Le.refl _) ⟨rfl, rfl⟩ (ConvH.of (.cons r0 .nil))
      · conv => whnf
        refine cond_f g16_1 ?_
        conv => whnf
        refine cond_f g16_1 ?_
        conv => whnf
        refine cond_go rfl ?_
        conv => whnf
        refine cond_s (fun w19 => ?_) (fun w19 => ?_)
        · replace hm := ift (or_u (or_f (or_f g8_1 g12_1) g16_1) w19) hm
          conv => whnf
          refine mk_iface rfl ?_
          obtain rfl := si hm
          conv => whnf
          refine EndStep.mk _ (Hp.Le.refl _) ⟨rfl, rfl⟩ (ConvH.of (.cons r0 .nil))
        · replace hm := iff_ (or_f (or_f (or_f g8_1 g12_1) g16_1) w19) hm
          conv => whnf
          refine makeMap_rule strK (fun x => .agg (S_health_status.enc x).toArray) fun b23 => ?_
          conv => whnf
          refine makeMap_rule strK (fun x => .bool x) fun b24 => ?_
          conv => whnf
          refine build_struct rfl rfl ?_
          conv => whnf
          refine cond_T ?_
          conv => whnf
          refine cond_T ?_
          conv => whnf
          refine cond_T ?_
          conv => whnf
          refine cond_T ?_
          conv => whnf
          refine box_rule ?_
          intro b26
          obtain rfl := si hm
          conv => whnf
          refine EndStep.mk _ (Hp.Le.refl _) ⟨b26, b23, b24, rfl, rfl⟩ (ConvH.of (.cons r0 (.cons r1 (.cons r0 (.cons r0 .nil)))))

noncomputable def health_Checks_Report (c : S_health_Checks) (node : Str) (ok : Bool) : Option (Int × S_health_Checks) :=
  if ok then
  if (decide (((mget c.nodes node).getD (⟨0, 0⟩ : S_health_status)).state = 0) || decide (((mget c.nodes node).getD (⟨0, 0⟩ : S_health_status)).state = 1)) then
  some (1, (⟨c.rise, c.fall, (mset c.nodes node (⟨1, 0⟩ : S_health_status)), c.drained⟩ : S_health_Checks))
  else
  (chk (InI (((mget c.nodes node).getD (⟨0, 0⟩ : S_health_status)).run + 1))).bind fun _ =>
  if decide ((((mget c.nodes node).getD (⟨0, 0⟩ : S_health_status)).run + 1) ≥ c.rise) then
  some (1, (⟨c.rise, c.fall, (mset c.nodes node (⟨1, 0⟩ : S_health_status)), c.drained⟩ : S_health_Checks))
  else
  (chk (InI (((mget c.nodes node).getD (⟨0, 0⟩ : S_health_status)).run + 1))).bind fun _ =>
  some (((mget c.nodes node).getD (⟨0, 0⟩ : S_health_status)).state, (⟨c.rise, c.fall, (mset c.nodes node (⟨((mget c.nodes node).getD (⟨0, 0⟩ : S_health_status)).state, (((mget c.nodes node).getD (⟨0, 0⟩ : S_health_status)).run + 1)⟩ : S_health_status)), c.drained⟩ : S_health_Checks))
  else
  if (decide (((mget c.nodes node).getD (⟨0, 0⟩ : S_health_status)).state = 0) || decide (((mget c.nodes node).getD (⟨0, 0⟩ : S_health_status)).state = 2)) then
  some (2, (⟨c.rise, c.fall, (mset c.nodes node (⟨2, 0⟩ : S_health_status)), c.drained⟩ : S_health_Checks))
  else
  (chk (InI (((mget c.nodes node).getD (⟨0, 0⟩ : S_health_status)).run + 1))).bind fun _ =>
  if decide ((((mget c.nodes node).getD (⟨0, 0⟩ : S_health_status)).run + 1) ≥ c.fall) then
  some (2, (⟨c.rise, c.fall, (mset c.nodes node (⟨2, 0⟩ : S_health_status)), c.drained⟩ : S_health_Checks))
  else
  (chk (InI (((mget c.nodes node).getD (⟨0, 0⟩ : S_health_status)).run + 1))).bind fun _ =>
  some (((mget c.nodes node).getD (⟨0, 0⟩ : S_health_status)).state, (⟨c.rise, c.fall, (mset c.nodes node (⟨((mget c.nodes node).getD (⟨0, 0⟩ : S_health_status)).state, (((mget c.nodes node).getD (⟨0, 0⟩ : S_health_status)).run + 1)⟩ : S_health_status)), c.drained⟩ : S_health_Checks))
set_option maxHeartbeats 8000000 in
theorem health_Checks_Report_ok {c : S_health_Checks} {node : Str} {ok : Bool} {b0 : Nat} {mp0_0 : Nat} {mp0_1 : Nat} {K : Hp} {r : Int × S_health_Checks}
    (hm : health_Checks_Report c node ok = some r)  :
    Fn Try.prog 12 [.pointer (some ⟨b0, 0, none⟩), str node, .bool ok] K [Cells b0 64 [.int .i64 c.rise, .int .i64 c.fall, .map (some mp0_0), .map (some mp0_1)], MapE strK (fun x => .agg (S_health_status.enc x).toArray) mp0_0 c.nodes, MapE strK (fun x => .bool x) mp0_1 c.drained] (fun v K' H' => ∃ mr_0 : Nat, ∃ mr_1 : Nat, v = .int .i64 r.1 ∧ H' = [Cells b0 64 [.int .i64 r.2.rise, .int .i64 r.2.fall, .map (some mr_0), .map (some mr_1)], MapE strK (fun x => .agg (S_health_status.enc x).toArray) mr_0 r.2.nodes, MapE strK (fun x => .bool x) mr_1 r.2.drained]) := by
  refine Fn.enter Try.func12 Try.call12 rfl fun F => ?_
  unfold health_Checks_Report at hm
  conv => whnf
  refine eq_ptr_nil rfl ?_
  conv => whnf
  refine cond_go rfl ?_
  conv => whnf
  refine cond_F ?_
  conv => whnf
  refine ⟨⟨⟨[], false⟩, _, [(_, _)]⟩, by kernel_rfl, ⟨Hp.Le.refl _, (ConvH.of (.cons r0 .nil))⟩, ?_⟩
  conv => whnf
  refine nil_check ?_
  conv => whnf
  refine field_addr rfl ?_
  conv => whnf
  refine load1_l m0 rfl rfl ?_
  conv => whnf
  refine cond_go rfl ?_
  conv => whnf
  refine cond_s (fun w16 => ?_) (fun w16 => ?_)
  · replace hm := ift w16 hm
    conv => whnf
    refine ⟨⟨⟨[], false⟩, _, [(_, _)]⟩, by kernel_rfl, ⟨Hp.Le.refl _, (ConvH.of (.cons r0 .nil))⟩, ?_⟩
    conv => whnf
    refine nil_check ?_
    conv => whnf
    refine field_addr rfl ?_
    conv => whnf
    refine load1_l m0 rfl rfl ?_
    conv => whnf
    refine nil_check ?_
    conv => whnf
    refine field_addr rfl ?_
    conv => whnf
    refine RStep.of (load1_s r0 rfl rfl ?_)
    conv => whnf
    refine RStep.of (lookup_rule (kenc := strK) (venc := (fun x => .agg (S_health_status.enc x).toArray)) (z := (⟨0, 0⟩ : S_health_status)) r1 rfl rfl (key_str rfl) ?_)
    conv => whnf
    refine alloc_rule rfl ?_
    intro b9
    conv => whnf
    refine store_rule r0 rfl ?_
    conv => whnf
    refine ⟨rfl, rfl, (Nat.le_of_ble_eq_true rfl), ?_⟩
    conv => whnf
    refine block_go rfl ?_
    conv => whnf
    refine field_addr rfl ?_
    conv => whnf
    refine RStep.of (load1_s r0 rfl rfl ?_)
    conv => whnf
    refine eq_int ?_
    conv => whnf
    refine cond_s (fun g35_8 => ?_) (fun g35_8 => ?_)
    · conv => whnf
      refine cond_t g35_8 ?_
      conv => whnf
      refine cond_t g35_8 ?_
      conv => whnf
      refine cond_t g35_8 ?_
      conv => whnf
      refine cond_t g35_8 ?_
      conv => whnf
      refine cond_go rfl ?_
      conv => whnf
      refine cond_T ?_
      replace hm := ift (or_t g35_8) hm
      conv => whnf
      refine build_struct rfl rfl ?_
      conv => whnf
      refine cond_T ?_
      conv => whnf
      refine store_rule r0 rfl ?_
      conv => whnf
      refine ⟨rfl, rfl, (Nat.le_of_ble_eq_true rfl), ?_⟩
      conv => whnf
      refine ⟨⟨⟨[], false⟩, _, [(_, _), (_, _)]⟩, by kernel_rfl, ⟨Hp.Le.refl _, (ConvH.of (.cons r1 (.cons r0 .nil)))⟩, ?_⟩
      conv => whnf
      refine nil_check ?_
      conv => whnf
      refine field_addr rfl ?_
      conv => whnf
      refine load1_l m0 rfl rfl ?_
      conv => whnf
      refine loadn_l m1 rfl (Nat.le_of_ble_eq_true rfl) ?_
      conv => whnf
      refine update_rule (kenc := strK) (venc := (fun x => .agg (S_health_status.enc x).toArray)) (⟨1, 0⟩ : S_health_status) rfl r2 rfl (key_str rfl) ?_
      conv => whnf
      refine ⟨⟨(Hp.Le.refl _), (ConvH.of (.cons r2 (.cons r1 .nil)))⟩, ?_⟩
      conv => whnf
      refine field_addr rfl ?_
      conv => whnf
      refine RStep.of (load1_s r1 rfl rfl ?_)
      obtain rfl := si hm
      conv => whnf
      refine EndStep.mk _ (Hp.Le.refl _) ⟨mp0_0, mp0_1, rfl, rfl⟩ (ConvH.of (.cons r2 (.cons r0 (.cons r1 (.cons r1 .nil)))))
    · conv => whnf
      refine field_addr rfl ?_
      conv => whnf
      refine cond_f g35_8 ?_
      conv => whnf
      refine RStep.of (load1_s r0 rfl rfl ?_)
      conv => whnf
      refine cond_f g35_8 ?_
      conv => whnf
      refine cond_f g35_8 ?_
      conv => whnf
      refine eq_int ?_
      conv => whnf
      refine cond_f g35_8 ?_
      conv => whnf
      refine cond_go rfl ?_
      conv => whnf
      refine cond_s (fun w31 => ?_) (fun w31 => ?_)
      · replace hm := ift (or_u g35_8 w31) hm
        conv => whnf
        refine build_struct rfl rfl ?_
        conv => whnf
        refine cond_T ?_
        conv => whnf
        refine store_rule r0 rfl ?_
        conv => whnf
        refine ⟨rfl, rfl, (Nat.le_of_ble_eq_true rfl), ?_⟩
        conv => whnf
        refine ⟨⟨⟨[], false⟩, _, [(_, _), (_, _)]⟩, by kernel_rfl, ⟨Hp.Le.refl _, (ConvH.of (.cons r1 (.cons r0 .nil)))⟩, ?_⟩
        conv => whnf
        refine nil_check ?_
        conv => whnf
        refine field_addr rfl ?_
        conv => whnf
        refine load1_l m0 rfl rfl ?_
        conv => whnf
        refine loadn_l m1 rfl (Nat.le_of_ble_eq_true rfl) ?_
        conv => whnf
        refine update_rule (kenc := strK) (venc := (fun x => .agg (S_health_status.enc x).toArray)) (⟨1, 0⟩ : S_health_status) rfl r2 rfl (key_str rfl) ?_
        conv => whnf
        refine ⟨⟨(Hp.Le.refl _), (ConvH.of (.cons r2 (.cons r1 .nil)))⟩, ?_⟩
        conv => whnf
        refine field_addr rfl ?_
        conv => whnf
        refine RStep.of (load1_s r1 rfl rfl ?_)
        obtain rfl := si hm
        conv => whnf
        refine EndStep.mk _ (Hp.Le.refl _) ⟨mp0_0, mp0_1, rfl, rfl⟩ (ConvH.of (.cons r2 (.cons r0 (.cons r1 (.cons r1 .nil)))))
      · replace hm := iff_ (or_f g35_8 w31) hm
        conv => whnf
        refine field_addr rfl ?_
        conv => whnf
        refine RStep.of (load1_s r0 rfl rfl ?_)
        obtain ⟨h46, hm⟩ := chkb hm
        conv => whnf
        refine int_in h46 ?_
        conv => whnf
        refine cond_go rfl ?_
        conv => whnf
        refine cond_s (fun w43 => ?_) (fun w43 => ?_)
        · replace hm := ift w43 hm
          conv => whnf
          refine build_struct rfl rfl ?_
          conv => whnf
          refine cond_T ?_
          conv => whnf
          refine store_rule r0 rfl ?_
          conv => whnf
          refine ⟨rfl, rfl, (Nat.le_of_ble_eq_true rfl), ?_⟩
          conv => whnf
          refine ⟨⟨⟨[], false⟩, _, [(_, _), (_, _)]⟩, by kernel_rfl, ⟨Hp.Le.refl _, (ConvH.of (.cons r1 (.cons r0 .nil)))⟩, ?_⟩
          conv => whnf
          refine nil_check ?_
          conv => whnf
          refine field_addr rfl ?_
          conv => whnf
          refine load1_l m0 rfl rfl ?_
          conv => whnf
          refine loadn_l m1 rfl (Nat.le_of_ble_eq_true rfl) ?_
          conv => whnf
          refine update_rule (kenc := strK) (venc := (fun x => .agg (S_health_status.enc x).toArray)) (⟨1, 0⟩ : S_health_status) rfl r2 rfl (key_str rfl) ?_
          conv => whnf
          refine ⟨⟨(Hp.Le.refl _), (ConvH.of (.cons r2 (.cons r1 .nil)))⟩, ?_⟩
          conv => whnf
          refine field_addr rfl ?_
          conv => whnf
          refine RStep.of (load1_s r1 rfl rfl ?_)
          obtain rfl := si hm
          conv => whnf
          refine EndStep.mk _ (Hp.Le.refl _) ⟨mp0_0, mp0_1, rfl, rfl⟩ (ConvH.of (.cons r2 (.cons r0 (.cons r1 (.cons r1 .nil)))))
        · replace hm := iff_ w43 hm
          conv => whnf
          refine field_addr rfl ?_
          conv => whnf
          refine RStep.of (load1_s r0 rfl rfl ?_)
          obtain ⟨h29, hm⟩ := chkb hm
          conv => whnf
          refine int_in h29 ?_
          conv => whnf
          refine field_addr rfl ?_
          conv => whnf
          refine store_rule r0 rfl ?_
          conv => whnf
          refine ⟨rfl, rfl, (Nat.le_of_ble_eq_true rfl), ?_⟩
          conv => whnf
          refine ⟨⟨⟨[], false⟩, _, [(_, _), (_, _)]⟩, by kernel_rfl, ⟨Hp.Le.refl _, (ConvH.of (.cons r1 (.cons r0 .nil)))⟩, ?_⟩
          conv => whnf
          refine nil_check ?_
          conv => whnf
          refine field_addr rfl ?_
          conv => whnf
          refine load1_l m0 rfl rfl ?_
          conv => whnf
          refine loadn_l m1 rfl (Nat.le_of_ble_eq_true rfl) ?_
          conv => whnf
          refine update_rule (kenc := strK) (venc := (fun x => .agg (S_health_status.enc x).toArray)) (⟨((mget c.nodes node).getD (⟨0, 0⟩ : S_health_status)).state, (((mget c.nodes node).getD (⟨0, 0⟩ : S_health_status)).run + 1)⟩ : S_health_status) rfl r2 rfl (key_str rfl) ?_
          conv => whnf
          refine ⟨⟨(Hp.Le.refl _), (ConvH.of (.cons r2 (.cons r1 .nil)))⟩, ?_⟩
          conv => whnf
          refine field_addr rfl ?_
          conv => whnf
          refine RStep.of (load1_s r1 rfl rfl ?_)
          obtain rfl := si hm
          conv => whnf
          refine EndStep.mk _ (Hp.Le.refl _) ⟨mp0_0, mp0_1, rfl, rfl⟩ (ConvH.of (.cons r2 (.cons r0 (.cons r1 (.cons r1 .nil)))))
  · replace hm := iff_ w16 hm
    conv => whnf
    refine nil_check ?_
    conv => whnf
    refine field_addr rfl ?_
    conv => whnf
    refine RStep.of (load1_s r0 rfl rfl ?_)
    conv => whnf
    refine RStep.of (lookup_rule (kenc := strK) (venc := (fun x => .agg (S_health_status.enc x).toArray)) (z := (⟨0, 0⟩ : S_health_status)) r1 rfl rfl (key_str rfl) ?_)
    conv => whnf
    refine alloc_rule rfl ?_
    intro b9
    conv => whnf
    refine store_rule r0 rfl ?_
    conv => whnf
    refine ⟨rfl, rfl, (Nat.le_of_ble_eq_true rfl), ?_⟩
    conv => whnf
    refine block_go rfl ?_
    conv => whnf
    refine field_addr rfl ?_
    conv => whnf
    refine RStep.of (load1_s r0 rfl rfl ?_)
    conv => whnf
    refine eq_int ?_
    conv => whnf
    refine cond_s (fun g35_8 => ?_) (fun g35_8 => ?_)
    · conv => whnf
      refine cond_t g35_8 ?_
      conv => whnf
      refine cond_t g35_8 ?_
      conv => whnf
      refine cond_t g35_8 ?_
      conv => whnf
      refine cond_t g35_8 ?_
      conv => whnf
      refine cond_go rfl ?_
      conv => whnf
      refine cond_T ?_
      replace hm := ift (or_t g35_8) hm
      conv => whnf
      refine build_struct rfl rfl ?_
      conv => whnf
      refine cond_T ?_
      conv => whnf
      refine store_rule r0 rfl ?_
      conv => whnf
      refine ⟨rfl, rfl, (Nat.le_of_ble_eq_true rfl), ?_⟩
      conv => whnf
      refine ⟨⟨⟨[], false⟩, _, [(_, _), (_, _)]⟩, by kernel_rfl, ⟨Hp.Le.refl _, (ConvH.of (.cons r1 (.cons r0 .nil)))⟩, ?_⟩
      conv => whnf
      refine nil_check ?_
      conv => whnf
      refine field_addr rfl ?_
      conv => whnf
      refine load1_l m0 rfl rfl ?_
      conv => whnf
      refine loadn_l m1 rfl (Nat.le_of_ble_eq_true rfl) ?_
      conv => whnf
      refine update_rule (kenc := strK) (venc := (fun x => .agg (S_health_status.enc x).toArray)) (⟨2, 0⟩ : S_health_status) rfl r2 rfl (key_str rfl) ?_
      conv => whnf
      refine ⟨⟨(Hp.Le.refl _), (ConvH.of (.cons r2 (.cons r1 .nil)))⟩, ?_⟩
      conv => whnf
      refine field_addr rfl ?_
      conv => whnf
      refine RStep.of (load1_s r1 rfl rfl ?_)
      obtain rfl := si hm
      conv => whnf
      refine EndStep.mk _ (Hp.Le.refl _) ⟨mp0_0, mp0_1, rfl, rfl⟩ (ConvH.of (.cons r2 (.cons r0 (.cons r1 (.cons r1 .nil)))))
    · conv => whnf
      refine field_addr rfl ?_
      conv => whnf
      refine cond_f g35_8 ?_
      conv => whnf
      refine RStep.of (load1_s r0 rfl rfl ?_)
      conv => whnf
      refine cond_f g35_8 ?_
      conv => whnf
      refine cond_f g35_8 ?_
      conv => whnf
      refine eq_int ?_
      conv => whnf
      refine cond_f g35_8 ?_
      conv => whnf
      refine cond_go rfl ?_
      conv => whnf
      refine cond_s (fun w31 => ?_) (fun w31 => ?_)
      · replace hm := ift (or_u g35_8 w31) hm
        conv => whnf
        refine build_struct rfl rfl ?_
        conv => whnf
        refine cond_T ?_
        conv => whnf
        refine store_rule r0 rfl ?_
        conv => whnf
        refine ⟨rfl, rfl, (Nat.le_of_ble_eq_true rfl), ?_⟩
        conv => whnf
        refine ⟨⟨⟨[], false⟩, _, [(_, _), (_, _)]⟩, by kernel_rfl, ⟨Hp.Le.refl _, (ConvH.of (.cons r1 (.cons r0 .nil)))⟩, ?_⟩
        conv => whnf
        refine nil_check ?_
        conv => whnf
        refine field_addr rfl ?_
        conv => whnf
        refine load1_l m0 rfl rfl ?_
        conv => whnf
        refine loadn_l m1 rfl (Nat.le_of_ble_eq_true rfl) ?_
        conv => whnf
        refine update_rule (kenc := strK) (venc := (fun x => .agg (S_health_status.enc x).toArray)) (⟨2, 0⟩ : S_health_status) rfl r2 rfl (key_str rfl) ?_
        conv => whnf
        refine ⟨⟨(Hp.Le.refl _), (ConvH.of (.cons r2 (.cons r1 .nil)))⟩, ?_⟩
        conv => whnf
        refine field_addr rfl ?_
        conv => whnf
        refine RStep.of (load1_s r1 rfl rfl ?_)
        obtain rfl := si hm
        conv => whnf
        refine EndStep.mk _ (Hp.Le.refl _) ⟨mp0_0, mp0_1, rfl, rfl⟩ (ConvH.of (.cons r2 (.cons r0 (.cons r1 (.cons r1 .nil)))))
      · replace hm := iff_ (or_f g35_8 w31) hm
        conv => whnf
        refine field_addr rfl ?_
        conv => whnf
        refine RStep.of (load1_s r0 rfl rfl ?_)
        obtain ⟨h46, hm⟩ := chkb hm
        conv => whnf
        refine int_in h46 ?_
        conv => whnf
        refine cond_go rfl ?_
        conv => whnf
        refine cond_s (fun w43 => ?_) (fun w43 => ?_)
        · replace hm := ift w43 hm
          conv => whnf
          refine build_struct rfl rfl ?_
          conv => whnf
          refine cond_T ?_
          conv => whnf
          refine store_rule r0 rfl ?_
          conv => whnf
          refine ⟨rfl, rfl, (Nat.le_of_ble_eq_true rfl), ?_⟩
          conv => whnf
          refine ⟨⟨⟨[], false⟩, _, [(_, _), (_, _)]⟩, by kernel_rfl, ⟨Hp.Le.refl _, (ConvH.of (.cons r1 (.cons r0 .nil)))⟩, ?_⟩
          conv => whnf
          refine nil_check ?_
          conv => whnf
          refine field_addr rfl ?_
          conv => whnf
          refine load1_l m0 rfl rfl ?_
          conv => whnf
          refine loadn_l m1 rfl (Nat.le_of_ble_eq_true rfl) ?_
          conv => whnf
          refine update_rule (kenc := strK) (venc := (fun x => .agg (S_health_status.enc x).toArray)) (⟨2, 0⟩ : S_health_status) rfl r2 rfl (key_str rfl) ?_
          conv => whnf
          refine ⟨⟨(Hp.Le.refl _), (ConvH.of (.cons r2 (.cons r1 .nil)))⟩, ?_⟩
          conv => whnf
          refine field_addr rfl ?_
          conv => whnf
          refine RStep.of (load1_s r1 rfl rfl ?_)
          obtain rfl := si hm
          conv => whnf
          refine EndStep.mk _ (Hp.Le.refl _) ⟨mp0_0, mp0_1, rfl, rfl⟩ (ConvH.of (.cons r2 (.cons r0 (.cons r1 (.cons r1 .nil)))))
        · replace hm := iff_ w43 hm
          conv => whnf
          refine field_addr rfl ?_
          conv => whnf
          refine RStep.of (load1_s r0 rfl rfl ?_)
          obtain ⟨h29, hm⟩ := chkb hm
          conv => whnf
          refine int_in h29 ?_
          conv => whnf
          refine field_addr rfl ?_
          conv => whnf
          refine store_rule r0 rfl ?_
          conv => whnf
          refine ⟨rfl, rfl, (Nat.le_of_ble_eq_true rfl), ?_⟩
          conv => whnf
          refine ⟨⟨⟨[], false⟩, _, [(_, _), (_, _)]⟩, by kernel_rfl, ⟨Hp.Le.refl _, (ConvH.of (.cons r1 (.cons r0 .nil)))⟩, ?_⟩
          conv => whnf
          refine nil_check ?_
          conv => whnf
          refine field_addr rfl ?_
          conv => whnf
          refine load1_l m0 rfl rfl ?_
          conv => whnf
          refine loadn_l m1 rfl (Nat.le_of_ble_eq_true rfl) ?_
          conv => whnf
          refine update_rule (kenc := strK) (venc := (fun x => .agg (S_health_status.enc x).toArray)) (⟨((mget c.nodes node).getD (⟨0, 0⟩ : S_health_status)).state, (((mget c.nodes node).getD (⟨0, 0⟩ : S_health_status)).run + 1)⟩ : S_health_status) rfl r2 rfl (key_str rfl) ?_
          conv => whnf
          refine ⟨⟨(Hp.Le.refl _), (ConvH.of (.cons r2 (.cons r1 .nil)))⟩, ?_⟩
          conv => whnf
          refine field_addr rfl ?_
          conv => whnf
          refine RStep.of (load1_s r1 rfl rfl ?_)
          obtain rfl := si hm
          conv => whnf
          refine EndStep.mk _ (Hp.Le.refl _) ⟨mp0_0, mp0_1, rfl, rfl⟩ (ConvH.of (.cons r2 (.cons r0 (.cons r1 (.cons r1 .nil)))))

noncomputable def health_Checks_Report_nil (node : Str) (ok : Bool) : Option (Int) :=
  some 0
set_option maxHeartbeats 8000000 in
theorem health_Checks_Report_nil_ok {node : Str} {ok : Bool} {K : Hp} {r : Int}
    (hm : health_Checks_Report_nil node ok = some r)  :
    Fn Try.prog 12 [.pointer none, str node, .bool ok] K [] (fun v K' H' => v = .int .i64 r ∧ H' = []) := by
  refine Fn.enter Try.func12 Try.call12 rfl fun F => ?_
  unfold health_Checks_Report_nil at hm
  conv => whnf
  refine eq_nil_nil rfl ?_
  conv => whnf
  refine cond_go rfl ?_
  conv => whnf
  refine cond_T ?_
  obtain rfl := si hm
  conv => whnf
  refine EndStep.mk _ (Hp.Le.refl _) ⟨rfl, rfl⟩ (ConvH.of (.cons r0 .nil))

noncomputable def law32_awake : Option (Bool) :=
  (health_New 1 2).bind fun x4 =>
  Option.elim x4.1 (
  if x4.2.isNone then
  (health_Checks_Report_nil ([97] : Str) true).bind fun x11 =>
  if decide (x11 = 1) then
  (health_Checks_Report_nil ([97] : Str) false).bind fun x16 =>
  if decide (x16 = 1) then
  (health_Checks_Report_nil ([97] : Str) false).bind fun x21 =>
  some (decide (x21 = 2))
  else
  some false
  else
  some false
  else
  some false)
   fun o4 =>
  if x4.2.isNone then
  (health_Checks_Report o4 ([97] : Str) true).bind fun x11 =>
  if decide (x11.1 = 1) then
  (health_Checks_Report x11.2 ([97] : Str) false).bind fun x16 =>
  if decide (x16.1 = 1) then
  (health_Checks_Report x16.2 ([97] : Str) false).bind fun x21 =>
  some (decide (x21.1 = 2))
  else
  some false
  else
  some false
  else
  some false
set_option maxHeartbeats 8000000 in
theorem law32_awake_ok  {K : Hp} {r : Bool}
    (hm : law32_awake = some r)  :
    Fn Try.prog 10 [] K [] (fun v K' H' => v = .bool r ∧ H' = []) := by
  refine Fn.enter Try.func10 Try.call10 rfl fun F => ?_
  unfold law32_awake at hm
  obtain ⟨x4, q4, hm⟩ := bnd hm
  conv => whnf
  refine call_fn (health_New_ok q4) .nil ?_
  rintro v4 K4 H4 l4 p4
  rcases hq4 : x4.1 with _ | o4
  · rw [hq4] at p4 hm
    obtain ⟨rfl, rfl⟩ := p4
    replace hm := oe_n hm
    conv => whnf
    refine eq_err rfl ?_
    conv => whnf
    refine cond_s (fun g9_2 => ?_) (fun g9_2 => ?_)
    · replace hm := ift g9_2 hm
      conv => whnf
      refine cond_t g9_2 ?_
      obtain ⟨x11, q11, hm⟩ := bnd hm
      conv => whnf
      refine call_fn (health_Checks_Report_nil_ok q11) .nil ?_
      rintro _ K11 _ l11 ⟨rfl, rfl⟩
      conv => whnf
      refine cond_t g9_2 ?_
      conv => whnf
      refine eq_int ?_
      conv => whnf
      refine cond_t g9_2 ?_
      conv => whnf
      refine cond_s (fun g14_2 => ?_) (fun g14_2 => ?_)
      · replace hm := ift g14_2 hm
        conv => whnf
        refine cond_t g14_2 ?_
        obtain ⟨x16, q16, hm⟩ := bnd hm
        conv => whnf
        refine call_fn (health_Checks_Report_nil_ok q16) .nil ?_
        rintro _ K16 _ l16 ⟨rfl, rfl⟩
        conv => whnf
        refine cond_t g14_2 ?_
        conv => whnf
        refine eq_int ?_
        conv => whnf
        refine cond_t g14_2 ?_
        conv => whnf
        refine cond_s (fun g19_2 => ?_) (fun g19_2 => ?_)
        · replace hm := ift g19_2 hm
          conv => whnf
          refine cond_t g19_2 ?_
          obtain ⟨x21, q21, hm⟩ := bnd hm
          conv => whnf
          refine call_fn (health_Checks_Report_nil_ok q21) .nil ?_
          rintro _ K21 _ l21 ⟨rfl, rfl⟩
          conv => whnf
          refine cond_t g19_2 ?_
          conv => whnf
          refine eq_int ?_
          conv => whnf
          refine cond_t g19_2 ?_
          obtain rfl := si hm
          conv => whnf
          refine EndStep.mk _ (((l4.trans l11).trans l16).trans l21) ⟨rfl, rfl⟩ (ConvH.of (.cons r0 .nil))
        · replace hm := iff_ g19_2 hm
          conv => whnf
          refine cond_f g19_2 ?_
          conv => whnf
          refine cond_f g19_2 ?_
          conv => whnf
          refine cond_f g19_2 ?_
          obtain rfl := si hm
          conv => whnf
          refine EndStep.mk _ ((l4.trans l11).trans l16) ⟨rfl, rfl⟩ (ConvH.of (.cons r0 .nil))
      · replace hm := iff_ g14_2 hm
        conv => whnf
        refine cond_f g14_2 ?_
        conv => whnf
        refine cond_f g14_2 ?_
        conv => whnf
        refine cond_f g14_2 ?_
        conv => whnf
        refine cond_F ?_
        conv => whnf
        refine cond_F ?_
        conv => whnf
        refine cond_F ?_
        conv => whnf
        refine cond_F ?_
        obtain rfl := si hm
        conv => whnf
        refine EndStep.mk _ (l4.trans l11) ⟨rfl, rfl⟩ (ConvH.of (.cons r0 .nil))
    · replace hm := iff_ g9_2 hm
      conv => whnf
      refine cond_f g9_2 ?_
      conv => whnf
      refine cond_f g9_2 ?_
      conv => whnf
      refine cond_f g9_2 ?_
      conv => whnf
      refine cond_F ?_
      conv => whnf
      refine cond_F ?_
      conv => whnf
      refine cond_F ?_
      conv => whnf
      refine cond_F ?_
      conv => whnf
      refine cond_F ?_
      conv => whnf
      refine cond_F ?_
      conv => whnf
      refine cond_F ?_
      conv => whnf
      refine cond_F ?_
      obtain rfl := si hm
      conv => whnf
      refine EndStep.mk _ l4 ⟨rfl, rfl⟩ (ConvH.of (.cons r0 .nil))
  · rw [hq4] at p4 hm
    obtain ⟨b4_0, m4_1, m4_2, rfl, rfl⟩ := p4
    replace hm := oe_s hm
    conv => whnf
    refine eq_err rfl ?_
    conv => whnf
    refine cond_s (fun g9_2 => ?_) (fun g9_2 => ?_)
    · replace hm := ift g9_2 hm
      conv => whnf
      refine cond_t g9_2 ?_
      obtain ⟨x11, q11, hm⟩ := bnd hm
      conv => whnf
      refine call_fn (health_Checks_Report_ok q11) (.cons r0 (.cons r0 (.cons r0 .nil))) ?_
      rintro _ K11 _ l11 ⟨m11_0, m11_1, rfl, rfl⟩
      conv => whnf
      refine cond_t g9_2 ?_
      conv => whnf
      refine eq_int ?_
      conv => whnf
      refine cond_t g9_2 ?_
      conv => whnf
      refine cond_s (fun g14_2 => ?_) (fun g14_2 => ?_)
      · replace hm := ift g14_2 hm
        conv => whnf
        refine cond_t g14_2 ?_
        obtain ⟨x16, q16, hm⟩ := bnd hm
        conv => whnf
        refine call_fn (health_Checks_Report_ok q16) (.cons r0 (.cons r0 (.cons r0 .nil))) ?_
        rintro _ K16 _ l16 ⟨m16_0, m16_1, rfl, rfl⟩
        conv => whnf
        refine cond_t g14_2 ?_
        conv => whnf
        refine eq_int ?_
        conv => whnf
        refine cond_t g14_2 ?_
        conv => whnf
        refine cond_s (fun g19_2 => ?_) (fun g19_2 => ?_)
        · replace hm := ift g19_2 hm
          conv => whnf
          refine cond_t g19_2 ?_
          obtain ⟨x21, q21, hm⟩ := bnd hm
          conv => whnf
          refine call_fn (health_Checks_Report_ok q21) (.cons r0 (.cons r0 (.cons r0 .nil))) ?_
          rintro _ K21 _ l21 ⟨m21_0, m21_1, rfl, rfl⟩
          conv => whnf
          refine cond_t g19_2 ?_
          conv => whnf
          refine eq_int ?_
          conv => whnf
          refine cond_t g19_2 ?_
          obtain rfl := si hm
          conv => whnf
          refine EndStep.mk _ (((l4.trans l11).trans l16).trans l21) ⟨rfl, rfl⟩ (ConvH.of (.cons r3 .nil))
        · replace hm := iff_ g19_2 hm
          conv => whnf
          refine cond_f g19_2 ?_
          conv => whnf
          refine cond_f g19_2 ?_
          conv => whnf
          refine cond_f g19_2 ?_
          obtain rfl := si hm
          conv => whnf
          refine EndStep.mk _ ((l4.trans l11).trans l16) ⟨rfl, rfl⟩ (ConvH.of (.cons r3 .nil))
      · replace hm := iff_ g14_2 hm
        conv => whnf
        refine cond_f g14_2 ?_
        conv => whnf
        refine cond_f g14_2 ?_
        conv => whnf
        refine cond_f g14_2 ?_
        conv => whnf
        refine cond_F ?_
        conv => whnf
        refine cond_F ?_
        conv => whnf
        refine cond_F ?_
        conv => whnf
        refine cond_F ?_
        obtain rfl := si hm
        conv => whnf
        refine EndStep.mk _ (l4.trans l11) ⟨rfl, rfl⟩ (ConvH.of (.cons r3 .nil))
    · replace hm := iff_ g9_2 hm
      conv => whnf
      refine cond_f g9_2 ?_
      conv => whnf
      refine cond_f g9_2 ?_
      conv => whnf
      refine cond_f g9_2 ?_
      conv => whnf
      refine cond_F ?_
      conv => whnf
      refine cond_F ?_
      conv => whnf
      refine cond_F ?_
      conv => whnf
      refine cond_F ?_
      conv => whnf
      refine cond_F ?_
      conv => whnf
      refine cond_F ?_
      conv => whnf
      refine cond_F ?_
      conv => whnf
      refine cond_F ?_
      obtain rfl := si hm
      conv => whnf
      refine EndStep.mk _ l4 ⟨rfl, rfl⟩ (ConvH.of (.cons r3 .nil))

noncomputable def base_Num (e : Err) : Option (Int) :=
  if e.isNone then
  some 0
  else
  if (!e.isSome) then
  some (-1)
  else
  some (e.getD 0)
set_option maxHeartbeats 8000000 in
theorem base_Num_ok {e : Err} {K : Hp} {r : Int}
    (hm : base_Num e = some r)  :
    Fn Try.prog 29 [errV 43 e] K [] (fun v K' H' => v = .int .i64 r ∧ H' = []) := by
  refine Fn.enter Try.func29 Try.call29 rfl fun F => ?_
  unfold base_Num at hm
  conv => whnf
  refine eq_err rfl ?_
  conv => whnf
  refine cond_go rfl ?_
  conv => whnf
  refine cond_s (fun w6 => ?_) (fun w6 => ?_)
  · replace hm := ift w6 hm
    obtain rfl := si hm
    conv => whnf
    refine EndStep.mk _ (Hp.Le.refl _) ⟨rfl, rfl⟩ (ConvH.of (.cons r0 .nil))
  · replace hm := iff_ w6 hm
    conv => whnf
    refine asrt rfl rfl rfl ?_
    conv => whnf
    refine un_not ?_
    conv => whnf
    refine cond_go rfl ?_
    conv => whnf
    refine cond_s (fun w13 => ?_) (fun w13 => ?_)
    · replace hm := ift (not_t (ni_t w13)) hm
      obtain rfl := si hm
      conv => whnf
      refine EndStep.mk _ (Hp.Le.refl _) ⟨rfl, rfl⟩ (ConvH.of (.cons r0 .nil))
    · replace hm := iff_ (not_f (ni_f w13)) hm
      obtain rfl := si hm
      conv => whnf
      refine EndStep.mk _ (Hp.Le.refl _) ⟨rfl, rfl⟩ (ConvH.of (.cons r0 .nil))

noncomputable def base_Is (e : Err) (want : Int) : Option (Bool) :=
  (base_Num e).bind fun x6 =>
  some (decide (x6 = want) && decide (want ≠ 0))
set_option maxHeartbeats 8000000 in
theorem base_Is_ok {e : Err} {want : Int} {K : Hp} {r : Bool}
    (hm : base_Is e want = some r)  :
    Fn Try.prog 18 [errV 43 e, .int .i64 want] K [] (fun v K' H' => v = .bool r ∧ H' = []) := by
  refine Fn.enter Try.func18 Try.call18 rfl fun F => ?_
  unfold base_Is at hm
  obtain ⟨x6, q6, hm⟩ := bnd hm
  conv => whnf
  refine call_fn (base_Num_ok q6) .nil ?_
  rintro _ K6 _ l6 ⟨rfl, rfl⟩
  conv => whnf
  refine eq_int ?_
  conv => whnf
  refine cond_s (fun g9_1 => ?_) (fun g9_1 => ?_)
  · conv => whnf
    refine cond_t g9_1 ?_
    conv => whnf
    refine neq_int ?_
    conv => whnf
    refine cond_t g9_1 ?_
    obtain rfl := si hm
    conv => whnf
    refine EndStep.mk _ l6 ⟨(by rw [← (and_e (b := decide (want ≠ 0)) g9_1)] <;> rfl), rfl⟩ (ConvH.of (.cons r0 .nil))
  · conv => whnf
    refine cond_f g9_1 ?_
    conv => whnf
    refine cond_f g9_1 ?_
    obtain rfl := si hm
    conv => whnf
    refine EndStep.mk _ l6 ⟨(by rw [← ((and_f g9_1)).symm] <;> rfl), rfl⟩ (ConvH.of (.cons r0 .nil))

noncomputable def law32_name (k : UInt8) : Option (Str) :=
  (ix ([([98] : Str), ([97] : Str), ([99] : Str), ([] : Str), ([115, 104, 105, 101, 108, 100, 32, 57] : Str)]) ((k % (5 : UInt8)).toNat : Int)).bind fun x6 =>
  some x6
set_option maxHeartbeats 8000000 in
theorem law32_name_ok {k : UInt8} {K : Hp} {r : Str}
    (hm : law32_name k = some r)  :
    Fn Try.prog 15 [.int .u8 (k.toNat : Int)] K [] (fun v K' H' => v = str r ∧ H' = []) := by
  refine Fn.enter Try.func15 Try.call15 rfl fun F => ?_
  unfold law32_name at hm
  conv => whnf
  refine bsO (len := 5) (enc := eS) (l := [([98] : Str), ([97] : Str), ([99] : Str), ([] : Str), ([115, 104, 105, 101, 108, 100, 32, 57] : Str)]) (cl := [str ([98] : Str), str ([97] : Str), str ([99] : Str), str ([] : Str), str ([115, 104, 105, 101, 108, 100, 32, 57] : Str)]) elT54 rfl rfl (fun _ _ => rfl) rfl rfl rfl ?_ fun b3 => ?_
  · conv => whnf
    refine cond_T ?_
    conv => whnf
    refine cond_T ?_
    conv => whnf
    refine cond_T ?_
    conv => whnf
    refine cond_T ?_
    conv => whnf
    refine cond_T ?_
    conv => whnf
  conv => whnf
  refine u8_rem (x := k) (y := (5 : UInt8)) rfl rfl (by decide) ?_
  obtain ⟨x6, l6, k6, hm⟩ := ixb hm
  conv => whnf
  refine RStep.ofN (index_addr rfl rfl (hasO (fun _ => ⟨_, _, rfl⟩) k6) l6 (lt_ofE rfl l6 k6) ?_)
  conv => whnf
  refine RStep.of (ld_own (i := (((k % (5 : UInt8)).toNat : Int)).toNat) (o := 0) r0 rfl k6 rfl rfl ?_)
  obtain rfl := si hm
  conv => whnf
  refine EndStep.mk _ (Hp.Le.refl _) ⟨rfl, rfl⟩ (ConvH.of (.cons r1 .nil))

noncomputable def ref32_Get_L0 (name : Str) : List S_ref32_Node → Nat → Option (Fl (S_ref32_Node) (Unit))
  | [], _ => some (Fl.go ())
  | e0 :: xs0, i0 =>
    if decide (e0.Name = name) then
    some (Fl.ret e0)
    else
    ref32_Get_L0 name xs0 (i0 + 1)
noncomputable def ref32_Get (l : (List S_ref32_Node)) (name : Str) : Option (S_ref32_Node) :=
  (chk (l.length ≤ szMax)).bind fun _ =>
  (ref32_Get_L0 name l 0).bind fun s0 => s0.el some fun t0 =>
  some (⟨name, [], false⟩ : S_ref32_Node)
set_option maxHeartbeats 8000000 in
theorem ref32_Get_ok {l : (List S_ref32_Node)} {name : Str} {ap0_0 : Option Addr} {cp0_0 : Nat} {n0 : Nat} {K : Hp} {r : S_ref32_Node}
    (hm : ref32_Get l name = some r) (hp0_0 : LiC S_ref32_Node.R K ap0_0 cp0_0 3 l) (en0 : n0 = l.length) :
    Fn Try.prog 19 [.slice ap0_0 n0 cp0_0, str name] K [] (fun v K' H' => ∃ ar_0 : Option Addr, ∃ cr_0 : Nat, v = .agg #[str r.Name, .slice ar_0 r.Reports.length cr_0, .bool r.Drained] ∧ RdC eB K' ar_0 cr_0 1 r.Reports ∧ H' = []) := by
  subst en0
  refine Fn.enter Try.func19 Try.call19 rfl fun F => ?_
  unfold ref32_Get at hm
  conv => whnf
  refine alloc_rule rfl ?_
  intro b4
  conv => whnf
  refine RStep.of (len_slice rfl ?_)
  obtain ⟨hk0, hm⟩ := chkb hm
  obtain ⟨s0, hl0, hm⟩ := bnd hm
  conv => whnf
  refine code_cut (σ := (Unit)) [6, 9, 10, 11, 12, 13, 14, 15, 16, 17, 18] (fun t0 => []) (fun t0 => [Cells b4 47 [str ([] : Str), .slice none 0 0, .bool false], F]) (fun zz K1 => match zz with | t0 => s0 = Fl.go t0) ?_ ?_
  · refine block_go rfl ?_
    conv => whnf
    refine loop_rule (σ := Nat) [6, 9, 10, 11, 12, 13, 14, 15, 16, 17, 18] (fun i0 => [(9, .int .i64 (i0 : Int))]) (fun i0 => [Cells b4 47 [str ([] : Str), .slice none 0 0, .bool false], F]) (fun zz K1 => match zz with | i0 => ref32_Get_L0 name (l.drop i0) i0 = some s0) (fun zz => l.length - zz) (0) rfl ⟨rfl, trivial⟩ (ConvH.of (.cons r0 (.cons r0 .nil))) hl0 ?_
    clear hl0
    rintro i0 Kb0 lk0 hl0 j0
    conv at hl0 => whnf
    conv => whnf
    refine cond_go rfl ?_
    conv => whnf
    refine cond_s (fun w0 => ?_) (fun w0 => ?_)
    · obtain ⟨e0, hx0, hd0⟩ := ltx w0
      rw [hd0, ref32_Get_L0.eq_2] at hl0
      conv => whnf
      refine block_go rfl ?_
      conv => whnf
      refine RStep.ofN (index_addr rfl rfl (hasR (LiC.mono S_ref32_Node.R_ok lk0 hp0_0).rd hx0) (nn _) (lt_ofN hx0) ?_)
      obtain ⟨ss12, cc12, hr12, hc12, hR12⟩ := LiR.get (LiC.mono S_ref32_Node.R_ok lk0 hp0_0).rd hx0
      obtain ⟨a12_0, c12_0, rfl, h12_0⟩ := hR12
      conv => whnf
      refine RStep.of (load_rd_agg i0 _ hr12 rfl hc12 rfl ?_)
      conv => whnf
      refine alloc_rule rfl ?_
      intro b6
      conv => whnf
      refine store_rule r0 rfl ?_
      conv => whnf
      refine ⟨rfl, rfl, (Nat.le_of_ble_eq_true rfl), ?_⟩
      conv => whnf
      refine field_addr rfl ?_
      conv => whnf
      refine RStep.of (load1_s r0 rfl rfl ?_)
      conv => whnf
      refine eq_str ?_
      conv => whnf
      refine cond_go rfl ?_
      conv => whnf
      refine cond_s (fun w16 => ?_) (fun w16 => ?_)
      · replace hl0 := ift w16 hl0
        conv => whnf
        refine RStep.of (loadn_s r0 rfl (Nat.le_of_ble_eq_true rfl) ?_)
        conv => whnf
        refine store_rule r1 rfl ?_
        conv => whnf
        refine ⟨rfl, rfl, (Nat.le_of_ble_eq_true rfl), ?_⟩
        obtain rfl := si hl0
        replace hm := elr hm
        obtain rfl := si hm
        conv => whnf
        refine RStep.of (loadn_s r0 rfl (Nat.le_of_ble_eq_true rfl) ?_)
        conv => whnf
        refine EndStep.mk _ lk0 ⟨a12_0, c12_0, rfl, h12_0, rfl⟩ (ConvH.of (.cons r2 .nil))
      · replace hl0 := iff_ w16 hl0
        conv => whnf
        refine int_in (cntz hx0 hk0) ?_
        conv => whnf
        refine RoundStep.mk (i0 + 1) ⟨rfl, trivial⟩ (by repeat (first | exact trivial | refine And.intro rfl ?_)) (ConvH.of (.cons r1 (.cons r1 .nil))) lk0 (ltm hx0) hl0
    · rw [lty w0, ref32_Get_L0.eq_1] at hl0
      conv => whnf
      refine cond_T ?_
      conv => whnf
      refine MeetStep.mk (()) trivial (by repeat (first | exact trivial | refine And.intro rfl ?_)) (ConvH.of (.cons r0 (.cons r0 .nil))) lk0 (si hl0).symm
  · rintro t0 Kt0 lt0 rfl j0
    replace hm := elg hm
    conv => whnf
    refine build_struct rfl rfl ?_
    conv => whnf
    refine cond_T ?_
    conv => whnf
    refine store_rule r0 rfl ?_
    conv => whnf
    refine ⟨rfl, rfl, (Nat.le_of_ble_eq_true rfl), ?_⟩
    obtain rfl := si hm
    conv => whnf
    refine RStep.of (loadn_s r0 rfl (Nat.le_of_ble_eq_true rfl) ?_)
    conv => whnf
    refine EndStep.mk _ lt0 ⟨none, 0, rfl, RdC.nil, rfl⟩ (ConvH.of (.cons r1 .nil))

noncomputable def ref32_Of_L0 (fall : Int) (rise : Int) : List Bool → Nat → Int → Int → Option (Int × Int)
  | [], _, y0_0, y0_1 => some (y0_0, y0_1)
  | e0 :: xs0, i0, y0_0, y0_1 =>
    if (decide (y0_0 = 0) && e0) then
    ref32_Of_L0 fall rise xs0 (i0 + 1) 1 y0_1
    else
    if decide (y0_0 = 0) then
    ref32_Of_L0 fall rise xs0 (i0 + 1) 2 y0_1
    else
    if (e0 == (decide (y0_0 = 1))) then
    ref32_Of_L0 fall rise xs0 (i0 + 1) y0_0 0
    else
    (chk (InI (y0_1 + 1))).bind fun _ =>
    if (decide (y0_0 = 1) && decide ((y0_1 + 1) ≥ fall)) then
    if decide (0 ≥ rise) then
    ref32_Of_L0 fall rise xs0 (i0 + 1) 1 0
    else
    ref32_Of_L0 fall rise xs0 (i0 + 1) 2 0
    else
    if (decide (y0_0 = 2) && decide ((y0_1 + 1) ≥ rise)) then
    ref32_Of_L0 fall rise xs0 (i0 + 1) 1 0
    else
    ref32_Of_L0 fall rise xs0 (i0 + 1) y0_0 (y0_1 + 1)
noncomputable def ref32_Of (reports : (List Bool)) (rise : Int) (fall : Int) : Option (Int) :=
  (chk (reports.length ≤ szMax)).bind fun _ =>
  (ref32_Of_L0 fall rise reports 0 0 0).bind fun t0 =>
  some t0.1
set_option maxHeartbeats 8000000 in
theorem ref32_Of_ok {reports : (List Bool)} {rise : Int} {fall : Int} {ap0_0 : Option Addr} {cp0_0 : Nat} {n0 : Nat} {K : Hp} {r : Int}
    (hm : ref32_Of reports rise fall = some r) (hp0_0 : RdC eB K ap0_0 cp0_0 1 reports) (en0 : n0 = reports.length) :
    Fn Try.prog 20 [.slice ap0_0 n0 cp0_0, .int .i64 rise, .int .i64 fall] K [] (fun v K' H' => v = .int .i64 r ∧ H' = []) := by
  subst en0
  refine Fn.enter Try.func20 Try.call20 rfl fun F => ?_
  unfold ref32_Of at hm
  conv => whnf
  refine RStep.of (len_slice rfl ?_)
  obtain ⟨hk0, hm⟩ := chkb hm
  obtain ⟨s0, hl0, hm⟩ := bnd hm
  conv => whnf
  refine code_cut (σ := (Int × Int)) [7, 8, 10, 13, 14, 15, 16, 17, 18, 19, 20, 21, 22, 23, 24, 25, 26, 27, 28, 29, 30, 31, 32, 33, 34, 35, 36, 37, 38, 39, 40, 41, 42, 43, 44, 45, 46, 47] (fun t0 => [(7, .int .i64 t0.1), (8, .int .i64 t0.2)]) (fun t0 => [F]) (fun zz K1 => match zz with | t0 => t0 = s0) ?_ ?_
  · refine block_go rfl ?_
    conv => whnf
    refine loop_rule (σ := Nat × Int × Int) [7, 8, 10, 13, 14, 15, 16, 17, 18, 19, 20, 21, 22, 23, 24, 25, 26, 27, 28, 29, 30, 31, 32, 33, 34, 35, 36, 37, 38, 39, 40, 41, 42, 43, 44, 45, 46, 47] (fun (i0, y0_0, y0_1) => [(13, .int .i64 (i0 : Int)), (7, .int .i64 y0_0), (8, .int .i64 y0_1)]) (fun (i0, y0_0, y0_1) => [F]) (fun zz K1 => match zz with | (i0, y0_0, y0_1) => ref32_Of_L0 fall rise (reports.drop i0) i0 y0_0 y0_1 = some s0) (fun zz => reports.length - zz.1) (0, 0, 0) rfl ⟨rfl, rfl, rfl, trivial⟩ (ConvH.of (.cons r0 .nil)) hl0 ?_
    clear hl0
    rintro ⟨i0, y0_0, y0_1⟩ Kb0 lk0 hl0 j0
    conv at hl0 => whnf
    conv => whnf
    refine cond_go rfl ?_
    conv => whnf
    refine cond_s (fun w0 => ?_) (fun w0 => ?_)
    · obtain ⟨e0, hx0, hd0⟩ := ltx w0
      rw [hd0, ref32_Of_L0.eq_2] at hl0
      conv => whnf
      refine block_go rfl ?_
      conv => whnf
      refine RStep.ofN (index_addr rfl rfl (hasK (hp0_0.mono lk0).rd hx0) (nn _) (lt_ofN hx0) ?_)
      conv => whnf
      refine RStep.of (load_rd i0 0 _ _ (hp0_0.mono lk0).rd rfl (mp hx0) rfl rfl ?_)
      conv => whnf
      refine block_go rfl ?_
      conv => whnf
      refine eq_int ?_
      conv => whnf
      refine cond_s (fun g36_10 => ?_) (fun g36_10 => ?_)
      · conv => whnf
        refine cond_t g36_10 ?_
        conv => whnf
        refine cond_go rfl ?_
        conv => whnf
        refine cond_s (fun w33 => ?_) (fun w33 => ?_)
        · replace hl0 := ift (and_t g36_10 w33) hl0
          conv => whnf
          refine int_in (cntz hx0 hk0) ?_
          conv => whnf
          refine RoundStep.mk (i0 + 1, 1, y0_1) ⟨rfl, rfl, rfl, trivial⟩ (by repeat (first | exact trivial | refine And.intro rfl ?_)) (ConvH.of (.cons r0 .nil)) lk0 (ltm hx0) hl0
        · replace hl0 := iff_ (and_g g36_10 w33) hl0
          conv => whnf
          refine eq_int ?_
          conv => whnf
          refine cond_go rfl ?_
          conv => whnf
          refine cond_s (fun w39 => ?_) (fun w39 => ?_)
          · replace hl0 := ift w39 hl0
            conv => whnf
            refine int_in (cntz hx0 hk0) ?_
            conv => whnf
            refine RoundStep.mk (i0 + 1, 2, y0_1) ⟨rfl, rfl, rfl, trivial⟩ (by repeat (first | exact trivial | refine And.intro rfl ?_)) (ConvH.of (.cons r0 .nil)) lk0 (ltm hx0) hl0
          · replace hl0 := iff_ w39 hl0
            conv => whnf
            refine eq_int ?_
            conv => whnf
            refine eq_bool rfl ?_
            conv => whnf
            refine cond_go rfl ?_
            conv => whnf
            refine cond_s (fun w42 => ?_) (fun w42 => ?_)
            · replace hl0 := ift w42 hl0
              conv => whnf
              refine int_in (cntz hx0 hk0) ?_
              conv => whnf
              refine RoundStep.mk (i0 + 1, y0_0, 0) ⟨rfl, rfl, rfl, trivial⟩ (by repeat (first | exact trivial | refine And.intro rfl ?_)) (ConvH.of (.cons r0 .nil)) lk0 (ltm hx0) hl0
            · replace hl0 := iff_ w42 hl0
              obtain ⟨h18, hl0⟩ := chkb hl0
              conv => whnf
              refine int_in h18 ?_
              conv => whnf
              refine eq_int ?_
              conv => whnf
              refine cond_s (fun g21_6 => ?_) (fun g21_6 => ?_)
              · conv => whnf
                refine cond_t g21_6 ?_
                conv => whnf
                refine cond_t g21_6 ?_
                conv => whnf
                refine cond_t g21_6 ?_
                conv => whnf
                refine cond_go rfl ?_
                conv => whnf
                refine cond_s (fun w25 => ?_) (fun w25 => ?_)
                · replace hl0 := ift (and_t g21_6 w25) hl0
                  conv => whnf
                  refine eq_int ?_
                  conv => whnf
                  refine cond_T ?_
                  conv => whnf
                  refine cond_T ?_
                  conv => whnf
                  refine cond_T ?_
                  conv => whnf
                  refine cond_T ?_
                  conv => whnf
                  refine cond_go rfl ?_
                  conv => whnf
                  refine cond_s (fun w32 => ?_) (fun w32 => ?_)
                  · replace hl0 := ift w32 hl0
                    conv => whnf
                    refine int_in (cntz hx0 hk0) ?_
                    conv => whnf
                    refine RoundStep.mk (i0 + 1, 1, 0) ⟨rfl, rfl, rfl, trivial⟩ (by repeat (first | exact trivial | refine And.intro rfl ?_)) (ConvH.of (.cons r0 .nil)) lk0 (ltm hx0) hl0
                  · replace hl0 := iff_ w32 hl0
                    conv => whnf
                    refine int_in (cntz hx0 hk0) ?_
                    conv => whnf
                    refine RoundStep.mk (i0 + 1, 2, 0) ⟨rfl, rfl, rfl, trivial⟩ (by repeat (first | exact trivial | refine And.intro rfl ?_)) (ConvH.of (.cons r0 .nil)) lk0 (ltm hx0) hl0
                · replace hl0 := iff_ (and_g g21_6 w25) hl0
                  conv => whnf
                  refine eq_int ?_
                  conv => whnf
                  refine cond_s (fun g28_8 => ?_) (fun g28_8 => ?_)
                  · conv => whnf
                    refine cond_t g28_8 ?_
                    conv => whnf
                    refine cond_t g28_8 ?_
                    conv => whnf
                    refine cond_t g28_8 ?_
                    conv => whnf
                    refine cond_go rfl ?_
                    conv => whnf
                    refine cond_s (fun w32 => ?_) (fun w32 => ?_)
                    · replace hl0 := ift (and_t g28_8 w32) hl0
                      conv => whnf
                      refine int_in (cntz hx0 hk0) ?_
                      conv => whnf
                      refine RoundStep.mk (i0 + 1, 1, 0) ⟨rfl, rfl, rfl, trivial⟩ (by repeat (first | exact trivial | refine And.intro rfl ?_)) (ConvH.of (.cons r0 .nil)) lk0 (ltm hx0) hl0
                    · replace hl0 := iff_ (and_g g28_8 w32) hl0
                      conv => whnf
                      refine int_in (cntz hx0 hk0) ?_
                      conv => whnf
                      refine RoundStep.mk (i0 + 1, y0_0, (y0_1 + 1)) ⟨rfl, rfl, rfl, trivial⟩ (by repeat (first | exact trivial | refine And.intro rfl ?_)) (ConvH.of (.cons r0 .nil)) lk0 (ltm hx0) hl0
                  · conv => whnf
                    refine cond_f g28_8 ?_
                    conv => whnf
                    refine cond_f g28_8 ?_
                    conv => whnf
                    refine cond_f g28_8 ?_
                    conv => whnf
                    refine cond_go rfl ?_
                    conv => whnf
                    refine cond_F ?_
                    replace hl0 := iff_ (and_f g28_8) hl0
                    conv => whnf
                    refine int_in (cntz hx0 hk0) ?_
                    conv => whnf
                    refine RoundStep.mk (i0 + 1, y0_0, (y0_1 + 1)) ⟨rfl, rfl, rfl, trivial⟩ (by repeat (first | exact trivial | refine And.intro rfl ?_)) (ConvH.of (.cons r0 .nil)) lk0 (ltm hx0) hl0
              · conv => whnf
                refine cond_f g21_6 ?_
                conv => whnf
                refine cond_f g21_6 ?_
                conv => whnf
                refine cond_f g21_6 ?_
                conv => whnf
                refine cond_go rfl ?_
                conv => whnf
                refine cond_F ?_
                replace hl0 := iff_ (and_f g21_6) hl0
                conv => whnf
                refine eq_int ?_
                conv => whnf
                refine cond_s (fun g28_8 => ?_) (fun g28_8 => ?_)
                · conv => whnf
                  refine cond_t g28_8 ?_
                  conv => whnf
                  refine cond_t g28_8 ?_
                  conv => whnf
                  refine cond_t g28_8 ?_
                  conv => whnf
                  refine cond_go rfl ?_
                  conv => whnf
                  refine cond_s (fun w32 => ?_) (fun w32 => ?_)
                  · replace hl0 := ift (and_t g28_8 w32) hl0
                    conv => whnf
                    refine int_in (cntz hx0 hk0) ?_
                    conv => whnf
                    refine RoundStep.mk (i0 + 1, 1, 0) ⟨rfl, rfl, rfl, trivial⟩ (by repeat (first | exact trivial | refine And.intro rfl ?_)) (ConvH.of (.cons r0 .nil)) lk0 (ltm hx0) hl0
                  · replace hl0 := iff_ (and_g g28_8 w32) hl0
                    conv => whnf
                    refine int_in (cntz hx0 hk0) ?_
                    conv => whnf
                    refine RoundStep.mk (i0 + 1, y0_0, (y0_1 + 1)) ⟨rfl, rfl, rfl, trivial⟩ (by repeat (first | exact trivial | refine And.intro rfl ?_)) (ConvH.of (.cons r0 .nil)) lk0 (ltm hx0) hl0
                · conv => whnf
                  refine cond_f g28_8 ?_
                  conv => whnf
                  refine cond_f g28_8 ?_
                  conv => whnf
                  refine cond_f g28_8 ?_
                  conv => whnf
                  refine cond_go rfl ?_
                  conv => whnf
                  refine cond_F ?_
                  replace hl0 := iff_ (and_f g28_8) hl0
                  conv => whnf
                  refine int_in (cntz hx0 hk0) ?_
                  conv => whnf
                  refine RoundStep.mk (i0 + 1, y0_0, (y0_1 + 1)) ⟨rfl, rfl, rfl, trivial⟩ (by repeat (first | exact trivial | refine And.intro rfl ?_)) (ConvH.of (.cons r0 .nil)) lk0 (ltm hx0) hl0
      · conv => whnf
        refine cond_f g36_10 ?_
        conv => whnf
        refine cond_go rfl ?_
        conv => whnf
        refine cond_F ?_
        replace hl0 := iff_ (and_f g36_10) hl0
        conv => whnf
        refine eq_int ?_
        conv => whnf
        refine cond_go rfl ?_
        conv => whnf
        refine cond_s (fun w39 => ?_) (fun w39 => ?_)
        · replace hl0 := ift w39 hl0
          conv => whnf
          refine int_in (cntz hx0 hk0) ?_
          conv => whnf
          refine RoundStep.mk (i0 + 1, 2, y0_1) ⟨rfl, rfl, rfl, trivial⟩ (by repeat (first | exact trivial | refine And.intro rfl ?_)) (ConvH.of (.cons r0 .nil)) lk0 (ltm hx0) hl0
        · replace hl0 := iff_ w39 hl0
          conv => whnf
          refine eq_int ?_
          conv => whnf
          refine eq_bool rfl ?_
          conv => whnf
          refine cond_go rfl ?_
          conv => whnf
          refine cond_s (fun w42 => ?_) (fun w42 => ?_)
          · replace hl0 := ift w42 hl0
            conv => whnf
            refine int_in (cntz hx0 hk0) ?_
            conv => whnf
            refine RoundStep.mk (i0 + 1, y0_0, 0) ⟨rfl, rfl, rfl, trivial⟩ (by repeat (first | exact trivial | refine And.intro rfl ?_)) (ConvH.of (.cons r0 .nil)) lk0 (ltm hx0) hl0
          · replace hl0 := iff_ w42 hl0
            obtain ⟨h18, hl0⟩ := chkb hl0
            conv => whnf
            refine int_in h18 ?_
            conv => whnf
            refine eq_int ?_
            conv => whnf
            refine cond_s (fun g21_6 => ?_) (fun g21_6 => ?_)
            · conv => whnf
              refine cond_t g21_6 ?_
              conv => whnf
              refine cond_t g21_6 ?_
              conv => whnf
              refine cond_t g21_6 ?_
              conv => whnf
              refine cond_go rfl ?_
              conv => whnf
              refine cond_s (fun w25 => ?_) (fun w25 => ?_)
              · replace hl0 := ift (and_t g21_6 w25) hl0
                conv => whnf
                refine eq_int ?_
                conv => whnf
                refine cond_T ?_
                conv => whnf
                refine cond_T ?_
                conv => whnf
                refine cond_T ?_
                conv => whnf
                refine cond_T ?_
                conv => whnf
                refine cond_go rfl ?_
                conv => whnf
                refine cond_s (fun w32 => ?_) (fun w32 => ?_)
                · replace hl0 := ift w32 hl0
                  conv => whnf
                  refine int_in (cntz hx0 hk0) ?_
                  conv => whnf
                  refine RoundStep.mk (i0 + 1, 1, 0) ⟨rfl, rfl, rfl, trivial⟩ (by repeat (first | exact trivial | refine And.intro rfl ?_)) (ConvH.of (.cons r0 .nil)) lk0 (ltm hx0) hl0
                · replace hl0 := iff_ w32 hl0
                  conv => whnf
                  refine int_in (cntz hx0 hk0) ?_
                  conv => whnf
                  refine RoundStep.mk (i0 + 1, 2, 0) ⟨rfl, rfl, rfl, trivial⟩ (by repeat (first | exact trivial | refine And.intro rfl ?_)) (ConvH.of (.cons r0 .nil)) lk0 (ltm hx0) hl0
              · replace hl0 := iff_ (and_g g21_6 w25) hl0
                conv => whnf
                refine eq_int ?_
                conv => whnf
                refine cond_s (fun g28_8 => ?_) (fun g28_8 => ?_)
                · conv => whnf
                  refine cond_t g28_8 ?_
                  conv => whnf
                  refine cond_t g28_8 ?_
                  conv => whnf
                  refine cond_t g28_8 ?_
                  conv => whnf
                  refine cond_go rfl ?_
                  conv => whnf
                  refine cond_s (fun w32 => ?_) (fun w32 => ?_)
                  · replace hl0 := ift (and_t g28_8 w32) hl0
                    conv => whnf
                    refine int_in (cntz hx0 hk0) ?_
                    conv => whnf
                    refine RoundStep.mk (i0 + 1, 1, 0) ⟨rfl, rfl, rfl, trivial⟩ (by repeat (first | exact trivial | refine And.intro rfl ?_)) (ConvH.of (.cons r0 .nil)) lk0 (ltm hx0) hl0
                  · replace hl0 := iff_ (and_g g28_8 w32) hl0
                    conv => whnf
                    refine int_in (cntz hx0 hk0) ?_
                    conv => whnf
                    refine RoundStep.mk (i0 + 1, y0_0, (y0_1 + 1)) ⟨rfl, rfl, rfl, trivial⟩ (by repeat (first | exact trivial | refine And.intro rfl ?_)) (ConvH.of (.cons r0 .nil)) lk0 (ltm hx0) hl0
                · conv => whnf
                  refine cond_f g28_8 ?_
                  conv => whnf
                  refine cond_f g28_8 ?_
                  conv => whnf
                  refine cond_f g28_8 ?_
                  conv => whnf
                  refine cond_go rfl ?_
                  conv => whnf
                  refine cond_F ?_
                  replace hl0 := iff_ (and_f g28_8) hl0
                  conv => whnf
                  refine int_in (cntz hx0 hk0) ?_
                  conv => whnf
                  refine RoundStep.mk (i0 + 1, y0_0, (y0_1 + 1)) ⟨rfl, rfl, rfl, trivial⟩ (by repeat (first | exact trivial | refine And.intro rfl ?_)) (ConvH.of (.cons r0 .nil)) lk0 (ltm hx0) hl0
            · conv => whnf
              refine cond_f g21_6 ?_
              conv => whnf
              refine cond_f g21_6 ?_
              conv => whnf
              refine cond_f g21_6 ?_
              conv => whnf
              refine cond_go rfl ?_
              conv => whnf
              refine cond_F ?_
              replace hl0 := iff_ (and_f g21_6) hl0
              conv => whnf
              refine eq_int ?_
              conv => whnf
              refine cond_s (fun g28_8 => ?_) (fun g28_8 => ?_)
              · conv => whnf
                refine cond_t g28_8 ?_
                conv => whnf
                refine cond_t g28_8 ?_
                conv => whnf
                refine cond_t g28_8 ?_
                conv => whnf
                refine cond_go rfl ?_
                conv => whnf
                refine cond_s (fun w32 => ?_) (fun w32 => ?_)
                · replace hl0 := ift (and_t g28_8 w32) hl0
                  conv => whnf
                  refine int_in (cntz hx0 hk0) ?_
                  conv => whnf
                  refine RoundStep.mk (i0 + 1, 1, 0) ⟨rfl, rfl, rfl, trivial⟩ (by repeat (first | exact trivial | refine And.intro rfl ?_)) (ConvH.of (.cons r0 .nil)) lk0 (ltm hx0) hl0
                · replace hl0 := iff_ (and_g g28_8 w32) hl0
                  conv => whnf
                  refine int_in (cntz hx0 hk0) ?_
                  conv => whnf
                  refine RoundStep.mk (i0 + 1, y0_0, (y0_1 + 1)) ⟨rfl, rfl, rfl, trivial⟩ (by repeat (first | exact trivial | refine And.intro rfl ?_)) (ConvH.of (.cons r0 .nil)) lk0 (ltm hx0) hl0
              · conv => whnf
                refine cond_f g28_8 ?_
                conv => whnf
                refine cond_f g28_8 ?_
                conv => whnf
                refine cond_f g28_8 ?_
                conv => whnf
                refine cond_go rfl ?_
                conv => whnf
                refine cond_F ?_
                replace hl0 := iff_ (and_f g28_8) hl0
                conv => whnf
                refine int_in (cntz hx0 hk0) ?_
                conv => whnf
                refine RoundStep.mk (i0 + 1, y0_0, (y0_1 + 1)) ⟨rfl, rfl, rfl, trivial⟩ (by repeat (first | exact trivial | refine And.intro rfl ?_)) (ConvH.of (.cons r0 .nil)) lk0 (ltm hx0) hl0
    · rw [lty w0, ref32_Of_L0.eq_1] at hl0
      conv => whnf
      refine cond_T ?_
      conv => whnf
      refine MeetStep.mk ((y0_0, y0_1)) ⟨rfl, rfl, trivial⟩ (by repeat (first | exact trivial | refine And.intro rfl ?_)) (ConvH.of (.cons r0 .nil)) lk0 (si hl0)
  · rintro t0 Kt0 lt0 rfl j0
    obtain rfl := si hm
    conv => whnf
    refine EndStep.mk _ lt0 ⟨rfl, rfl⟩ (ConvH.of (.cons r0 .nil))

noncomputable def ref32_Put_L0 (n' : S_ref32_Node) : List S_ref32_Node → Nat → (List S_ref32_Node) → Bool → Option ((List S_ref32_Node) × Bool)
  | [], _, y0_0, y0_1 => some (y0_0, y0_1)
  | e0 :: xs0, i0, y0_0, y0_1 =>
    if ((!y0_1) && ((Op.bytesLess n'.Name e0.Name || decide (n'.Name = e0.Name)))) then
    (chk (y0_0.length + [n'].length ≤ lim)).bind fun _ =>
    if decide (e0.Name ≠ n'.Name) then
    (chk ((y0_0 ++ [n']).length + [e0].length ≤ lim)).bind fun _ =>
    ref32_Put_L0 n' xs0 (i0 + 1) ((y0_0 ++ [n']) ++ [e0]) true
    else
    ref32_Put_L0 n' xs0 (i0 + 1) (y0_0 ++ [n']) true
    else
    if decide (e0.Name ≠ n'.Name) then
    (chk (y0_0.length + [e0].length ≤ lim)).bind fun _ =>
    ref32_Put_L0 n' xs0 (i0 + 1) (y0_0 ++ [e0]) y0_1
    else
    ref32_Put_L0 n' xs0 (i0 + 1) y0_0 y0_1
noncomputable def ref32_Put (l : (List S_ref32_Node)) (n' : S_ref32_Node) : Option ((List S_ref32_Node)) :=
  (chk (l.length ≤ szMax)).bind fun _ =>
  (ref32_Put_L0 n' l 0 [] false).bind fun t0 =>
  if (!t0.2) then
  (chk (t0.1.length + [n'].length ≤ lim)).bind fun _ =>
  some (t0.1 ++ [n'])
  else
  some t0.1
set_option maxHeartbeats 8000000 in
theorem ref32_Put_ok {l : (List S_ref32_Node)} {n' : S_ref32_Node} {ap0_0 : Option Addr} {cp0_0 : Nat} {n0 : Nat} {ap1_0 : Option Addr} {cp1_0 : Nat} {K : Hp} {r : (List S_ref32_Node)}
    (hm : ref32_Put l n' = some r) (hp0_0 : LiC S_ref32_Node.R K ap0_0 cp0_0 3 l) (en0 : n0 = l.length) (hp1_0 : RdC eB K ap1_0 cp1_0 1 n'.Reports) :
    Fn Try.prog 23 [.slice ap0_0 n0 cp0_0, .agg #[str n'.Name, .slice ap1_0 n'.Reports.length cp1_0, .bool n'.Drained]] K [] (fun v K' H' => ∃ ar_0 : Option Addr, ∃ cr_0 : Nat, ∃ sr_0 : List (List Value), v = .slice ar_0 r.length cr_0 ∧ (0 < r.length → Has ar_0) ∧ LR S_ref32_Node.R K' sr_0 r ∧ H' = [OwnA ar_0 47 3 cr_0 sr_0]) := by
  subst en0
  refine Fn.enter Try.func23 Try.call23 rfl fun F => ?_
  unfold ref32_Put at hm
  conv => whnf
  refine box_rule ?_
  intro b3
  conv => whnf
  refine RStep.of (len_slice rfl ?_)
  obtain ⟨hk0, hm⟩ := chkb hm
  obtain ⟨s0, hl0, hm⟩ := bnd hm
  conv => whnf
  refine nilC (fun _ : S_ref32_Node => []) 47 3 ?_
  refine code_cut (σ := ((List S_ref32_Node) × Bool) × Option Addr × Nat × List (List Value)) [5, 6, 8, 11, 12, 13, 14, 15, 16, 17, 18, 19, 20, 21, 22, 23, 24, 25, 26, 27, 28, 29, 30, 31, 32, 33, 34, 35, 36, 37] (fun (t0, t0_a0, t0_c0, t0_s0) => [(5, .slice t0_a0 t0.1.length t0_c0), (6, .bool t0.2)]) (fun (t0, t0_a0, t0_c0, t0_s0) => [OwnA t0_a0 47 3 t0_c0 t0_s0, Cells b3 47 [str n'.Name, .slice ap1_0 n'.Reports.length cp1_0, .bool n'.Drained], F]) (fun zz K1 => match zz with | (t0, t0_a0, t0_c0, t0_s0) => LR S_ref32_Node.R K1 t0_s0 t0.1 ∧ (0 < t0.1.length → Has t0_a0) ∧ t0 = s0) ?_ ?_
  · refine block_go rfl ?_
    conv => whnf
    refine loop_rule (σ := Nat × (List S_ref32_Node) × Bool × Option Addr × Nat × List (List Value)) [5, 6, 8, 11, 12, 13, 14, 15, 16, 17, 18, 19, 20, 21, 22, 23, 24, 25, 26, 27, 28, 29, 30, 31, 32, 33, 34, 35, 36, 37] (fun (i0, y0_0, y0_1, y0_a0, y0_c0, y0_s0) => [(11, .int .i64 (i0 : Int)), (5, .slice y0_a0 y0_0.length y0_c0), (6, .bool y0_1)]) (fun (i0, y0_0, y0_1, y0_a0, y0_c0, y0_s0) => [OwnA y0_a0 47 3 y0_c0 y0_s0, Cells b3 47 [str n'.Name, .slice ap1_0 n'.Reports.length cp1_0, .bool n'.Drained], F]) (fun zz K1 => match zz with | (i0, y0_0, y0_1, y0_a0, y0_c0, y0_s0) => LR S_ref32_Node.R K1 y0_s0 y0_0 ∧ (0 < y0_0.length → Has y0_a0) ∧ ref32_Put_L0 n' (l.drop i0) i0 y0_0 y0_1 = some s0) (fun zz => l.length - zz.1) (0, [], false, none, 0, []) rfl ⟨rfl, rfl, rfl, trivial⟩ (ConvH.of (.cons r0 (.cons r0 (.cons r0 .nil)))) ⟨LR.nil, (fun h => by simp at h), hl0⟩ ?_
    clear hl0
    rintro ⟨i0, y0_0, y0_1, y0_a0, y0_c0, y0_s0⟩ Kb0 lk0 ⟨y0_r0, y0_h0, hl0⟩ j0
    conv => whnf
    refine cond_go rfl ?_
    conv => whnf
    refine cond_s (fun w0 => ?_) (fun w0 => ?_)
    · obtain ⟨e0, hx0, hd0⟩ := ltx w0
      rw [hd0, ref32_Put_L0.eq_2] at hl0
      conv => whnf
      refine block_go rfl ?_
      conv => whnf
      refine RStep.ofN (index_addr rfl rfl (hasR (LiC.mono S_ref32_Node.R_ok lk0 hp0_0).rd hx0) (nn _) (lt_ofN hx0) ?_)
      obtain ⟨ss14, cc14, hr14, hc14, hR14⟩ := LiR.get (LiC.mono S_ref32_Node.R_ok lk0 hp0_0).rd hx0
      obtain ⟨a14_0, c14_0, rfl, h14_0⟩ := hR14
      conv => whnf
      refine RStep.of (load_rd_agg i0 _ hr14 rfl hc14 rfl ?_)
      conv => whnf
      refine alloc_rule rfl ?_
      intro b8
      conv => whnf
      refine store_rule r0 rfl ?_
      conv => whnf
      refine ⟨rfl, rfl, (Nat.le_of_ble_eq_true rfl), ?_⟩
      conv => whnf
      refine un_not ?_
      conv => whnf
      refine cond_s (fun g17_6 => ?_) (fun g17_6 => ?_)
      · conv => whnf
        refine field_addr rfl ?_
        conv => whnf
        refine cond_t g17_6 ?_
        conv => whnf
        refine RStep.of (load1_s r2 rfl rfl ?_)
        conv => whnf
        refine cond_t g17_6 ?_
        conv => whnf
        refine field_addr rfl ?_
        conv => whnf
        refine cond_t g17_6 ?_
        conv => whnf
        refine RStep.of (load1_s r0 rfl rfl ?_)
        conv => whnf
        refine cond_t g17_6 ?_
        conv => whnf
        refine leq_str ?_
        conv => whnf
        refine cond_t g17_6 ?_
        conv => whnf
        refine cond_go rfl ?_
        conv => whnf
        refine cond_s (fun w23 => ?_) (fun w23 => ?_)
        · replace hl0 := ift (and_t (not_t (ni_t g17_6)) w23) hl0
          conv => whnf
          refine RStep.of (loadn_s r2 rfl (Nat.le_of_ble_eq_true rfl) ?_)
          conv => whnf
          refine bsOR (len := 1) (l := [n']) (css := [[str n'.Name, .slice ap1_0 n'.Reports.length cp1_0, .bool n'.Drained]]) (cl := [str n'.Name, .slice ap1_0 n'.Reports.length cp1_0, .bool n'.Drained]) S_ref32_Node.R_ok elT44 rfl rfl (LR.snoc LR.nil ⟨ap1_0, cp1_0, rfl, (hp1_0.mono lk0)⟩) rfl rfl rfl ?_ fun b26 => ?_
          · conv => whnf
            refine cond_T ?_
            conv => whnf
          obtain ⟨h27, hl0⟩ := chkb hl0
          conv => whnf
          refine apRl r2 y0_r0 rfl elT44 (src_ownR rfl r0 rfl S_ref32_Node.R_ok (show LR S_ref32_Node.R _ [[str n'.Name, .slice ap1_0 n'.Reports.length cp1_0, .bool n'.Drained]] [n'] from (LR.snoc LR.nil ⟨ap1_0, cp1_0, rfl, (hp1_0.mono lk0)⟩))) (show LR S_ref32_Node.R _ [[str n'.Name, .slice ap1_0 n'.Reports.length cp1_0, .bool n'.Drained]] [n'] from (LR.snoc LR.nil ⟨ap1_0, cp1_0, rfl, (hp1_0.mono lk0)⟩)) h27 ?_
          intro a27 c27 s27 r_27 o27
          conv => whnf
          refine field_addr rfl ?_
          conv => whnf
          refine RStep.of (load1_s r2 rfl rfl ?_)
          conv => whnf
          refine field_addr rfl ?_
          conv => whnf
          refine RStep.of (load1_s r3 rfl rfl ?_)
          conv => whnf
          refine neq_str ?_
          conv => whnf
          refine cond_go rfl ?_
          conv => whnf
          refine cond_s (fun w32 => ?_) (fun w32 => ?_)
          · replace hl0 := ift w32 hl0
            conv => whnf
            refine RStep.of (loadn_s r2 rfl (Nat.le_of_ble_eq_true rfl) ?_)
            conv => whnf
            refine bsOR (len := 1) (l := [e0]) (css := [[str e0.Name, .slice a14_0 e0.Reports.length c14_0, .bool e0.Drained]]) (cl := [str e0.Name, .slice a14_0 e0.Reports.length c14_0, .bool e0.Drained]) S_ref32_Node.R_ok elT44 rfl rfl (LR.snoc LR.nil ⟨a14_0, c14_0, rfl, h14_0⟩) rfl rfl rfl ?_ fun b35 => ?_
            · conv => whnf
              refine cond_T ?_
              conv => whnf
            obtain ⟨h36, hl0⟩ := chkb hl0
            conv => whnf
            refine apRl r1 r_27 rfl elT44 (src_ownR rfl r0 rfl S_ref32_Node.R_ok (show LR S_ref32_Node.R _ [[str e0.Name, .slice a14_0 e0.Reports.length c14_0, .bool e0.Drained]] [e0] from (LR.snoc LR.nil ⟨a14_0, c14_0, rfl, h14_0⟩))) (show LR S_ref32_Node.R _ [[str e0.Name, .slice a14_0 e0.Reports.length c14_0, .bool e0.Drained]] [e0] from (LR.snoc LR.nil ⟨a14_0, c14_0, rfl, h14_0⟩)) h36 ?_
            intro a36 c36 s36 r_36 o36
            conv => whnf
            refine int_in (cntz hx0 hk0) ?_
            conv => whnf
            refine RoundStep.mk (i0 + 1, ((y0_0 ++ [n']) ++ [e0]), true, a36, c36, s36) ⟨rfl, rfl, rfl, trivial⟩ (by repeat (first | exact trivial | refine And.intro rfl ?_)) (ConvH.of (.cons r0 (.cons r3 (.cons r3 .nil)))) lk0 (ltm hx0) ⟨r_36, o36, hl0⟩
          · replace hl0 := iff_ w32 hl0
            conv => whnf
            refine int_in (cntz hx0 hk0) ?_
            conv => whnf
            refine RoundStep.mk (i0 + 1, (y0_0 ++ [n']), true, a27, c27, s27) ⟨rfl, rfl, rfl, trivial⟩ (by repeat (first | exact trivial | refine And.intro rfl ?_)) (ConvH.of (.cons r0 (.cons r2 (.cons r2 .nil)))) lk0 (ltm hx0) ⟨r_27, o27, hl0⟩
        · replace hl0 := iff_ (and_g (not_t (ni_t g17_6)) w23) hl0
          conv => whnf
          refine field_addr rfl ?_
          conv => whnf
          refine RStep.of (load1_s r0 rfl rfl ?_)
          conv => whnf
          refine field_addr rfl ?_
          conv => whnf
          refine RStep.of (load1_s r2 rfl rfl ?_)
          conv => whnf
          refine neq_str ?_
          conv => whnf
          refine cond_go rfl ?_
          conv => whnf
          refine cond_s (fun w32 => ?_) (fun w32 => ?_)
          · replace hl0 := ift w32 hl0
            conv => whnf
            refine RStep.of (loadn_s r0 rfl (Nat.le_of_ble_eq_true rfl) ?_)
            conv => whnf
            refine bsOR (len := 1) (l := [e0]) (css := [[str e0.Name, .slice a14_0 e0.Reports.length c14_0, .bool e0.Drained]]) (cl := [str e0.Name, .slice a14_0 e0.Reports.length c14_0, .bool e0.Drained]) S_ref32_Node.R_ok elT44 rfl rfl (LR.snoc LR.nil ⟨a14_0, c14_0, rfl, h14_0⟩) rfl rfl rfl ?_ fun b35 => ?_
            · conv => whnf
              refine cond_T ?_
              conv => whnf
            obtain ⟨h36, hl0⟩ := chkb hl0
            conv => whnf
            refine apRl r2 y0_r0 rfl elT44 (src_ownR rfl r0 rfl S_ref32_Node.R_ok (show LR S_ref32_Node.R _ [[str e0.Name, .slice a14_0 e0.Reports.length c14_0, .bool e0.Drained]] [e0] from (LR.snoc LR.nil ⟨a14_0, c14_0, rfl, h14_0⟩))) (show LR S_ref32_Node.R _ [[str e0.Name, .slice a14_0 e0.Reports.length c14_0, .bool e0.Drained]] [e0] from (LR.snoc LR.nil ⟨a14_0, c14_0, rfl, h14_0⟩)) h36 ?_
            intro a36 c36 s36 r_36 o36
            conv => whnf
            refine int_in (cntz hx0 hk0) ?_
            conv => whnf
            refine RoundStep.mk (i0 + 1, (y0_0 ++ [e0]), y0_1, a36, c36, s36) ⟨rfl, rfl, rfl, trivial⟩ (by repeat (first | exact trivial | refine And.intro rfl ?_)) (ConvH.of (.cons r0 (.cons r2 (.cons r2 .nil)))) lk0 (ltm hx0) ⟨r_36, o36, hl0⟩
          · replace hl0 := iff_ w32 hl0
            conv => whnf
            refine int_in (cntz hx0 hk0) ?_
            conv => whnf
            refine RoundStep.mk (i0 + 1, y0_0, y0_1, y0_a0, y0_c0, y0_s0) ⟨rfl, rfl, rfl, trivial⟩ (by repeat (first | exact trivial | refine And.intro rfl ?_)) (ConvH.of (.cons r1 (.cons r1 (.cons r1 .nil)))) lk0 (ltm hx0) ⟨y0_r0, y0_h0, hl0⟩
      · conv => whnf
        refine cond_f g17_6 ?_
        conv => whnf
        refine cond_f g17_6 ?_
        conv => whnf
        refine cond_f g17_6 ?_
        conv => whnf
        refine cond_f g17_6 ?_
        conv => whnf
        refine cond_f g17_6 ?_
        conv => whnf
        refine cond_go rfl ?_
        conv => whnf
        refine cond_F ?_
        replace hl0 := iff_ (and_f (not_f (ni_f g17_6))) hl0
        conv => whnf
        refine field_addr rfl ?_
        conv => whnf
        refine RStep.of (load1_s r0 rfl rfl ?_)
        conv => whnf
        refine field_addr rfl ?_
        conv => whnf
        refine RStep.of (load1_s r2 rfl rfl ?_)
        conv => whnf
        refine neq_str ?_
        conv => whnf
        refine cond_go rfl ?_
        conv => whnf
        refine cond_s (fun w32 => ?_) (fun w32 => ?_)
        · replace hl0 := ift w32 hl0
          conv => whnf
          refine RStep.of (loadn_s r0 rfl (Nat.le_of_ble_eq_true rfl) ?_)
          conv => whnf
          refine bsOR (len := 1) (l := [e0]) (css := [[str e0.Name, .slice a14_0 e0.Reports.length c14_0, .bool e0.Drained]]) (cl := [str e0.Name, .slice a14_0 e0.Reports.length c14_0, .bool e0.Drained]) S_ref32_Node.R_ok elT44 rfl rfl (LR.snoc LR.nil ⟨a14_0, c14_0, rfl, h14_0⟩) rfl rfl rfl ?_ fun b35 => ?_
          · conv => whnf
            refine cond_T ?_
            conv => whnf
          obtain ⟨h36, hl0⟩ := chkb hl0
          conv => whnf
          refine apRl r2 y0_r0 rfl elT44 (src_ownR rfl r0 rfl S_ref32_Node.R_ok (show LR S_ref32_Node.R _ [[str e0.Name, .slice a14_0 e0.Reports.length c14_0, .bool e0.Drained]] [e0] from (LR.snoc LR.nil ⟨a14_0, c14_0, rfl, h14_0⟩))) (show LR S_ref32_Node.R _ [[str e0.Name, .slice a14_0 e0.Reports.length c14_0, .bool e0.Drained]] [e0] from (LR.snoc LR.nil ⟨a14_0, c14_0, rfl, h14_0⟩)) h36 ?_
          intro a36 c36 s36 r_36 o36
          conv => whnf
          refine int_in (cntz hx0 hk0) ?_
          conv => whnf
          refine RoundStep.mk (i0 + 1, (y0_0 ++ [e0]), y0_1, a36, c36, s36) ⟨rfl, rfl, rfl, trivial⟩ (by repeat (first | exact trivial | refine And.intro rfl ?_)) (ConvH.of (.cons r0 (.cons r2 (.cons r2 .nil)))) lk0 (ltm hx0) ⟨r_36, o36, hl0⟩
        · replace hl0 := iff_ w32 hl0
          conv => whnf
          refine int_in (cntz hx0 hk0) ?_
          conv => whnf
          refine RoundStep.mk (i0 + 1, y0_0, y0_1, y0_a0, y0_c0, y0_s0) ⟨rfl, rfl, rfl, trivial⟩ (by repeat (first | exact trivial | refine And.intro rfl ?_)) (ConvH.of (.cons r1 (.cons r1 (.cons r1 .nil)))) lk0 (ltm hx0) ⟨y0_r0, y0_h0, hl0⟩
    · rw [lty w0, ref32_Put_L0.eq_1] at hl0
      conv => whnf
      refine cond_T ?_
      conv => whnf
      refine MeetStep.mk ((y0_0, y0_1), y0_a0, y0_c0, y0_s0) ⟨rfl, rfl, trivial⟩ (by repeat (first | exact trivial | refine And.intro rfl ?_)) (ConvH.of (.cons r0 (.cons r0 (.cons r0 .nil)))) lk0 ⟨y0_r0, y0_h0, (si hl0)⟩
  · rintro ⟨t0, t0_a0, t0_c0, t0_s0⟩ Kt0 lt0 ⟨t0_r0, t0_h0, rfl⟩ j0
    conv => whnf
    refine un_not ?_
    conv => whnf
    refine cond_go rfl ?_
    conv => whnf
    refine cond_s (fun w39 => ?_) (fun w39 => ?_)
    · replace hm := ift (not_t (ni_t w39)) hm
      conv => whnf
      refine RStep.of (loadn_s r1 rfl (Nat.le_of_ble_eq_true rfl) ?_)
      conv => whnf
      refine bsOR (len := 1) (l := [n']) (css := [[str n'.Name, .slice ap1_0 n'.Reports.length cp1_0, .bool n'.Drained]]) (cl := [str n'.Name, .slice ap1_0 n'.Reports.length cp1_0, .bool n'.Drained]) S_ref32_Node.R_ok elT44 rfl rfl (LR.snoc LR.nil ⟨ap1_0, cp1_0, rfl, (hp1_0.mono lt0)⟩) rfl rfl rfl ?_ fun b42 => ?_
      · conv => whnf
        refine cond_T ?_
        conv => whnf
      obtain ⟨h43, hm⟩ := chkb hm
      conv => whnf
      refine apRl r1 t0_r0 rfl elT44 (src_ownR rfl r0 rfl S_ref32_Node.R_ok (show LR S_ref32_Node.R _ [[str n'.Name, .slice ap1_0 n'.Reports.length cp1_0, .bool n'.Drained]] [n'] from (LR.snoc LR.nil ⟨ap1_0, cp1_0, rfl, (hp1_0.mono lt0)⟩))) (show LR S_ref32_Node.R _ [[str n'.Name, .slice ap1_0 n'.Reports.length cp1_0, .bool n'.Drained]] [n'] from (LR.snoc LR.nil ⟨ap1_0, cp1_0, rfl, (hp1_0.mono lt0)⟩)) h43 ?_
      intro a43 c43 s43 r_43 o43
      obtain rfl := si hm
      conv => whnf
      refine EndStep.mk _ lt0 ⟨a43, c43, s43, rfl, o43, r_43, rfl⟩ (ConvH.of (.cons r0 (.cons r2 .nil)))
    · replace hm := iff_ (not_f (ni_f w39)) hm
      obtain rfl := si hm
      conv => whnf
      refine EndStep.mk _ lt0 ⟨t0_a0, t0_c0, t0_s0, rfl, t0_h0, t0_r0, rfl⟩ (ConvH.of (.cons r0 (.cons r1 .nil)))

noncomputable def health_Checks_Up_L0 (c : S_health_Checks) (e0 : (Str × S_health_status)) (y0_0 : (List Str)) : Option ((List Str)) :=
  if (decide (e0.2.state = 1) && (!((mget c.drained e0.1).getD false))) then
  (chk (y0_0.length + [e0.1].length ≤ lim)).bind fun _ =>
  some (y0_0 ++ [e0.1])
  else
  some y0_0
noncomputable def health_Checks_Up (c : S_health_Checks) : Option ((List Str)) :=
  perms c.nodes fun pl0 =>
  (mfold (fun e0 ss0 => health_Checks_Up_L0 c e0 ss0) pl0 []).bind fun t0 =>
  (sortSM t0).bind fun x35 =>
  some x35
set_option maxHeartbeats 8000000 in
theorem health_Checks_Up_ok {c : S_health_Checks} {b0 : Nat} {mp0_0 : Nat} {mp0_1 : Nat} {K : Hp} {r : (List Str)}
    (hm : health_Checks_Up c = some r)  :
    Fn Try.prog 25 [.pointer (some ⟨b0, 0, none⟩)] K [Cells b0 64 [.int .i64 c.rise, .int .i64 c.fall, .map (some mp0_0), .map (some mp0_1)], MapE strK (fun x => .agg (S_health_status.enc x).toArray) mp0_0 c.nodes, MapE strK (fun x => .bool x) mp0_1 c.drained] (fun v K' H' => ∃ ar_0 : Option Addr, ∃ cr_0 : Nat, v = .slice ar_0 r.length cr_0 ∧ (0 < r.length → Has ar_0) ∧ H' = [OwnL eS ar_0 9 1 cr_0 r, Cells b0 64 [.int .i64 c.rise, .int .i64 c.fall, .map (some mp0_0), .map (some mp0_1)], MapE strK (fun x => .agg (S_health_status.enc x).toArray) mp0_0 c.nodes, MapE strK (fun x => .bool x) mp0_1 c.drained]) := by
  refine Fn.enter Try.func25 Try.call25 rfl fun F => ?_
  unfold health_Checks_Up at hm
  conv => whnf
  refine eq_ptr_nil rfl ?_
  conv => whnf
  refine cond_go rfl ?_
  conv => whnf
  refine cond_F ?_
  conv => whnf
  refine nil_check ?_
  conv => whnf
  refine field_addr rfl ?_
  conv => whnf
  refine RStep.of (load1_s r0 rfl rfl ?_)
  conv => whnf
  refine range_rule r1 rfl fun rb12 => ?_
  have hP0 := perms_all hm
  conv => whnf
  refine nilC eS 9 1 ?_
  refine code_cut (σ := ((List Str)) × Option Addr × Nat) [3, 4, 5, 13, 14, 15, 16, 17, 18, 19, 20, 21, 22, 23, 24, 25, 26, 27, 28, 29, 30, 31, 32, 33] (fun (t0, t0_a0, t0_c0) => [(3, .slice t0_a0 t0.length t0_c0)]) (fun (t0, t0_a0, t0_c0) => [OwnL eS t0_a0 9 1 t0_c0 t0, MapE strK (fun x => .agg (S_health_status.enc x).toArray) mp0_0 c.nodes, Cells b0 64 [.int .i64 c.rise, .int .i64 c.fall, .map (some mp0_0), .map (some mp0_1)], MapE strK (fun x => .bool x) mp0_1 c.drained, F]) (fun zz K1 => match zz with | (t0, t0_a0, t0_c0) => (0 < t0.length → Has t0_a0) ∧ ∃ pl, pl.Perm c.nodes ∧ mfold (fun e0 ss0 => health_Checks_Up_L0 c e0 ss0) pl [] = some t0) ?_ ?_
  · refine block_go rfl ?_
    conv => whnf
    refine loop_rule (σ := (List (Str × S_health_status)) × (List Str) × Option Addr × Nat) [3, 4, 5, 13, 14, 15, 16, 17, 18, 19, 20, 21, 22, 23, 24, 25, 26, 27, 28, 29, 30, 31, 32, 33] (fun (vis0, y0_0, y0_a0, y0_c0) => [(3, .slice y0_a0 y0_0.length y0_c0)]) (fun (vis0, y0_0, y0_a0, y0_c0) => [OwnL eS y0_a0 9 1 y0_c0 y0_0, MapIt strK (fun x => .agg (S_health_status.enc x).toArray) rb12 mp0_0 c.nodes vis0, Cells b0 64 [.int .i64 c.rise, .int .i64 c.fall, .map (some mp0_0), .map (some mp0_1)], MapE strK (fun x => .bool x) mp0_1 c.drained, F]) (fun zz K1 => match zz with | (vis0, y0_0, y0_a0, y0_c0) => (0 < y0_0.length → Has y0_a0) ∧ mfold (fun e0 ss0 => health_Checks_Up_L0 c e0 ss0) vis0 [] = some y0_0) (fun zz => c.nodes.length - zz.1.length) ([], [], none, 0) rfl ⟨rfl, trivial⟩ (ConvH.of (.cons r0 (.cons r0 (.cons r0 (.cons r0 (.cons r0 .nil)))))) ⟨(fun h => by simp at h), rfl⟩ ?_
    rintro ⟨vis0, y0_0, y0_a0, y0_c0⟩ Kb0 lk0 ⟨y0_h0, hv0⟩ j0
    conv => whnf
    refine next_rule r1 (fun hp0 => ?_) (fun e0 rs0 hp0 => ?_)
    · conv => whnf
      refine cond_go rfl ?_
      conv => whnf
      refine cond_F ?_
      conv => whnf
      refine cond_T ?_
      conv => whnf
      refine MeetStep.mk (y0_0, y0_a0, y0_c0) ⟨rfl, trivial⟩ (by repeat (first | exact trivial | refine And.intro rfl ?_)) (ConvH.of (.cons r1 (.cons r0 (.cons r0 (.cons r0 (.cons r0 .nil)))))) lk0 ⟨y0_h0, ⟨_, hp0, hv0⟩⟩
    · obtain ⟨z0, hB0⟩ := mnext hP0 hv0 hp0
      have hl0 : health_Checks_Up_L0 c e0 y0_0 = some z0 := hB0
      unfold health_Checks_Up_L0 at hl0
      conv => whnf
      refine cond_go rfl ?_
      conv => whnf
      refine cond_T ?_
      conv => whnf
      refine block_go rfl ?_
      conv => whnf
      refine RStep.of (entry_rule r0 ?_)
      conv => whnf
      refine alloc_rule rfl ?_
      intro b5
      conv => whnf
      refine store_rule r0 rfl ?_
      conv => whnf
      refine ⟨rfl, rfl, (Nat.le_of_ble_eq_true rfl), ?_⟩
      conv => whnf
      refine field_addr rfl ?_
      conv => whnf
      refine RStep.of (load1_s r0 rfl rfl ?_)
      conv => whnf
      refine eq_int ?_
      conv => whnf
      refine cond_s (fun g21_7 => ?_) (fun g21_7 => ?_)
      · conv => whnf
        refine cond_t g21_7 ?_
        conv => whnf
        refine nil_check ?_
        conv => whnf
        refine cond_t g21_7 ?_
        conv => whnf
        refine field_addr rfl ?_
        conv => whnf
        refine cond_t g21_7 ?_
        conv => whnf
        refine RStep.of (load1_s r3 rfl rfl ?_)
        conv => whnf
        refine cond_t g21_7 ?_
        conv => whnf
        refine cond_t g21_7 ?_
        conv => whnf
        refine RStep.of (lookup_rule (kenc := strK) (venc := (fun x => .bool x)) (z := false) r4 rfl rfl (key_str rfl) ?_)
        conv => whnf
        refine cond_t g21_7 ?_
        conv => whnf
        refine un_not ?_
        conv => whnf
        refine cond_t g21_7 ?_
        conv => whnf
        refine cond_go rfl ?_
        conv => whnf
        refine cond_s (fun w29 => ?_) (fun w29 => ?_)
        · replace hl0 := ift (and_t g21_7 (not_t (ni_t w29))) hl0
          conv => whnf
          refine bsO (len := 1) (enc := eS) (l := [e0.1]) (cl := [str e0.1]) elT54 rfl rfl (fun _ _ => rfl) rfl rfl rfl ?_ fun b32 => ?_
          · conv => whnf
            refine cond_T ?_
            conv => whnf
          obtain ⟨h33, hl0⟩ := chkb hl0
          conv => whnf
          refine apE rfl r3 elT54 (src_own' rfl r0 rfl (fun _ => rfl) (fun _ => rfl)) h33 ?_
          intro a33 c33 o33
          conv => whnf
          refine RoundStep.mk (vis0 ++ [e0], (y0_0 ++ [e0.1]), a33, c33) ⟨rfl, trivial⟩ (by repeat (first | exact trivial | refine And.intro rfl ?_)) (ConvH.of (.cons r0 (.cons r2 (.cons r2 (.cons r2 (.cons r2 .nil)))))) lk0 (ltmap hp0) ⟨o33, ((mfold_snoc hv0).trans (hB0.trans hl0.symm))⟩
        · replace hl0 := iff_ (and_g g21_7 (not_f (ni_f w29))) hl0
          conv => whnf
          refine RoundStep.mk (vis0 ++ [e0], y0_0, y0_a0, y0_c0) ⟨rfl, trivial⟩ (by repeat (first | exact trivial | refine And.intro rfl ?_)) (ConvH.of (.cons r2 (.cons r1 (.cons r1 (.cons r1 (.cons r1 .nil)))))) lk0 (ltmap hp0) ⟨y0_h0, ((mfold_snoc hv0).trans (hB0.trans hl0.symm))⟩
      · conv => whnf
        refine cond_f g21_7 ?_
        conv => whnf
        refine cond_f g21_7 ?_
        conv => whnf
        refine cond_f g21_7 ?_
        conv => whnf
        refine cond_f g21_7 ?_
        conv => whnf
        refine cond_f g21_7 ?_
        conv => whnf
        refine cond_f g21_7 ?_
        conv => whnf
        refine cond_f g21_7 ?_
        conv => whnf
        refine cond_go rfl ?_
        conv => whnf
        refine cond_F ?_
        replace hl0 := iff_ (and_f g21_7) hl0
        conv => whnf
        refine RoundStep.mk (vis0 ++ [e0], y0_0, y0_a0, y0_c0) ⟨rfl, trivial⟩ (by repeat (first | exact trivial | refine And.intro rfl ?_)) (ConvH.of (.cons r2 (.cons r1 (.cons r1 (.cons r1 (.cons r1 .nil)))))) lk0 (ltmap hp0) ⟨y0_h0, ((mfold_snoc hv0).trans (hB0.trans hl0.symm))⟩
  · rintro ⟨t0, t0_a0, t0_c0⟩ Kt0 lt0 ⟨t0_h0, hx0⟩ j0
    replace hm := mlast hP0 hx0
    obtain ⟨x35, q35, hm⟩ := bnd hm
    conv => whnf
    refine call_fn (sort_string_ok q35 rfl) (.cons r0 .nil) ?_
    rintro _ K35 _ l35 ⟨rfl, rfl⟩
    obtain rfl := si hm
    conv => whnf
    refine EndStep.mk _ (lt0.trans l35) ⟨t0_a0, t0_c0, (by rw [← (show x35.length = t0.length from Eq.symm ((Eq.trans (rfl) (sortSM_len q35).symm)))] <;> rfl), (fun h => t0_h0 (by rw [sortSM_len q35] at h; exact h)), rfl⟩ (ConvH.of (.cons r0 (.cons r1 (.cons r0 (.cons r0 (.cons r0 .nil))))))

noncomputable def ref32_Up_L0 (rise : Int) (fall : Int) : List S_ref32_Node → Nat → (List Str) → Option ((List Str))
  | [], _, y0_0 => some y0_0
  | e0 :: xs0, i0, y0_0 =>
    (if (!e0.Drained) then (ref32_Of e0.Reports rise fall).bind fun x24 =>
    some (decide (x24 = 1)) else some false).bind fun x26 =>
    if x26 then
    (chk (y0_0.length + [e0.Name].length ≤ lim)).bind fun _ =>
    ref32_Up_L0 rise fall xs0 (i0 + 1) (y0_0 ++ [e0.Name])
    else
    ref32_Up_L0 rise fall xs0 (i0 + 1) y0_0
noncomputable def ref32_Up (l : (List S_ref32_Node)) (rise : Int) (fall : Int) : Option ((List Str)) :=
  (chk (l.length ≤ szMax)).bind fun _ =>
  (ref32_Up_L0 rise fall l 0 []).bind fun t0 =>
  some t0
set_option maxHeartbeats 8000000 in
theorem ref32_Up_ok {l : (List S_ref32_Node)} {rise : Int} {fall : Int} {ap0_0 : Option Addr} {cp0_0 : Nat} {n0 : Nat} {K : Hp} {r : (List Str)}
    (hm : ref32_Up l rise fall = some r) (hp0_0 : LiC S_ref32_Node.R K ap0_0 cp0_0 3 l) (en0 : n0 = l.length) :
    Fn Try.prog 26 [.slice ap0_0 n0 cp0_0, .int .i64 rise, .int .i64 fall] K [] (fun v K' H' => ∃ ar_0 : Option Addr, ∃ cr_0 : Nat, v = .slice ar_0 r.length cr_0 ∧ (0 < r.length → Has ar_0) ∧ H' = [OwnL eS ar_0 9 1 cr_0 r]) := by
  subst en0
  refine Fn.enter Try.func26 Try.call26 rfl fun F => ?_
  unfold ref32_Up at hm
  conv => whnf
  refine RStep.of (len_slice rfl ?_)
  obtain ⟨hk0, hm⟩ := chkb hm
  obtain ⟨s0, hl0, hm⟩ := bnd hm
  conv => whnf
  refine nilC eS 9 1 ?_
  refine code_cut (σ := ((List Str)) × Option Addr × Nat) [7, 9, 12, 13, 14, 15, 16, 17, 18, 19, 20, 21, 22, 23, 24, 25, 26, 27, 28, 29, 30, 31, 32] (fun (t0, t0_a0, t0_c0) => [(7, .slice t0_a0 t0.length t0_c0)]) (fun (t0, t0_a0, t0_c0) => [OwnL eS t0_a0 9 1 t0_c0 t0, F]) (fun zz K1 => match zz with | (t0, t0_a0, t0_c0) => (0 < t0.length → Has t0_a0) ∧ t0 = s0) ?_ ?_
  · refine block_go rfl ?_
    conv => whnf
    refine loop_rule (σ := Nat × (List Str) × Option Addr × Nat) [7, 9, 12, 13, 14, 15, 16, 17, 18, 19, 20, 21, 22, 23, 24, 25, 26, 27, 28, 29, 30, 31, 32] (fun (i0, y0_0, y0_a0, y0_c0) => [(12, .int .i64 (i0 : Int)), (7, .slice y0_a0 y0_0.length y0_c0)]) (fun (i0, y0_0, y0_a0, y0_c0) => [OwnL eS y0_a0 9 1 y0_c0 y0_0, F]) (fun zz K1 => match zz with | (i0, y0_0, y0_a0, y0_c0) => (0 < y0_0.length → Has y0_a0) ∧ ref32_Up_L0 rise fall (l.drop i0) i0 y0_0 = some s0) (fun zz => l.length - zz.1) (0, [], none, 0) rfl ⟨rfl, rfl, trivial⟩ (ConvH.of (.cons r0 (.cons r0 .nil))) ⟨(fun h => by simp at h), hl0⟩ ?_
    clear hl0
    rintro ⟨i0, y0_0, y0_a0, y0_c0⟩ Kb0 lk0 ⟨y0_h0, hl0⟩ j0
    conv => whnf
    refine cond_go rfl ?_
    conv => whnf
    refine cond_s (fun w0 => ?_) (fun w0 => ?_)
    · obtain ⟨e0, hx0, hd0⟩ := ltx w0
      rw [hd0, ref32_Up_L0.eq_2] at hl0
      conv => whnf
      refine block_go rfl ?_
      conv => whnf
      refine RStep.ofN (index_addr rfl rfl (hasR (LiC.mono S_ref32_Node.R_ok lk0 hp0_0).rd hx0) (nn _) (lt_ofN hx0) ?_)
      obtain ⟨ss15, cc15, hr15, hc15, hR15⟩ := LiR.get (LiC.mono S_ref32_Node.R_ok lk0 hp0_0).rd hx0
      obtain ⟨a15_0, c15_0, rfl, h15_0⟩ := hR15
      conv => whnf
      refine RStep.of (load_rd_agg i0 _ hr15 rfl hc15 rfl ?_)
      conv => whnf
      refine alloc_rule rfl ?_
      intro b9
      conv => whnf
      refine store_rule r0 rfl ?_
      conv => whnf
      refine ⟨rfl, rfl, (Nat.le_of_ble_eq_true rfl), ?_⟩
      conv => whnf
      refine field_addr rfl ?_
      conv => whnf
      refine RStep.of (load1_s r0 rfl rfl ?_)
      conv => whnf
      refine un_not ?_
      obtain ⟨x26, e26, hl0⟩ := bnd hl0
      conv => whnf
      refine cond_s (fun g19_5 => ?_) (fun g19_5 => ?_)
      · replace e26 := ift (not_t (ni_t g19_5)) e26
        conv => whnf
        refine field_addr rfl ?_
        conv => whnf
        refine cond_t g19_5 ?_
        conv => whnf
        refine RStep.of (load1_s r0 rfl rfl ?_)
        conv => whnf
        refine cond_t g19_5 ?_
        conv => whnf
        refine cond_t g19_5 ?_
        conv => whnf
        refine cond_t g19_5 ?_
        obtain ⟨x24, q24, e26⟩ := bnd e26
        conv => whnf
        refine call_fn (ref32_Of_ok q24 h15_0 rfl) .nil ?_
        rintro _ K24 _ l24 ⟨rfl, rfl⟩
        conv => whnf
        refine cond_t g19_5 ?_
        conv => whnf
        refine eq_int ?_
        conv => whnf
        refine cond_t g19_5 ?_
        conv => whnf
        refine cond_go rfl ?_
        conv => whnf
        refine cond_s (fun w26 => ?_) (fun w26 => ?_)
        · replace hl0 := ift ((si e26).symm.trans w26) hl0
          conv => whnf
          refine field_addr rfl ?_
          conv => whnf
          refine RStep.of (load1_s r0 rfl rfl ?_)
          conv => whnf
          refine bsO (len := 1) (enc := eS) (l := [e0.Name]) (cl := [str e0.Name]) elT54 rfl rfl (fun _ _ => rfl) rfl rfl rfl ?_ fun b30 => ?_
          · conv => whnf
            refine cond_T ?_
            conv => whnf
          obtain ⟨h31, hl0⟩ := chkb hl0
          conv => whnf
          refine apE rfl r2 elT54 (src_own' rfl r0 rfl (fun _ => rfl) (fun _ => rfl)) h31 ?_
          intro a31 c31 o31
          conv => whnf
          refine int_in (cntz hx0 hk0) ?_
          conv => whnf
          refine RoundStep.mk (i0 + 1, (y0_0 ++ [e0.Name]), a31, c31) ⟨rfl, rfl, trivial⟩ (by repeat (first | exact trivial | refine And.intro rfl ?_)) (ConvH.of (.cons r0 (.cons r2 .nil))) (lk0.trans l24) (ltm hx0) ⟨o31, hl0⟩
        · replace hl0 := iff_ ((si e26).symm.trans w26) hl0
          conv => whnf
          refine int_in (cntz hx0 hk0) ?_
          conv => whnf
          refine RoundStep.mk (i0 + 1, y0_0, y0_a0, y0_c0) ⟨rfl, rfl, trivial⟩ (by repeat (first | exact trivial | refine And.intro rfl ?_)) (ConvH.of (.cons r1 (.cons r1 .nil))) (lk0.trans l24) (ltm hx0) ⟨y0_h0, hl0⟩
      · replace e26 := iff_ (not_f (ni_f g19_5)) e26
        conv => whnf
        refine cond_f g19_5 ?_
        conv => whnf
        refine cond_f g19_5 ?_
        conv => whnf
        refine cond_f g19_5 ?_
        conv => whnf
        refine cond_f g19_5 ?_
        conv => whnf
        refine cond_f g19_5 ?_
        conv => whnf
        refine cond_f g19_5 ?_
        conv => whnf
        refine cond_go rfl ?_
        conv => whnf
        refine cond_F ?_
        replace hl0 := iff_ (si e26).symm hl0
        conv => whnf
        refine int_in (cntz hx0 hk0) ?_
        conv => whnf
        refine RoundStep.mk (i0 + 1, y0_0, y0_a0, y0_c0) ⟨rfl, rfl, trivial⟩ (by repeat (first | exact trivial | refine And.intro rfl ?_)) (ConvH.of (.cons r1 (.cons r1 .nil))) lk0 (ltm hx0) ⟨y0_h0, hl0⟩
    · rw [lty w0, ref32_Up_L0.eq_1] at hl0
      conv => whnf
      refine cond_T ?_
      conv => whnf
      refine MeetStep.mk (y0_0, y0_a0, y0_c0) ⟨rfl, trivial⟩ (by repeat (first | exact trivial | refine And.intro rfl ?_)) (ConvH.of (.cons r0 (.cons r0 .nil))) lk0 ⟨y0_h0, (si hl0)⟩
  · rintro ⟨t0, t0_a0, t0_c0⟩ Kt0 lt0 ⟨t0_h0, rfl⟩ j0
    obtain rfl := si hm
    conv => whnf
    refine EndStep.mk _ lt0 ⟨t0_a0, t0_c0, rfl, t0_h0, rfl⟩ (ConvH.of (.cons r0 (.cons r0 .nil)))

noncomputable def base_Texts_L0 (b : (List Str)) : List Str → Nat → Option (Fl (Bool) (Unit))
  | [], _ => some (Fl.go ())
  | e0 :: xs0, i0 =>
    (ix b (i0 : Int)).bind fun x22 =>
    if decide (e0 ≠ x22) then
    some (Fl.ret false)
    else
    base_Texts_L0 b xs0 (i0 + 1)
noncomputable def base_Texts (a : (List Str)) (b : (List Str)) : Option (Bool) :=
  if decide ((a.length : Int) ≠ (b.length : Int)) then
  some false
  else
  (chk (a.length ≤ szMax)).bind fun _ =>
  (base_Texts_L0 b a 0).bind fun s0 => s0.el some fun t0 =>
  some true
set_option maxHeartbeats 8000000 in
theorem base_Texts_ok {a : (List Str)} {b : (List Str)} {ap0_0 : Option Addr} {cp0_0 : Nat} {n0 : Nat} {ap1_0 : Option Addr} {cp1_0 : Nat} {n1 : Nat} {K : Hp} {r : Bool}
    (hm : base_Texts a b = some r) (hp0_0 : RdC eS K ap0_0 cp0_0 1 a) (en0 : n0 = a.length) (hp1_0 : RdC eS K ap1_0 cp1_0 1 b) (en1 : n1 = b.length) :
    Fn Try.prog 24 [.slice ap0_0 n0 cp0_0, .slice ap1_0 n1 cp1_0] K [] (fun v K' H' => v = .bool r ∧ H' = []) := by
  subst en0
  subst en1
  refine Fn.enter Try.func24 Try.call24 rfl fun F => ?_
  unfold base_Texts at hm
  conv => whnf
  refine RStep.of (len_slice rfl ?_)
  conv => whnf
  refine RStep.of (len_slice rfl ?_)
  conv => whnf
  refine neq_int ?_
  conv => whnf
  refine cond_go rfl ?_
  conv => whnf
  refine cond_s (fun w10 => ?_) (fun w10 => ?_)
  · replace hm := ift w10 hm
    obtain rfl := si hm
    conv => whnf
    refine EndStep.mk _ (Hp.Le.refl _) ⟨rfl, rfl⟩ (ConvH.of (.cons r0 .nil))
  · replace hm := iff_ w10 hm
    conv => whnf
    refine RStep.of (len_slice rfl ?_)
    obtain ⟨hk0, hm⟩ := chkb hm
    obtain ⟨s0, hl0, hm⟩ := bnd hm
    conv => whnf
    refine code_cut (σ := (Unit)) [4, 5, 13, 14, 15, 16, 17, 18, 19, 20, 21, 22, 23, 24, 25] (fun t0 => []) (fun t0 => [F]) (fun zz K1 => match zz with | t0 => s0 = Fl.go t0) ?_ ?_
    · refine block_go rfl ?_
      conv => whnf
      refine loop_rule (σ := Nat) [4, 5, 13, 14, 15, 16, 17, 18, 19, 20, 21, 22, 23, 24, 25] (fun i0 => [(13, .int .i64 (i0 : Int))]) (fun i0 => [F]) (fun zz K1 => match zz with | i0 => base_Texts_L0 b (a.drop i0) i0 = some s0) (fun zz => a.length - zz) (0) rfl ⟨rfl, trivial⟩ (ConvH.of (.cons r0 .nil)) hl0 ?_
      clear hl0
      rintro i0 Kb0 lk0 hl0 j0
      conv at hl0 => whnf
      conv => whnf
      refine cond_go rfl ?_
      conv => whnf
      refine cond_s (fun w0 => ?_) (fun w0 => ?_)
      · obtain ⟨e0, hx0, hd0⟩ := ltx w0
        rw [hd0, base_Texts_L0.eq_2] at hl0
        conv => whnf
        refine block_go rfl ?_
        conv => whnf
        refine ⟨⟨⟨[], false⟩, _, []⟩, by kernel_rfl, ⟨Hp.Le.refl _, (ConvH.of .nil)⟩, ?_⟩
        conv => whnf
        refine index_addr rfl rfl (hasK (hp0_0.mono lk0).rd hx0) (nn _) (lt_ofN hx0) ?_
        conv => whnf
        refine load_rd_l i0 0 _ _ (hp0_0.mono lk0).rd rfl (mp hx0) rfl rfl ?_
        obtain ⟨x22, l22, k22, hl0⟩ := ixb hl0
        conv => whnf
        refine index_addr rfl rfl (hasK (hp1_0.mono lk0).rd k22) l22 (lt_ofE rfl l22 k22) ?_
        conv => whnf
        refine load_rd_l (((i0 : Int)).toNat) 0 _ _ (hp1_0.mono lk0).rd rfl (mp k22) rfl rfl ?_
        conv => whnf
        refine neq_str ?_
        conv => whnf
        refine cond_go rfl ?_
        conv => whnf
        refine cond_s (fun w24 => ?_) (fun w24 => ?_)
        · replace hl0 := ift w24 hl0
          obtain rfl := si hl0
          replace hm := elr hm
          obtain rfl := si hm
          conv => whnf
          refine EndStep.mk _ lk0 ⟨rfl, rfl⟩ (ConvH.of (.cons r0 .nil))
        · replace hl0 := iff_ w24 hl0
          conv => whnf
          refine int_in (cntz hx0 hk0) ?_
          conv => whnf
          refine RoundStep.mk (i0 + 1) ⟨rfl, trivial⟩ (by repeat (first | exact trivial | refine And.intro rfl ?_)) (ConvH.of (.cons r0 .nil)) lk0 (ltm hx0) hl0
      · rw [lty w0, base_Texts_L0.eq_1] at hl0
        conv => whnf
        refine cond_T ?_
        conv => whnf
        refine MeetStep.mk (()) trivial (by repeat (first | exact trivial | refine And.intro rfl ?_)) (ConvH.of (.cons r0 .nil)) lk0 (si hl0).symm
    · rintro t0 Kt0 lt0 rfl j0
      replace hm := elg hm
      obtain rfl := si hm
      conv => whnf
      refine EndStep.mk _ lt0 ⟨rfl, rfl⟩ (ConvH.of (.cons r0 .nil))

noncomputable def health_Checks_State (c : S_health_Checks) (node : Str) : Option (Int) :=
  some (((mget c.nodes node).getD (⟨0, 0⟩ : S_health_status)).state)
set_option maxHeartbeats 8000000 in
theorem health_Checks_State_ok {c : S_health_Checks} {node : Str} {b0 : Nat} {mp0_0 : Nat} {mp0_1 : Nat} {K : Hp} {r : Int}
    (hm : health_Checks_State c node = some r)  :
    Fn Try.prog 16 [.pointer (some ⟨b0, 0, none⟩), str node] K [Cells b0 64 [.int .i64 c.rise, .int .i64 c.fall, .map (some mp0_0), .map (some mp0_1)], MapE strK (fun x => .agg (S_health_status.enc x).toArray) mp0_0 c.nodes, MapE strK (fun x => .bool x) mp0_1 c.drained] (fun v K' H' => v = .int .i64 r ∧ H' = [Cells b0 64 [.int .i64 c.rise, .int .i64 c.fall, .map (some mp0_0), .map (some mp0_1)], MapE strK (fun x => .agg (S_health_status.enc x).toArray) mp0_0 c.nodes, MapE strK (fun x => .bool x) mp0_1 c.drained]) := by
  refine Fn.enter Try.func16 Try.call16 rfl fun F => ?_
  unfold health_Checks_State at hm
  conv => whnf
  refine eq_ptr_nil rfl ?_
  conv => whnf
  refine cond_go rfl ?_
  conv => whnf
  refine cond_F ?_
  conv => whnf
  refine nil_check ?_
  conv => whnf
  refine field_addr rfl ?_
  conv => whnf
  refine RStep.of (load1_s r0 rfl rfl ?_)
  conv => whnf
  refine RStep.of (lookup_rule (kenc := strK) (venc := (fun x => .agg (S_health_status.enc x).toArray)) (z := (⟨0, 0⟩ : S_health_status)) r1 rfl rfl (key_str rfl) ?_)
  conv => whnf
  refine field_one rfl rfl rfl rfl ?_
  obtain rfl := si hm
  conv => whnf
  refine EndStep.mk _ (Hp.Le.refl _) ⟨rfl, rfl⟩ (ConvH.of (.cons r0 (.cons r0 (.cons r0 (.cons r0 .nil)))))

noncomputable def health_Checks_Drained (c : S_health_Checks) (node : Str) : Option (Bool) :=
  some ((mget c.drained node).getD false)
set_option maxHeartbeats 8000000 in
theorem health_Checks_Drained_ok {c : S_health_Checks} {node : Str} {b0 : Nat} {mp0_0 : Nat} {mp0_1 : Nat} {K : Hp} {r : Bool}
    (hm : health_Checks_Drained c node = some r)  :
    Fn Try.prog 27 [.pointer (some ⟨b0, 0, none⟩), str node] K [Cells b0 64 [.int .i64 c.rise, .int .i64 c.fall, .map (some mp0_0), .map (some mp0_1)], MapE strK (fun x => .agg (S_health_status.enc x).toArray) mp0_0 c.nodes, MapE strK (fun x => .bool x) mp0_1 c.drained] (fun v K' H' => v = .bool r ∧ H' = [Cells b0 64 [.int .i64 c.rise, .int .i64 c.fall, .map (some mp0_0), .map (some mp0_1)], MapE strK (fun x => .agg (S_health_status.enc x).toArray) mp0_0 c.nodes, MapE strK (fun x => .bool x) mp0_1 c.drained]) := by
  refine Fn.enter Try.func27 Try.call27 rfl fun F => ?_
  unfold health_Checks_Drained at hm
  conv => whnf
  refine neq_ptr_nil rfl ?_
  conv => whnf
  refine cond_T ?_
  conv => whnf
  refine cond_T ?_
  conv => whnf
  refine nil_check ?_
  conv => whnf
  refine cond_T ?_
  conv => whnf
  refine field_addr rfl ?_
  conv => whnf
  refine cond_T ?_
  conv => whnf
  refine RStep.of (load1_s r0 rfl rfl ?_)
  conv => whnf
  refine cond_T ?_
  conv => whnf
  refine cond_T ?_
  conv => whnf
  refine RStep.of (lookup_rule (kenc := strK) (venc := (fun x => .bool x)) (z := false) r2 rfl rfl (key_str rfl) ?_)
  conv => whnf
  refine cond_T ?_
  obtain rfl := si hm
  conv => whnf
  refine EndStep.mk _ (Hp.Le.refl _) ⟨rfl, rfl⟩ (ConvH.of (.cons r0 (.cons r0 (.cons r0 (.cons r0 .nil)))))

noncomputable def health_Checks_Drain (c : S_health_Checks) (node : Str) (on : Bool) : Option (S_health_Checks) :=
  if on then
  some (⟨c.rise, c.fall, c.nodes, (mset (mdel c.drained node) node true)⟩ : S_health_Checks)
  else
  some (⟨c.rise, c.fall, c.nodes, (mdel c.drained node)⟩ : S_health_Checks)
set_option maxHeartbeats 8000000 in
theorem health_Checks_Drain_ok {c : S_health_Checks} {node : Str} {on : Bool} {b0 : Nat} {mp0_0 : Nat} {mp0_1 : Nat} {K : Hp} {r : S_health_Checks}
    (hm : health_Checks_Drain c node on = some r)  :
    Fn Try.prog 21 [.pointer (some ⟨b0, 0, none⟩), str node, .bool on] K [Cells b0 64 [.int .i64 c.rise, .int .i64 c.fall, .map (some mp0_0), .map (some mp0_1)], MapE strK (fun x => .agg (S_health_status.enc x).toArray) mp0_0 c.nodes, MapE strK (fun x => .bool x) mp0_1 c.drained] (fun v K' H' => ∃ mr_0 : Nat, ∃ mr_1 : Nat, v = .tuple #[] ∧ H' = [Cells b0 64 [.int .i64 r.rise, .int .i64 r.fall, .map (some mr_0), .map (some mr_1)], MapE strK (fun x => .agg (S_health_status.enc x).toArray) mr_0 r.nodes, MapE strK (fun x => .bool x) mr_1 r.drained]) := by
  refine Fn.enter Try.func21 Try.call21 rfl fun F => ?_
  unfold health_Checks_Drain at hm
  conv => whnf
  refine eq_ptr_nil rfl ?_
  conv => whnf
  refine cond_go rfl ?_
  conv => whnf
  refine cond_F ?_
  conv => whnf
  refine nil_check ?_
  conv => whnf
  refine field_addr rfl ?_
  conv => whnf
  refine RStep.of (load1_s r0 rfl rfl ?_)
  conv => whnf
  refine delete_rule (kenc := strK) (venc := (fun x => .bool x)) r2 rfl rfl (key_str rfl) ?_
  conv => whnf
  refine cond_go rfl ?_
  conv => whnf
  refine cond_s (fun w13 => ?_) (fun w13 => ?_)
  · replace hm := ift w13 hm
    conv => whnf
    refine nil_check ?_
    conv => whnf
    refine field_addr rfl ?_
    conv => whnf
    refine RStep.of (load1_s r1 rfl rfl ?_)
    conv => whnf
    refine update_rule (kenc := strK) (venc := (fun x => .bool x)) true rfl r0 rfl (key_str rfl) ?_
    obtain rfl := si hm
    conv => whnf
    refine EndStep.mk _ (Hp.Le.refl _) ⟨mp0_0, mp0_1, rfl, rfl⟩ (ConvH.of (.cons r1 (.cons r1 (.cons r0 (.cons r0 .nil)))))
  · replace hm := iff_ w13 hm
    obtain rfl := si hm
    conv => whnf
    refine EndStep.mk _ (Hp.Le.refl _) ⟨mp0_0, mp0_1, rfl, rfl⟩ (ConvH.of (.cons r1 (.cons r1 (.cons r0 (.cons r0 .nil)))))

noncomputable def health_Checks_Forget (c : S_health_Checks) (node : Str) : Option (Bool × S_health_Checks) :=
  some ((mget c.nodes node).isSome, (⟨c.rise, c.fall, (mdel c.nodes node), c.drained⟩ : S_health_Checks))
set_option maxHeartbeats 8000000 in
theorem health_Checks_Forget_ok {c : S_health_Checks} {node : Str} {b0 : Nat} {mp0_0 : Nat} {mp0_1 : Nat} {K : Hp} {r : Bool × S_health_Checks}
    (hm : health_Checks_Forget c node = some r)  :
    Fn Try.prog 22 [.pointer (some ⟨b0, 0, none⟩), str node] K [Cells b0 64 [.int .i64 c.rise, .int .i64 c.fall, .map (some mp0_0), .map (some mp0_1)], MapE strK (fun x => .agg (S_health_status.enc x).toArray) mp0_0 c.nodes, MapE strK (fun x => .bool x) mp0_1 c.drained] (fun v K' H' => ∃ mr_0 : Nat, ∃ mr_1 : Nat, v = .bool r.1 ∧ H' = [Cells b0 64 [.int .i64 r.2.rise, .int .i64 r.2.fall, .map (some mr_0), .map (some mr_1)], MapE strK (fun x => .agg (S_health_status.enc x).toArray) mr_0 r.2.nodes, MapE strK (fun x => .bool x) mr_1 r.2.drained]) := by
  refine Fn.enter Try.func22 Try.call22 rfl fun F => ?_
  unfold health_Checks_Forget at hm
  conv => whnf
  refine eq_ptr_nil rfl ?_
  conv => whnf
  refine cond_go rfl ?_
  conv => whnf
  refine cond_F ?_
  conv => whnf
  refine nil_check ?_
  conv => whnf
  refine field_addr rfl ?_
  conv => whnf
  refine RStep.of (load1_s r0 rfl rfl ?_)
  conv => whnf
  refine RStep.of (lookup_ok (kenc := strK) (venc := (fun x => .agg (S_health_status.enc x).toArray)) (z := (⟨0, 0⟩ : S_health_status)) r1 rfl rfl (key_str rfl) ?_)
  conv => whnf
  refine alloc_rule rfl ?_
  intro b5
  conv => whnf
  refine store_rule r0 rfl ?_
  conv => whnf
  refine ⟨rfl, rfl, (Nat.le_of_ble_eq_true rfl), ?_⟩
  conv => whnf
  refine nil_check ?_
  conv => whnf
  refine field_addr rfl ?_
  conv => whnf
  refine RStep.of (load1_s r1 rfl rfl ?_)
  conv => whnf
  refine delete_rule (kenc := strK) (venc := (fun x => .agg (S_health_status.enc x).toArray)) r2 rfl rfl (key_str rfl) ?_
  obtain rfl := si hm
  conv => whnf
  refine EndStep.mk _ (Hp.Le.refl _) ⟨mp0_0, mp0_1, rfl, rfl⟩ (ConvH.of (.cons r2 (.cons r0 (.cons r1 (.cons r1 .nil)))))
